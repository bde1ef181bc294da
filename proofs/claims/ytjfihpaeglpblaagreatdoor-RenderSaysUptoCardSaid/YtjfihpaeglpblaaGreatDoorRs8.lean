/-
  Lemmas, part 8: Wr9 RangeQ RangeS PaK.
-/
import Derived.RangeFuncNested
import Derived.RangeFuncBound
import Derived.RangeFuncCalls
import Derived.RangeFuncLeaves
import Derived.Shelf.Abstract
import Derived.Shelf.RegionOpen
import Derived.OwnWalkIn
import Derived.TacticsInMore
import Derived.LoopNIn
import Derived.LoopIn
import Derived.Sort.LoopGhostIn
import Derived.Sort.CutIn
import Derived.Test.YtjfihpaeglpblaaGreatDoorRs7
set_option maxHeartbeats 100000000
set_option maxRecDepth 1000000
namespace Go.Proofs.YtjfihpaeglpblaaGreatDoor
open Go.RowKit
theorem cG{ops:Array Oper}{o:Oper}{a:Act}{w:World}{K:Act->World->Prop}{Q:Exit->Act->World->Prop}{E:Prop}(pm:o.guard=none)(s x:Operand)(ho:o.op=.call { callee:=.builtin .append,args:=#[s,x],argTypes:=#[60,60] })
  (base:Nat) (v1:Value) (ts:List RTok) (t:RTok) (g:Nat) (hs:a.eval s=v1) (cq:w.ownsRow base 64 3 v1 ts.length (cL ts)) (hx:a.eval x=.slice (some ⟨g,0,none⟩) 1 1) (hl:Lies w g 64 #[vI t.kind,vT t.text,vI t.place]) (hn:ts.length<=900000) (dt:base<=w.heap.size)
  (h:∀ A' c' w',w'.ownsRow base 64 3 (.slice A' (ts.length+1) c') (ts++[t]).length (cL (ts++[t]))->w.grownBy w' v1.ownBlock->K (a.put o.dst (.slice A' (ts.length+1) c')) w') :
  if Region.wanted o (yielded ops a.tmps)=true then Oper.wp Tryz.prog o a w K Q else E:=by
 have hw:Region.wanted o (yielded ops a.tmps)=true:=by simp[Region.wanted,pm]
 rw[if_pos hw];obtain⟨i1,gi,gz0,gz1,gz2⟩:=info_parts rV;refine wp_append_own (P:=Tryz.prog) w s x 60 ho base 64 i1 (.agg #[vI 0,vS #[],vI 0]) 3 32 Tryz.underlying60 gi gz0 gz1 gz2 rfl (by decide) v1 ts.length (cL ts) hs cq ⟨g,0,none⟩ 1 1 (eW t) hx rfl (fun j u hj=>?_) (jL t) (by unfold maxLen;omega) (by omega) dt (fun v' w' k1 k2 _=>?_)
 ·have e:(⟨g,0,none⟩:Addr).add j=⟨g,j,none⟩:=by cases j <;> simp[Addr.add]
  rw[e,hl.cell j];simpa [eW] using hj
 rw[<- pH]at k1;obtain⟨A',c',rfl⟩:=aV k1;exact h A' c' w' (by rw[yl];exact k1) k2
theorem pL{p m:Nat}{rp cp:Option Nat}{R C:AxV}{ts:List RTok}{h:NodeH}{A:Option Addr}{n ca:Nat}{Cn:List Value}{w:World}(af:Hid (Cn.toArray=aJ h A n ca))(hw:WrS w p m rp cp R C (.func (.func 34) #[] #[]) ts):∃ (W0 W1:World) (Z:World->Prop),Hid (W0=w.alloc (.cells Cn.toArray 34))/\Hid (W1=W0.alloc (.cells #[vI h.a.row.a,vI h.a.row.n,vI h.a.col.a,vI h.a.col.n,.bool h.a.fr,.bool h.a.fc] 29))/\Hid (∀ W,Z W↔(WrS W p m rp cp R C (.func (.func 34) #[] #[]) ts/\Kw p (rp.toList++cp.toList) w W/\Lies W W0.heap.size 29 #[vI h.a.row.a,vI h.a.row.n,vI h.a.col.a,vI h.a.col.n,.bool h.a.fr,.bool h.a.fc]/\Lies W w.heap.size 34 Cn.toArray))/\Hid (Z W1)/\Hid (∀ W W',Z W->Below W.heap.size W W'->Z W')/\Hid (∀ W,Z W->W.cell? ⟨p,0,none⟩=some (.pointer (ptr rp))/\W.cell? ⟨p,1,none⟩=some (.pointer (ptr cp))/\W.cell? ⟨W0.heap.size,0,none⟩=some (vI h.a.row.a)/\W.cell? ⟨W0.heap.size,1,none⟩=some (vI h.a.row.n)/\W.cell? ⟨W0.heap.size,2,none⟩=some (vI h.a.col.a)/\W.cell? ⟨W0.heap.size,3,none⟩=some (vI h.a.col.n)/\W.cell? ⟨W0.heap.size,4,none⟩=some (.bool h.a.fr)/\W.cell? ⟨W0.heap.size,5,none⟩=some (.bool h.a.fc)/\Z W)/\Hid (W0.cell? ⟨w.heap.size,8,none⟩=some (vI h.a.row.a)/\W0.cell? ⟨w.heap.size,9,none⟩=some (vI h.a.row.n)/\W0.cell? ⟨w.heap.size,10,none⟩=some (vI h.a.col.a)/\W0.cell? ⟨w.heap.size,11,none⟩=some (vI h.a.col.n)/\W0.cell? ⟨w.heap.size,12,none⟩=some (.bool h.a.fr)/\W0.cell? ⟨w.heap.size,13,none⟩=some (.bool h.a.fc))/\Hid (p<w.heap.size)/\Hid (p<W0.heap.size):=by
 obtain⟨W0,ak⟩:=zD (w.alloc (.cells Cn.toArray 34))
 obtain⟨W1,an⟩:=zD (W0.alloc (.cells #[vI h.a.row.a,vI h.a.row.n,vI h.a.col.a,vI h.a.col.n,.bool h.a.fr,.bool h.a.fc] 29))
 have ai:=zh ak;have al:=zh an;have ag:=zA ak;have bq:=zA an;have HL:=zL ak;have o6:=zL an;obtain⟨Z,hZ⟩:∃ Z:World->Prop,∀ W,Z W↔(WrS W p m rp cp R C (.func (.func 34) #[] #[]) ts/\Kw p (rp.toList++cp.toList) w W/\Lies W W0.heap.size 29 #[vI h.a.row.a,vI h.a.row.n,vI h.a.col.a,vI h.a.col.n,.bool h.a.fr,.bool h.a.fc]/\Lies W w.heap.size 34 Cn.toArray):=⟨_,fun _=>Iff.rfl⟩
 have fm:=zh hZ;have u6q:Hid (Z W1):=zh ((hZ _).2 ⟨(hw.next ag.out).next bq.out,(Kw.of_below ag.out).trans (Kw.of_below bq.out),o6.out,HL.out.next bq.out⟩);have gc:Hid (∀ W W',Z W->Below W.heap.size W W'->Z W'):=zh (fun W W' g hb=>(hZ _).2 (by
  obtain⟨g1,g2,g3,g4⟩:=(hZ _).1 g;exact⟨g1.next hb,g2.trans (Kw.of_below hb),g3.next hb,g4.next hb⟩))
 have ap:Hid (∀ W,Z W->W.cell? ⟨p,0,none⟩=some (.pointer (ptr rp))/\W.cell? ⟨p,1,none⟩=some (.pointer (ptr cp))/\W.cell? ⟨W0.heap.size,0,none⟩=some (vI h.a.row.a)/\W.cell? ⟨W0.heap.size,1,none⟩=some (vI h.a.row.n)/\W.cell? ⟨W0.heap.size,2,none⟩=some (vI h.a.col.a)/\W.cell? ⟨W0.heap.size,3,none⟩=some (vI h.a.col.n)/\W.cell? ⟨W0.heap.size,4,none⟩=some (.bool h.a.fr)/\W.cell? ⟨W0.heap.size,5,none⟩=some (.bool h.a.fc)/\Z W):=zh (fun W g=>by
  obtain⟨g1,g2,g3,g4⟩:=(hZ _).1 g;obtain⟨v,k,_⟩:=g1.box;exact⟨k.cell 0,k.cell 1,g3.cell 0,g3.cell 1,g3.cell 2,g3.cell 3,g3.cell 4,g3.cell 5,g⟩)
 have rx:Hid (W0.cell? ⟨w.heap.size,8,none⟩=some (vI h.a.row.a)/\W0.cell? ⟨w.heap.size,9,none⟩=some (vI h.a.row.n)/\W0.cell? ⟨w.heap.size,10,none⟩=some (vI h.a.col.a)/\W0.cell? ⟨w.heap.size,11,none⟩=some (vI h.a.col.n)/\W0.cell? ⟨w.heap.size,12,none⟩=some (.bool h.a.fr)/\W0.cell? ⟨w.heap.size,13,none⟩=some (.bool h.a.fc)):=zh (by
  have e8:=HL.out.cell 8;have e9:=HL.out.cell 9;have e10:=HL.out.cell 10;have e11:=HL.out.cell 11;have e12:=HL.out.cell 12;have e13:=HL.out.cell 13;rw[af.out]at e8 e9 e10 e11 e12 e13;exact⟨e8,e9,e10,e11,e12,e13⟩)
 have pu:Hid (p<w.heap.size):=zh hw.lt;have HPz:Hid (p<W0.heap.size):=zh (yu hw.lt ag.out.size);exact⟨W0,W1,Z,ai,al,fm,u6q,gc,ap,rx,pu,HPz⟩
theorem fQ{p m:Nat}{rp cp:Option Nat}{R C:AxV}{ts:List RTok}{h:NodeH}{Cn:List Value}{w W0:World}{Z:World->Prop}{f:Nat}{args:Array Value}{v:Value}(fm:Hid (∀ W,Z W↔(WrS W p m rp cp R C (.func (.func 34) #[] #[]) ts/\Kw p (rp.toList++cp.toList) w W/\Lies W W0.heap.size 29 #[vI h.a.row.a,vI h.a.row.n,vI h.a.col.a,vI h.a.col.n,.bool h.a.fr,.bool h.a.fc]/\Lies W w.heap.size 34 Cn.toArray)))(hP:∀ W,WrS W p m rp cp R C (.func (.func 34) #[] #[]) ts->Calls Tryz.prog f args W fun e w'=>e=.returned v/\WrS w' p m rp cp R C (.func (.func 34) #[] #[]) ts/\Kw p (rp.toList++cp.toList) W w')(W:World)(g:Z W):Calls Tryz.prog f args W fun e w'=>e=.returned v/\Z w':=by
 have hZ:=fm.out;obtain⟨g1,g2,g3,g4⟩:=(hZ _).1 g;refine(hP W g1).mono ?_;rintro e w' ⟨rfl,k1,k2⟩;exact⟨rfl,(hZ _).2 ⟨k1,g2.trans k2,Kw.lies k2 g1 g3 (by decide) (by decide) (by decide),Kw.lies k2 g1 g4 (by decide) (by decide) (by decide)⟩⟩
theorem uCU{p m:Nat}{rp cp:Option Nat}{R C:AxV}{ts:List RTok}(h:NodeH)(A:Option Addr)(n ca:Nat)(Cn:List Value)(w:World)(af:Hid (Cn.toArray=aJ h A n ca))(hw:WrS w p m rp cp R C (.func (.func 34) #[] #[]) ts)(hn:ts.length<=700000)(x y:Int)(bx by':Bool)
  (hP:∀ W,WrS W p m rp cp R C (.func (.func 34) #[] #[]) ts->Calls Tryz.prog 40 #[.pointer (ptr rp),.agg #[vI h.a.row.a,vI h.a.row.n]] W fun e w'=>e=.returned (.tuple #[vI x,.bool bx])/\WrS w' p m rp cp R C (.func (.func 34) #[] #[]) ts/\Kw p (rp.toList++cp.toList) W w')
  (hQ:∀ W,WrS W p m rp cp R C (.func (.func 34) #[] #[]) ts->Calls Tryz.prog 40 #[.pointer (ptr cp),.agg #[vI h.a.col.a,vI h.a.col.n]] W fun e w'=>e=.returned (.tuple #[vI y,.bool by'])/\WrS w' p m rp cp R C (.func (.func 34) #[] #[]) ts/\Kw p (rp.toList++cp.toList) W w') (hg:bx=true->by'=false) :
  Calls Tryz.prog 138 #[vP p 0,.agg Cn.toArray] w fun e w'=>WrO p m rp cp R C (.func (.func 34) #[] #[]) (ts++dB) w e w':=by
 obtain⟨W0,W1,Z,ai,al,fm,u6q,gc,ap,rx,pu,HPz⟩:=pL af hw;have hZ:=fm.out;have CP:=zh (fun W (g:Z W)=>fQ fm hP W g);have CQ:=zh (fun W (g:Z W)=>fQ fm hQ W g);have CG:Hid (∀ W,Z W->Calls Tryz.prog 193 #[vP p 0] W fun e w'=>WrO p m rp cp R C (.func (.func 34) #[] #[]) (ts++dB) W e w'):=zh (fun W g=>lY W ((hZ _).1 g).1 (by omega));clear hw hP hQ hZ af;obtain⟨d8,d9,d10,d11,d12,d13⟩:=rx.out
 go_in
 go_upto_region 1 with fail
 rw[<- ai.out];clear ai
 go_upto_region 2 with fail
 rw[<- al.out];clear al d8 d9 d10 d11 d12 d13 rx;obtain⟨p0,p1,r0,r1,r2,r3,r4,r5,dc⟩:=ap.out _ u6q.out
 go_cut [5,6] (fun va vb wx=>va=vI x/\vb=.bool bx/\Hid (Z wx))
 case first=>
  go_region_held3 (fun w'=>w'.cell? ⟨p,0,none⟩=some (.pointer (ptr rp))/\w'.cell? ⟨p,1,none⟩=some (.pointer (ptr cp))/\w'.cell? ⟨W0.heap.size,0,none⟩=some (vI h.a.row.a)/\w'.cell? ⟨W0.heap.size,1,none⟩=some (vI h.a.row.n)/\w'.cell? ⟨W0.heap.size,2,none⟩=some (vI h.a.col.a)/\w'.cell? ⟨W0.heap.size,3,none⟩=some (vI h.a.col.n)/\w'.cell? ⟨W0.heap.size,4,none⟩=some (.bool h.a.fr)/\w'.cell? ⟨W0.heap.size,5,none⟩=some (.bool h.a.fc)/\Z w')
   (first|exact ap.out _ dc|exact ap.out _ (gc.out _ _ dc zB.drew)|exact ap.out _ hb|assumption)
   (first
    |(go_at_call 40;(with_reducible refine(CP.out _ ?hz).mono ?_);(case hz=>(first|assumption |(go_split_ands;assumption)));rintro e wx ⟨rfl,hb⟩))
  all_goals go_wp2_with fail
  all_goals go_meet
  all_goals refine⟨rfl,rfl,zh ?_⟩
  all_goals first|assumption |(go_split_ands;assumption)
 case rest=>
 clear p0 p1 r0 r1 r2 r3 r4 r5 dc CP u6q;obtain⟨rfl,rfl,i9⟩:=hcut;obtain⟨W5,ew⟩:=zD wc
 subst ew;obtain⟨p0,p1,r0,r1,r2,r3,r4,r5,dc⟩:=ap.out _ i9.out
 go_upto_region 3 with fail
 go_cut [7,8] (fun va vb wx=>va=vI y/\vb=.bool by'/\Hid (Z wx))
 case first=>
  go_region_held3 (fun w'=>w'.cell? ⟨p,0,none⟩=some (.pointer (ptr rp))/\w'.cell? ⟨p,1,none⟩=some (.pointer (ptr cp))/\w'.cell? ⟨W0.heap.size,0,none⟩=some (vI h.a.row.a)/\w'.cell? ⟨W0.heap.size,1,none⟩=some (vI h.a.row.n)/\w'.cell? ⟨W0.heap.size,2,none⟩=some (vI h.a.col.a)/\w'.cell? ⟨W0.heap.size,3,none⟩=some (vI h.a.col.n)/\w'.cell? ⟨W0.heap.size,4,none⟩=some (.bool h.a.fr)/\w'.cell? ⟨W0.heap.size,5,none⟩=some (.bool h.a.fc)/\Z w')
   (first|exact ap.out _ dc|exact ap.out _ (gc.out _ _ dc zB.drew)|exact ap.out _ hb|assumption)
   (first
    |(go_at_call 40;(with_reducible refine(CQ.out _ ?hz).mono ?_);(case hz=>(first|assumption |(go_split_ands;assumption)));rintro e wx ⟨rfl,hb⟩))
  all_goals go_wp2_with fail
  all_goals go_meet
  all_goals refine⟨rfl,rfl,zh ?_⟩
  all_goals first|assumption |(go_split_ands;assumption)
 case rest=>
 clear p0 p1 r0 r1 r2 r3 r4 r5 dc CQ i9;obtain⟨rfl,rfl,oe⟩:=hcut;obtain⟨W6,lr⟩:=zD wc
 subst lr;have HK:=zh ((fm.out _).1 oe.out).2.1;cases bx
 ·go_wp2_with ((with_reducible refine(CG.out _ oe.out).mono ?_);rintro e wx ⟨rfl,hs,hk⟩;have jo:=zh hs;have f8:=zh (HK.out.trans hk);clear hs hk)
  go_end0
  exact⟨rfl,jo.out,f8.out⟩
 obtain rfl:=hg rfl
 go_wp2_with ((with_reducible refine(CG.out _ oe.out).mono ?_);rintro e wx ⟨rfl,hs,hk⟩;have jo:=zh hs;have f8:=zh (HK.out.trans hk);clear hs hk)
 go_end0
 exact⟨rfl,jo.out,f8.out⟩
theorem uGU{p m:Nat}{rp cp:Option Nat}{R C:AxV}{ts:List RTok}(h:NodeH)(A:Option Addr)(n ca:Nat)(Cn:List Value)(w:World)(af:Hid (Cn.toArray=aJ h A n ca))(hw:WrS w p m rp cp R C (.func (.func 34) #[] #[]) ts)(hn:ts.length<=700000)(x y:Int)(bx by':Bool)
  (hP:∀ W,WrS W p m rp cp R C (.func (.func 34) #[] #[]) ts->Calls Tryz.prog 40 #[.pointer (ptr rp),.agg #[vI h.a.row.a,vI h.a.row.n]] W fun e w'=>e=.returned (.tuple #[vI x,.bool bx])/\WrS w' p m rp cp R C (.func (.func 34) #[] #[]) ts/\Kw p (rp.toList++cp.toList) W w')
  (hQ:∀ W,WrS W p m rp cp R C (.func (.func 34) #[] #[]) ts->Calls Tryz.prog 40 #[.pointer (ptr cp),.agg #[vI h.a.col.a,vI h.a.col.n]] W fun e w'=>e=.returned (.tuple #[vI y,.bool by'])/\WrS w' p m rp cp R C (.func (.func 34) #[] #[]) ts/\Kw p (rp.toList++cp.toList) W w') (t1:RTok) (hb1:Hid (bx=true)) (aw:Hid (by'=true)) (hT:∀ W,PowTab W->Calls Tryz.prog 34 #[.agg #[vI x,vI y,.bool h.a.fr,.bool h.a.fc],vI 0] W fun e w'=>e=.returned (iE t1)/\Below W.heap.size W w') (hk:h.kind=1) :
  Calls Tryz.prog 138 #[vP p 0,.agg Cn.toArray] w fun e w'=>WrO p m rp cp R C (.func (.func 34) #[] #[]) (ts++[t1]) w e w':=by
 obtain⟨W0,W1,Z,ai,al,fm,u6q,gc,ap,rx,pu,HPz⟩:=pL af hw;have hZ:=fm.out;have CP:=zh (fun W (g:Z W)=>fQ fm hP W g);have CQ:=zh (fun W (g:Z W)=>fQ fm hQ W g);have CT:=zh hT;have el:Hid (Cn.toArray[0]?=some (vI 1)):=zh (by rw[af.out];simp[aJ,hk]);clear hT hk;clear hw hP hQ hZ af;obtain⟨d8,d9,d10,d11,d12,d13⟩:=rx.out
 go_in
 go_upto_region 1 with fail
 rw[<- ai.out];clear ai
 go_upto_region 2 with fail
 rw[<- al.out];clear al d8 d9 d10 d11 d12 d13 rx;obtain⟨p0,p1,r0,r1,r2,r3,r4,r5,dc⟩:=ap.out _ u6q.out
 go_cut [5,6] (fun va vb wx=>va=vI x/\vb=.bool bx/\Hid (Z wx))
 case first=>
  go_region_held3 (fun w'=>w'.cell? ⟨p,0,none⟩=some (.pointer (ptr rp))/\w'.cell? ⟨p,1,none⟩=some (.pointer (ptr cp))/\w'.cell? ⟨W0.heap.size,0,none⟩=some (vI h.a.row.a)/\w'.cell? ⟨W0.heap.size,1,none⟩=some (vI h.a.row.n)/\w'.cell? ⟨W0.heap.size,2,none⟩=some (vI h.a.col.a)/\w'.cell? ⟨W0.heap.size,3,none⟩=some (vI h.a.col.n)/\w'.cell? ⟨W0.heap.size,4,none⟩=some (.bool h.a.fr)/\w'.cell? ⟨W0.heap.size,5,none⟩=some (.bool h.a.fc)/\Z w')
   (first|exact ap.out _ dc|exact ap.out _ (gc.out _ _ dc zB.drew)|exact ap.out _ hb|assumption)
   (first
    |(go_at_call 40;(with_reducible refine(CP.out _ ?hz).mono ?_);(case hz=>(first|assumption |(go_split_ands;assumption)));rintro e wx ⟨rfl,hb⟩))
  all_goals go_wp2_with fail
  all_goals go_meet
  all_goals refine⟨rfl,rfl,zh ?_⟩
  all_goals first|assumption |(go_split_ands;assumption)
 case rest=>
 clear p0 p1 r0 r1 r2 r3 r4 r5 dc CP u6q;obtain⟨rfl,rfl,i9⟩:=hcut;obtain⟨W5,ew⟩:=zD wc
 subst ew;obtain⟨p0,p1,r0,r1,r2,r3,r4,r5,dc⟩:=ap.out _ i9.out
 go_upto_region 3 with fail
 go_cut [7,8] (fun va vb wx=>va=vI y/\vb=.bool by'/\Hid (Z wx))
 case first=>
  go_region_held3 (fun w'=>w'.cell? ⟨p,0,none⟩=some (.pointer (ptr rp))/\w'.cell? ⟨p,1,none⟩=some (.pointer (ptr cp))/\w'.cell? ⟨W0.heap.size,0,none⟩=some (vI h.a.row.a)/\w'.cell? ⟨W0.heap.size,1,none⟩=some (vI h.a.row.n)/\w'.cell? ⟨W0.heap.size,2,none⟩=some (vI h.a.col.a)/\w'.cell? ⟨W0.heap.size,3,none⟩=some (vI h.a.col.n)/\w'.cell? ⟨W0.heap.size,4,none⟩=some (.bool h.a.fr)/\w'.cell? ⟨W0.heap.size,5,none⟩=some (.bool h.a.fc)/\Z w')
   (first|exact ap.out _ dc|exact ap.out _ (gc.out _ _ dc zB.drew)|exact ap.out _ hb|assumption)
   (first
    |(go_at_call 40;(with_reducible refine(CQ.out _ ?hz).mono ?_);(case hz=>(first|assumption |(go_split_ands;assumption)));rintro e wx ⟨rfl,hb⟩))
  all_goals go_wp2_with fail
  all_goals go_meet
  all_goals refine⟨rfl,rfl,zh ?_⟩
  all_goals first|assumption |(go_split_ands;assumption)
 case rest=>
 clear p0 p1 r0 r1 r2 r3 r4 r5 dc CQ i9;obtain⟨rfl,rfl,oe⟩:=hcut;obtain⟨W6,lr⟩:=zD wc
 subst lr;have hb1:=hb1.out;have aw:=aw.out;subst hb1 aw;have hws:=((fm.out _).1 oe.out).1;have HK:=zh ((fm.out _).1 oe.out).2.1;have o6:=zh ((fm.out _).1 oe.out).2.2.1;have i6:=zh ((fm.out _).1 oe.out).2.2.2;have fd:=zh hws;obtain⟨v0,eh,ji⟩:=hws.box;obtain⟨A1,c1,rfl⟩:=aV ji;have cy:=zh eh;have ez:=zh ji;have bm:Hid (∀ W,Below W6.heap.size W6 W->W.cell? ⟨p,3,none⟩=some (.func (.func 34) #[] #[])/\W.cell? ⟨W0.heap.size,4,none⟩=some (.bool h.a.fr)/\W.cell? ⟨W0.heap.size,5,none⟩=some (.bool h.a.fc)):=zh (fun W hb=>⟨(cy.out.next hb).cell 3,(o6.out.next hb).cell 4,(o6.out.next hb).cell 5⟩);clear hws eh ji oe ap gc fm;have qj:Hid (p<W0.heap.size):=HPz;have ql:Hid (p<w.heap.size):=pu;have j7:Hid (∀ W,Below W6.heap.size W6 W->PowTab W):=zh (fun W hb=>(fd.out.next hb).gl.pow)
 go_upto_region 6 with fail
 refine wp_region_held_drew (S:=fun w'=>w'.cell? ⟨p,3,none⟩=some (.func (.func 34) #[] #[])/\w'.cell? ⟨W0.heap.size,4,none⟩=some (.bool h.a.fr)/\w'.cell? ⟨W0.heap.size,5,none⟩=some (.bool h.a.fc)) (by kernel_rfl) (bm.out _ zB.drew) (fun ae=>?_);refine TkA 0 (vP p 0) ?_;refine TkA 1 (vP p 0) ?_;refine TkA 2 (vP p 0) ?_;refine TkA 3 (vP p 4) ?_;refine TkA 5 (vP p 0) ?_;refine TkA 6 (vP p 0) ?_;refine TkA 7 (vP p 3) ?_;refine TkB 8 (.func (.func 34) #[] #[]) ?_;refine TkA 9 (vI x) ?_;refine TkA 10 (vI y) ?_;refine TkA 11 (vP W0.heap.size 4) ?_;refine TkB 12 (.bool h.a.fr) ?_;refine TkA 13 (vP W0.heap.size 5) ?_;refine TkB 14 (.bool h.a.fc) ?_
 refine TkA 15 (.agg #[vI x,vI y,.bool h.a.fr,.bool h.a.fc]) ?_;have ab:Hid (Below W6.heap.size W6 W6.drew):=zh zB.drew;refine wpAnyH_ready (rs:=[4,16]) (by kernel_rfl) (by simp) ?_;refine AllReadyH.cons rfl (fun K hK=>?pa1) (AllReadyH.cons rfl (fun K hK=>?pb1) AllReadyH.nil)
 case' pa1=>
  have c4:=(cy.out.next ab.out).cell 4;simp only[za,zb,zf]at c4
  go_simp
  clear c4;refine hK.out _ _ (bm.out _ ab.out) (fun aa=>?_);clear hK K ae;have ae:=aa;clear aa;refine TkR 16 (fun K hK=>?_)
  go_simp
  go_at_call 34
  refine(CT.out _ (j7.out _ ab.out)).mono ?_;rintro e wx ⟨rfl,hb⟩;replace ab:=zT ab hb;clear hb
  go_wp2_with fail
  refine hK.out _ _ (bm.out _ ab.out) (fun aa=>?_);clear hK K ae;have ae:=aa;clear aa;refine TkR 17 (fun K hK=>?_)
  go_simp
  obtain⟨W7,az⟩:=zD (wx.alloc (.cells #[vI t1.kind,vT t1.text,vI t1.place] 64))
  rw[<- az];have jk:=zL az;replace ab:=zF ab az;clear az;refine hK.out _ _ (bm.out _ ab.out) (fun aa=>?_);clear hK K ae;have ae:=aa;clear aa
 case' pb1=>
  go_simp
  go_at_call 34
  refine(CT.out _ (j7.out _ ab.out)).mono ?_;rintro e wx ⟨rfl,hb⟩;replace ab:=zT ab hb;clear hb
  go_wp2_with fail
  refine hK.out _ _ (bm.out _ ab.out) (fun aa=>?_);clear hK K ae;have ae:=aa;clear aa;refine wpAnyH_ready (rs:=[4,17]) (by kernel_rfl) (by simp) ?_;refine AllReadyH.cons rfl (fun K hK=>?pc1) (AllReadyH.cons rfl (fun K hK=>?pd1) AllReadyH.nil)
  case' pc1=>
   have c4:=(cy.out.next ab.out).cell 4;simp only[za,zb,zf]at c4
   go_simp
   clear c4;refine hK.out _ _ (bm.out _ ab.out) (fun aa=>?_);clear hK K ae;have ae:=aa;clear aa;refine TkR 17 (fun K hK=>?_)
   go_simp
   obtain⟨W7,az⟩:=zD (wx.alloc (.cells #[vI t1.kind,vT t1.text,vI t1.place] 64))
   rw[<- az];have jk:=zL az;replace ab:=zF ab az;clear az;refine hK.out _ _ (bm.out _ ab.out) (fun aa=>?_);clear hK K ae;have ae:=aa;clear aa
  case' pd1=>
   go_simp
   obtain⟨W7,az⟩:=zD (wx.alloc (.cells #[vI t1.kind,vT t1.text,vI t1.place] 64))
   rw[<- az];have jk:=zL az;replace ab:=zF ab az;clear az;refine hK.out _ _ (bm.out _ ab.out) (fun aa=>?_);clear hK K ae;have ae:=aa;clear aa;refine TkR 4 (fun K hK=>?_);have c4:=(cy.out.next ab.out).cell 4;simp only[za,zb,zf]at c4
   go_simp
   clear c4;refine hK.out _ _ (bm.out _ ab.out) (fun aa=>?_);clear hK K ae;have ae:=aa;clear aa
 all_goals
  refine TkR 18 (fun K hK=>?_);refine cG rfl _ _ rfl (p+1) (.slice A1 ts.length c1) ts t1 wx.heap.size rfl (aD ab.out ez.out) rfl jk.out (by omega) (yv (Nat.succ_le_of_lt fd.out.lt) ab.out.size) ?_;intro A5 c5 w5 k5 g5;have de:=zh k5;have qn:=zh g5;have dx:=zh ((cy.out.next ab.out).grownA g5 (bE (by decide) (aD ab.out ez.out) (cy.out.next ab.out)));have qo:=zh ((o6.out.next ab.out).grownA g5 (bE (by decide) (aD ab.out ez.out) (o6.out.next ab.out)));have HLn5:=zh ((i6.out.next ab.out).grownA g5 (bE (by decide) (aD ab.out ez.out) (i6.out.next ab.out)));clear k5 g5;refine hK.out _ _ ⟨dx.out.cell 3,qo.out.cell 4,qo.out.cell 5⟩ (fun aa=>?_);clear hK K ae;have ae:=aa;clear aa;refine TkA 19 (vP p 0) ?_;refine TkA 20 (vP p 4) ?_;have k4:=dx.out.cell 4
  simp only[za,zb,zf]at k4;have k4f:=dx.out.frozen 4;refine TkR 21 (fun K hK=>?_)
  go_simp
  clear k4 k4f;have l7:=zh ((fd.out.next ab.out).grown (ts':=ts++[t1]) ((cy.out.next ab.out).cell 4) de.out qn.out);have qp:=zh ((HK.out.trans (Kw.of_below ab.out)).trans l7.out.2);have qq:=zh l7.out.1;have t5:=zh (aC qo.out (b:=p) (by have:=qj.out;omega) 4 (.slice A5 (ts.length+1) c5));have HLn7:=zh (aC HLn5.out (b:=p) (by have:=ql.out;omega) 4 (.slice A5 (ts.length+1) c5));have m6:=zh (dx.out.put 4 (.slice A5 (ts.length+1) c5));refine hK.out _ _ ⟨m6.out.cell 3,t5.out.cell 4,t5.out.cell 5⟩ (fun aa=>?_);clear hK K ae aa;refine TkD ?_
  (try simp only[Act.put,yz])
  have n0:=HLn7.out.cell 0;rw[el.out]at n0
  go_wp2_with fail
  go_end0
  exact⟨rfl,qq.out,qp.out⟩
theorem zW{p m:Nat}{rp cp:Option Nat}{R C:AxV}{ts:List RTok}(h:NodeH)(A:Option Addr)(n ca:Nat)(Cn:List Value)(w:World)(af:Hid (Cn.toArray=aJ h A n ca))(hw:WrS w p m rp cp R C (.func (.func 34) #[] #[]) ts)(hn:ts.length<=700000)(x y:Int)(bx by':Bool)
  (hP:∀ W,WrS W p m rp cp R C (.func (.func 34) #[] #[]) ts->Calls Tryz.prog 40 #[.pointer (ptr rp),.agg #[vI h.a.row.a,vI h.a.row.n]] W fun e w'=>e=.returned (.tuple #[vI x,.bool bx])/\WrS w' p m rp cp R C (.func (.func 34) #[] #[]) ts/\Kw p (rp.toList++cp.toList) W w')
  (hQ:∀ W,WrS W p m rp cp R C (.func (.func 34) #[] #[]) ts->Calls Tryz.prog 40 #[.pointer (ptr cp),.agg #[vI h.a.col.a,vI h.a.col.n]] W fun e w'=>e=.returned (.tuple #[vI y,.bool by'])/\WrS w' p m rp cp R C (.func (.func 34) #[] #[]) ts/\Kw p (rp.toList++cp.toList) W w') (t1:RTok) (hb1:Hid (bx=true)) (aw:Hid (by'=true)) (hT:∀ W,PowTab W->Calls Tryz.prog 34 #[.agg #[vI x,vI y,.bool h.a.fr,.bool h.a.fc],vI 0] W fun e w'=>e=.returned (iE t1)/\Below W.heap.size W w') (hk:h.kind=3) :
  Calls Tryz.prog 138 #[vP p 0,.agg Cn.toArray] w fun e w'=>WrO p m rp cp R C (.func (.func 34) #[] #[]) (ts++[t1]++[tk 5 [35]]) w e w':=by
 obtain⟨W0,W1,Z,ai,al,fm,u6q,gc,ap,rx,pu,HPz⟩:=pL af hw;have hZ:=fm.out;have CP:=zh (fun W (g:Z W)=>fQ fm hP W g);have CQ:=zh (fun W (g:Z W)=>fQ fm hQ W g);have CT:=zh hT;have el:Hid (Cn.toArray[0]?=some (vI 3)):=zh (by rw[af.out];simp[aJ,hk]);clear hT hk;obtain⟨t2,om⟩:∃ x,x=tk 5 [35]:=⟨_,rfl⟩
 have CPs:=zh (cB (p:=p) (m:=m) (rp:=rp) (cp:=cp) (R:=R) (C:=C) (sf:=.func (.func 34) #[] #[]) 5 [35] #[35] rfl t2 om);rw[<- om];clear om;clear hw hP hQ hZ af;obtain⟨d8,d9,d10,d11,d12,d13⟩:=rx.out
 go_in
 go_upto_region 1 with fail
 rw[<- ai.out];clear ai
 go_upto_region 2 with fail
 rw[<- al.out];clear al d8 d9 d10 d11 d12 d13 rx;obtain⟨p0,p1,r0,r1,r2,r3,r4,r5,dc⟩:=ap.out _ u6q.out
 go_cut [5,6] (fun va vb wx=>va=vI x/\vb=.bool bx/\Hid (Z wx))
 case first=>
  go_region_held3 (fun w'=>w'.cell? ⟨p,0,none⟩=some (.pointer (ptr rp))/\w'.cell? ⟨p,1,none⟩=some (.pointer (ptr cp))/\w'.cell? ⟨W0.heap.size,0,none⟩=some (vI h.a.row.a)/\w'.cell? ⟨W0.heap.size,1,none⟩=some (vI h.a.row.n)/\w'.cell? ⟨W0.heap.size,2,none⟩=some (vI h.a.col.a)/\w'.cell? ⟨W0.heap.size,3,none⟩=some (vI h.a.col.n)/\w'.cell? ⟨W0.heap.size,4,none⟩=some (.bool h.a.fr)/\w'.cell? ⟨W0.heap.size,5,none⟩=some (.bool h.a.fc)/\Z w')
   (first|exact ap.out _ dc|exact ap.out _ (gc.out _ _ dc zB.drew)|exact ap.out _ hb|assumption)
   (first
    |(go_at_call 40;(with_reducible refine(CP.out _ ?hz).mono ?_);(case hz=>(first|assumption |(go_split_ands;assumption)));rintro e wx ⟨rfl,hb⟩))
  all_goals go_wp2_with fail
  all_goals go_meet
  all_goals refine⟨rfl,rfl,zh ?_⟩
  all_goals first|assumption |(go_split_ands;assumption)
 case rest=>
 clear p0 p1 r0 r1 r2 r3 r4 r5 dc CP u6q;obtain⟨rfl,rfl,i9⟩:=hcut;obtain⟨W5,ew⟩:=zD wc
 subst ew;obtain⟨p0,p1,r0,r1,r2,r3,r4,r5,dc⟩:=ap.out _ i9.out
 go_upto_region 3 with fail
 go_cut [7,8] (fun va vb wx=>va=vI y/\vb=.bool by'/\Hid (Z wx))
 case first=>
  go_region_held3 (fun w'=>w'.cell? ⟨p,0,none⟩=some (.pointer (ptr rp))/\w'.cell? ⟨p,1,none⟩=some (.pointer (ptr cp))/\w'.cell? ⟨W0.heap.size,0,none⟩=some (vI h.a.row.a)/\w'.cell? ⟨W0.heap.size,1,none⟩=some (vI h.a.row.n)/\w'.cell? ⟨W0.heap.size,2,none⟩=some (vI h.a.col.a)/\w'.cell? ⟨W0.heap.size,3,none⟩=some (vI h.a.col.n)/\w'.cell? ⟨W0.heap.size,4,none⟩=some (.bool h.a.fr)/\w'.cell? ⟨W0.heap.size,5,none⟩=some (.bool h.a.fc)/\Z w')
   (first|exact ap.out _ dc|exact ap.out _ (gc.out _ _ dc zB.drew)|exact ap.out _ hb|assumption)
   (first
    |(go_at_call 40;(with_reducible refine(CQ.out _ ?hz).mono ?_);(case hz=>(first|assumption |(go_split_ands;assumption)));rintro e wx ⟨rfl,hb⟩))
  all_goals go_wp2_with fail
  all_goals go_meet
  all_goals refine⟨rfl,rfl,zh ?_⟩
  all_goals first|assumption |(go_split_ands;assumption)
 case rest=>
 clear p0 p1 r0 r1 r2 r3 r4 r5 dc CQ i9;obtain⟨rfl,rfl,oe⟩:=hcut;obtain⟨W6,lr⟩:=zD wc
 subst lr;have hb1:=hb1.out;have aw:=aw.out;subst hb1 aw;have hws:=((fm.out _).1 oe.out).1;have HK:=zh ((fm.out _).1 oe.out).2.1;have o6:=zh ((fm.out _).1 oe.out).2.2.1;have i6:=zh ((fm.out _).1 oe.out).2.2.2;have fd:=zh hws;obtain⟨v0,eh,ji⟩:=hws.box;obtain⟨A1,c1,rfl⟩:=aV ji;have cy:=zh eh;have ez:=zh ji;have bm:Hid (∀ W,Below W6.heap.size W6 W->W.cell? ⟨p,3,none⟩=some (.func (.func 34) #[] #[])/\W.cell? ⟨W0.heap.size,4,none⟩=some (.bool h.a.fr)/\W.cell? ⟨W0.heap.size,5,none⟩=some (.bool h.a.fc)):=zh (fun W hb=>⟨(cy.out.next hb).cell 3,(o6.out.next hb).cell 4,(o6.out.next hb).cell 5⟩);clear hws eh ji oe ap gc fm;have qj:Hid (p<W0.heap.size):=HPz;have ql:Hid (p<w.heap.size):=pu;have j7:Hid (∀ W,Below W6.heap.size W6 W->PowTab W):=zh (fun W hb=>(fd.out.next hb).gl.pow)
 go_upto_region 6 with fail
 refine wp_region_held_drew (S:=fun w'=>w'.cell? ⟨p,3,none⟩=some (.func (.func 34) #[] #[])/\w'.cell? ⟨W0.heap.size,4,none⟩=some (.bool h.a.fr)/\w'.cell? ⟨W0.heap.size,5,none⟩=some (.bool h.a.fc)) (by kernel_rfl) (bm.out _ zB.drew) (fun ae=>?_);refine TkA 0 (vP p 0) ?_;refine TkA 1 (vP p 0) ?_;refine TkA 2 (vP p 0) ?_;refine TkA 3 (vP p 4) ?_;refine TkA 5 (vP p 0) ?_;refine TkA 6 (vP p 0) ?_;refine TkA 7 (vP p 3) ?_;refine TkB 8 (.func (.func 34) #[] #[]) ?_;refine TkA 9 (vI x) ?_;refine TkA 10 (vI y) ?_;refine TkA 11 (vP W0.heap.size 4) ?_;refine TkB 12 (.bool h.a.fr) ?_;refine TkA 13 (vP W0.heap.size 5) ?_;refine TkB 14 (.bool h.a.fc) ?_
 refine TkA 15 (.agg #[vI x,vI y,.bool h.a.fr,.bool h.a.fc]) ?_;have ab:Hid (Below W6.heap.size W6 W6.drew):=zh zB.drew;refine wpAnyH_ready (rs:=[4,16]) (by kernel_rfl) (by simp) ?_;refine AllReadyH.cons rfl (fun K hK=>?pa2) (AllReadyH.cons rfl (fun K hK=>?pb2) AllReadyH.nil)
 case' pa2=>
  have c4:=(cy.out.next ab.out).cell 4;simp only[za,zb,zf]at c4
  go_simp
  clear c4;refine hK.out _ _ (bm.out _ ab.out) (fun aa=>?_);clear hK K ae;have ae:=aa;clear aa;refine TkR 16 (fun K hK=>?_)
  go_simp
  go_at_call 34
  refine(CT.out _ (j7.out _ ab.out)).mono ?_;rintro e wx ⟨rfl,hb⟩;replace ab:=zT ab hb;clear hb
  go_wp2_with fail
  refine hK.out _ _ (bm.out _ ab.out) (fun aa=>?_);clear hK K ae;have ae:=aa;clear aa;refine TkR 17 (fun K hK=>?_)
  go_simp
  obtain⟨W7,az⟩:=zD (wx.alloc (.cells #[vI t1.kind,vT t1.text,vI t1.place] 64))
  rw[<- az];have jk:=zL az;replace ab:=zF ab az;clear az;refine hK.out _ _ (bm.out _ ab.out) (fun aa=>?_);clear hK K ae;have ae:=aa;clear aa
 case' pb2=>
  go_simp
  go_at_call 34
  refine(CT.out _ (j7.out _ ab.out)).mono ?_;rintro e wx ⟨rfl,hb⟩;replace ab:=zT ab hb;clear hb
  go_wp2_with fail
  refine hK.out _ _ (bm.out _ ab.out) (fun aa=>?_);clear hK K ae;have ae:=aa;clear aa;refine wpAnyH_ready (rs:=[4,17]) (by kernel_rfl) (by simp) ?_;refine AllReadyH.cons rfl (fun K hK=>?pc2) (AllReadyH.cons rfl (fun K hK=>?pd2) AllReadyH.nil)
  case' pc2=>
   have c4:=(cy.out.next ab.out).cell 4;simp only[za,zb,zf]at c4
   go_simp
   clear c4;refine hK.out _ _ (bm.out _ ab.out) (fun aa=>?_);clear hK K ae;have ae:=aa;clear aa;refine TkR 17 (fun K hK=>?_)
   go_simp
   obtain⟨W7,az⟩:=zD (wx.alloc (.cells #[vI t1.kind,vT t1.text,vI t1.place] 64))
   rw[<- az];have jk:=zL az;replace ab:=zF ab az;clear az;refine hK.out _ _ (bm.out _ ab.out) (fun aa=>?_);clear hK K ae;have ae:=aa;clear aa
  case' pd2=>
   go_simp
   obtain⟨W7,az⟩:=zD (wx.alloc (.cells #[vI t1.kind,vT t1.text,vI t1.place] 64))
   rw[<- az];have jk:=zL az;replace ab:=zF ab az;clear az;refine hK.out _ _ (bm.out _ ab.out) (fun aa=>?_);clear hK K ae;have ae:=aa;clear aa;refine TkR 4 (fun K hK=>?_);have c4:=(cy.out.next ab.out).cell 4;simp only[za,zb,zf]at c4
   go_simp
   clear c4;refine hK.out _ _ (bm.out _ ab.out) (fun aa=>?_);clear hK K ae;have ae:=aa;clear aa
 all_goals
  refine TkR 18 (fun K hK=>?_);refine cG rfl _ _ rfl (p+1) (.slice A1 ts.length c1) ts t1 wx.heap.size rfl (aD ab.out ez.out) rfl jk.out (by omega) (yv (Nat.succ_le_of_lt fd.out.lt) ab.out.size) ?_;intro A5 c5 w5 k5 g5;have de:=zh k5;have qn:=zh g5;have dx:=zh ((cy.out.next ab.out).grownA g5 (bE (by decide) (aD ab.out ez.out) (cy.out.next ab.out)));have qo:=zh ((o6.out.next ab.out).grownA g5 (bE (by decide) (aD ab.out ez.out) (o6.out.next ab.out)));have HLn5:=zh ((i6.out.next ab.out).grownA g5 (bE (by decide) (aD ab.out ez.out) (i6.out.next ab.out)));clear k5 g5;refine hK.out _ _ ⟨dx.out.cell 3,qo.out.cell 4,qo.out.cell 5⟩ (fun aa=>?_);clear hK K ae;have ae:=aa;clear aa;refine TkA 19 (vP p 0) ?_;refine TkA 20 (vP p 4) ?_;have k4:=dx.out.cell 4
  simp only[za,zb,zf]at k4;have k4f:=dx.out.frozen 4;refine TkR 21 (fun K hK=>?_)
  go_simp
  clear k4 k4f;have l7:=zh ((fd.out.next ab.out).grown (ts':=ts++[t1]) ((cy.out.next ab.out).cell 4) de.out qn.out);have qp:=zh ((HK.out.trans (Kw.of_below ab.out)).trans l7.out.2);have qq:=zh l7.out.1;have t5:=zh (aC qo.out (b:=p) (by have:=qj.out;omega) 4 (.slice A5 (ts.length+1) c5));have HLn7:=zh (aC HLn5.out (b:=p) (by have:=ql.out;omega) 4 (.slice A5 (ts.length+1) c5));have m6:=zh (dx.out.put 4 (.slice A5 (ts.length+1) c5));refine hK.out _ _ ⟨m6.out.cell 3,t5.out.cell 4,t5.out.cell 5⟩ (fun aa=>?_);clear hK K ae aa;refine TkD ?_
  (try simp only[Act.put,yz])
  have n0:=HLn7.out.cell 0;rw[el.out]at n0
  go_wp2_with ((with_reducible refine(CPs.out _ _ qq.out (by simp;omega)).mono ?_);rintro e wy ⟨rfl,hs,hk⟩;have HS8:=zh hs;have HK8:=zh (qp.out.trans hk);clear hs hk)
  go_end0
  exact⟨rfl,HS8.out,HK8.out⟩
def KeepsQ(K:Addr->Prop)(c:Nat)(W W':World):Prop:=W.heap.size<=W'.heap.size/\(∀ p,K p->W'.cell? p=W.cell? p)/\(∀ p,K p->W'.frozen? p=W.frozen? p)/\∀ k,c<=k->k<W.heap.size->W'.heap[k]?=W.heap[k]?
theorem KeepsQ.refl(K:Addr->Prop)(c:Nat)(W:World):KeepsQ K c W W:=⟨zr,fun _ _=>rfl,fun _ _=>rfl,fun _ _ _=>rfl⟩
theorem KeepsQ.trans{K:Addr->Prop}{c:Nat}{A B C:World}(h1:KeepsQ K c A B)(h2:KeepsQ K c B C):KeepsQ K c A C:=⟨yv h1.1 h2.1,fun p h=>(h2.2.1 p h).trans (h1.2.1 p h),fun p h=>(h2.2.2.1 p h).trans (h1.2.2.1 p h),fun k hk hlt=>(h2.2.2.2 k hk (yu hlt h1.1)).trans (h1.2.2.2 k hk hlt)⟩
def OwnAll{α:Type}(b:Nat)(I:List α->World->Prop):Prop:=∀ s A B row,I s A->A.grownBy B row->(∀ r,row=some r->b<=r)->I s B
theorem OwnAll.putObj{α:Type}{b:Nat}{I:List α->World->Prop}(h:OwnAll b I){s:List α}{W:World}{l:Nat}(o':Obj)(hs:I s W)(hB:b<=l):I s (W.putObj l o'):=h s W _ (some l) hs (grownBy_putObj' W l o') (fun r e=>by cases e;exact hB)
def SeqQ{α:Type}(F:Fence)(n:Nat)(P:Program)(g:Nat)(lb:Array Value)(encs:α->Array Value)(n₀:Addr->Prop)(R:List α->α->Prop)(S Sp:List α->Prop)(w:World):Prop :=
 ∀ (l:Nat) (J Jx:List α->World->Prop) (W:World),Below w.heap.size w W->OwnAll W.heap.size J->OwnAll W.heap.size Jx ->
  (∀ pre x W1,W.heap.size<=W1.heap.size->J pre W1->R pre x->YieldAt F (n-1) P l (encs x) W1 fun e W'=>
   (e=.returned (.bool true)/\J (pre++[x]) W'/\KeepsQ n₀ W.heap.size W1 W')\/(e=.returned (.bool false)/\Jx (pre++[x]) W')) ->
  J [] W ->
  CallsIn F n P g (#[.func (.yield l) #[] #[]]++lb) W fun e W'=>(∃ v,e=.returned v)/\((∃ xs,S xs/\J xs W')\/(∃ pre,Sp pre/\Jx pre W'))
def postQ{α:Type}(b:Nat)(n₀:Addr->Prop)(I:List α->World->Prop)(Ix:Code->List α->World->Prop)(xs:List α)(W:World):Exit->Act->World->Prop
 | .normal,_,W'=>KeepsQ n₀ b W W'/\I xs W'
 | .ret,_,W'=>KeepsQ n₀ b W W'/\Ix .ret xs W'
 | .exit id,_,W'=>KeepsQ n₀ b W W'/\Ix (.exit id) xs W'
 |_,_,_=>False
def recQ(fn:FuncId)(tmps:Array Value)(ps:Array Tmp)(assign body:Code)(D:Nat)(st:LoopState)(pe:Option Code):Obj:=.loop { state:=st,pending:=pe,fn,tmps,params:=ps,assign,body,defers:=D }
section
variable {F:Fence} {n:Nat} {P:Program}
structure BooksQ(W:World)(b:Nat)(o:Obj):Prop where
 loop:W.heap[b+1]?=some o
 dfr:W.heap[b]?=some (.deferred (some []))
theorem BooksQ.lt{W:World}{b:Nat}{o:Obj}(h:BooksQ W b o):b+1<W.heap.size:=(zk.1 h.loop).1
theorem BooksQ.kept{W W':World}{b:Nat}{o:Obj}{K:Addr->Prop}(h:BooksQ W b o)(hk:KeepsQ K b W W'):BooksQ W' b o:=⟨(hk.2.2.2 _ (by omega) h.lt).trans h.loop,(hk.2.2.2 _ (by omega) (Nat.lt_of_succ_lt h.lt)).trans h.dfr⟩
theorem BooksQ.far{W W':World}{b:Nat}{o:Obj}{row:Option Nat}(h:BooksQ W b o)(hg:W.grownBy W' row)(hr:∀ r,row=some r->b+1<r):BooksQ W' b o:=by
 have e1:=hg.block (b+1) (zk.1 h.loop).1 (fun e=>by have:=hr _ e.symm;omega);have e2:=hg.block b (zk.1 h.dfr).1 (fun e=>by have:=hr _ e.symm;omega);exact⟨e1.trans h.loop,e2.trans h.dfr⟩
theorem BooksQ.put{W:World}{b:Nat}{o:Obj}(h:BooksQ W b o)(o':Obj):BooksQ (W.putObj (b+1) o') b o' :=
 ⟨World.putObj_heap_same (zk.1 h.loop).1,(World.putObj_heap_other (by omega)).trans h.dfr⟩
theorem sA{n₀:Addr->Prop}{b c:Nat}{W:World}(hb:∀ p,n₀ p->p.block<b)(hc:b<c)(o':Obj):KeepsQ n₀ c W (W.putObj b o') :=
 ⟨by rw[World.putObj_size];exact zr,fun p hp=>World.cell?_of_block (World.putObj_heap_other (Nat.ne_of_lt (hb p hp))),fun p hp=>World.frozen?_of_block (World.putObj_heap_other (Nat.ne_of_lt (hb p hp))),fun k hk _=>World.putObj_heap_other (by omega)⟩
theorem KeepsQ.from{K:Addr->Prop}{c d:Nat}{A B:World}(h:KeepsQ K c A B)(hcd:c<=d):KeepsQ K d A B:=⟨h.1,h.2.1,h.2.2.1,fun k hk hl=>h.2.2.2 k (yv hcd hk) hl⟩
theorem uAA{α:Type}{g:Operand}{ps:Array Tmp}{assign body:Code}{Q:Exit->Act->World->Prop}{a:Act}{w:World}
  (hro:F.round=none) (h1:1<=n) {gf:Nat} {lb:Array Value} (hg:a.eval g=.func (.func gf) #[] lb) (hFg:F.fn gf) (eg:∀ args w,(callFunc gf args).run P w=.ok (.enter gf args) w)
  {encs:α->Array Value} {n₀:Addr->Prop} {R:List α->α->Prop} {S Sp:List α->Prop} (hseq:SeqQ F (n-1) P gf lb encs n₀ R S Sp w)
  (hn₀:∀ p,n₀ p->p.block<w.heap.size) (hps:∀ x,(encs x).size=ps.size)
  (I:List α->World->Prop) (Ix:Code->List α->World->Prop) (hI:OwnAll w.heap.size I) (wa:∀ c,OwnAll w.heap.size (Ix c)) (h0:I [] w) (a₁:α->Act)
  (ns:∀ (l:Nat) (x:α) (W:World) (K:Act->World->Prop),K (a₁ x) W ->
   assign.wpIn (F.inRound l) (n-1-1) P (Exit.then K (fun _ _ _=>False)) { tmps:=(ps.zip (encs x)).foldl (fun t (p,v)=>t.setIfInBounds p v) a.tmps,defers:=[] } W)
  (t6:∀ (l:Nat) (pre:List α) (x:α) (W:World),w.heap.size+2<=W.heap.size->I pre W->R pre x->body.wpIn (F.inRound l) (n-1-1) P (postQ w.heap.size n₀ I Ix (pre++[x]) W) (a₁ x) W)
  (co:∀ (D:Nat) (xs:List α) (W:World),w.heap.size<=D->S xs->I xs W->W.heap[D]?=some (.deferred (some []))->Q .normal { a with defers:={ target:=.collected D,args:=#[] }::a.defers } W)
  (oo:∀ (D:Nat) (c:Code) (pre:List α) (W:World),w.heap.size<=D->Sp pre->Ix c pre W->W.heap[D]?=some (.deferred (some []))->c.wpIn F n P Q { a with defers:={ target:=.collected D,args:=#[] }::a.defers } W) :
  (Code.rangeFunc g ps assign body).wpIn F n P Q a w:=by
 refine wpIn_rangeFunc fun fn hfn=>?_
 let rc:=recQ fn a.tmps ps assign body w.heap.size
 let W1:=(w.alloc (.deferred (some []))).alloc (rc .ready none)
 have hB1:BooksQ W1 w.heap.size (rc .ready none):=by
  refine⟨?_,(Below.heap_alloc _ _ _ (by simp)).trans (World.alloc_heap_new w _)⟩;have:=World.alloc_heap_new (w.alloc (.deferred (some []))) (rc .ready none)
  rwa [World.size_alloc]at this
 have dh:Below w.heap.size w W1:=((Below.refl _ w).alloc zr _).alloc (by simp) _;have aq:W1.heap.size=w.heap.size+2:=by simp[W1]
 have bp:∀ {row:Option Nat},(∀ r,row=some r->W1.heap.size<=r)->(∀ r,row=some r->w.heap.size<=r):=fun hr r e=>by
  have:=hr r e;omega
 refine⟨w.heap.size+1,[{ target:=.collected w.heap.size,args:=#[] }],W1,{ target:=.fn (.func gf) lb,args:=#[.func (.yield (w.heap.size+1)) #[] #[]] },W1,gf,#[.func (.yield (w.heap.size+1)) #[] #[]]++lb,W1,?_,?_,?_,?_,fun _=>h1,?_⟩
 ·rw[hro];exact run_enterLoop_outer _ _ _ _ _
 ·simp only[resolve,hg];simp[go_sem]
 ·intro f' sx;simp[Target.leads]at sx;subst sx;exact hFg
 ·simp[invoke,go_sem,eg]
 refine(hseq (w.heap.size+1) (fun pre W=>I pre W/\BooksQ W w.heap.size (rc .ready none)) (fun pre W=>∃ c,Ix c pre W/\BooksQ W w.heap.size (rc .done (some c))) W1 dh
  (fun s A B row hs kh hr=>⟨hI s A B row hs.1 kh (bp hr),hs.2.far kh (fun r e=>by have:=hr r e;omega)⟩)
  (fun s A B row hs kh hr=>by
   obtain⟨c,hc,f7⟩:=hs;exact⟨c,wa c s A B row hc kh (bp hr),f7.far kh (fun r e=>by have:=hr r e;omega)⟩)
  ?_ ⟨hI [] _ _ none (hI [] _ _ none h0 (World.grownBy_alloc w _ none) (fun r e=>by cases e)) (World.grownBy_alloc _ _ none) (fun r e=>by cases e),hB1⟩).mono ?_
 ·rintro pre x W hlt ⟨hi,f7⟩ hx;rw[aq]at hlt ⊢;have hy:=run_yield (P:=P) (args:=encs x) f7.loop (hps x);refine⟨fn,_,assign,body,hy,roundIn_of_wpIn hfn (ns _ x W _ ⟨_,run_beginRound f7.loop rfl,?_⟩)⟩;have qr:BooksQ (W.putObj (w.heap.size+1) (rc .busy none)) w.heap.size (rc .busy none):=f7.put _;have jt:∀ (X:World) (o':Obj),KeepsQ n₀ (w.heap.size+2) X (X.putObj (w.heap.size+1) o'):=fun X o'=>sA (fun p hp=>by have:=hn₀ p hp;omega) (by omega) o'
  refine wpIn_mono (t6 _ pre x _ (by rw[World.putObj_size];exact hlt) (hI.putObj _ hi (by omega)) hx) ?_;intro e a3 W3 hp;cases e with
  |normal=>
   obtain⟨bv,t7⟩:=hp;have ii:=qr.kept bv;exact⟨_,_,run_endRound none ii.loop,.inl ⟨rfl,⟨hI.putObj _ t7 (by omega),ii.put _⟩,((jt _ _).trans (bv.from (by omega))).trans (jt _ _)⟩⟩
  |ret=>
   obtain⟨bv,t7⟩:=hp;have ii:=qr.kept bv;exact⟨_,_,run_endRound (some .ret) ii.loop,.inr ⟨rfl,.ret,(wa _).putObj _ t7 (by omega),ii.put _⟩⟩
  |exit id=>
   obtain⟨bv,t7⟩:=hp;have ii:=qr.kept bv;exact⟨_,_,run_endRound (some (.exit id)) ii.loop,.inr ⟨rfl,.exit id,(wa _).putObj _ t7 (by omega),ii.put _⟩⟩
  |goto t=>exact hp.elim
  |panic ch=>exact hp.elim
  |outgrown=>exact hp.elim
 rintro e W2 ⟨⟨v,rfl⟩,(⟨xs,hS,hi,f7⟩|⟨pre,wb,c,hi,f7⟩)⟩
 ·exact⟨none,_,run_endLoop f7.loop (by simp),co _ xs _ zr hS (hI.putObj _ hi (by omega)) (f7.put (o':=_)).dfr⟩
 exact⟨some c,_,run_endLoop f7.loop (by simp),oo _ c pre _ zr wb ((wa c).putObj _ hi (by omega)) (f7.put (o':=_)).dfr⟩
end
theorem jI{W W':World}(hb:Below W.heap.size W W'):W.grownBy W' none:=⟨hb.os,hb.tape,hb.output,hb.size,fun k hk _=>hb.block k hk⟩
section
variable {F:Fence} {n:Nat} {P:Program}
theorem uAB{α:Type}{g:Operand}{ps:Array Tmp}{assign body:Code}{Q:Exit->Act->World->Prop}{a:Act}{w:World}
  (hro:F.round=none) (h1:1<=n) {gf:Nat} {lb:Array Value} (hg:a.eval g=.func (.func gf) #[] lb) (hFg:F.fn gf) (eg:∀ args w,(callFunc gf args).run P w=.ok (.enter gf args) w)
  {encs:α->Array Value} {n₀:Addr->Prop} {R:List α->α->Prop} {S Sp:List α->Prop} (hseq:SeqQ F (n-1) P gf lb encs n₀ R S Sp w)
  (hn₀:∀ p,n₀ p->p.block<w.heap.size) (hps:∀ x,(encs x).size=ps.size)
  (I:List α->World->Prop) (Ix:Code->List α->World->Prop) (hI:OwnAll w.heap.size I) (wa:∀ c,OwnAll w.heap.size (Ix c)) (h0:I [] w) (a₁:α->World->Act) (w₁:α->World->World) (hw₁:∀ x W,Below W.heap.size W (w₁ x W))
  (ns:∀ (l:Nat) (x:α) (W:World) (K:Act->World->Prop),K (a₁ x W) (w₁ x W) ->
   assign.wpIn (F.inRound l) (n-1-1) P (Exit.then K (fun _ _ _=>False)) { tmps:=(ps.zip (encs x)).foldl (fun t (p,v)=>t.setIfInBounds p v) a.tmps,defers:=[] } W)
  (t6:∀ (l:Nat) (pre:List α) (x:α) (W:World),w.heap.size+2<=W.heap.size->I pre W->R pre x->∀ W',W'.heap.size=(w₁ x W).heap.size->(∀ k,k≠w.heap.size+1->W'.heap[k]?=(w₁ x W).heap[k]?)->I pre W'->body.wpIn (F.inRound l) (n-1-1) P (postQ w.heap.size n₀ I Ix (pre++[x]) W') (a₁ x W) W')
  (co:∀ (D:Nat) (xs:List α) (W:World),w.heap.size<=D->S xs->I xs W->W.heap[D]?=some (.deferred (some []))->Q .normal { a with defers:={ target:=.collected D,args:=#[] }::a.defers } W)
  (oo:∀ (D:Nat) (c:Code) (pre:List α) (W:World),w.heap.size<=D->Sp pre->Ix c pre W->W.heap[D]?=some (.deferred (some []))->c.wpIn F n P Q { a with defers:={ target:=.collected D,args:=#[] }::a.defers } W) :
  (Code.rangeFunc g ps assign body).wpIn F n P Q a w:=by
 refine wpIn_rangeFunc fun fn hfn=>?_
 let rc:=recQ fn a.tmps ps assign body w.heap.size
 let W1:=(w.alloc (.deferred (some []))).alloc (rc .ready none)
 have hB1:BooksQ W1 w.heap.size (rc .ready none):=by
  refine⟨?_,(Below.heap_alloc _ _ _ (by simp)).trans (World.alloc_heap_new w _)⟩;have:=World.alloc_heap_new (w.alloc (.deferred (some []))) (rc .ready none)
  rwa [World.size_alloc]at this
 have dh:Below w.heap.size w W1:=((Below.refl _ w).alloc zr _).alloc (by simp) _;have aq:W1.heap.size=w.heap.size+2:=by simp[W1]
 have bp:∀ {row:Option Nat},(∀ r,row=some r->W1.heap.size<=r)->(∀ r,row=some r->w.heap.size<=r):=fun hr r e=>by
  have:=hr r e;omega
 refine⟨w.heap.size+1,[{ target:=.collected w.heap.size,args:=#[] }],W1,{ target:=.fn (.func gf) lb,args:=#[.func (.yield (w.heap.size+1)) #[] #[]] },W1,gf,#[.func (.yield (w.heap.size+1)) #[] #[]]++lb,W1,?_,?_,?_,?_,fun _=>h1,?_⟩
 ·rw[hro];exact run_enterLoop_outer _ _ _ _ _
 ·simp only[resolve,hg];simp[go_sem]
 ·intro f' sx;simp[Target.leads]at sx;subst sx;exact hFg
 ·simp[invoke,go_sem,eg]
 refine(hseq (w.heap.size+1) (fun pre W=>I pre W/\BooksQ W w.heap.size (rc .ready none)) (fun pre W=>∃ c,Ix c pre W/\BooksQ W w.heap.size (rc .done (some c))) W1 dh
  (fun s A B row hs kh hr=>⟨hI s A B row hs.1 kh (bp hr),hs.2.far kh (fun r e=>by have:=hr r e;omega)⟩)
  (fun s A B row hs kh hr=>by
   obtain⟨c,hc,f7⟩:=hs;exact⟨c,wa c s A B row hc kh (bp hr),f7.far kh (fun r e=>by have:=hr r e;omega)⟩)
  ?_ ⟨hI [] _ _ none (hI [] _ _ none h0 (World.grownBy_alloc w _ none) (fun r e=>by cases e)) (World.grownBy_alloc _ _ none) (fun r e=>by cases e),hB1⟩).mono ?_
 ·rintro pre x W hlt ⟨hi,f7⟩ hx;rw[aq]at hlt ⊢;have hy:=run_yield (P:=P) (args:=encs x) f7.loop (hps x);refine⟨fn,_,assign,body,hy,roundIn_of_wpIn hfn (ns _ x W _ ⟨_,run_beginRound (f7.far (row:=none) (jI (hw₁ x W)) (fun r e=>by cases e)).loop rfl,?_⟩)⟩;have hbk1:BooksQ (w₁ x W) w.heap.size (rc .ready none):=f7.far (row:=none) (jI (hw₁ x W)) (fun r e=>by cases e);have hi1:I pre (w₁ x W):=hI _ _ _ none hi (jI (hw₁ x W)) (fun r e=>by cases e);have qr:BooksQ ((w₁ x W).putObj (w.heap.size+1) (rc .busy none)) w.heap.size (rc .busy none):=hbk1.put _;have jt:∀ (X:World) (o':Obj),KeepsQ n₀ (w.heap.size+2) X (X.putObj (w.heap.size+1) o'):=fun X o'=>sA (fun p hp=>by have:=hn₀ p hp;omega) (by omega) o'
  have hkw:KeepsQ n₀ (w.heap.size+2) W (w₁ x W):=⟨(hw₁ x W).size,fun p hp=>(hw₁ x W).cell (by have:=hn₀ p hp;omega),fun p hp=>World.frozen?_of_block ((hw₁ x W).block _ (by have:=hn₀ p hp;omega)),fun k _ hk=>(hw₁ x W).block k hk⟩
  refine wpIn_mono (t6 _ pre x W hlt hi hx _ (World.putObj_size ..) (fun k hk=>World.putObj_heap_other hk) (hI.putObj _ hi1 (by omega))) ?_;intro e a3 W3 hp;cases e with
  |normal=>
   obtain⟨bv,t7⟩:=hp;have ii:=qr.kept bv;exact⟨_,_,run_endRound none ii.loop,.inl ⟨rfl,⟨hI.putObj _ t7 (by omega),ii.put _⟩,(hkw.trans ((jt _ _).trans (bv.from (by omega)))).trans (jt _ _)⟩⟩
  |ret=>
   obtain⟨bv,t7⟩:=hp;have ii:=qr.kept bv;exact⟨_,_,run_endRound (some .ret) ii.loop,.inr ⟨rfl,.ret,(wa _).putObj _ t7 (by omega),ii.put _⟩⟩
  |exit id=>
   obtain⟨bv,t7⟩:=hp;have ii:=qr.kept bv;exact⟨_,_,run_endRound (some (.exit id)) ii.loop,.inr ⟨rfl,.exit id,(wa _).putObj _ t7 (by omega),ii.put _⟩⟩
  |goto t=>exact hp.elim
  |panic ch=>exact hp.elim
  |outgrown=>exact hp.elim
 rintro e W2 ⟨⟨v,rfl⟩,(⟨xs,hS,hi,f7⟩|⟨pre,wb,c,hi,f7⟩)⟩
 ·exact⟨none,_,run_endLoop f7.loop (by simp),co _ xs _ zr hS (hI.putObj _ hi (by omega)) (f7.put (o':=_)).dfr⟩
 exact⟨some c,_,run_endLoop f7.loop (by simp),oo _ c pre _ zr wb ((wa c).putObj _ hi (by omega)) (f7.put (o':=_)).dfr⟩
end
end Go.Proofs.YtjfihpaeglpblaaGreatDoor
namespace Go.Proofs.YtjfihpaeglpblaaGreatDoor
open Go.RowKit Go.Shelf
attribute [local go_sem] Oper.semAt_some
mutual
def Tree.depths:Tree->Nat->List Nat
 | .mk _ l,d=>d::eY l (d+1)
def eY:List Tree->Nat->List Nat
 | [],_=>[]
 |t::r,d=>t.depths d++eY r d
end
mutual
theorem gT:∀ (t:Tree) (d:Nat),(t.depths d).length=t.size
 | .mk h l,d=>by unfold Tree.depths Tree.size;rw[yi,pU l (d+1)]
theorem pU:∀ (l:List Tree) (d:Nat),(eY l d).length=aM l
 | [],_=>rfl
 |t::r,d=>by unfold eY aM;rw[yl,gT t d,pU r d]
end
theorem tG(t:Tree):1<=t.size:=by cases t;unfold Tree.size;omega
theorem uM(t:Tree):1<=t.depth:=by cases t;unfold Tree.depth;omega
mutual
theorem rI:∀ (t:Tree) (d a:Nat),(t.depths d).foldl max a=max a (d+t.depth-1)
 | .mk h l,d,a=>by
  unfold Tree.depths Tree.depth;rw[List.foldl_cons,pV l (d+1) (max a d)];by_cases hz:cP l=0
  ·rw[if_pos hz,hz];rfl
  rw[if_neg hz];omega
theorem pV:∀ (l:List Tree) (d a:Nat),(eY l d).foldl max a=if cP l=0 then a else max a (d+cP l-1)
 | [],_,_=>rfl
 |t::r,d,a=>by
  unfold eY cP;rw[List.foldl_append,rI t d a,pV r d _];have:=uM t;by_cases hz:cP r=0
  ·rw[if_pos hz,if_neg (by omega),hz];omega
  rw[if_neg hz,if_neg (by omega)];omega
end
structure SE where
 g:Nat
 o:Nat
 d:Nat
 t:Tree
def SE.cells(x:SE):List Value:=[vP x.g x.o,vI (x.d:Int)]
def stC(l:List SE):List Value:=l.flatMap SE.cells
theorem xD:∀ (l:List SE),(stC l).length=l.length*2
 | []=>rfl
 |x::r=>by
  have:=xD r;unfold stC at *;rw[List.flatMap_cons,yl,this,yi];show 2+r.length*2=_;omega
theorem zI(l:List SE)(x:SE):stC (l++[x])=stC l++x.cells:=by unfold stC;simp
def iI(l:List SE):List Nat:=l.reverse.flatMap (fun x=>x.t.depths x.d)
theorem vH(l:List SE)(x:SE):iI (l++[x])=x.t.depths x.d++iI l:=by unfold iI;simp
theorem yK(l m:List SE):iI (l++m)=iI m++iI l:=by unfold iI;simp
theorem yL:∀ (l:List SE),l.length<=(iI l).length
 | []=>zm _
 |x::r=>by
  have:=yL r;have h1:iI (x::r)=iI r++x.t.depths x.d:=by
   have:=yK [x] r;rw[List.singleton_append]at this;rw[this];unfold iI;simp
  have h2:=gT x.t x.d;have h3:=tG x.t;rw[h1,yl,yi];omega
def gC(g d:Nat):Nat->List Tree->List SE
 |_,[]=>[]
 |i,t::r=>⟨g,i,d,t⟩::gC g d (i+22) r
theorem lP(g d:Nat):∀ (l:List Tree) (i:Nat),(gC g d i l).length=l.length
 | [],_=>rfl
 |t::r,i=>by unfold gC;rw[yi,lP g d r (i+22),yi]
theorem uQ(g d:Nat):∀ (l:List Tree) (i k:Nat) (hk:k<l.length),(gC g d i l)[k]?=some ⟨g,i+k*22,d,l[k]⟩
 | [],_,_,hk=>absurd hk (by simp)
 |t::r,i,0,_=>by unfold gC;simp
 |t::r,i,k+1,hk=>by
  unfold gC;rw[zf,uQ g d r (i+22) k (by simpa using hk),show i+22+k*22=i+(k+1)*22 by omega];rfl
theorem sB(g d:Nat):∀ (l:List Tree) (i:Nat),(gC g d i l).flatMap (fun x=>x.t.depths x.d)=eY l d
 | [],_=>rfl
 |t::r,i=>by unfold gC eY;rw[List.flatMap_cons,sB g d r (i+22)]
def SeOk(w:World)(X:List Nat)(m:Nat)(x:SE):Prop:=x.g<w.heap.size/\x.g∉X/\NodeAt w X x.g x.o x.t/\x.d+x.t.size<=m
theorem xW{w:World}{X:List Nat}{m g d:Nat}(hg:g<w.heap.size)(hx:g∉X):∀ (l:List Tree) (i:Nat),KidsAt w X g i l->d+aM l<=m->∀ x∈gC g d i l,SeOk w X m x
 | [],_,_,_,x,hm=>by cases hm
 |t::r,i,hk,hs,x,hm=>by
  unfold aM at hs;rcases ym.1 hm with rfl|hm
  ·exact⟨hg,hx,hk.1,by show d+t.size<=m;omega⟩
  exact xW hg hx r (i+22) hk.2 (by omega) x hm
theorem own_pop{w:World}{b e k g cap:Nat}{xs:List Value}{u v:Value}(h:w.ownsRow b e 2 (.slice (some ⟨g,0,none⟩) (k+1) cap) (k+1) (xs++[u,v])):w.ownsRow b e 2 (.slice (some ⟨g,0,none⟩) k cap) k xs:=by
 obtain⟨h1,h2⟩:=h;rw[yl]at h1;have hl:xs.length=k*2:=by simp at h1;omega
 refine⟨hl,?_⟩;rcases h2 with⟨h3,_⟩|⟨g',ou,cur,hv,hb,hh,hc,hm,hs,ht⟩
 ·cases h3
 cases hv;refine .inr ⟨g,cap,cur,rfl,hb,hh,by omega,hm,hs,?_⟩;have h9:=congrArg (List.take (k*2)) ht;rw[List.take_take,Nat.min_eq_left (by omega)]at h9;rw[h9,<- hl,List.take_left]
theorem infoStep:(Tryz.prog.info? 204).map (fun i=>(i.zero,i.size,i.bytes))=some (some (.agg #[.pointer none,vI 0]),2,16):=by kernel_rfl
end Go.Proofs.YtjfihpaeglpblaaGreatDoor
