/-
  Lemmas, part 27: Wx9 WrC.
-/
import Derived.Test.YtjfihpaeglpblaaGreatDoorRf25
import Derived.Test.YtjfihpaeglpblaaGreatDoorRf26
set_option maxHeartbeats 100000000
set_option maxRecDepth 1000000
namespace Go.Proofs.YtjfihpaeglpblaaGreatDoor
open Go.RowKit
theorem bW{ops:Array Oper}{o:Oper}{a:Act}{w:World}{K:Act->World->Prop}{Q:Exit->Act->World->Prop}{E:Prop}(sl:o.guard=none)(s x:Operand)(ho:o.op=.call { callee:=.builtin .append,args:=#[s,x],argTypes:=#[60,60] })
  (base:Nat) (v1:Value) (ts:List RTok) (t:RTok) (g:Nat) (hs:a.eval s=v1) (fo:w.ownsRow base 64 3 v1 ts.length (jD ts)) (hx:a.eval x=.slice (some ⟨g,0,none⟩) 1 1) (hl:Lies w g 64 #[vI t.kind,vT t.text,vI t.place]) (hn:ts.length<=900000) (fd:base<=w.heap.size)
  (h:∀ A' c' w',w'.ownsRow base 64 3 (.slice A' (ts.length+1) c') (ts++[t]).length (jD (ts++[t]))->w.grownBy w' v1.ownBlock->K (a.put o.dst (.slice A' (ts.length+1) c')) w') :
  if Region.wanted o (yielded ops a.tmps)=true then Oper.wp Tryz.prog o a w K Q else E:=by
 have hw:Region.wanted o (yielded ops a.tmps)=true:=by simp[Region.wanted,sl]
 rw[if_pos hw];obtain⟨i1,gi,gz0,gz1,gz2⟩:=info_parts rA;refine wp_append_own (P:=Tryz.prog) w s x 60 ho base 64 i1 (.agg #[vI 0,vS #[],vI 0]) 3 32 Tryz.underlying60 gi gz0 gz1 gz2 rfl (by decide) v1 ts.length (jD ts) hs fo ⟨g,0,none⟩ 1 1 (fM t) hx rfl (fun j u hj=>?_) (lP t) (by unfold maxLen;omega) (by omega) fd (fun v' w' k1 k2 _=>?_)
 ·have e:(⟨g,0,none⟩:Addr).add j=⟨g,j,none⟩:=by cases j <;> simp[Addr.add]
  rw[e,hl.cell j];simpa [fM] using hj
 rw[<- oE]at k1;obtain⟨A',c',rfl⟩:=aY k1;exact h A' c' w' (by rw[yl];exact k1) k2
theorem oL{p m:Nat}{rp cp:Option Nat}{R C:AxV}{sff:FuncId}{sfx:Array Value}{ts:List RTok}{h:NodeH}{A:Option Addr}{n ca:Nat}{Cn:List Value}{w:World}(ai:Hid (Cn.toArray=aH h A n ca))(hw:WrS w p m rp cp R C (.func (.func sff) #[] sfx) ts):∃ (W0 W1:World) (Z:World->Prop),Hid (W0=w.alloc (.cells Cn.toArray 34))/\Hid (W1=W0.alloc (.cells #[vI h.a.row.a,vI h.a.row.n,vI h.a.col.a,vI h.a.col.n,.bool h.a.fr,.bool h.a.fc] 29))/\Hid (∀ W,Z W↔(WrS W p m rp cp R C (.func (.func sff) #[] sfx) ts/\Kw p (rp.toList++cp.toList) w W/\Lies W W0.heap.size 29 #[vI h.a.row.a,vI h.a.row.n,vI h.a.col.a,vI h.a.col.n,.bool h.a.fr,.bool h.a.fc]/\Lies W w.heap.size 34 Cn.toArray))/\Hid (Z W1)/\Hid (∀ W W',Z W->Below W.heap.size W W'->Z W')/\Hid (∀ W,Z W->W.cell? ⟨p,0,none⟩=some (.pointer (ptr rp))/\W.cell? ⟨p,1,none⟩=some (.pointer (ptr cp))/\W.cell? ⟨W0.heap.size,0,none⟩=some (vI h.a.row.a)/\W.cell? ⟨W0.heap.size,1,none⟩=some (vI h.a.row.n)/\W.cell? ⟨W0.heap.size,2,none⟩=some (vI h.a.col.a)/\W.cell? ⟨W0.heap.size,3,none⟩=some (vI h.a.col.n)/\W.cell? ⟨W0.heap.size,4,none⟩=some (.bool h.a.fr)/\W.cell? ⟨W0.heap.size,5,none⟩=some (.bool h.a.fc)/\Z W)/\Hid (W0.cell? ⟨w.heap.size,8,none⟩=some (vI h.a.row.a)/\W0.cell? ⟨w.heap.size,9,none⟩=some (vI h.a.row.n)/\W0.cell? ⟨w.heap.size,10,none⟩=some (vI h.a.col.a)/\W0.cell? ⟨w.heap.size,11,none⟩=some (vI h.a.col.n)/\W0.cell? ⟨w.heap.size,12,none⟩=some (.bool h.a.fr)/\W0.cell? ⟨w.heap.size,13,none⟩=some (.bool h.a.fc))/\Hid (p<w.heap.size)/\Hid (p<W0.heap.size):=by
 obtain⟨W0,aj⟩:=zD (w.alloc (.cells Cn.toArray 34))
 obtain⟨W1,am⟩:=zD (W0.alloc (.cells #[vI h.a.row.a,vI h.a.row.n,vI h.a.col.a,vI h.a.col.n,.bool h.a.fr,.bool h.a.fc] 29))
 have ak:=zh aj;have al:=zh am;have aq:=zA aj;have bf:=zA am;have HL:=zL aj;have jn:=zL am;obtain⟨Z,hZ⟩:∃ Z:World->Prop,∀ W,Z W↔(WrS W p m rp cp R C (.func (.func sff) #[] sfx) ts/\Kw p (rp.toList++cp.toList) w W/\Lies W W0.heap.size 29 #[vI h.a.row.a,vI h.a.row.n,vI h.a.col.a,vI h.a.col.n,.bool h.a.fr,.bool h.a.fc]/\Lies W w.heap.size 34 Cn.toArray):=⟨_,fun _=>Iff.rfl⟩
 have fg:=zh hZ;have uo:Hid (Z W1):=zh ((hZ _).2 ⟨(hw.next aq.out).next bf.out,(Kw.of_below aq.out).trans (Kw.of_below bf.out),jn.out,HL.out.next bf.out⟩);have f7:Hid (∀ W W',Z W->Below W.heap.size W W'->Z W'):=zh (fun W W' g hb=>(hZ _).2 (by
  obtain⟨g1,g2,g3,g4⟩:=(hZ _).1 g;exact⟨g1.next hb,g2.trans (Kw.of_below hb),g3.next hb,g4.next hb⟩))
 have bz:Hid (∀ W,Z W->W.cell? ⟨p,0,none⟩=some (.pointer (ptr rp))/\W.cell? ⟨p,1,none⟩=some (.pointer (ptr cp))/\W.cell? ⟨W0.heap.size,0,none⟩=some (vI h.a.row.a)/\W.cell? ⟨W0.heap.size,1,none⟩=some (vI h.a.row.n)/\W.cell? ⟨W0.heap.size,2,none⟩=some (vI h.a.col.a)/\W.cell? ⟨W0.heap.size,3,none⟩=some (vI h.a.col.n)/\W.cell? ⟨W0.heap.size,4,none⟩=some (.bool h.a.fr)/\W.cell? ⟨W0.heap.size,5,none⟩=some (.bool h.a.fc)/\Z W):=zh (fun W g=>by
  obtain⟨g1,g2,g3,g4⟩:=(hZ _).1 g;obtain⟨v,k,_⟩:=g1.box;exact⟨k.cell 0,k.cell 1,g3.cell 0,g3.cell 1,g3.cell 2,g3.cell 3,g3.cell 4,g3.cell 5,g⟩)
 have ot:Hid (W0.cell? ⟨w.heap.size,8,none⟩=some (vI h.a.row.a)/\W0.cell? ⟨w.heap.size,9,none⟩=some (vI h.a.row.n)/\W0.cell? ⟨w.heap.size,10,none⟩=some (vI h.a.col.a)/\W0.cell? ⟨w.heap.size,11,none⟩=some (vI h.a.col.n)/\W0.cell? ⟨w.heap.size,12,none⟩=some (.bool h.a.fr)/\W0.cell? ⟨w.heap.size,13,none⟩=some (.bool h.a.fc)):=zh (by
  have e8:=HL.out.cell 8;have e9:=HL.out.cell 9;have e10:=HL.out.cell 10;have e11:=HL.out.cell 11;have e12:=HL.out.cell 12;have e13:=HL.out.cell 13;rw[ai.out]at e8 e9 e10 e11 e12 e13;exact⟨e8,e9,e10,e11,e12,e13⟩)
 have s5:Hid (p<w.heap.size):=zh hw.lt;have nc:Hid (p<W0.heap.size):=zh (yu hw.lt aq.out.size);exact⟨W0,W1,Z,ak,al,fg,uo,f7,bz,ot,s5,nc⟩
theorem fF{p m:Nat}{rp cp:Option Nat}{R C:AxV}{sff:FuncId}{sfx:Array Value}{ts:List RTok}{h:NodeH}{Cn:List Value}{w W0:World}{Z:World->Prop}{f:Nat}{args:Array Value}{v:Value}(fg:Hid (∀ W,Z W↔(WrS W p m rp cp R C (.func (.func sff) #[] sfx) ts/\Kw p (rp.toList++cp.toList) w W/\Lies W W0.heap.size 29 #[vI h.a.row.a,vI h.a.row.n,vI h.a.col.a,vI h.a.col.n,.bool h.a.fr,.bool h.a.fc]/\Lies W w.heap.size 34 Cn.toArray)))(hP:∀ W,WrS W p m rp cp R C (.func (.func sff) #[] sfx) ts->Calls Tryz.prog f args W fun e w'=>e=.returned v/\WrS w' p m rp cp R C (.func (.func sff) #[] sfx) ts/\Kw p (rp.toList++cp.toList) W w')(W:World)(g:Z W):Calls Tryz.prog f args W fun e w'=>e=.returned v/\Z w':=by
 have hZ:=fg.out;obtain⟨g1,g2,g3,g4⟩:=(hZ _).1 g;refine(hP W g1).mono ?_;rintro e w' ⟨rfl,k1,k2⟩;exact⟨rfl,(hZ _).2 ⟨k1,g2.trans k2,Kw.lies k2 g1 g3 (by decide) (by decide) (by decide),Kw.lies k2 g1 g4 (by decide) (by decide) (by decide)⟩⟩
theorem uCN{p m:Nat}{rp cp:Option Nat}{R C:AxV}{sff:FuncId}{sfx:Array Value}{ts:List RTok}(h:NodeH)(A:Option Addr)(n ca:Nat)(Cn:List Value)(w:World)(ai:Hid (Cn.toArray=aH h A n ca))(hw:WrS w p m rp cp R C (.func (.func sff) #[] sfx) ts)(hn:ts.length<=700000)(x y:Int)(bx by':Bool)
  (hP:∀ W,WrS W p m rp cp R C (.func (.func sff) #[] sfx) ts->Calls Tryz.prog 40 #[.pointer (ptr rp),.agg #[vI h.a.row.a,vI h.a.row.n]] W fun e w'=>e=.returned (.tuple #[vI x,.bool bx])/\WrS w' p m rp cp R C (.func (.func sff) #[] sfx) ts/\Kw p (rp.toList++cp.toList) W w')
  (hQ:∀ W,WrS W p m rp cp R C (.func (.func sff) #[] sfx) ts->Calls Tryz.prog 40 #[.pointer (ptr cp),.agg #[vI h.a.col.a,vI h.a.col.n]] W fun e w'=>e=.returned (.tuple #[vI y,.bool by'])/\WrS w' p m rp cp R C (.func (.func sff) #[] sfx) ts/\Kw p (rp.toList++cp.toList) W w') (hg:bx=true->by'=false) :
  Calls Tryz.prog 138 #[vP p 0,.agg Cn.toArray] w fun e w'=>WrO p m rp cp R C (.func (.func sff) #[] sfx) (ts++eK) w e w':=by
 obtain⟨W0,W1,Z,ak,al,fg,uo,f7,bz,ot,s5,nc⟩:=oL ai hw;have hZ:=fg.out;have CP:=zh (fun W (g:Z W)=>fF fg hP W g);have CQ:=zh (fun W (g:Z W)=>fF fg hQ W g);have CG:Hid (∀ W,Z W->Calls Tryz.prog 193 #[vP p 0] W fun e w'=>WrO p m rp cp R C (.func (.func sff) #[] sfx) (ts++eK) W e w'):=zh (fun W g=>kT W ((hZ _).1 g).1 (by omega));clear hw hP hQ hZ ai;obtain⟨d8,d9,d10,d11,d12,d13⟩:=ot.out
 go_in
 go_upto_region 1 with fail
 rw[<- ak.out];clear ak
 go_upto_region 2 with fail
 rw[<- al.out];clear al d8 d9 d10 d11 d12 d13 ot;obtain⟨p0,p1,r0,r1,r2,r3,r4,r5,cv⟩:=bz.out _ uo.out
 go_cut [5,6] (fun va vb wx=>va=vI x/\vb=.bool bx/\Hid (Z wx))
 case first=>
  go_region_held3 (fun w'=>w'.cell? ⟨p,0,none⟩=some (.pointer (ptr rp))/\w'.cell? ⟨p,1,none⟩=some (.pointer (ptr cp))/\w'.cell? ⟨W0.heap.size,0,none⟩=some (vI h.a.row.a)/\w'.cell? ⟨W0.heap.size,1,none⟩=some (vI h.a.row.n)/\w'.cell? ⟨W0.heap.size,2,none⟩=some (vI h.a.col.a)/\w'.cell? ⟨W0.heap.size,3,none⟩=some (vI h.a.col.n)/\w'.cell? ⟨W0.heap.size,4,none⟩=some (.bool h.a.fr)/\w'.cell? ⟨W0.heap.size,5,none⟩=some (.bool h.a.fc)/\Z w')
   (first|exact bz.out _ cv|exact bz.out _ (f7.out _ _ cv zB.drew)|exact bz.out _ hb|assumption)
   (first
    |(go_at_call 40;(with_reducible refine(CP.out _ ?hz).mono ?_);(case hz=>(first|assumption |(go_split_ands;assumption)));rintro e wx ⟨rfl,hb⟩))
  all_goals go_wp2_with fail
  all_goals go_meet
  all_goals refine⟨rfl,rfl,zh ?_⟩
  all_goals first|assumption |(go_split_ands;assumption)
 case rest=>
 clear p0 p1 r0 r1 r2 r3 r4 r5 cv CP uo;obtain⟨rfl,rfl,dv⟩:=hcut;obtain⟨W5,dr⟩:=zD wc
 subst dr;obtain⟨p0,p1,r0,r1,r2,r3,r4,r5,cv⟩:=bz.out _ dv.out
 go_upto_region 3 with fail
 go_cut [7,8] (fun va vb wx=>va=vI y/\vb=.bool by'/\Hid (Z wx))
 case first=>
  go_region_held3 (fun w'=>w'.cell? ⟨p,0,none⟩=some (.pointer (ptr rp))/\w'.cell? ⟨p,1,none⟩=some (.pointer (ptr cp))/\w'.cell? ⟨W0.heap.size,0,none⟩=some (vI h.a.row.a)/\w'.cell? ⟨W0.heap.size,1,none⟩=some (vI h.a.row.n)/\w'.cell? ⟨W0.heap.size,2,none⟩=some (vI h.a.col.a)/\w'.cell? ⟨W0.heap.size,3,none⟩=some (vI h.a.col.n)/\w'.cell? ⟨W0.heap.size,4,none⟩=some (.bool h.a.fr)/\w'.cell? ⟨W0.heap.size,5,none⟩=some (.bool h.a.fc)/\Z w')
   (first|exact bz.out _ cv|exact bz.out _ (f7.out _ _ cv zB.drew)|exact bz.out _ hb|assumption)
   (first
    |(go_at_call 40;(with_reducible refine(CQ.out _ ?hz).mono ?_);(case hz=>(first|assumption |(go_split_ands;assumption)));rintro e wx ⟨rfl,hb⟩))
  all_goals go_wp2_with fail
  all_goals go_meet
  all_goals refine⟨rfl,rfl,zh ?_⟩
  all_goals first|assumption |(go_split_ands;assumption)
 case rest=>
 clear p0 p1 r0 r1 r2 r3 r4 r5 cv CQ dv;obtain⟨rfl,rfl,nf⟩:=hcut;obtain⟨W6,ja⟩:=zD wc
 subst ja;have HK:=zh ((fg.out _).1 nf.out).2.1;cases bx
 ·go_wp2_with ((with_reducible refine(CG.out _ nf.out).mono ?_);rintro e wx ⟨rfl,hs,hk⟩;have jl:=zh hs;have fv:=zh (HK.out.trans hk);clear hs hk)
  go_end0
  exact⟨rfl,jl.out,fv.out⟩
 obtain rfl:=hg rfl
 go_wp2_with ((with_reducible refine(CG.out _ nf.out).mono ?_);rintro e wx ⟨rfl,hs,hk⟩;have jl:=zh hs;have fv:=zh (HK.out.trans hk);clear hs hk)
 go_end0
 exact⟨rfl,jl.out,fv.out⟩
theorem uGE{p m:Nat}{rp cp:Option Nat}{R C:AxV}{sff:FuncId}{sfx:Array Value}{ts:List RTok}(h:NodeH)(A:Option Addr)(n ca:Nat)(Cn:List Value)(w:World)(ai:Hid (Cn.toArray=aH h A n ca))(hw:WrS w p m rp cp R C (.func (.func sff) #[] sfx) ts)(hn:ts.length<=700000)(x y:Int)(bx by':Bool)
  (hP:∀ W,WrS W p m rp cp R C (.func (.func sff) #[] sfx) ts->Calls Tryz.prog 40 #[.pointer (ptr rp),.agg #[vI h.a.row.a,vI h.a.row.n]] W fun e w'=>e=.returned (.tuple #[vI x,.bool bx])/\WrS w' p m rp cp R C (.func (.func sff) #[] sfx) ts/\Kw p (rp.toList++cp.toList) W w')
  (hQ:∀ W,WrS W p m rp cp R C (.func (.func sff) #[] sfx) ts->Calls Tryz.prog 40 #[.pointer (ptr cp),.agg #[vI h.a.col.a,vI h.a.col.n]] W fun e w'=>e=.returned (.tuple #[vI y,.bool by'])/\WrS w' p m rp cp R C (.func (.func sff) #[] sfx) ts/\Kw p (rp.toList++cp.toList) W w') (hF:∀ xs W,Sem.run Tryz.prog (callFunc sff xs) W=.ok (.enter sff xs) W) (t1:RTok) (ab:Hid (bx=true)) (hb2:Hid (by'=true)) (hT:∀ W,Kw p (rp.toList++cp.toList) w W->Calls Tryz.prog sff (#[.agg #[vI x,vI y,.bool h.a.fr,.bool h.a.fc],vI 0]++sfx) W fun e w'=>e=.returned (dS t1)/\Below W.heap.size W w') (hk:h.kind=1) :
  Calls Tryz.prog 138 #[vP p 0,.agg Cn.toArray] w fun e w'=>WrO p m rp cp R C (.func (.func sff) #[] sfx) (ts++[t1]) w e w':=by
 obtain⟨W0,W1,Z,ak,al,fg,uo,f7,bz,ot,s5,nc⟩:=oL ai hw;have hZ:=fg.out;have CP:=zh (fun W (g:Z W)=>fF fg hP W g);have CQ:=zh (fun W (g:Z W)=>fF fg hQ W g);have CT:=zh hT;have eh:Hid (Cn.toArray[0]?=some (vI 1)):=zh (by rw[ai.out];simp[aH,hk]);clear hT hk;clear hw hP hQ hZ ai;obtain⟨d8,d9,d10,d11,d12,d13⟩:=ot.out
 go_in
 go_upto_region 1 with fail
 rw[<- ak.out];clear ak
 go_upto_region 2 with fail
 rw[<- al.out];clear al d8 d9 d10 d11 d12 d13 ot;obtain⟨p0,p1,r0,r1,r2,r3,r4,r5,cv⟩:=bz.out _ uo.out
 go_cut [5,6] (fun va vb wx=>va=vI x/\vb=.bool bx/\Hid (Z wx))
 case first=>
  go_region_held3 (fun w'=>w'.cell? ⟨p,0,none⟩=some (.pointer (ptr rp))/\w'.cell? ⟨p,1,none⟩=some (.pointer (ptr cp))/\w'.cell? ⟨W0.heap.size,0,none⟩=some (vI h.a.row.a)/\w'.cell? ⟨W0.heap.size,1,none⟩=some (vI h.a.row.n)/\w'.cell? ⟨W0.heap.size,2,none⟩=some (vI h.a.col.a)/\w'.cell? ⟨W0.heap.size,3,none⟩=some (vI h.a.col.n)/\w'.cell? ⟨W0.heap.size,4,none⟩=some (.bool h.a.fr)/\w'.cell? ⟨W0.heap.size,5,none⟩=some (.bool h.a.fc)/\Z w')
   (first|exact bz.out _ cv|exact bz.out _ (f7.out _ _ cv zB.drew)|exact bz.out _ hb|assumption)
   (first
    |(go_at_call 40;(with_reducible refine(CP.out _ ?hz).mono ?_);(case hz=>(first|assumption |(go_split_ands;assumption)));rintro e wx ⟨rfl,hb⟩))
  all_goals go_wp2_with fail
  all_goals go_meet
  all_goals refine⟨rfl,rfl,zh ?_⟩
  all_goals first|assumption |(go_split_ands;assumption)
 case rest=>
 clear p0 p1 r0 r1 r2 r3 r4 r5 cv CP uo;obtain⟨rfl,rfl,dv⟩:=hcut;obtain⟨W5,dr⟩:=zD wc
 subst dr;obtain⟨p0,p1,r0,r1,r2,r3,r4,r5,cv⟩:=bz.out _ dv.out
 go_upto_region 3 with fail
 go_cut [7,8] (fun va vb wx=>va=vI y/\vb=.bool by'/\Hid (Z wx))
 case first=>
  go_region_held3 (fun w'=>w'.cell? ⟨p,0,none⟩=some (.pointer (ptr rp))/\w'.cell? ⟨p,1,none⟩=some (.pointer (ptr cp))/\w'.cell? ⟨W0.heap.size,0,none⟩=some (vI h.a.row.a)/\w'.cell? ⟨W0.heap.size,1,none⟩=some (vI h.a.row.n)/\w'.cell? ⟨W0.heap.size,2,none⟩=some (vI h.a.col.a)/\w'.cell? ⟨W0.heap.size,3,none⟩=some (vI h.a.col.n)/\w'.cell? ⟨W0.heap.size,4,none⟩=some (.bool h.a.fr)/\w'.cell? ⟨W0.heap.size,5,none⟩=some (.bool h.a.fc)/\Z w')
   (first|exact bz.out _ cv|exact bz.out _ (f7.out _ _ cv zB.drew)|exact bz.out _ hb|assumption)
   (first
    |(go_at_call 40;(with_reducible refine(CQ.out _ ?hz).mono ?_);(case hz=>(first|assumption |(go_split_ands;assumption)));rintro e wx ⟨rfl,hb⟩))
  all_goals go_wp2_with fail
  all_goals go_meet
  all_goals refine⟨rfl,rfl,zh ?_⟩
  all_goals first|assumption |(go_split_ands;assumption)
 case rest=>
 clear p0 p1 r0 r1 r2 r3 r4 r5 cv CQ dv;obtain⟨rfl,rfl,nf⟩:=hcut;obtain⟨W6,ja⟩:=zD wc
 subst ja;have ab:=ab.out;have hb2:=hb2.out;subst ab hb2;have hws:=((fg.out _).1 nf.out).1;have HK:=zh ((fg.out _).1 nf.out).2.1;have jn:=zh ((fg.out _).1 nf.out).2.2.1;have gx:=zh ((fg.out _).1 nf.out).2.2.2;have dz:=zh hws;obtain⟨v0,ed,jb⟩:=hws.box;obtain⟨A1,c1,rfl⟩:=aY jb;have cm:=zh ed;have gm:=zh jb;have bq:Hid (∀ W,Below W6.heap.size W6 W->W.cell? ⟨p,3,none⟩=some (.func (.func sff) #[] sfx)/\W.cell? ⟨W0.heap.size,4,none⟩=some (.bool h.a.fr)/\W.cell? ⟨W0.heap.size,5,none⟩=some (.bool h.a.fc)):=zh (fun W hb=>⟨(cm.out.next hb).cell 3,(jn.out.next hb).cell 4,(jn.out.next hb).cell 5⟩);clear hws ed jb nf bz f7 fg;have pi:Hid (p<W0.heap.size):=nc;have pj:Hid (p<w.heap.size):=s5;have ju:Hid (∀ W,Below W6.heap.size W6 W->Kw p (rp.toList++cp.toList) w W):=zh (fun W hb=>HK.out.trans (Kw.of_below hb))
 go_upto_region 6 with fail
 refine wp_region_held_drew (S:=fun w'=>w'.cell? ⟨p,3,none⟩=some (.func (.func sff) #[] sfx)/\w'.cell? ⟨W0.heap.size,4,none⟩=some (.bool h.a.fr)/\w'.cell? ⟨W0.heap.size,5,none⟩=some (.bool h.a.fc)) (by kernel_rfl) (bq.out _ zB.drew) (fun af=>?_);refine TkA 0 (vP p 0) ?_;refine TkA 1 (vP p 0) ?_;refine TkA 2 (vP p 0) ?_;refine TkA 3 (vP p 4) ?_;refine TkA 5 (vP p 0) ?_;refine TkA 6 (vP p 0) ?_;refine TkA 7 (vP p 3) ?_;refine TkB 8 (.func (.func sff) #[] sfx) ?_;refine TkA 9 (vI x) ?_;refine TkA 10 (vI y) ?_;refine TkA 11 (vP W0.heap.size 4) ?_;refine TkB 12 (.bool h.a.fr) ?_;refine TkA 13 (vP W0.heap.size 5) ?_;refine TkB 14 (.bool h.a.fc) ?_
 refine TkA 15 (.agg #[vI x,vI y,.bool h.a.fr,.bool h.a.fc]) ?_;have ae:Hid (Below W6.heap.size W6 W6.drew):=zh zB.drew;refine wpAnyH_ready (rs:=[4,16]) (by kernel_rfl) (by simp) ?_;refine AllReadyH.cons rfl (fun K hK=>?pa1) (AllReadyH.cons rfl (fun K hK=>?pb1) AllReadyH.nil)
 case' pa1=>
  have c4:=(cm.out.next ae.out).cell 4;simp only[za,zb,zf]at c4
  go_simp
  clear c4;refine hK.out _ _ (bq.out _ ae.out) (fun aa=>?_);clear hK K af;have af:=aa;clear aa;refine TkR 16 (fun K hK=>?_)
  go_simp
  refine(CT.out _ (ju.out _ ae.out)).mono ?_;rintro e wx ⟨rfl,hb⟩;replace ae:=zT ae hb;clear hb
  go_wp2_with fail
  refine hK.out _ _ (bq.out _ ae.out) (fun aa=>?_);clear hK K af;have af:=aa;clear aa;refine TkR 17 (fun K hK=>?_)
  go_simp
  obtain⟨W7,au⟩:=zD (wx.alloc (.cells #[vI t1.kind,vT t1.text,vI t1.place] 64))
  rw[<- au];have jc:=zL au;replace ae:=zF ae au;clear au;refine hK.out _ _ (bq.out _ ae.out) (fun aa=>?_);clear hK K af;have af:=aa;clear aa
 case' pb1=>
  go_simp
  refine(CT.out _ (ju.out _ ae.out)).mono ?_;rintro e wx ⟨rfl,hb⟩;replace ae:=zT ae hb;clear hb
  go_wp2_with fail
  refine hK.out _ _ (bq.out _ ae.out) (fun aa=>?_);clear hK K af;have af:=aa;clear aa;refine wpAnyH_ready (rs:=[4,17]) (by kernel_rfl) (by simp) ?_;refine AllReadyH.cons rfl (fun K hK=>?pc1) (AllReadyH.cons rfl (fun K hK=>?pd1) AllReadyH.nil)
  case' pc1=>
   have c4:=(cm.out.next ae.out).cell 4;simp only[za,zb,zf]at c4
   go_simp
   clear c4;refine hK.out _ _ (bq.out _ ae.out) (fun aa=>?_);clear hK K af;have af:=aa;clear aa;refine TkR 17 (fun K hK=>?_)
   go_simp
   obtain⟨W7,au⟩:=zD (wx.alloc (.cells #[vI t1.kind,vT t1.text,vI t1.place] 64))
   rw[<- au];have jc:=zL au;replace ae:=zF ae au;clear au;refine hK.out _ _ (bq.out _ ae.out) (fun aa=>?_);clear hK K af;have af:=aa;clear aa
  case' pd1=>
   go_simp
   obtain⟨W7,au⟩:=zD (wx.alloc (.cells #[vI t1.kind,vT t1.text,vI t1.place] 64))
   rw[<- au];have jc:=zL au;replace ae:=zF ae au;clear au;refine hK.out _ _ (bq.out _ ae.out) (fun aa=>?_);clear hK K af;have af:=aa;clear aa;refine TkR 4 (fun K hK=>?_);have c4:=(cm.out.next ae.out).cell 4;simp only[za,zb,zf]at c4
   go_simp
   clear c4;refine hK.out _ _ (bq.out _ ae.out) (fun aa=>?_);clear hK K af;have af:=aa;clear aa
 all_goals
  refine TkR 18 (fun K hK=>?_);refine bW rfl _ _ rfl (p+1) (.slice A1 ts.length c1) ts t1 wx.heap.size rfl (aL ae.out gm.out) rfl jc.out (by omega) (yv (Nat.succ_le_of_lt dz.out.lt) ae.out.size) ?_;intro A5 c5 w5 k5 g5;have nt:=zh k5;have nu:=zh g5;have di:=zh ((cm.out.next ae.out).grownA g5 (aX (by decide) (aL ae.out gm.out) (cm.out.next ae.out)));have pm:=zh ((jn.out.next ae.out).grownA g5 (aX (by decide) (aL ae.out gm.out) (jn.out.next ae.out)));have HLn5:=zh ((gx.out.next ae.out).grownA g5 (aX (by decide) (aL ae.out gm.out) (gx.out.next ae.out)));clear k5 g5;refine hK.out _ _ ⟨di.out.cell 3,pm.out.cell 4,pm.out.cell 5⟩ (fun aa=>?_);clear hK K af;have af:=aa;clear aa;refine TkA 19 (vP p 0) ?_;refine TkA 20 (vP p 4) ?_;have k4:=di.out.cell 4
  simp only[za,zb,zf]at k4;have k4f:=di.out.frozen 4;refine TkR 21 (fun K hK=>?_)
  go_simp
  clear k4 k4f;have ll:=zh ((dz.out.next ae.out).grown (ts':=ts++[t1]) ((cm.out.next ae.out).cell 4) nt.out nu.out);have pn:=zh ((HK.out.trans (Kw.of_below ae.out)).trans ll.out.2);have j7:=zh ll.out.1;have s6:=zh (aB pm.out (b:=p) (by have:=pi.out;omega) 4 (.slice A5 (ts.length+1) c5));have HLn7:=zh (aB HLn5.out (b:=p) (by have:=pj.out;omega) 4 (.slice A5 (ts.length+1) c5));have mh:=zh (di.out.put 4 (.slice A5 (ts.length+1) c5));refine hK.out _ _ ⟨mh.out.cell 3,s6.out.cell 4,s6.out.cell 5⟩ (fun aa=>?_);clear hK K af aa;refine TkD ?_
  (try simp only[Act.put,yz])
  have n0:=HLn7.out.cell 0;rw[eh.out]at n0
  go_wp2_with fail
  go_end0
  exact⟨rfl,j7.out,pn.out⟩
theorem yS{p m:Nat}{rp cp:Option Nat}{R C:AxV}{sff:FuncId}{sfx:Array Value}{ts:List RTok}(h:NodeH)(A:Option Addr)(n ca:Nat)(Cn:List Value)(w:World)(ai:Hid (Cn.toArray=aH h A n ca))(hw:WrS w p m rp cp R C (.func (.func sff) #[] sfx) ts)(hn:ts.length<=700000)(x y:Int)(bx by':Bool)
  (hP:∀ W,WrS W p m rp cp R C (.func (.func sff) #[] sfx) ts->Calls Tryz.prog 40 #[.pointer (ptr rp),.agg #[vI h.a.row.a,vI h.a.row.n]] W fun e w'=>e=.returned (.tuple #[vI x,.bool bx])/\WrS w' p m rp cp R C (.func (.func sff) #[] sfx) ts/\Kw p (rp.toList++cp.toList) W w')
  (hQ:∀ W,WrS W p m rp cp R C (.func (.func sff) #[] sfx) ts->Calls Tryz.prog 40 #[.pointer (ptr cp),.agg #[vI h.a.col.a,vI h.a.col.n]] W fun e w'=>e=.returned (.tuple #[vI y,.bool by'])/\WrS w' p m rp cp R C (.func (.func sff) #[] sfx) ts/\Kw p (rp.toList++cp.toList) W w') (hF:∀ xs W,Sem.run Tryz.prog (callFunc sff xs) W=.ok (.enter sff xs) W) (t1:RTok) (ab:Hid (bx=true)) (hb2:Hid (by'=true)) (hT:∀ W,Kw p (rp.toList++cp.toList) w W->Calls Tryz.prog sff (#[.agg #[vI x,vI y,.bool h.a.fr,.bool h.a.fc],vI 0]++sfx) W fun e w'=>e=.returned (dS t1)/\Below W.heap.size W w') (hk:h.kind=3) :
  Calls Tryz.prog 138 #[vP p 0,.agg Cn.toArray] w fun e w'=>WrO p m rp cp R C (.func (.func sff) #[] sfx) (ts++[t1]++[tk 5 [35]]) w e w':=by
 obtain⟨W0,W1,Z,ak,al,fg,uo,f7,bz,ot,s5,nc⟩:=oL ai hw;have hZ:=fg.out;have CP:=zh (fun W (g:Z W)=>fF fg hP W g);have CQ:=zh (fun W (g:Z W)=>fF fg hQ W g);have CT:=zh hT;have eh:Hid (Cn.toArray[0]?=some (vI 3)):=zh (by rw[ai.out];simp[aH,hk]);clear hT hk;obtain⟨t2,r9⟩:∃ x,x=tk 5 [35]:=⟨_,rfl⟩
 have CPs:=zh (bQ (p:=p) (m:=m) (rp:=rp) (cp:=cp) (R:=R) (C:=C) (sf:=.func (.func sff) #[] sfx) 5 [35] #[35] rfl t2 r9);rw[<- r9];clear r9;clear hw hP hQ hZ ai;obtain⟨d8,d9,d10,d11,d12,d13⟩:=ot.out
 go_in
 go_upto_region 1 with fail
 rw[<- ak.out];clear ak
 go_upto_region 2 with fail
 rw[<- al.out];clear al d8 d9 d10 d11 d12 d13 ot;obtain⟨p0,p1,r0,r1,r2,r3,r4,r5,cv⟩:=bz.out _ uo.out
 go_cut [5,6] (fun va vb wx=>va=vI x/\vb=.bool bx/\Hid (Z wx))
 case first=>
  go_region_held3 (fun w'=>w'.cell? ⟨p,0,none⟩=some (.pointer (ptr rp))/\w'.cell? ⟨p,1,none⟩=some (.pointer (ptr cp))/\w'.cell? ⟨W0.heap.size,0,none⟩=some (vI h.a.row.a)/\w'.cell? ⟨W0.heap.size,1,none⟩=some (vI h.a.row.n)/\w'.cell? ⟨W0.heap.size,2,none⟩=some (vI h.a.col.a)/\w'.cell? ⟨W0.heap.size,3,none⟩=some (vI h.a.col.n)/\w'.cell? ⟨W0.heap.size,4,none⟩=some (.bool h.a.fr)/\w'.cell? ⟨W0.heap.size,5,none⟩=some (.bool h.a.fc)/\Z w')
   (first|exact bz.out _ cv|exact bz.out _ (f7.out _ _ cv zB.drew)|exact bz.out _ hb|assumption)
   (first
    |(go_at_call 40;(with_reducible refine(CP.out _ ?hz).mono ?_);(case hz=>(first|assumption |(go_split_ands;assumption)));rintro e wx ⟨rfl,hb⟩))
  all_goals go_wp2_with fail
  all_goals go_meet
  all_goals refine⟨rfl,rfl,zh ?_⟩
  all_goals first|assumption |(go_split_ands;assumption)
 case rest=>
 clear p0 p1 r0 r1 r2 r3 r4 r5 cv CP uo;obtain⟨rfl,rfl,dv⟩:=hcut;obtain⟨W5,dr⟩:=zD wc
 subst dr;obtain⟨p0,p1,r0,r1,r2,r3,r4,r5,cv⟩:=bz.out _ dv.out
 go_upto_region 3 with fail
 go_cut [7,8] (fun va vb wx=>va=vI y/\vb=.bool by'/\Hid (Z wx))
 case first=>
  go_region_held3 (fun w'=>w'.cell? ⟨p,0,none⟩=some (.pointer (ptr rp))/\w'.cell? ⟨p,1,none⟩=some (.pointer (ptr cp))/\w'.cell? ⟨W0.heap.size,0,none⟩=some (vI h.a.row.a)/\w'.cell? ⟨W0.heap.size,1,none⟩=some (vI h.a.row.n)/\w'.cell? ⟨W0.heap.size,2,none⟩=some (vI h.a.col.a)/\w'.cell? ⟨W0.heap.size,3,none⟩=some (vI h.a.col.n)/\w'.cell? ⟨W0.heap.size,4,none⟩=some (.bool h.a.fr)/\w'.cell? ⟨W0.heap.size,5,none⟩=some (.bool h.a.fc)/\Z w')
   (first|exact bz.out _ cv|exact bz.out _ (f7.out _ _ cv zB.drew)|exact bz.out _ hb|assumption)
   (first
    |(go_at_call 40;(with_reducible refine(CQ.out _ ?hz).mono ?_);(case hz=>(first|assumption |(go_split_ands;assumption)));rintro e wx ⟨rfl,hb⟩))
  all_goals go_wp2_with fail
  all_goals go_meet
  all_goals refine⟨rfl,rfl,zh ?_⟩
  all_goals first|assumption |(go_split_ands;assumption)
 case rest=>
 clear p0 p1 r0 r1 r2 r3 r4 r5 cv CQ dv;obtain⟨rfl,rfl,nf⟩:=hcut;obtain⟨W6,ja⟩:=zD wc
 subst ja;have ab:=ab.out;have hb2:=hb2.out;subst ab hb2;have hws:=((fg.out _).1 nf.out).1;have HK:=zh ((fg.out _).1 nf.out).2.1;have jn:=zh ((fg.out _).1 nf.out).2.2.1;have gx:=zh ((fg.out _).1 nf.out).2.2.2;have dz:=zh hws;obtain⟨v0,ed,jb⟩:=hws.box;obtain⟨A1,c1,rfl⟩:=aY jb;have cm:=zh ed;have gm:=zh jb;have bq:Hid (∀ W,Below W6.heap.size W6 W->W.cell? ⟨p,3,none⟩=some (.func (.func sff) #[] sfx)/\W.cell? ⟨W0.heap.size,4,none⟩=some (.bool h.a.fr)/\W.cell? ⟨W0.heap.size,5,none⟩=some (.bool h.a.fc)):=zh (fun W hb=>⟨(cm.out.next hb).cell 3,(jn.out.next hb).cell 4,(jn.out.next hb).cell 5⟩);clear hws ed jb nf bz f7 fg;have pi:Hid (p<W0.heap.size):=nc;have pj:Hid (p<w.heap.size):=s5;have ju:Hid (∀ W,Below W6.heap.size W6 W->Kw p (rp.toList++cp.toList) w W):=zh (fun W hb=>HK.out.trans (Kw.of_below hb))
 go_upto_region 6 with fail
 refine wp_region_held_drew (S:=fun w'=>w'.cell? ⟨p,3,none⟩=some (.func (.func sff) #[] sfx)/\w'.cell? ⟨W0.heap.size,4,none⟩=some (.bool h.a.fr)/\w'.cell? ⟨W0.heap.size,5,none⟩=some (.bool h.a.fc)) (by kernel_rfl) (bq.out _ zB.drew) (fun af=>?_);refine TkA 0 (vP p 0) ?_;refine TkA 1 (vP p 0) ?_;refine TkA 2 (vP p 0) ?_;refine TkA 3 (vP p 4) ?_;refine TkA 5 (vP p 0) ?_;refine TkA 6 (vP p 0) ?_;refine TkA 7 (vP p 3) ?_;refine TkB 8 (.func (.func sff) #[] sfx) ?_;refine TkA 9 (vI x) ?_;refine TkA 10 (vI y) ?_;refine TkA 11 (vP W0.heap.size 4) ?_;refine TkB 12 (.bool h.a.fr) ?_;refine TkA 13 (vP W0.heap.size 5) ?_;refine TkB 14 (.bool h.a.fc) ?_
 refine TkA 15 (.agg #[vI x,vI y,.bool h.a.fr,.bool h.a.fc]) ?_;have ae:Hid (Below W6.heap.size W6 W6.drew):=zh zB.drew;refine wpAnyH_ready (rs:=[4,16]) (by kernel_rfl) (by simp) ?_;refine AllReadyH.cons rfl (fun K hK=>?pa2) (AllReadyH.cons rfl (fun K hK=>?pb2) AllReadyH.nil)
 case' pa2=>
  have c4:=(cm.out.next ae.out).cell 4;simp only[za,zb,zf]at c4
  go_simp
  clear c4;refine hK.out _ _ (bq.out _ ae.out) (fun aa=>?_);clear hK K af;have af:=aa;clear aa;refine TkR 16 (fun K hK=>?_)
  go_simp
  refine(CT.out _ (ju.out _ ae.out)).mono ?_;rintro e wx ⟨rfl,hb⟩;replace ae:=zT ae hb;clear hb
  go_wp2_with fail
  refine hK.out _ _ (bq.out _ ae.out) (fun aa=>?_);clear hK K af;have af:=aa;clear aa;refine TkR 17 (fun K hK=>?_)
  go_simp
  obtain⟨W7,au⟩:=zD (wx.alloc (.cells #[vI t1.kind,vT t1.text,vI t1.place] 64))
  rw[<- au];have jc:=zL au;replace ae:=zF ae au;clear au;refine hK.out _ _ (bq.out _ ae.out) (fun aa=>?_);clear hK K af;have af:=aa;clear aa
 case' pb2=>
  go_simp
  refine(CT.out _ (ju.out _ ae.out)).mono ?_;rintro e wx ⟨rfl,hb⟩;replace ae:=zT ae hb;clear hb
  go_wp2_with fail
  refine hK.out _ _ (bq.out _ ae.out) (fun aa=>?_);clear hK K af;have af:=aa;clear aa;refine wpAnyH_ready (rs:=[4,17]) (by kernel_rfl) (by simp) ?_;refine AllReadyH.cons rfl (fun K hK=>?pc2) (AllReadyH.cons rfl (fun K hK=>?pd2) AllReadyH.nil)
  case' pc2=>
   have c4:=(cm.out.next ae.out).cell 4;simp only[za,zb,zf]at c4
   go_simp
   clear c4;refine hK.out _ _ (bq.out _ ae.out) (fun aa=>?_);clear hK K af;have af:=aa;clear aa;refine TkR 17 (fun K hK=>?_)
   go_simp
   obtain⟨W7,au⟩:=zD (wx.alloc (.cells #[vI t1.kind,vT t1.text,vI t1.place] 64))
   rw[<- au];have jc:=zL au;replace ae:=zF ae au;clear au;refine hK.out _ _ (bq.out _ ae.out) (fun aa=>?_);clear hK K af;have af:=aa;clear aa
  case' pd2=>
   go_simp
   obtain⟨W7,au⟩:=zD (wx.alloc (.cells #[vI t1.kind,vT t1.text,vI t1.place] 64))
   rw[<- au];have jc:=zL au;replace ae:=zF ae au;clear au;refine hK.out _ _ (bq.out _ ae.out) (fun aa=>?_);clear hK K af;have af:=aa;clear aa;refine TkR 4 (fun K hK=>?_);have c4:=(cm.out.next ae.out).cell 4;simp only[za,zb,zf]at c4
   go_simp
   clear c4;refine hK.out _ _ (bq.out _ ae.out) (fun aa=>?_);clear hK K af;have af:=aa;clear aa
 all_goals
  refine TkR 18 (fun K hK=>?_);refine bW rfl _ _ rfl (p+1) (.slice A1 ts.length c1) ts t1 wx.heap.size rfl (aL ae.out gm.out) rfl jc.out (by omega) (yv (Nat.succ_le_of_lt dz.out.lt) ae.out.size) ?_;intro A5 c5 w5 k5 g5;have nt:=zh k5;have nu:=zh g5;have di:=zh ((cm.out.next ae.out).grownA g5 (aX (by decide) (aL ae.out gm.out) (cm.out.next ae.out)));have pm:=zh ((jn.out.next ae.out).grownA g5 (aX (by decide) (aL ae.out gm.out) (jn.out.next ae.out)));have HLn5:=zh ((gx.out.next ae.out).grownA g5 (aX (by decide) (aL ae.out gm.out) (gx.out.next ae.out)));clear k5 g5;refine hK.out _ _ ⟨di.out.cell 3,pm.out.cell 4,pm.out.cell 5⟩ (fun aa=>?_);clear hK K af;have af:=aa;clear aa;refine TkA 19 (vP p 0) ?_;refine TkA 20 (vP p 4) ?_;have k4:=di.out.cell 4
  simp only[za,zb,zf]at k4;have k4f:=di.out.frozen 4;refine TkR 21 (fun K hK=>?_)
  go_simp
  clear k4 k4f;have ll:=zh ((dz.out.next ae.out).grown (ts':=ts++[t1]) ((cm.out.next ae.out).cell 4) nt.out nu.out);have pn:=zh ((HK.out.trans (Kw.of_below ae.out)).trans ll.out.2);have j7:=zh ll.out.1;have s6:=zh (aB pm.out (b:=p) (by have:=pi.out;omega) 4 (.slice A5 (ts.length+1) c5));have HLn7:=zh (aB HLn5.out (b:=p) (by have:=pj.out;omega) 4 (.slice A5 (ts.length+1) c5));have mh:=zh (di.out.put 4 (.slice A5 (ts.length+1) c5));refine hK.out _ _ ⟨mh.out.cell 3,s6.out.cell 4,s6.out.cell 5⟩ (fun aa=>?_);clear hK K af aa;refine TkD ?_
  (try simp only[Act.put,yz])
  have n0:=HLn7.out.cell 0;rw[eh.out]at n0
  go_wp2_with ((with_reducible refine(CPs.out _ _ j7.out (by simp;omega)).mono ?_);rintro e wy ⟨rfl,hs,hk⟩;have vq:=zh hs;have HK8:=zh (pn.out.trans hk);clear hs hk)
  go_end0
  exact⟨rfl,vq.out,HK8.out⟩
def endsV:Option (Int×Int)->Value
 |none=>.tuple #[vI 0,vI 0,.bool false]
 |some (a,b)=>.tuple #[vI a,vI b,.bool true]
theorem iR{ids:List IdR}{fl:List Bool}(he:ids.length=fl.length){x y z:IdR}(hz:z∈aP (some (ids,fl)) x y):z∈ids/\x∈ids/\y∈ids:=by
 have hx:x∈ids:=Classical.byContradiction (fun h=>by rw[lN (.inl h)]at hz;cases hz);have hy:y∈ids:=Classical.byContradiction (fun h=>by rw[lN (.inr h)]at hz;cases hz);refine⟨?_,hx,hy⟩;unfold aP at hz;dsimp only at hz
 split at hz
 ·cases hz
 exact cX _ _ _ (uD he _ _ z hz)
theorem uFX(p:Option Nat)(A:AxV)(x y:IdR)(w:World)(hA:AxF w p A)(hx:x.fits)(hy:y.fits)(hz:(aP A x y).length=0) :
  Calls Tryz.prog 194 #[.pointer (ptr p),idV x,idV y] w fun e w'=>e=.returned (.tuple #[vI 0,vI 0,.bool false])/\AxF w' p A/\Kp p.toList w w':=by
 obtain⟨W0,aj⟩:∃ W0,W0=(w.alloc (.cells #[vI x.a,vI x.n] 27)).alloc (.cells #[vI y.a,vI y.n] 27):=⟨_,rfl⟩
 have ak:=zh aj;have aq:Hid (Below w.heap.size w W0):=zh (by rw[aj];exact((Below.refl _ w).alloc zr _).alloc (by rw[World.size_alloc];omega) _);have L0:Hid (Lies W0 w.heap.size 27 #[vI x.a,vI x.n]):=zh (by rw[aj];exact(Lies.new w _ _).alloc _);have L1:Hid (Lies W0 (w.heap.size+1) 27 #[vI y.a,vI y.n]):=zh (by
  rw[aj];have h:=Lies.new (w.alloc (.cells #[vI x.a,vI x.n] 27)) 27 #[vI y.a,vI y.n];rw[World.size_alloc]at h;exact h)
 have CB:=zh (jN p A x y W0 (hA.next aq.out) hx hy);clear aj hA hx hy;obtain⟨x0,x1⟩:W0.cell? ⟨w.heap.size,0,none⟩=some (vI x.a)/\W0.cell? ⟨w.heap.size,1,none⟩=some (vI x.n):=⟨L0.out.cell 0,L0.out.cell 1⟩
 obtain⟨y0,y1⟩:W0.cell? ⟨w.heap.size+1,0,none⟩=some (vI y.a)/\W0.cell? ⟨w.heap.size+1,1,none⟩=some (vI y.n):=⟨L1.out.cell 0,L1.out.cell 1⟩
 go_in
 go_upto_region 1 with fail
 rw[<- ak.out];clear ak
 go_wp2_with fail
 refine CB.out.mono ?_;rintro e W2 ⟨B,c,rfl,-,hF,hk⟩;clear CB x0 x1 y0 y1;have mj:=zh hF;have fj:Hid (Kp p.toList w W2):=zh ((Kp.of_below aq.out).trans hk);rw[hz];clear hF hk hz
 go_wp2_with fail
 go_ret3
 exact⟨rfl,mj.out,fj.out⟩
theorem uCC(b:Nat)(ids:List IdR)(fl:List Bool)(x y z u:IdR)(m n1 n2:Nat)(w:World)(hA:AxF w (some b) (some (ids,fl)))(hx:x.fits)(hy:y.fits)(hm:(aP (some (ids,fl)) x y).length=m+1)
  (hz:(aP (some (ids,fl)) x y)[0]?=some z) (hu:(aP (some (ids,fl)) x y)[m]?=some u) (h1:aF (some (ids,fl)) z=(n1:Int)) (h2:aF (some (ids,fl)) u=(n2:Int)) (bh:Bool) (hb:gC (some (ids,fl)) x y=bh) :
  Calls Tryz.prog 194 #[.pointer (ptr (some b)),idV x,idV y] w fun e w'=>e=.returned (.tuple #[vI (if bh then (n2:Int) else n1),vI (if bh then (n1:Int) else n2),.bool true])/\AxF w' (some b) (some (ids,fl))/\Kp [b] w w':=by
 obtain⟨W0,aj⟩:∃ W0,W0=(w.alloc (.cells #[vI x.a,vI x.n] 27)).alloc (.cells #[vI y.a,vI y.n] 27):=⟨_,rfl⟩
 have ak:=zh aj;have aq:Hid (Below w.heap.size w W0):=zh (by rw[aj];exact((Below.refl _ w).alloc zr _).alloc (by rw[World.size_alloc];omega) _);have L0:Hid (Lies W0 w.heap.size 27 #[vI x.a,vI x.n]):=zh (by rw[aj];exact(Lies.new w _ _).alloc _);have L1:Hid (Lies W0 (w.heap.size+1) 27 #[vI y.a,vI y.n]):=zh (by
  rw[aj];have h:=Lies.new (w.alloc (.cells #[vI x.a,vI x.n] 27)) 27 #[vI y.a,vI y.n];rw[World.size_alloc]at h;exact h)
 have hbw:b<w.heap.size:=by
  obtain⟨_,_,_,_,_,_,_,_,h⟩:=hA.lists;exact h
 have hmz:=List.mem_of_getElem? hz;have hmu:=List.mem_of_getElem? hu;have hfz:z.fits:=hA.2.2.1 z (iR hA.1 hmz).1;have hfu:u.fits:=hA.2.2.1 u (iR hA.1 hmu).1;have hm300:m+1<=300:=by
  have e:(aP (some (ids,fl)) x y).length<=ids.length:=by
   unfold aP;dsimp only
   split
   ·simp
   refine yv (dO _ _) ?_;rw[zc,yk];omega
  have:=hA.2.1;omega
 have CB:=zh (jN (some b) (some (ids,fl)) x y W0 (hA.next aq.out) hx hy);have CZ:Hid (∀ W,AxF W (some b) (some (ids,fl))->Calls Tryz.prog 40 #[.pointer (ptr (some b)),.agg #[vI z.a,vI z.n]] W fun e w'=>e=.returned (.tuple #[vI (n1:Int),.bool true])/\AxF w' (some b) (some (ids,fl))/\Kp [b] W w'):=zh (fun W h=>(dV (some b) (some (ids,fl)) z W h hfz).mono (by
  rintro e w' ⟨rfl,k1,k2⟩;refine⟨?_,k1,k2⟩;unfold rV;rw[h1,if_neg (by omega),decide_eq_true (by omega)]))
 have CU:Hid (∀ W,AxF W (some b) (some (ids,fl))->Calls Tryz.prog 40 #[.pointer (ptr (some b)),.agg #[vI u.a,vI u.n]] W fun e w'=>e=.returned (.tuple #[vI (n2:Int),.bool true])/\AxF w' (some b) (some (ids,fl))/\Kp [b] W w'):=zh (fun W h=>(dV (some b) (some (ids,fl)) u W h hfu).mono (by
  rintro e w' ⟨rfl,k1,k2⟩;refine⟨?_,k1,k2⟩;unfold rV;rw[h2,if_neg (by omega),decide_eq_true (by omega)]))
 have CH:Hid (∀ W,AxF W (some b) (some (ids,fl))->Calls Tryz.prog 228 #[.pointer (ptr (some b)),.agg #[vI x.a,vI x.n],.agg #[vI y.a,vI y.n]] W fun e w'=>e=.returned (.bool bh)/\Below W.heap.size W w'):=zh (fun W h=>by
  rw[<- hb];exact vO b ids fl x y W h (iR hA.1 hmz).2.1 (iR hA.1 hmz).2.2)
 have HNb:Hid (∀ k,w.heap.size<=k->k∉[b]):=zh (fun k hk hm=>by rw[yf.1 hm]at hk;omega);obtain⟨L,hL⟩:=zD (aP (some (ids,fl)) x y)
 rw[<- hL]at CB hm hz hu;have HLm:=zh (And.intro hm (And.intro hz hu));have hmi:(m:Int)+1<=300:=by omega
 clear aj hA hx hy hmz hmu hfz hfu hm300 hm hz hu h1 h2 hb hL hbw;obtain⟨x0,x1⟩:W0.cell? ⟨w.heap.size,0,none⟩=some (vI x.a)/\W0.cell? ⟨w.heap.size,1,none⟩=some (vI x.n):=⟨L0.out.cell 0,L0.out.cell 1⟩
 obtain⟨y0,y1⟩:W0.cell? ⟨w.heap.size+1,0,none⟩=some (vI y.a)/\W0.cell? ⟨w.heap.size+1,1,none⟩=some (vI y.n):=⟨L1.out.cell 0,L1.out.cell 1⟩
 go_in
 go_upto_region 1 with fail
 rw[<- ak.out];clear ak
 go_wp2_with fail
 refine CB.out.mono ?_;rintro e W2 ⟨B,c,rfl,ho,hF,hk⟩;clear CB x0 x1 y0 y1;have mj:=zh hF;have fj:Hid (Kp [b] w W2):=zh ((Kp.of_below aq.out).trans hk);have sd:Hid (Lies W2 w.heap.size 27 #[vI x.a,vI x.n]):=zh (hk.lies L0.out (HNb.out _ zr));have HY2:Hid (Lies W2 (w.heap.size+1) 27 #[vI y.a,vI y.n]):=zh (hk.lies L1.out (HNb.out _ (Nat.le_succ _)));obtain⟨hm,hz,hu⟩:=HLm.out;rw[hm]at ho ⊢;obtain⟨g,cp,q1,iy,li,bp⟩:=fI ho (by omega);injection q1 with q1 _ q2;subst q1 q2;obtain⟨m6,ix⟩:=List.getElem?_eq_some_iff.1 hz;obtain⟨hu0,hu1⟩:=List.getElem?_eq_some_iff.1 hu;have k0:=fP L 0 m6;have km:=fP L m hu0;rw[ix]at k0;rw[hu1]at km
 have HRw:Hid (∀ W,Kp [b] W2 W->W.cell? ⟨g,0,none⟩=some (vI z.a)/\W.cell? ⟨g,1,none⟩=some (vI z.n)/\W.cell? ⟨g,m*2,none⟩=some (vI u.a)/\W.cell? ⟨g,m*2+1,none⟩=some (vI u.n)):=zh (fun W ft=>by
  have mu:=HNb.out g (yv aq.out.size iy);refine⟨(ft.cell li mu).trans (bp _ _ k0.1),(ft.cell li mu).trans (bp _ _ k0.2),(ft.cell li mu).trans (bp _ _ km.1),(ft.cell li mu).trans (bp _ _ km.2)⟩)
 obtain⟨c0,c1,-,-⟩:=HRw.out W2 (Kp.refl _ _);clear ho hF hk hm hz hu iy li bp m6 ix hu0 hu1 k0 km L0 L1;have hmn:(0:Int)<(m:Int)+1:=by omega
 have ra:Hid (∀ W,Kp [b] W2 W->W.cell? ⟨w.heap.size,0,none⟩=some (vI x.a)/\W.cell? ⟨w.heap.size,1,none⟩=some (vI x.n)/\W.cell? ⟨w.heap.size+1,0,none⟩=some (vI y.a)/\W.cell? ⟨w.heap.size+1,1,none⟩=some (vI y.n)):=zh (fun W hk=>by
  have e1:=hk.lies sd.out (HNb.out _ zr);have e2:=hk.lies HY2.out (HNb.out _ (Nat.le_succ _));exact⟨e1.cell 0,e1.cell 1,e2.cell 0,e2.cell 1⟩)
 clear sd HY2;cases bh
 all_goals
  go_wp2_with (first
   |((with_reducible refine(CZ.out _ mj.out).mono ?_);rintro e W3 ⟨rfl,hF,hk⟩;have HF3:=zh hF;have m9:=zh hk;clear hF hk c0 c1 mj;obtain⟨-,-,c2,c3⟩:=HRw.out W3 m9.out)
   |((with_reducible refine(CU.out _ HF3.out).mono ?_);rintro e W4 ⟨rfl,hF,hk⟩;have HF4:=zh hF;have fv:=zh (m9.out.trans hk);clear hF hk c2 c3 HF3;obtain⟨x0,x1,y0,y1⟩:=ra.out W4 fv.out)
   |((with_reducible refine(CH.out _ HF4.out).mono ?_);rintro e W5 ⟨rfl,hb⟩;have HF5:=zh (HF4.out.next hb);have kw:=zh (fv.out.trans (Kp.of_below hb));clear hb))
  go_ret3
  exact⟨rfl,HF5.out,fj.out.trans kw.out⟩
theorem uY(p:Option Nat)(A:AxV)(x y:IdR)(w:World)(hA:AxF w p A)(hx:x.fits)(hy:y.fits) :
  Calls Tryz.prog 194 #[.pointer (ptr p),idV x,idV y] w fun e w'=>e=.returned (endsV (dJ A x y))/\AxF w' p A/\Kp p.toList w w':=by
 rcases Nat.eq_zero_or_pos (aP A x y).length with hz|hz
 ·rw[qI (List.eq_nil_of_length_eq_zero hz)];exact uFX p A x y w hA hx hy hz
 match p,A,hA,hz with
 |none,none,_,hz=>exact absurd hz (by show ¬ 0<([]:List IdR).length;simp)
 |some b,some (ids,fl),hA,hz=>
  obtain⟨m,hm⟩:∃ m,(aP (some (ids,fl)) x y).length=m+1:=⟨(aP (some (ids,fl)) x y).length-1,by omega⟩
  have hp:=uH hA.av x y;obtain⟨n1,k1,e1⟩:=hp _ (List.getElem_mem (by omega:0<(aP (some (ids,fl)) x y).length));obtain⟨n2,k2,e2⟩:=hp _ (List.getElem_mem (by omega:m<(aP (some (ids,fl)) x y).length));have hav:=oM m _ _ hm (List.getElem?_eq_getElem (by omega)) (List.getElem?_eq_getElem (by omega));rw[e1,e2]at hav;refine(uCC b ids fl x y _ _ m n1 n2 w hA hx hy hm (List.getElem?_eq_getElem (by omega)) (List.getElem?_eq_getElem (by omega)) e1 e2 _ rfl).mono ?_;rintro e w' ⟨rfl,h2,h3⟩;refine⟨?_,h2,h3⟩;rw[hav];cases gC (some (ids,fl)) x y <;> rfl
end Go.Proofs.YtjfihpaeglpblaaGreatDoor
