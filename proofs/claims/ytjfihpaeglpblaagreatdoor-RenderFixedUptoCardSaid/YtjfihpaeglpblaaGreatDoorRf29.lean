/-
  Lemmas, part 29: WxE.
-/
import Derived.Test.YtjfihpaeglpblaaGreatDoorRf28
set_option maxHeartbeats 100000000
set_option maxRecDepth 1000000
namespace Go.Proofs.YtjfihpaeglpblaaGreatDoor
open Go.RowKit
theorem tK{p m:Nat}{rp cp:Option Nat}{R C:AxV}{sff:FuncId}{sfx:Array Value}{ts:List RTok}(h:NodeH)(w:World)(hw:WrS w p m rp cp R C (.func (.func sff) #[] sfx) ts)(hn:ts.length<=700000)(hr:Hid (h.a.row≠id0))(hc:Hid (h.a.col=id0))(hE0:∀ W,WrS W p m rp cp R C (.func (.func sff) #[] sfx) ts->Calls Tryz.prog 194 #[.pointer (ptr rp),.agg #[vI h.a.row.a,vI h.a.row.n],.agg #[vI h.b.row.a,vI h.b.row.n]] W fun e w'=>e=.returned (.tuple #[vI 0,vI 0,.bool false])/\WrS w' p m rp cp R C (.func (.func sff) #[] sfx) ts/\Kw p (rp.toList++cp.toList) W w') :
  Calls Tryz.prog 139 #[vP p 0,.agg #[vI h.a.row.a,vI h.a.row.n,vI h.a.col.a,vI h.a.col.n,.bool h.a.fr,.bool h.a.fc,vI h.b.row.a,vI h.b.row.n,vI h.b.col.a,vI h.b.col.n,.bool h.b.fr,.bool h.b.fc]] w fun e w'=>WrO p m rp cp R C (.func (.func sff) #[] sfx) (ts++eK) w e w':=by
 obtain⟨W0,W1,W2,Z,ak,al,jo,fg,cq,f7,HA,ng,nh,rn,jv,jw,jx,jy,dj,dm,ro,rq,oj,oz,o3,m4,ma⟩:=fZ h w hw;have hZ:=fg.out;have CE0:Hid (∀ x y u v W,Z x y u v W->Calls Tryz.prog 194 #[.pointer (ptr rp),.agg #[vI h.a.row.a,vI h.a.row.n],.agg #[vI h.b.row.a,vI h.b.row.n]] W fun e w'=>e=.returned (.tuple #[vI 0,vI 0,.bool false])/\Z x y u v w'):=zh (fun x y u v W g=>by
  obtain⟨g1,g2,g3,g4,g5⟩:=(hZ _ _ _ _ _).1 g;refine(hE0 W g1).mono ?_;rintro e w' ⟨rfl,k1,k2⟩;exact⟨rfl,(hZ _ _ _ _ _).2 ⟨k1,g2.trans k2,Kw.lies k2 g1 g3 (by decide) (by decide) (by decide),Kw.lies k2 g1 g4 (by decide) (by decide) (by decide),Kw.lies k2 g1 g5 (by decide) (by decide) (by decide)⟩⟩)
 have CG:Hid (∀ x y u v W,Z x y u v W->Calls Tryz.prog 193 #[vP p 0] W fun e w'=>WrO p m rp cp R C (.func (.func sff) #[] sfx) (ts++eK) W e w'):=zh (fun x y u v W g=>kT W ((hZ _ _ _ _ _).1 g).1 (by omega));clear hw hZ
 go_in
 go_upto_region 1 with fail
 rw[<- ak.out];clear ak;obtain⟨-,a4,a5,a10,a11⟩:=m4.out
 go_upto_region 3 with fail
 rw[<- al.out];clear al m4 a4 a5 a10 a11;obtain⟨a10,a11⟩:=ma.out
 go_upto_region 4 with fail
 rw[<- jo.out];clear jo ma a10 a11;obtain⟨a0,a1,a2,a3,a6,a7,a8,a9⟩:=o3.out;have e1:∀ W:World,(binOp .eql 27 (.agg #[vI h.a.row.a,vI h.a.row.n]) (.agg #[vI 0,vI 0])).run Tryz.prog W=.ok (.bool false) W:=fun W=>by have:=cP h.a.row id0 W;rwa [decide_eq_false hr.out]at this
 have e2:∀ W:World,(binOp .eql 27 (.agg #[vI h.a.col.a,vI h.a.col.n]) (.agg #[vI 0,vI 0])).run Tryz.prog W=.ok (.bool true) W:=fun W=>by have:=cP h.a.col id0 W;rwa [decide_eq_true hc.out]at this
 go_upto_region 7 with fail
 refine wp_region_held_drew (S:=fun w'=>w'.cell? ⟨p,0,none⟩=some (.pointer (ptr rp))/\ArX h w.heap.size w') (by kernel_rfl) (dj.out _ _ _ _ _ (f7.out _ _ _ _ _ _ cq.out zB.drew)) (fun af=>?_);refine TkA 0 (vP p 0) ?_;refine TkA 1 (vP p 0) ?_;refine TkA 2 (vP p 0) ?_;refine TkB 3 (.pointer (ptr rp)) ?_;refine TkA 4 (vP w.heap.size 0) ?_;refine TkA 5 (vP w.heap.size 0) ?_;refine TkB 6 (.agg #[vI h.a.row.a,vI h.a.row.n]) ?_;refine TkA 7 (vP w.heap.size 6) ?_;refine TkA 8 (vP w.heap.size 6) ?_;refine TkB 9 (.agg #[vI h.b.row.a,vI h.b.row.n]) ?_;refine TkR 10 (fun K hK=>?_)
 go_simp
 go_at_call 194
 refine(CE0.out _ _ _ _ _ (f7.out _ _ _ _ _ _ cq.out zB.drew)).mono ?_;rintro e wx ⟨rfl,lq⟩;have gc:=zh lq;clear lq
 go_wp2_with fail
 refine hK.out _ _ (dj.out _ _ _ _ _ gc.out) (fun aa=>?_);clear hK K af;have af:=aa;clear aa;refine TkA 11 (.tuple #[vI 0,vI 0,.bool false]) ?_;refine TkA 12 (vI 0) ?_;refine TkA 13 (vI 0) ?_;refine TkA 14 (.bool false) ?_;refine TkA 15 (vP W0.heap.size 0) ?_;obtain⟨k0,k1,f0,f1⟩:=ng.out _ _ _ _ _ gc.out;refine TkR 16 (fun K hK=>?_)
 go_simp
 clear k0 k1 f0 f1;have gd:=zh (jv.out _ _ _ _ _ 0 gc.out);refine hK.out _ _ (dj.out _ _ _ _ _ gd.out) (fun aa=>?_);clear hK K af;have af:=aa;clear aa;refine TkA 17 (vP W1.heap.size 0) ?_;obtain⟨k0,k1,f0,f1⟩:=nh.out _ _ _ _ _ gd.out;refine TkR 18 (fun K hK=>?_)
 go_simp
 clear k0 k1 f0 f1;have gh:=zh (jx.out _ _ _ _ _ 0 gd.out);refine hK.out _ _ (dj.out _ _ _ _ _ gh.out) (fun aa=>?_);clear hK K af;have af:=aa;clear aa;refine TkA 19 (.bool false) ?_;refine TkD ?_
 (try simp only[Act.put,yz])
 obtain⟨W9,jf⟩:∃ W9,W9=(wx.setCell ⟨W0.heap.size,0,none⟩ (vI 0)).setCell ⟨W1.heap.size,0,none⟩ (vI 0):=⟨_,rfl⟩
 rw[<- jf];rw[<- jf]at gh;clear jf gc gd af cq;have cq:=gh;clear gh;clear a0 a1 a2 a3 a6 a7 a8 a9;obtain⟨a0,a1,a2,a3,a6,a7,a8,a9⟩:=HA.out _ _ _ _ _ cq.out;have HK:=zh (oj.out _ _ _ _ _ cq.out)
 go_wp2_with ((with_reducible refine(CG.out _ _ _ _ _ cq.out).mono ?_);rintro e wx ⟨rfl,hs,hk⟩;have jl:=zh hs;have fv:=zh (HK.out.trans hk);clear hs hk)
 go_end0
 exact⟨rfl,jl.out,fv.out⟩
theorem yR{p m:Nat}{rp cp:Option Nat}{R C:AxV}{sff:FuncId}{sfx:Array Value}{ts:List RTok}(h:NodeH)(w:World)(hw:WrS w p m rp cp R C (.func (.func sff) #[] sfx) ts)(hn:ts.length<=700000)(hr:Hid (h.a.row≠id0))(hc:Hid (h.a.col=id0))(i1 i2:Int)(hE0:∀ W,WrS W p m rp cp R C (.func (.func sff) #[] sfx) ts->Calls Tryz.prog 194 #[.pointer (ptr rp),.agg #[vI h.a.row.a,vI h.a.row.n],.agg #[vI h.b.row.a,vI h.b.row.n]] W fun e w'=>e=.returned (.tuple #[vI i1,vI i2,.bool true])/\WrS w' p m rp cp R C (.func (.func sff) #[] sfx) ts/\Kw p (rp.toList++cp.toList) W w')(t1 t2:RTok)(hF:∀ xs W,Sem.run Tryz.prog (callFunc sff xs) W=.ok (.enter sff xs) W)(hT:∀ W,Kw p (rp.toList++cp.toList) w W->Calls Tryz.prog sff (#[.agg #[vI i1,vI 0,.bool h.a.fr,.bool h.a.fc],vI 1]++sfx) W fun e w'=>e=.returned (dS t1)/\Below W.heap.size W w')(hU:∀ W,Kw p (rp.toList++cp.toList) w W->Calls Tryz.prog sff (#[.agg #[vI i2,vI 0,.bool h.b.fr,.bool h.b.fc],vI 1]++sfx) W fun e w'=>e=.returned (dS t2)/\Below W.heap.size W w') :
  Calls Tryz.prog 139 #[vP p 0,.agg #[vI h.a.row.a,vI h.a.row.n,vI h.a.col.a,vI h.a.col.n,.bool h.a.fr,.bool h.a.fc,vI h.b.row.a,vI h.b.row.n,vI h.b.col.a,vI h.b.col.n,.bool h.b.fr,.bool h.b.fc]] w fun e w'=>WrO p m rp cp R C (.func (.func sff) #[] sfx) (ts++[t1]++[tk 5 [58]]++[t2]) w e w':=by
 obtain⟨W0,W1,W2,Z,ak,al,jo,fg,cq,f7,HA,ng,nh,rn,jv,jw,jx,jy,dj,dm,ro,rq,oj,oz,o3,m4,ma⟩:=fZ h w hw;have hZ:=fg.out;have CE0:Hid (∀ x y u v W,Z x y u v W->Calls Tryz.prog 194 #[.pointer (ptr rp),.agg #[vI h.a.row.a,vI h.a.row.n],.agg #[vI h.b.row.a,vI h.b.row.n]] W fun e w'=>e=.returned (.tuple #[vI i1,vI i2,.bool true])/\Z x y u v w'):=zh (fun x y u v W g=>by
  obtain⟨g1,g2,g3,g4,g5⟩:=(hZ _ _ _ _ _).1 g;refine(hE0 W g1).mono ?_;rintro e w' ⟨rfl,k1,k2⟩;exact⟨rfl,(hZ _ _ _ _ _).2 ⟨k1,g2.trans k2,Kw.lies k2 g1 g3 (by decide) (by decide) (by decide),Kw.lies k2 g1 g4 (by decide) (by decide) (by decide),Kw.lies k2 g1 g5 (by decide) (by decide) (by decide)⟩⟩)
 have CT:=zh hT;have CU:=zh hU;have t8:Hid True:=zh trivial;obtain⟨tc,pd⟩:∃ x,x=tk 5 [58]:=⟨_,rfl⟩
 have CC:=zh (bQ (p:=p) (m:=m) (rp:=rp) (cp:=cp) (R:=R) (C:=C) (sf:=.func (.func sff) #[] sfx) 5 [58] #[58] rfl tc pd);rw[<- pd];clear pd hT hU;clear hw hZ
 go_in
 go_upto_region 1 with fail
 rw[<- ak.out];clear ak;obtain⟨-,a4,a5,a10,a11⟩:=m4.out
 go_upto_region 3 with fail
 rw[<- al.out];clear al m4 a4 a5 a10 a11;obtain⟨a10,a11⟩:=ma.out
 go_upto_region 4 with fail
 rw[<- jo.out];clear jo ma a10 a11;obtain⟨a0,a1,a2,a3,a6,a7,a8,a9⟩:=o3.out;have e1:∀ W:World,(binOp .eql 27 (.agg #[vI h.a.row.a,vI h.a.row.n]) (.agg #[vI 0,vI 0])).run Tryz.prog W=.ok (.bool false) W:=fun W=>by have:=cP h.a.row id0 W;rwa [decide_eq_false hr.out]at this
 have e2:∀ W:World,(binOp .eql 27 (.agg #[vI h.a.col.a,vI h.a.col.n]) (.agg #[vI 0,vI 0])).run Tryz.prog W=.ok (.bool true) W:=fun W=>by have:=cP h.a.col id0 W;rwa [decide_eq_true hc.out]at this
 go_upto_region 7 with fail
 refine wp_region_held_drew (S:=fun w'=>w'.cell? ⟨p,0,none⟩=some (.pointer (ptr rp))/\ArX h w.heap.size w') (by kernel_rfl) (dj.out _ _ _ _ _ (f7.out _ _ _ _ _ _ cq.out zB.drew)) (fun af=>?_);refine TkA 0 (vP p 0) ?_;refine TkA 1 (vP p 0) ?_;refine TkA 2 (vP p 0) ?_;refine TkB 3 (.pointer (ptr rp)) ?_;refine TkA 4 (vP w.heap.size 0) ?_;refine TkA 5 (vP w.heap.size 0) ?_;refine TkB 6 (.agg #[vI h.a.row.a,vI h.a.row.n]) ?_;refine TkA 7 (vP w.heap.size 6) ?_;refine TkA 8 (vP w.heap.size 6) ?_;refine TkB 9 (.agg #[vI h.b.row.a,vI h.b.row.n]) ?_;refine TkR 10 (fun K hK=>?_)
 go_simp
 go_at_call 194
 refine(CE0.out _ _ _ _ _ (f7.out _ _ _ _ _ _ cq.out zB.drew)).mono ?_;rintro e wx ⟨rfl,lq⟩;have gc:=zh lq;clear lq
 go_wp2_with fail
 refine hK.out _ _ (dj.out _ _ _ _ _ gc.out) (fun aa=>?_);clear hK K af;have af:=aa;clear aa;refine TkA 11 (.tuple #[vI i1,vI i2,.bool true]) ?_;refine TkA 12 (vI i1) ?_;refine TkA 13 (vI i2) ?_;refine TkA 14 (.bool true) ?_;refine TkA 15 (vP W0.heap.size 0) ?_;obtain⟨k0,k1,f0,f1⟩:=ng.out _ _ _ _ _ gc.out;refine TkR 16 (fun K hK=>?_)
 go_simp
 clear k0 k1 f0 f1;have gd:=zh (jv.out _ _ _ _ _ i1 gc.out);refine hK.out _ _ (dj.out _ _ _ _ _ gd.out) (fun aa=>?_);clear hK K af;have af:=aa;clear aa;refine TkA 17 (vP W1.heap.size 0) ?_;obtain⟨k0,k1,f0,f1⟩:=nh.out _ _ _ _ _ gd.out;refine TkR 18 (fun K hK=>?_)
 go_simp
 clear k0 k1 f0 f1;have gh:=zh (jx.out _ _ _ _ _ i2 gd.out);refine hK.out _ _ (dj.out _ _ _ _ _ gh.out) (fun aa=>?_);clear hK K af;have af:=aa;clear aa;refine TkA 19 (.bool true) ?_;refine TkD ?_
 (try simp only[Act.put,yz])
 obtain⟨W9,jf⟩:∃ W9,W9=(wx.setCell ⟨W0.heap.size,0,none⟩ (vI i1)).setCell ⟨W1.heap.size,0,none⟩ (vI i2):=⟨_,rfl⟩
 rw[<- jf];rw[<- jf]at gh;clear jf gc gd af cq;have cq:=gh;clear gh;clear a0 a1 a2 a3 a6 a7 a8 a9;obtain⟨a0,a1,a2,a3,a6,a7,a8,a9⟩:=HA.out _ _ _ _ _ cq.out;clear CE0;have t9:=zh (oj.out _ _ _ _ _ cq.out);have kl:=zh (rn.out _ _ _ _ _ cq.out);have ua:=zh (ro.out _ _ _ _ _ cq.out);have ub:=zh (rq.out _ _ _ _ _ cq.out);clear fg f7 HA ng nh rn jv jw jx jy dj dm ro rq oj cq o3
 go_upto_region 13 with fail
 clear e1 e2 a0 a1 a2 a3 a6 a7 a8 a9
 go_cut [] (fun wx=>Hid (WrS wx p m rp cp R C (.func (.func sff) #[] sfx) (ts++[t1]))/\Hid (Kw p (rp.toList++cp.toList) w wx)/\Hid (Lies wx W1.heap.size 90 #[vI i2,vI 0,.bool h.b.fr,.bool h.b.fc]))
 case first=>
  have dz:Hid (WrS W9 p m rp cp R C (.func (.func sff) #[] sfx) ts):=kl;have HK:Hid (Kw p (rp.toList++cp.toList) w W9):=t9;have ec:Hid (Lies W9 W0.heap.size 90 #[vI i1,vI 0,.bool h.a.fr,.bool h.a.fc]):=ua;have bu:Hid (Lies W9 W1.heap.size 90 #[vI i2,vI 0,.bool h.b.fr,.bool h.b.fc]):=ub;clear kl t9 ua ub;obtain⟨W6,ja⟩:=zD W9
  rw[<- ja]at dz HK ec bu ⊢;clear ja;have lr:Hid (p<W0.heap.size):=zh oz.out.1;have ei:Hid (p<W1.heap.size):=zh oz.out.2;obtain⟨v0,ed,jb⟩:=dz.out.box;obtain⟨A1,c1,rfl⟩:=aY jb;have cm:=zh ed;have gm:=zh jb;have ju:Hid (∀ W,Below W6.heap.size W6 W->Kw p (rp.toList++cp.toList) w W):=zh (fun W hb=>HK.out.trans (Kw.of_below hb));clear ed jb;have bq:Hid (∀ W,Below W6.heap.size W6 W->SaX sff sfx p W0.heap.size i1 0 h.a.fr h.a.fc W):=zh (fun W hb=>⟨(cm.out.next hb).cell 3,(ec.out.next hb).cell 0,(ec.out.next hb).cell 1,(ec.out.next hb).cell 2,(ec.out.next hb).cell 3⟩);refine wp_region_held_drew (S:=fun w'=>SaX sff sfx p W0.heap.size i1 0 h.a.fr h.a.fc w') (by kernel_rfl) (bq.out _ zB.drew) (fun af=>?_);refine TkA 0 (vP p 0) ?_;refine TkA 1 (vP p 0) ?_;refine TkA 2 (vP p 0) ?_
  refine TkA 3 (vP p 4) ?_;refine TkA 5 (vP p 0) ?_;refine TkA 6 (vP p 0) ?_;refine TkA 7 (vP p 3) ?_;refine TkB 8 (.func (.func sff) #[] sfx) ?_;refine TkB 9 (.agg #[vI i1,vI 0,.bool h.a.fr,.bool h.a.fc]) ?_;refine TkA 10 (vI 1) ?_;have ae:Hid (Below W6.heap.size W6 W6.drew):=zh zB.drew;refine wpAnyH_ready (rs:=[4,11]) (by kernel_rfl) (by simp) ?_;refine AllReadyH.cons rfl (fun K hK=>?pa3) (AllReadyH.cons rfl (fun K hK=>?pb3) AllReadyH.nil)
  case' pa3=>
   have c4:=(cm.out.next ae.out).cell 4;simp only[za,zb,zf]at c4
   go_simp
   clear c4;refine hK.out _ _ (bq.out _ ae.out) (fun aa=>?_);clear hK K af;have af:=aa;clear aa;refine TkR 11 (fun K hK=>?_)
   go_simp
   refine(CT.out _ (ju.out _ ae.out)).mono ?_;rintro e wx ⟨rfl,hb⟩;replace ae:=zT ae hb;clear hb
   go_wp2_with fail
   refine hK.out _ _ (bq.out _ ae.out) (fun aa=>?_);clear hK K af;have af:=aa;clear aa;refine TkR 12 (fun K hK=>?_)
   go_simp
   obtain⟨W7,au⟩:=zD (wx.alloc (.cells #[vI t1.kind,vT t1.text,vI t1.place] 64))
   rw[<- au];have jc:=zL au;replace ae:=zF ae au;clear au;refine hK.out _ _ (bq.out _ ae.out) (fun aa=>?_);clear hK K af;have af:=aa;clear aa
  case' pb3=>
   go_simp
   refine(CT.out _ (ju.out _ ae.out)).mono ?_;rintro e wx ⟨rfl,hb⟩;replace ae:=zT ae hb;clear hb
   go_wp2_with fail
   refine hK.out _ _ (bq.out _ ae.out) (fun aa=>?_);clear hK K af;have af:=aa;clear aa;refine wpAnyH_ready (rs:=[4,12]) (by kernel_rfl) (by simp) ?_;refine AllReadyH.cons rfl (fun K hK=>?pc3) (AllReadyH.cons rfl (fun K hK=>?pd3) AllReadyH.nil)
   case' pc3=>
    have c4:=(cm.out.next ae.out).cell 4;simp only[za,zb,zf]at c4
    go_simp
    clear c4;refine hK.out _ _ (bq.out _ ae.out) (fun aa=>?_);clear hK K af;have af:=aa;clear aa;refine TkR 12 (fun K hK=>?_)
    go_simp
    obtain⟨W7,au⟩:=zD (wx.alloc (.cells #[vI t1.kind,vT t1.text,vI t1.place] 64))
    rw[<- au];have jc:=zL au;replace ae:=zF ae au;clear au;refine hK.out _ _ (bq.out _ ae.out) (fun aa=>?_);clear hK K af;have af:=aa;clear aa
   case' pd3=>
    go_simp
    obtain⟨W7,au⟩:=zD (wx.alloc (.cells #[vI t1.kind,vT t1.text,vI t1.place] 64))
    rw[<- au];have jc:=zL au;replace ae:=zF ae au;clear au;refine hK.out _ _ (bq.out _ ae.out) (fun aa=>?_);clear hK K af;have af:=aa;clear aa;refine TkR 4 (fun K hK=>?_);have c4:=(cm.out.next ae.out).cell 4;simp only[za,zb,zf]at c4
    go_simp
    clear c4;refine hK.out _ _ (bq.out _ ae.out) (fun aa=>?_);clear hK K af;have af:=aa;clear aa
  all_goals
   refine TkR 13 (fun K hK=>?_);refine bW rfl _ _ rfl (p+1) (.slice A1 ts.length c1) ts t1 wx.heap.size rfl (aL ae.out gm.out) rfl jc.out (by omega) (yv (Nat.succ_le_of_lt dz.out.lt) ae.out.size) ?_;intro A5 c5 w5 k5 g5;have nt:=zh k5;have nu:=zh g5;have di:=zh ((cm.out.next ae.out).grownA g5 (aX (by decide) (aL ae.out gm.out) (cm.out.next ae.out)));have ii:=zh ((ec.out.next ae.out).grownA g5 (aX (by decide) (aL ae.out gm.out) (ec.out.next ae.out)));have ej:=zh ((bu.out.next ae.out).grownA g5 (aX (by decide) (aL ae.out gm.out) (bu.out.next ae.out)));clear k5 g5;refine hK.out _ _ ⟨di.out.cell 3,ii.out.cell 0,ii.out.cell 1,ii.out.cell 2,ii.out.cell 3⟩ (fun aa=>?_);clear hK K af;have af:=aa;clear aa;refine TkA 14 (vP p 0) ?_
   refine TkA 15 (vP p 4) ?_;have k4:=di.out.cell 4;simp only[za,zb,zf]at k4;have k4f:=di.out.frozen 4;refine TkR 16 (fun K hK=>?_)
   go_simp
   clear k4 k4f;have ll:=zh ((dz.out.next ae.out).grown (ts':=ts++[t1]) ((cm.out.next ae.out).cell 4) nt.out nu.out);have pn:=zh ((HK.out.trans (Kw.of_below ae.out)).trans ll.out.2);have j7:=zh ll.out.1;have jz:=zh (aB ii.out (b:=p) (by have:=lr.out;omega) 4 (.slice A5 (ts.length+1) c5));have fp:=zh (aB ej.out (b:=p) (by have:=ei.out;omega) 4 (.slice A5 (ts.length+1) c5));have mh:=zh (di.out.put 4 (.slice A5 (ts.length+1) c5));refine hK.out _ _ ⟨mh.out.cell 3,jz.out.cell 0,jz.out.cell 1,jz.out.cell 2,jz.out.cell 3⟩ (fun aa=>?_);clear hK K af aa;refine TkD ?_
   (try simp only[Act.put,yz])
   go_wp2_with fail
   go_meet
   exact⟨j7,pn,fp⟩
 case rest=>
 clear kl t9 ua ub CT t8;obtain⟨ld,HKa,bu⟩:=hcut;obtain⟨W7,au⟩:=zD wc
 subst au
 go_upto_region 15 with((with_reducible refine(CC.out _ _ ld.out (by simp;omega)).mono ?_);rintro e wx ⟨rfl,hs,hk⟩;have dz:=zh hs;have HK:=zh (HKa.out.trans hk);have ol:=zh (Kw.lies hk ld.out bu.out (by decide) (by decide) (by decide));clear hs hk)
 replace bu:=ol;clear ol;obtain⟨us,qp⟩:=zD (ts++[t1]++[tc])
 rw[<- qp]at dz;have HUs:=zh qp;have hn2:us.length<=700002:=by rw[qp];simp;omega
 clear qp;obtain⟨W6,ja⟩:=zD wx
 subst ja;have ei:Hid (p<W1.heap.size):=zh oz.out.2;obtain⟨v0,ed,jb⟩:=dz.out.box;obtain⟨A1,c1,rfl⟩:=aY jb;have cm:=zh ed;have gm:=zh jb;have ju:Hid (∀ W,Below W6.heap.size W6 W->Kw p (rp.toList++cp.toList) w W):=zh (fun W hb=>HK.out.trans (Kw.of_below hb));clear ed jb;have bq:Hid (∀ W,Below W6.heap.size W6 W->SaX sff sfx p W1.heap.size i2 0 h.b.fr h.b.fc W):=zh (fun W hb=>⟨(cm.out.next hb).cell 3,(bu.out.next hb).cell 0,(bu.out.next hb).cell 1,(bu.out.next hb).cell 2,(bu.out.next hb).cell 3⟩);refine wp_region_held_drew (S:=fun w'=>SaX sff sfx p W1.heap.size i2 0 h.b.fr h.b.fc w') (by kernel_rfl) (bq.out _ zB.drew) (fun af=>?_);refine TkA 0 (vP p 0) ?_;refine TkA 1 (vP p 0) ?_;refine TkA 2 (vP p 0) ?_;refine TkA 3 (vP p 4) ?_
 refine TkA 5 (vP p 0) ?_;refine TkA 6 (vP p 0) ?_;refine TkA 7 (vP p 3) ?_;refine TkB 8 (.func (.func sff) #[] sfx) ?_;refine TkB 9 (.agg #[vI i2,vI 0,.bool h.b.fr,.bool h.b.fc]) ?_;refine TkA 10 (vI 1) ?_;have ae:Hid (Below W6.heap.size W6 W6.drew):=zh zB.drew;refine wpAnyH_ready (rs:=[4,11]) (by kernel_rfl) (by simp) ?_;refine AllReadyH.cons rfl (fun K hK=>?pa4) (AllReadyH.cons rfl (fun K hK=>?pb4) AllReadyH.nil)
 case' pa4=>
  have c4:=(cm.out.next ae.out).cell 4;simp only[za,zb,zf]at c4
  go_simp
  clear c4;refine hK.out _ _ (bq.out _ ae.out) (fun aa=>?_);clear hK K af;have af:=aa;clear aa;refine TkR 11 (fun K hK=>?_)
  go_simp
  refine(CU.out _ (ju.out _ ae.out)).mono ?_;rintro e wx ⟨rfl,hb⟩;replace ae:=zT ae hb;clear hb
  go_wp2_with fail
  refine hK.out _ _ (bq.out _ ae.out) (fun aa=>?_);clear hK K af;have af:=aa;clear aa;refine TkR 12 (fun K hK=>?_)
  go_simp
  obtain⟨W7,au⟩:=zD (wx.alloc (.cells #[vI t2.kind,vT t2.text,vI t2.place] 64))
  rw[<- au];have jc:=zL au;replace ae:=zF ae au;clear au;refine hK.out _ _ (bq.out _ ae.out) (fun aa=>?_);clear hK K af;have af:=aa;clear aa
 case' pb4=>
  go_simp
  refine(CU.out _ (ju.out _ ae.out)).mono ?_;rintro e wx ⟨rfl,hb⟩;replace ae:=zT ae hb;clear hb
  go_wp2_with fail
  refine hK.out _ _ (bq.out _ ae.out) (fun aa=>?_);clear hK K af;have af:=aa;clear aa;refine wpAnyH_ready (rs:=[4,12]) (by kernel_rfl) (by simp) ?_;refine AllReadyH.cons rfl (fun K hK=>?pc4) (AllReadyH.cons rfl (fun K hK=>?pd4) AllReadyH.nil)
  case' pc4=>
   have c4:=(cm.out.next ae.out).cell 4;simp only[za,zb,zf]at c4
   go_simp
   clear c4;refine hK.out _ _ (bq.out _ ae.out) (fun aa=>?_);clear hK K af;have af:=aa;clear aa;refine TkR 12 (fun K hK=>?_)
   go_simp
   obtain⟨W7,au⟩:=zD (wx.alloc (.cells #[vI t2.kind,vT t2.text,vI t2.place] 64))
   rw[<- au];have jc:=zL au;replace ae:=zF ae au;clear au;refine hK.out _ _ (bq.out _ ae.out) (fun aa=>?_);clear hK K af;have af:=aa;clear aa
  case' pd4=>
   go_simp
   obtain⟨W7,au⟩:=zD (wx.alloc (.cells #[vI t2.kind,vT t2.text,vI t2.place] 64))
   rw[<- au];have jc:=zL au;replace ae:=zF ae au;clear au;refine hK.out _ _ (bq.out _ ae.out) (fun aa=>?_);clear hK K af;have af:=aa;clear aa;refine TkR 4 (fun K hK=>?_);have c4:=(cm.out.next ae.out).cell 4;simp only[za,zb,zf]at c4
   go_simp
   clear c4;refine hK.out _ _ (bq.out _ ae.out) (fun aa=>?_);clear hK K af;have af:=aa;clear aa
 all_goals
  refine TkR 13 (fun K hK=>?_);refine bW rfl _ _ rfl (p+1) (.slice A1 us.length c1) us t2 wx.heap.size rfl (aL ae.out gm.out) rfl jc.out (by omega) (yv (Nat.succ_le_of_lt dz.out.lt) ae.out.size) ?_;intro A5 c5 w5 k5 g5;have nt:=zh k5;have nu:=zh g5;have di:=zh ((cm.out.next ae.out).grownA g5 (aX (by decide) (aL ae.out gm.out) (cm.out.next ae.out)));have ej:=zh ((bu.out.next ae.out).grownA g5 (aX (by decide) (aL ae.out gm.out) (bu.out.next ae.out)));clear k5 g5;refine hK.out _ _ ⟨di.out.cell 3,ej.out.cell 0,ej.out.cell 1,ej.out.cell 2,ej.out.cell 3⟩ (fun aa=>?_);clear hK K af;have af:=aa;clear aa;refine TkA 14 (vP p 0) ?_;refine TkA 15 (vP p 4) ?_;have k4:=di.out.cell 4;simp only[za,zb,zf]at k4
  have k4f:=di.out.frozen 4;refine TkR 16 (fun K hK=>?_)
  go_simp
  clear k4 k4f;have ll:=zh ((dz.out.next ae.out).grown (ts':=us++[t2]) ((cm.out.next ae.out).cell 4) nt.out nu.out);have pn:=zh ((HK.out.trans (Kw.of_below ae.out)).trans ll.out.2);have j7:=zh ll.out.1;have fp:=zh (aB ej.out (b:=p) (by have:=ei.out;omega) 4 (.slice A5 (us.length+1) c5));have mh:=zh (di.out.put 4 (.slice A5 (us.length+1) c5));refine hK.out _ _ ⟨mh.out.cell 3,fp.out.cell 0,fp.out.cell 1,fp.out.cell 2,fp.out.cell 3⟩ (fun aa=>?_);clear hK K af aa;refine TkD ?_
  (try simp only[Act.put,yz])
  go_wp2_with fail
  go_end0
  exact⟨rfl,by rw[<- HUs.out];exact j7.out,pn.out⟩
end Go.Proofs.YtjfihpaeglpblaaGreatDoor
