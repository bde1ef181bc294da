/-
  Lemmas, part 25: WxF SnA SnB.
-/
import Derived.Test.YtjfihpaeglpblaaGreatDoorRv24
set_option maxHeartbeats 100000000
set_option maxRecDepth 1000000
namespace Go.Proofs.YtjfihpaeglpblaaGreatDoor
open Go.RowKit
theorem lO{p m:Nat}{rp cp:Option Nat}{R C:AxV}{sff:FuncId}{sfx:Array Value}{ts:List RTok}(h:NodeH)(w:World)(hw:WrS w p m rp cp R C (.func (.func sff) #[] sfx) ts)(hn:ts.length<=700000)(hr:Hid (h.a.row≠id0))(hc:Hid (h.a.col≠id0))(i1 i2 j1 j2:Int)(k1 k2:Bool)(hk:k1=true->k2=false)(hE0:∀ W,WrS W p m rp cp R C (.func (.func sff) #[] sfx) ts->Calls Tryz.prog 194 #[.pointer (ptr rp),.agg #[vI h.a.row.a,vI h.a.row.n],.agg #[vI h.b.row.a,vI h.b.row.n]] W fun e w'=>e=.returned (.tuple #[vI i1,vI i2,.bool k1])/\WrS w' p m rp cp R C (.func (.func sff) #[] sfx) ts/\Kw p (rp.toList++cp.toList) W w')(kl:∀ W,WrS W p m rp cp R C (.func (.func sff) #[] sfx) ts->Calls Tryz.prog 194 #[.pointer (ptr cp),.agg #[vI h.a.col.a,vI h.a.col.n],.agg #[vI h.b.col.a,vI h.b.col.n]] W fun e w'=>e=.returned (.tuple #[vI j1,vI j2,.bool k2])/\WrS w' p m rp cp R C (.func (.func sff) #[] sfx) ts/\Kw p (rp.toList++cp.toList) W w') :
  Calls Tryz.prog 139 #[vP p 0,.agg #[vI h.a.row.a,vI h.a.row.n,vI h.a.col.a,vI h.a.col.n,.bool h.a.fr,.bool h.a.fc,vI h.b.row.a,vI h.b.row.n,vI h.b.col.a,vI h.b.col.n,.bool h.b.fr,.bool h.b.fc]] w fun e w'=>WrO p m rp cp R C (.func (.func sff) #[] sfx) (ts++dC) w e w':=by
 obtain⟨W0,W1,W2,Z,aj,am,jx,fs,cv,gh,HA,ou,ox,sy,j8,j9,kc,kg,dz,ec,s7,s8,pn,qj,oh,lp,mz⟩:=gU h w hw;have hZ:=fs.out;have CE0:Hid (∀ x y u v W,Z x y u v W->Calls Tryz.prog 194 #[.pointer (ptr rp),.agg #[vI h.a.row.a,vI h.a.row.n],.agg #[vI h.b.row.a,vI h.b.row.n]] W fun e w'=>e=.returned (.tuple #[vI i1,vI i2,.bool k1])/\Z x y u v w'):=zh (fun x y u v W g=>by
  obtain⟨g1,g2,g3,g4,g5⟩:=(hZ _ _ _ _ _).1 g;refine(hE0 W g1).mono ?_;rintro e w' ⟨rfl,k1,k2⟩;exact⟨rfl,(hZ _ _ _ _ _).2 ⟨k1,g2.trans k2,Kw.lies k2 g1 g3 (by decide) (by decide) (by decide),Kw.lies k2 g1 g4 (by decide) (by decide) (by decide),Kw.lies k2 g1 g5 (by decide) (by decide) (by decide)⟩⟩)
 have CE1:Hid (∀ x y u v W,Z x y u v W->Calls Tryz.prog 194 #[.pointer (ptr cp),.agg #[vI h.a.col.a,vI h.a.col.n],.agg #[vI h.b.col.a,vI h.b.col.n]] W fun e w'=>e=.returned (.tuple #[vI j1,vI j2,.bool k2])/\Z x y u v w'):=zh (fun x y u v W g=>by
  obtain⟨g1,g2,g3,g4,g5⟩:=(hZ _ _ _ _ _).1 g;refine(kl W g1).mono ?_;rintro e w' ⟨rfl,k1,k2⟩;exact⟨rfl,(hZ _ _ _ _ _).2 ⟨k1,g2.trans k2,Kw.lies k2 g1 g3 (by decide) (by decide) (by decide),Kw.lies k2 g1 g4 (by decide) (by decide) (by decide),Kw.lies k2 g1 g5 (by decide) (by decide) (by decide)⟩⟩)
 have CG:Hid (∀ x y u v W,Z x y u v W->Calls Tryz.prog 193 #[vP p 0] W fun e w'=>WrO p m rp cp R C (.func (.func sff) #[] sfx) (ts++dC) W e w'):=zh (fun x y u v W g=>mA W ((hZ _ _ _ _ _).1 g).1 (by omega));clear hw hZ
 go_in
 go_upto_region 1 with fail
 rw[<- aj.out];clear aj;obtain⟨-,a4,a5,a10,a11⟩:=lp.out
 go_upto_region 3 with fail
 rw[<- am.out];clear am lp a4 a5 a10 a11;obtain⟨a10,a11⟩:=mz.out
 go_upto_region 4 with fail
 rw[<- jx.out];clear jx mz a10 a11;obtain⟨a0,a1,a2,a3,a6,a7,a8,a9⟩:=oh.out;have e1:∀ W:World,(binOp .eql 27 (.agg #[vI h.a.row.a,vI h.a.row.n]) (.agg #[vI 0,vI 0])).run Tryz.prog W=.ok (.bool false) W:=fun W=>by have:=dG h.a.row id0 W;rwa [decide_eq_false hr.out]at this
 have e2:∀ W:World,(binOp .eql 27 (.agg #[vI h.a.col.a,vI h.a.col.n]) (.agg #[vI 0,vI 0])).run Tryz.prog W=.ok (.bool false) W:=fun W=>by have:=dG h.a.col id0 W;rwa [decide_eq_false hc.out]at this
 go_upto_region 7 with fail
 refine wp_region_held_drew (S:=fun w'=>w'.cell? ⟨p,0,none⟩=some (.pointer (ptr rp))/\ArX h w.heap.size w') (by kernel_rfl) (dz.out _ _ _ _ _ (gh.out _ _ _ _ _ _ cv.out zB.drew)) (fun ag=>?_);refine TkA 0 (vP p 0) ?_;refine TkA 1 (vP p 0) ?_;refine TkA 2 (vP p 0) ?_;refine TkB 3 (.pointer (ptr rp)) ?_;refine TkA 4 (vP w.heap.size 0) ?_;refine TkA 5 (vP w.heap.size 0) ?_;refine TkB 6 (.agg #[vI h.a.row.a,vI h.a.row.n]) ?_;refine TkA 7 (vP w.heap.size 6) ?_;refine TkA 8 (vP w.heap.size 6) ?_;refine TkB 9 (.agg #[vI h.b.row.a,vI h.b.row.n]) ?_;refine TkR 10 (fun K hK=>?_)
 go_simp
 go_at_call 194
 refine(CE0.out _ _ _ _ _ (gh.out _ _ _ _ _ _ cv.out zB.drew)).mono ?_;rintro e wx ⟨rfl,mg⟩;have gj:=zh mg;clear mg
 go_wp2_with fail
 refine hK.out _ _ (dz.out _ _ _ _ _ gj.out) (fun aa=>?_);clear hK K ag;have ag:=aa;clear aa;refine TkA 11 (.tuple #[vI i1,vI i2,.bool k1]) ?_;refine TkA 12 (vI i1) ?_;refine TkA 13 (vI i2) ?_;refine TkA 14 (.bool k1) ?_;refine TkA 15 (vP W0.heap.size 0) ?_;obtain⟨k0,k1,f0,f1⟩:=ou.out _ _ _ _ _ gj.out;refine TkR 16 (fun K hK=>?_)
 go_simp
 clear k0 k1 f0 f1;have gm:=zh (j8.out _ _ _ _ _ i1 gj.out);refine hK.out _ _ (dz.out _ _ _ _ _ gm.out) (fun aa=>?_);clear hK K ag;have ag:=aa;clear aa;refine TkA 17 (vP W1.heap.size 0) ?_;obtain⟨k0,k1,f0,f1⟩:=ox.out _ _ _ _ _ gm.out;refine TkR 18 (fun K hK=>?_)
 go_simp
 clear k0 k1 f0 f1;have gr:=zh (kc.out _ _ _ _ _ i2 gm.out);refine hK.out _ _ (dz.out _ _ _ _ _ gr.out) (fun aa=>?_);clear hK K ag;have ag:=aa;clear aa;refine TkA 19 (.bool k1) ?_;refine TkD ?_
 (try simp only[Act.put,yz])
 obtain⟨W9,ju⟩:∃ W9,W9=(wx.setCell ⟨W0.heap.size,0,none⟩ (vI i1)).setCell ⟨W1.heap.size,0,none⟩ (vI i2):=⟨_,rfl⟩
 rw[<- ju];rw[<- ju]at gr;clear ju gj gm ag cv;have cv:=gr;clear gr;clear a0 a1 a2 a3 a6 a7 a8 a9;obtain⟨a0,a1,a2,a3,a6,a7,a8,a9⟩:=HA.out _ _ _ _ _ cv.out
 go_upto_region 10 with fail
 refine wp_region_held_drew (S:=fun w'=>w'.cell? ⟨p,1,none⟩=some (.pointer (ptr cp))/\ArX h w.heap.size w') (by kernel_rfl) (ec.out _ _ _ _ _ (gh.out _ _ _ _ _ _ cv.out zB.drew)) (fun ag=>?_);refine TkA 0 (vP p 0) ?_;refine TkA 1 (vP p 0) ?_;refine TkA 2 (vP p 1) ?_;refine TkB 3 (.pointer (ptr cp)) ?_;refine TkA 4 (vP w.heap.size 0) ?_;refine TkA 5 (vP w.heap.size 2) ?_;refine TkB 6 (.agg #[vI h.a.col.a,vI h.a.col.n]) ?_;refine TkA 7 (vP w.heap.size 6) ?_;refine TkA 8 (vP w.heap.size 8) ?_;refine TkB 9 (.agg #[vI h.b.col.a,vI h.b.col.n]) ?_;refine TkR 10 (fun K hK=>?_)
 go_simp
 go_at_call 194
 refine(CE1.out _ _ _ _ _ (gh.out _ _ _ _ _ _ cv.out zB.drew)).mono ?_;rintro e wx ⟨rfl,mg⟩;have gj:=zh mg;clear mg
 go_wp2_with fail
 refine hK.out _ _ (ec.out _ _ _ _ _ gj.out) (fun aa=>?_);clear hK K ag;have ag:=aa;clear aa;refine TkA 11 (.tuple #[vI j1,vI j2,.bool k2]) ?_;refine TkA 12 (vI j1) ?_;refine TkA 13 (vI j2) ?_;refine TkA 14 (.bool k2) ?_;refine TkA 15 (vP W0.heap.size 1) ?_;obtain⟨k0,k1,f0,f1⟩:=ou.out _ _ _ _ _ gj.out;refine TkR 16 (fun K hK=>?_)
 go_simp
 clear k0 k1 f0 f1;have gm:=zh (j9.out _ _ _ _ _ j1 gj.out);refine hK.out _ _ (ec.out _ _ _ _ _ gm.out) (fun aa=>?_);clear hK K ag;have ag:=aa;clear aa;refine TkA 17 (vP W1.heap.size 1) ?_;obtain⟨k0,k1,f0,f1⟩:=ox.out _ _ _ _ _ gm.out;refine TkR 18 (fun K hK=>?_)
 go_simp
 clear k0 k1 f0 f1;have gr:=zh (kg.out _ _ _ _ _ j2 gm.out);refine hK.out _ _ (ec.out _ _ _ _ _ gr.out) (fun aa=>?_);clear hK K ag;have ag:=aa;clear aa;refine TkA 19 (.bool k2) ?_;refine TkD ?_
 (try simp only[Act.put,yz])
 obtain⟨W9,ju⟩:∃ W9,W9=(wx.setCell ⟨W0.heap.size,1,none⟩ (vI j1)).setCell ⟨W1.heap.size,1,none⟩ (vI j2):=⟨_,rfl⟩
 rw[<- ju];rw[<- ju]at gr;clear ju gj gm ag cv;have cv:=gr;clear gr;clear a0 a1 a2 a3 a6 a7 a8 a9;clear e1 e2;cases k1
 ·have HK:=zh (pn.out _ _ _ _ _ cv.out)
  go_wp2_with ((with_reducible refine(CG.out _ _ _ _ _ cv.out).mono ?_);rintro e wx ⟨rfl,hs,hk⟩;have jv:=zh hs;have gd:=zh (HK.out.trans hk);clear hs hk)
  go_end0
  exact⟨rfl,jv.out,gd.out⟩
 obtain rfl:=hk rfl;have HK:=zh (pn.out _ _ _ _ _ cv.out)
 go_wp2_with ((with_reducible refine(CG.out _ _ _ _ _ cv.out).mono ?_);rintro e wx ⟨rfl,hs,hk⟩;have jv:=zh hs;have gd:=zh (HK.out.trans hk);clear hs hk)
 go_end0
 exact⟨rfl,jv.out,gd.out⟩
theorem xO{p m:Nat}{rp cp:Option Nat}{R C:AxV}{sff:FuncId}{sfx:Array Value}{ts:List RTok}(h:NodeH)(w:World)(hw:WrS w p m rp cp R C (.func (.func sff) #[] sfx) ts)(hn:ts.length<=700000)(hr:Hid (h.a.row≠id0))(hc:Hid (h.a.col≠id0))(i1 i2 j1 j2:Int)(hE0:∀ W,WrS W p m rp cp R C (.func (.func sff) #[] sfx) ts->Calls Tryz.prog 194 #[.pointer (ptr rp),.agg #[vI h.a.row.a,vI h.a.row.n],.agg #[vI h.b.row.a,vI h.b.row.n]] W fun e w'=>e=.returned (.tuple #[vI i1,vI i2,.bool true])/\WrS w' p m rp cp R C (.func (.func sff) #[] sfx) ts/\Kw p (rp.toList++cp.toList) W w')(kl:∀ W,WrS W p m rp cp R C (.func (.func sff) #[] sfx) ts->Calls Tryz.prog 194 #[.pointer (ptr cp),.agg #[vI h.a.col.a,vI h.a.col.n],.agg #[vI h.b.col.a,vI h.b.col.n]] W fun e w'=>e=.returned (.tuple #[vI j1,vI j2,.bool true])/\WrS w' p m rp cp R C (.func (.func sff) #[] sfx) ts/\Kw p (rp.toList++cp.toList) W w')(t1 t2:RTok)(hF:∀ xs W,Sem.run Tryz.prog (callFunc sff xs) W=.ok (.enter sff xs) W)(hT:∀ W,Kw p (rp.toList++cp.toList) w W->Calls Tryz.prog sff (#[.agg #[vI i1,vI j1,.bool h.a.fr,.bool h.a.fc],vI 0]++sfx) W fun e w'=>e=.returned (eD t1)/\Below W.heap.size W w')(hU:∀ W,Kw p (rp.toList++cp.toList) w W->Calls Tryz.prog sff (#[.agg #[vI i2,vI j2,.bool h.b.fr,.bool h.b.fc],vI 0]++sfx) W fun e w'=>e=.returned (eD t2)/\Below W.heap.size W w') :
  Calls Tryz.prog 139 #[vP p 0,.agg #[vI h.a.row.a,vI h.a.row.n,vI h.a.col.a,vI h.a.col.n,.bool h.a.fr,.bool h.a.fc,vI h.b.row.a,vI h.b.row.n,vI h.b.col.a,vI h.b.col.n,.bool h.b.fr,.bool h.b.fc]] w fun e w'=>WrO p m rp cp R C (.func (.func sff) #[] sfx) (ts++[t1]++[tk 5 [58]]++[t2]) w e w':=by
 obtain⟨W0,W1,W2,Z,aj,am,jx,fs,cv,gh,HA,ou,ox,sy,j8,j9,kc,kg,dz,ec,s7,s8,pn,qj,oh,lp,mz⟩:=gU h w hw;have hZ:=fs.out;have CE0:Hid (∀ x y u v W,Z x y u v W->Calls Tryz.prog 194 #[.pointer (ptr rp),.agg #[vI h.a.row.a,vI h.a.row.n],.agg #[vI h.b.row.a,vI h.b.row.n]] W fun e w'=>e=.returned (.tuple #[vI i1,vI i2,.bool true])/\Z x y u v w'):=zh (fun x y u v W g=>by
  obtain⟨g1,g2,g3,g4,g5⟩:=(hZ _ _ _ _ _).1 g;refine(hE0 W g1).mono ?_;rintro e w' ⟨rfl,k1,k2⟩;exact⟨rfl,(hZ _ _ _ _ _).2 ⟨k1,g2.trans k2,Kw.lies k2 g1 g3 (by decide) (by decide) (by decide),Kw.lies k2 g1 g4 (by decide) (by decide) (by decide),Kw.lies k2 g1 g5 (by decide) (by decide) (by decide)⟩⟩)
 have CE1:Hid (∀ x y u v W,Z x y u v W->Calls Tryz.prog 194 #[.pointer (ptr cp),.agg #[vI h.a.col.a,vI h.a.col.n],.agg #[vI h.b.col.a,vI h.b.col.n]] W fun e w'=>e=.returned (.tuple #[vI j1,vI j2,.bool true])/\Z x y u v w'):=zh (fun x y u v W g=>by
  obtain⟨g1,g2,g3,g4,g5⟩:=(hZ _ _ _ _ _).1 g;refine(kl W g1).mono ?_;rintro e w' ⟨rfl,k1,k2⟩;exact⟨rfl,(hZ _ _ _ _ _).2 ⟨k1,g2.trans k2,Kw.lies k2 g1 g3 (by decide) (by decide) (by decide),Kw.lies k2 g1 g4 (by decide) (by decide) (by decide),Kw.lies k2 g1 g5 (by decide) (by decide) (by decide)⟩⟩)
 have CT:=zh hT;have CU:=zh hU;have uz:Hid True:=zh trivial;obtain⟨tc,f8⟩:∃ x,x=tk 5 [58]:=⟨_,rfl⟩
 have CC:=zh (cB (p:=p) (m:=m) (rp:=rp) (cp:=cp) (R:=R) (C:=C) (sf:=.func (.func sff) #[] sfx) 5 [58] #[58] rfl tc f8);rw[<- f8];clear f8 hT hU;clear hw hZ
 go_in
 go_upto_region 1 with fail
 rw[<- aj.out];clear aj;obtain⟨-,a4,a5,a10,a11⟩:=lp.out
 go_upto_region 3 with fail
 rw[<- am.out];clear am lp a4 a5 a10 a11;obtain⟨a10,a11⟩:=mz.out
 go_upto_region 4 with fail
 rw[<- jx.out];clear jx mz a10 a11;obtain⟨a0,a1,a2,a3,a6,a7,a8,a9⟩:=oh.out;have e1:∀ W:World,(binOp .eql 27 (.agg #[vI h.a.row.a,vI h.a.row.n]) (.agg #[vI 0,vI 0])).run Tryz.prog W=.ok (.bool false) W:=fun W=>by have:=dG h.a.row id0 W;rwa [decide_eq_false hr.out]at this
 have e2:∀ W:World,(binOp .eql 27 (.agg #[vI h.a.col.a,vI h.a.col.n]) (.agg #[vI 0,vI 0])).run Tryz.prog W=.ok (.bool false) W:=fun W=>by have:=dG h.a.col id0 W;rwa [decide_eq_false hc.out]at this
 go_upto_region 7 with fail
 refine wp_region_held_drew (S:=fun w'=>w'.cell? ⟨p,0,none⟩=some (.pointer (ptr rp))/\ArX h w.heap.size w') (by kernel_rfl) (dz.out _ _ _ _ _ (gh.out _ _ _ _ _ _ cv.out zB.drew)) (fun ag=>?_);refine TkA 0 (vP p 0) ?_;refine TkA 1 (vP p 0) ?_;refine TkA 2 (vP p 0) ?_;refine TkB 3 (.pointer (ptr rp)) ?_;refine TkA 4 (vP w.heap.size 0) ?_;refine TkA 5 (vP w.heap.size 0) ?_;refine TkB 6 (.agg #[vI h.a.row.a,vI h.a.row.n]) ?_;refine TkA 7 (vP w.heap.size 6) ?_;refine TkA 8 (vP w.heap.size 6) ?_;refine TkB 9 (.agg #[vI h.b.row.a,vI h.b.row.n]) ?_;refine TkR 10 (fun K hK=>?_)
 go_simp
 go_at_call 194
 refine(CE0.out _ _ _ _ _ (gh.out _ _ _ _ _ _ cv.out zB.drew)).mono ?_;rintro e wx ⟨rfl,mg⟩;have gj:=zh mg;clear mg
 go_wp2_with fail
 refine hK.out _ _ (dz.out _ _ _ _ _ gj.out) (fun aa=>?_);clear hK K ag;have ag:=aa;clear aa;refine TkA 11 (.tuple #[vI i1,vI i2,.bool true]) ?_;refine TkA 12 (vI i1) ?_;refine TkA 13 (vI i2) ?_;refine TkA 14 (.bool true) ?_;refine TkA 15 (vP W0.heap.size 0) ?_;obtain⟨k0,k1,f0,f1⟩:=ou.out _ _ _ _ _ gj.out;refine TkR 16 (fun K hK=>?_)
 go_simp
 clear k0 k1 f0 f1;have gm:=zh (j8.out _ _ _ _ _ i1 gj.out);refine hK.out _ _ (dz.out _ _ _ _ _ gm.out) (fun aa=>?_);clear hK K ag;have ag:=aa;clear aa;refine TkA 17 (vP W1.heap.size 0) ?_;obtain⟨k0,k1,f0,f1⟩:=ox.out _ _ _ _ _ gm.out;refine TkR 18 (fun K hK=>?_)
 go_simp
 clear k0 k1 f0 f1;have gr:=zh (kc.out _ _ _ _ _ i2 gm.out);refine hK.out _ _ (dz.out _ _ _ _ _ gr.out) (fun aa=>?_);clear hK K ag;have ag:=aa;clear aa;refine TkA 19 (.bool true) ?_;refine TkD ?_
 (try simp only[Act.put,yz])
 obtain⟨W9,ju⟩:∃ W9,W9=(wx.setCell ⟨W0.heap.size,0,none⟩ (vI i1)).setCell ⟨W1.heap.size,0,none⟩ (vI i2):=⟨_,rfl⟩
 rw[<- ju];rw[<- ju]at gr;clear ju gj gm ag cv;have cv:=gr;clear gr;clear a0 a1 a2 a3 a6 a7 a8 a9;obtain⟨a0,a1,a2,a3,a6,a7,a8,a9⟩:=HA.out _ _ _ _ _ cv.out
 go_upto_region 10 with fail
 refine wp_region_held_drew (S:=fun w'=>w'.cell? ⟨p,1,none⟩=some (.pointer (ptr cp))/\ArX h w.heap.size w') (by kernel_rfl) (ec.out _ _ _ _ _ (gh.out _ _ _ _ _ _ cv.out zB.drew)) (fun ag=>?_);refine TkA 0 (vP p 0) ?_;refine TkA 1 (vP p 0) ?_;refine TkA 2 (vP p 1) ?_;refine TkB 3 (.pointer (ptr cp)) ?_;refine TkA 4 (vP w.heap.size 0) ?_;refine TkA 5 (vP w.heap.size 2) ?_;refine TkB 6 (.agg #[vI h.a.col.a,vI h.a.col.n]) ?_;refine TkA 7 (vP w.heap.size 6) ?_;refine TkA 8 (vP w.heap.size 8) ?_;refine TkB 9 (.agg #[vI h.b.col.a,vI h.b.col.n]) ?_;refine TkR 10 (fun K hK=>?_)
 go_simp
 go_at_call 194
 refine(CE1.out _ _ _ _ _ (gh.out _ _ _ _ _ _ cv.out zB.drew)).mono ?_;rintro e wx ⟨rfl,mg⟩;have gj:=zh mg;clear mg
 go_wp2_with fail
 refine hK.out _ _ (ec.out _ _ _ _ _ gj.out) (fun aa=>?_);clear hK K ag;have ag:=aa;clear aa;refine TkA 11 (.tuple #[vI j1,vI j2,.bool true]) ?_;refine TkA 12 (vI j1) ?_;refine TkA 13 (vI j2) ?_;refine TkA 14 (.bool true) ?_;refine TkA 15 (vP W0.heap.size 1) ?_;obtain⟨k0,k1,f0,f1⟩:=ou.out _ _ _ _ _ gj.out;refine TkR 16 (fun K hK=>?_)
 go_simp
 clear k0 k1 f0 f1;have gm:=zh (j9.out _ _ _ _ _ j1 gj.out);refine hK.out _ _ (ec.out _ _ _ _ _ gm.out) (fun aa=>?_);clear hK K ag;have ag:=aa;clear aa;refine TkA 17 (vP W1.heap.size 1) ?_;obtain⟨k0,k1,f0,f1⟩:=ox.out _ _ _ _ _ gm.out;refine TkR 18 (fun K hK=>?_)
 go_simp
 clear k0 k1 f0 f1;have gr:=zh (kg.out _ _ _ _ _ j2 gm.out);refine hK.out _ _ (ec.out _ _ _ _ _ gr.out) (fun aa=>?_);clear hK K ag;have ag:=aa;clear aa;refine TkA 19 (.bool true) ?_;refine TkD ?_
 (try simp only[Act.put,yz])
 obtain⟨W9,ju⟩:∃ W9,W9=(wx.setCell ⟨W0.heap.size,1,none⟩ (vI j1)).setCell ⟨W1.heap.size,1,none⟩ (vI j2):=⟨_,rfl⟩
 rw[<- ju];rw[<- ju]at gr;clear ju gj gm ag cv;have cv:=gr;clear gr;clear a0 a1 a2 a3 a6 a7 a8 a9;clear e1 e2 CE0 CE1;have vc:=zh (pn.out _ _ _ _ _ cv.out);have mo:=zh (sy.out _ _ _ _ _ cv.out);have vd:=zh (s7.out _ _ _ _ _ cv.out);have ve:=zh (s8.out _ _ _ _ _ cv.out);clear fs gh HA ou ox sy j8 j9 kc kg dz ec s7 s8 pn cv oh
 go_upto_region 13 with fail
 go_cut [] (fun wx=>Hid (WrS wx p m rp cp R C (.func (.func sff) #[] sfx) (ts++[t1]))/\Hid (Kw p (rp.toList++cp.toList) w wx)/\Hid (Lies wx W1.heap.size 90 #[vI i2,vI j2,.bool h.b.fr,.bool h.b.fc]))
 case first=>
  have gw:Hid (WrS W9 p m rp cp R C (.func (.func sff) #[] sfx) ts):=mo;have HK:Hid (Kw p (rp.toList++cp.toList) w W9):=vc;have iq:Hid (Lies W9 W0.heap.size 90 #[vI i1,vI j1,.bool h.a.fr,.bool h.a.fc]):=vd;have cr:Hid (Lies W9 W1.heap.size 90 #[vI i2,vI j2,.bool h.b.fr,.bool h.b.fc]):=ve;clear mo vc vd ve;obtain⟨W6,lx⟩:=zD W9
  rw[<- lx]at gw HK iq cr ⊢;clear lx;have mh:Hid (p<W0.heap.size):=zh qj.out.1;have eu:Hid (p<W1.heap.size):=zh qj.out.2;obtain⟨v0,el,jq⟩:=gw.out.box;obtain⟨A1,c1,rfl⟩:=aV jq;have db:=zh el;have fg:=zh jq;have j7:Hid (∀ W,Below W6.heap.size W6 W->Kw p (rp.toList++cp.toList) w W):=zh (fun W hb=>HK.out.trans (Kw.of_below hb));clear el jq;have bp:Hid (∀ W,Below W6.heap.size W6 W->SaX sff sfx p W0.heap.size i1 j1 h.a.fr h.a.fc W):=zh (fun W hb=>⟨(db.out.next hb).cell 3,(iq.out.next hb).cell 0,(iq.out.next hb).cell 1,(iq.out.next hb).cell 2,(iq.out.next hb).cell 3⟩);refine wp_region_held_drew (S:=fun w'=>SaX sff sfx p W0.heap.size i1 j1 h.a.fr h.a.fc w') (by kernel_rfl) (bp.out _ zB.drew) (fun ag=>?_);refine TkA 0 (vP p 0) ?_;refine TkA 1 (vP p 0) ?_;refine TkA 2 (vP p 0) ?_
  refine TkA 3 (vP p 4) ?_;refine TkA 5 (vP p 0) ?_;refine TkA 6 (vP p 0) ?_;refine TkA 7 (vP p 3) ?_;refine TkB 8 (.func (.func sff) #[] sfx) ?_;refine TkB 9 (.agg #[vI i1,vI j1,.bool h.a.fr,.bool h.a.fc]) ?_;refine TkA 10 (vI 0) ?_;have ae:Hid (Below W6.heap.size W6 W6.drew):=zh zB.drew;refine wpAnyH_ready (rs:=[4,11]) (by kernel_rfl) (by simp) ?_;refine AllReadyH.cons rfl (fun K hK=>?pa5) (AllReadyH.cons rfl (fun K hK=>?pb5) AllReadyH.nil)
  case' pa5=>
   have c4:=(db.out.next ae.out).cell 4;simp only[za,zb,zf]at c4
   go_simp
   clear c4;refine hK.out _ _ (bp.out _ ae.out) (fun aa=>?_);clear hK K ag;have ag:=aa;clear aa;refine TkR 11 (fun K hK=>?_)
   go_simp
   refine(CT.out _ (j7.out _ ae.out)).mono ?_;rintro e wx ⟨rfl,hb⟩;replace ae:=zT ae hb;clear hb
   go_wp2_with fail
   refine hK.out _ _ (bp.out _ ae.out) (fun aa=>?_);clear hK K ag;have ag:=aa;clear aa;refine TkR 12 (fun K hK=>?_)
   go_simp
   obtain⟨W7,ba⟩:=zD (wx.alloc (.cells #[vI t1.kind,vT t1.text,vI t1.place] 64))
   rw[<- ba];have jr:=zL ba;replace ae:=zF ae ba;clear ba;refine hK.out _ _ (bp.out _ ae.out) (fun aa=>?_);clear hK K ag;have ag:=aa;clear aa
  case' pb5=>
   go_simp
   refine(CT.out _ (j7.out _ ae.out)).mono ?_;rintro e wx ⟨rfl,hb⟩;replace ae:=zT ae hb;clear hb
   go_wp2_with fail
   refine hK.out _ _ (bp.out _ ae.out) (fun aa=>?_);clear hK K ag;have ag:=aa;clear aa;refine wpAnyH_ready (rs:=[4,12]) (by kernel_rfl) (by simp) ?_;refine AllReadyH.cons rfl (fun K hK=>?pc5) (AllReadyH.cons rfl (fun K hK=>?pd5) AllReadyH.nil)
   case' pc5=>
    have c4:=(db.out.next ae.out).cell 4;simp only[za,zb,zf]at c4
    go_simp
    clear c4;refine hK.out _ _ (bp.out _ ae.out) (fun aa=>?_);clear hK K ag;have ag:=aa;clear aa;refine TkR 12 (fun K hK=>?_)
    go_simp
    obtain⟨W7,ba⟩:=zD (wx.alloc (.cells #[vI t1.kind,vT t1.text,vI t1.place] 64))
    rw[<- ba];have jr:=zL ba;replace ae:=zF ae ba;clear ba;refine hK.out _ _ (bp.out _ ae.out) (fun aa=>?_);clear hK K ag;have ag:=aa;clear aa
   case' pd5=>
    go_simp
    obtain⟨W7,ba⟩:=zD (wx.alloc (.cells #[vI t1.kind,vT t1.text,vI t1.place] 64))
    rw[<- ba];have jr:=zL ba;replace ae:=zF ae ba;clear ba;refine hK.out _ _ (bp.out _ ae.out) (fun aa=>?_);clear hK K ag;have ag:=aa;clear aa;refine TkR 4 (fun K hK=>?_);have c4:=(db.out.next ae.out).cell 4;simp only[za,zb,zf]at c4
    go_simp
    clear c4;refine hK.out _ _ (bp.out _ ae.out) (fun aa=>?_);clear hK K ag;have ag:=aa;clear aa
  all_goals
   refine TkR 13 (fun K hK=>?_);refine cH rfl _ _ rfl (p+1) (.slice A1 ts.length c1) ts t1 wx.heap.size rfl (aD ae.out fg.out) rfl jr.out (by omega) (yv (Nat.succ_le_of_lt gw.out.lt) ae.out.size) ?_;intro A5 c5 w5 k5 g5;have dg:=zh k5;have q8:=zh g5;have dy:=zh ((db.out.next ae.out).grownA g5 (bF (by decide) (aD ae.out fg.out) (db.out.next ae.out)));have ir:=zh ((iq.out.next ae.out).grownA g5 (bF (by decide) (aD ae.out fg.out) (iq.out.next ae.out)));have ev:=zh ((cr.out.next ae.out).grownA g5 (bF (by decide) (aD ae.out fg.out) (cr.out.next ae.out)));clear k5 g5;refine hK.out _ _ ⟨dy.out.cell 3,ir.out.cell 0,ir.out.cell 1,ir.out.cell 2,ir.out.cell 3⟩ (fun aa=>?_);clear hK K ag;have ag:=aa;clear aa;refine TkA 14 (vP p 0) ?_
   refine TkA 15 (vP p 4) ?_;have k4:=dy.out.cell 4;simp only[za,zb,zf]at k4;have k4f:=dy.out.frozen 4;refine TkR 16 (fun K hK=>?_)
   go_simp
   clear k4 k4f;have ma:=zh ((gw.out.next ae.out).grown (ts':=ts++[t1]) ((db.out.next ae.out).cell 4) dg.out q8.out);have ra:=zh ((HK.out.trans (Kw.of_below ae.out)).trans ma.out.2);have rd:=zh ma.out.1;have kh:=zh (aC ir.out (b:=p) (by have:=mh.out;omega) 4 (.slice A5 (ts.length+1) c5));have f6:=zh (aC ev.out (b:=p) (by have:=eu.out;omega) 4 (.slice A5 (ts.length+1) c5));have nf:=zh (dy.out.put 4 (.slice A5 (ts.length+1) c5));refine hK.out _ _ ⟨nf.out.cell 3,kh.out.cell 0,kh.out.cell 1,kh.out.cell 2,kh.out.cell 3⟩ (fun aa=>?_);clear hK K ag aa;refine TkD ?_
   (try simp only[Act.put,yz])
   go_wp2_with fail
   go_meet
   exact⟨rd,ra,f6⟩
 case rest=>
 clear mo vc vd ve CT uz;obtain⟨HSa,HKa,cr⟩:=hcut;obtain⟨W7,ba⟩:=zD wc
 subst ba
 go_upto_region 15 with((with_reducible refine(CC.out _ _ HSa.out (by simp;omega)).mono ?_);rintro e wx ⟨rfl,hs,hk⟩;have gw:=zh hs;have HK:=zh (HKa.out.trans hk);have po:=zh (Kw.lies hk HSa.out cr.out (by decide) (by decide) (by decide));clear hs hk)
 replace cr:=po;clear po;obtain⟨us,r7⟩:=zD (ts++[t1]++[tc])
 rw[<- r7]at gw;have HUs:=zh r7;have vt:us.length<=700002:=by rw[r7];simp;omega
 clear r7;obtain⟨W6,lx⟩:=zD wx
 subst lx;have eu:Hid (p<W1.heap.size):=zh qj.out.2;obtain⟨v0,el,jq⟩:=gw.out.box;obtain⟨A1,c1,rfl⟩:=aV jq;have db:=zh el;have fg:=zh jq;have j7:Hid (∀ W,Below W6.heap.size W6 W->Kw p (rp.toList++cp.toList) w W):=zh (fun W hb=>HK.out.trans (Kw.of_below hb));clear el jq;have bp:Hid (∀ W,Below W6.heap.size W6 W->SaX sff sfx p W1.heap.size i2 j2 h.b.fr h.b.fc W):=zh (fun W hb=>⟨(db.out.next hb).cell 3,(cr.out.next hb).cell 0,(cr.out.next hb).cell 1,(cr.out.next hb).cell 2,(cr.out.next hb).cell 3⟩);refine wp_region_held_drew (S:=fun w'=>SaX sff sfx p W1.heap.size i2 j2 h.b.fr h.b.fc w') (by kernel_rfl) (bp.out _ zB.drew) (fun ag=>?_);refine TkA 0 (vP p 0) ?_;refine TkA 1 (vP p 0) ?_;refine TkA 2 (vP p 0) ?_;refine TkA 3 (vP p 4) ?_
 refine TkA 5 (vP p 0) ?_;refine TkA 6 (vP p 0) ?_;refine TkA 7 (vP p 3) ?_;refine TkB 8 (.func (.func sff) #[] sfx) ?_;refine TkB 9 (.agg #[vI i2,vI j2,.bool h.b.fr,.bool h.b.fc]) ?_;refine TkA 10 (vI 0) ?_;have ae:Hid (Below W6.heap.size W6 W6.drew):=zh zB.drew;refine wpAnyH_ready (rs:=[4,11]) (by kernel_rfl) (by simp) ?_;refine AllReadyH.cons rfl (fun K hK=>?pa6) (AllReadyH.cons rfl (fun K hK=>?pb6) AllReadyH.nil)
 case' pa6=>
  have c4:=(db.out.next ae.out).cell 4;simp only[za,zb,zf]at c4
  go_simp
  clear c4;refine hK.out _ _ (bp.out _ ae.out) (fun aa=>?_);clear hK K ag;have ag:=aa;clear aa;refine TkR 11 (fun K hK=>?_)
  go_simp
  refine(CU.out _ (j7.out _ ae.out)).mono ?_;rintro e wx ⟨rfl,hb⟩;replace ae:=zT ae hb;clear hb
  go_wp2_with fail
  refine hK.out _ _ (bp.out _ ae.out) (fun aa=>?_);clear hK K ag;have ag:=aa;clear aa;refine TkR 12 (fun K hK=>?_)
  go_simp
  obtain⟨W7,ba⟩:=zD (wx.alloc (.cells #[vI t2.kind,vT t2.text,vI t2.place] 64))
  rw[<- ba];have jr:=zL ba;replace ae:=zF ae ba;clear ba;refine hK.out _ _ (bp.out _ ae.out) (fun aa=>?_);clear hK K ag;have ag:=aa;clear aa
 case' pb6=>
  go_simp
  refine(CU.out _ (j7.out _ ae.out)).mono ?_;rintro e wx ⟨rfl,hb⟩;replace ae:=zT ae hb;clear hb
  go_wp2_with fail
  refine hK.out _ _ (bp.out _ ae.out) (fun aa=>?_);clear hK K ag;have ag:=aa;clear aa;refine wpAnyH_ready (rs:=[4,12]) (by kernel_rfl) (by simp) ?_;refine AllReadyH.cons rfl (fun K hK=>?pc6) (AllReadyH.cons rfl (fun K hK=>?pd6) AllReadyH.nil)
  case' pc6=>
   have c4:=(db.out.next ae.out).cell 4;simp only[za,zb,zf]at c4
   go_simp
   clear c4;refine hK.out _ _ (bp.out _ ae.out) (fun aa=>?_);clear hK K ag;have ag:=aa;clear aa;refine TkR 12 (fun K hK=>?_)
   go_simp
   obtain⟨W7,ba⟩:=zD (wx.alloc (.cells #[vI t2.kind,vT t2.text,vI t2.place] 64))
   rw[<- ba];have jr:=zL ba;replace ae:=zF ae ba;clear ba;refine hK.out _ _ (bp.out _ ae.out) (fun aa=>?_);clear hK K ag;have ag:=aa;clear aa
  case' pd6=>
   go_simp
   obtain⟨W7,ba⟩:=zD (wx.alloc (.cells #[vI t2.kind,vT t2.text,vI t2.place] 64))
   rw[<- ba];have jr:=zL ba;replace ae:=zF ae ba;clear ba;refine hK.out _ _ (bp.out _ ae.out) (fun aa=>?_);clear hK K ag;have ag:=aa;clear aa;refine TkR 4 (fun K hK=>?_);have c4:=(db.out.next ae.out).cell 4;simp only[za,zb,zf]at c4
   go_simp
   clear c4;refine hK.out _ _ (bp.out _ ae.out) (fun aa=>?_);clear hK K ag;have ag:=aa;clear aa
 all_goals
  refine TkR 13 (fun K hK=>?_);refine cH rfl _ _ rfl (p+1) (.slice A1 us.length c1) us t2 wx.heap.size rfl (aD ae.out fg.out) rfl jr.out (by omega) (yv (Nat.succ_le_of_lt gw.out.lt) ae.out.size) ?_;intro A5 c5 w5 k5 g5;have dg:=zh k5;have q8:=zh g5;have dy:=zh ((db.out.next ae.out).grownA g5 (bF (by decide) (aD ae.out fg.out) (db.out.next ae.out)));have ev:=zh ((cr.out.next ae.out).grownA g5 (bF (by decide) (aD ae.out fg.out) (cr.out.next ae.out)));clear k5 g5;refine hK.out _ _ ⟨dy.out.cell 3,ev.out.cell 0,ev.out.cell 1,ev.out.cell 2,ev.out.cell 3⟩ (fun aa=>?_);clear hK K ag;have ag:=aa;clear aa;refine TkA 14 (vP p 0) ?_;refine TkA 15 (vP p 4) ?_;have k4:=dy.out.cell 4;simp only[za,zb,zf]at k4
  have k4f:=dy.out.frozen 4;refine TkR 16 (fun K hK=>?_)
  go_simp
  clear k4 k4f;have ma:=zh ((gw.out.next ae.out).grown (ts':=us++[t2]) ((db.out.next ae.out).cell 4) dg.out q8.out);have ra:=zh ((HK.out.trans (Kw.of_below ae.out)).trans ma.out.2);have rd:=zh ma.out.1;have f6:=zh (aC ev.out (b:=p) (by have:=eu.out;omega) 4 (.slice A5 (us.length+1) c5));have nf:=zh (dy.out.put 4 (.slice A5 (us.length+1) c5));refine hK.out _ _ ⟨nf.out.cell 3,f6.out.cell 0,f6.out.cell 1,f6.out.cell 2,f6.out.cell 3⟩ (fun aa=>?_);clear hK K ag aa;refine TkD ?_
  (try simp only[Act.put,yz])
  go_wp2_with fail
  go_end0
  exact⟨rfl,by rw[<- HUs.out];exact rd.out,ra.out⟩
theorem uFC(n:Int)(w:World)(hp:PowTab w)(h1:-1000000000<=n)(h2:n<=1000000000) :
  Calls Tryz.prog 75 #[vI n] w fun e w'=>e=.returned (vT (Lib.itoa n))/\Below w.heap.size w w' :=
 (Tryz.strconv_Itoa n (by omega) (by omega) w hp).mono fun _ _ ⟨h1,k,os,h2⟩=>⟨h1,by
  rw[h2];exact(zN (Below.refl _ w) k).trans (below_grow (w.drewN k) os)⟩
theorem qA(n:Int)(h1:-1000<=n)(h2:n<=1000):(Lib.itoa n).length<=10:=by
 unfold Lib.itoa
 split
 ·have:=bM n.natAbs 6 (by omega);simp only[yi];omega
 have:=bM n.toNat 6 (by omega);omega
theorem nG(n m:Nat)(b:Bool)(hn:n<=400)(hm:m<=400):(bB n m b).length<=20:=by
 unfold bB
 split
 ·have:=bM (n+1) 6 (by omega);omega
 split
 ·simp
 have:=qA ((n:Int)-(m:Int)) (by omega) (by omega);simp only[yi,yl,List.length_nil];omega
theorem rI(n m:Nat)(b:Bool)(w:World)(hp:PowTab w)(hn:n<=400)(hm:m<=400) :
  Calls Tryz.prog 91 #[vI (n:Int),vI (m:Int),.bool b] w fun e w'=>e=.returned (vT (bB n m b))/\Below w.heap.size w w':=by
 cases b
 ·by_cases h:n=m
  ·subst h;have HE:Hid (bB n n false=[]):=zh (by unfold bB;simp);generalize bB n n false=R at *
   go_in
   go_wp2_with fail
   go_ret
   exact⟨by(rw[HE.out]) <;> rfl,Below.refl _ _⟩
  have CI:=zh (uFC ((n:Int)-(m:Int)) w hp (by omega) (by omega));have hw:IntKind.i64.wrap ((n:Int)-(m:Int))=(n:Int)-(m:Int):=IntWalk.i64_in _ (by omega);have HE:Hid (bB n m false=91::(Lib.itoa ((n:Int)-(m:Int))++[93])):=zh (by unfold bB;rw[if_neg (by decide),if_neg h]);have hl:=qA ((n:Int)-(m:Int)) (by omega) (by omega);have hnb:((n:Int)==(m:Int))=false:=by simp;omega
  have cy:¬ (n:Int)=(m:Int):=by omega
  generalize bB n m false=R at *;generalize Lib.itoa ((n:Int)-(m:Int))=D at *;have k1:¬ 9223372036854775807<D.length+1:=by omega
  have k2:¬ 9223372036854775807<D.length+1+1:=by omega
  clear h hp
  go_in
  go_wp2_with (with_reducible refine CI.out.mono ?_;rintro e wx ⟨rfl,hb⟩;have HB:=zh hb;clear hb)
  go_ret
  refine⟨?_,HB.out⟩;rw[HE.out];simp
 have CI:=zh (nU (n+1) w hp (by omega));have hw:IntKind.i64.wrap ((n:Int)+1)=(n:Int)+1:=IntWalk.i64_in _ (by omega);have HE:Hid (bB n m true=Lib.decDigits (n+1)):=zh rfl;generalize bB n m true=R at *;rw[<- HE.out]at CI;rw[show ((n+1:Nat):Int)=(n:Int)+1 by omega]at CI;clear HE hp
 go_in
 go_wp2_with (with_reducible refine CI.out.mono ?_;rintro e wx ⟨rfl,hb⟩;have HB:=zh hb;clear hb)
 go_ret
 exact⟨rfl,HB.out⟩
theorem oP(row col r c:Nat)(fr fc:Bool)(w:World)(hp:PowTab w)(hr:row<=400)(hc:col<=400)(hr':r<=400)(xh:c<=400) :
  Calls Tryz.prog 43 #[markV row col fr fc,vI (r:Int),vI (c:Int)] w fun e w'=>e=.returned (vT (82::(bB row r fr++67::bB col c fc)))/\Below w.heap.size w w':=by
 have T0:=zh (MarkIn.start w row col fr fc);have nc:Hid (PowTab (w.alloc (.cells #[vI row,vI col,.bool fr,.bool fc] 90))):=zh (hp.next T0.out.2.2.2.2.2);have CR1:=zh (fun W=>iM (row:Int) (col:Int) W (by omega) (by omega) (by omega) (by omega));have CR2:=zh (fun W=>iM (r:Int) (c:Int) W (by omega) (by omega) (by omega) (by omega));have C1:=zh (fun W h=>rI row r fr W h hr hr');have C2:=zh (fun W h=>rI col c fc W h hc xh);have tz:=nG row r fr hr hr';have hd2:=nG col c fc hc xh;generalize bB row r fr=S1 at *;generalize bB col c fc=S2 at *;have k1:¬ 9223372036854775807<S1.length+1:=by omega
 have k2:¬ 9223372036854775807<S1.length+1+1:=by omega
 have k3:¬ 9223372036854775807<S1.length+1+1+S2.length:=by omega
 have k4:¬ 9223372036854775807<1+S1.length:=by omega
 have k5:¬ 9223372036854775807<1+S1.length+1:=by omega
 have k6:¬ 9223372036854775807<1+S1.length+1+S2.length:=by omega
 have k7:¬ 9223372036854775807<S1.length+1+(S2.length+1):=by omega
 have k8:¬ 9223372036854775807<S1.length+1+1+(S2.length+1):=by omega
 clear hp hr hc hr' xh;obtain⟨g0,g1,g2,g3,g4,g5⟩:=T0.out
 go_in
 go_wp2_with (first
  |(go_at_call 90;(with_reducible refine(CR1.out _).mono ?_);rintro e w1 ⟨rfl,rfl⟩)
  |(go_at_call 90;(with_reducible refine(CR2.out _).mono ?_);rintro e w1 ⟨rfl,rfl⟩))
 generalize hW:w.alloc (.cells #[vI (row:Int),vI (col:Int),.bool fr,.bool fc] 90)=W at *;clear hW;have HP9:Hid (PowTab W.drew):=nc
 go_cut [6] (fun va wx=>va=vT (82::(S1++67::S2))/\Hid (Below w.heap.size w wx))
 case first=>
  go_region_held3 (fun w'=>w.heap.size<w'.heap.size/\w'.cell? ⟨w.heap.size,0,none⟩=some (vI (row:Int))/\w'.cell? ⟨w.heap.size,1,none⟩=some (vI (col:Int))/\w'.cell? ⟨w.heap.size,2,none⟩=some (.bool fr)/\w'.cell? ⟨w.heap.size,3,none⟩=some (.bool fc)/\Below w.heap.size w w')
   (first|exact T0.out|exact T0.out.drew|exact(MarkIn.next T0.out.drew hb) |(go_split_ands;exact(MarkIn.next (w:=w) ⟨by assumption,by assumption,by assumption,by assumption,by assumption,by assumption⟩ hb))|assumption)
   (first
    |(go_at_call 91;(with_reducible refine(C1.out _ HP9.out).mono ?_);rintro e wx ⟨rfl,hb⟩;have sh:=zh (HP9.out.next hb))
    |(go_at_call 91;(with_reducible refine(C2.out _ sh.out).mono ?_);rintro e wx ⟨rfl,hb⟩))
  all_goals go_wp2_with fail
  all_goals go_meet
  all_goals refine⟨by simp,zh ?_⟩
  all_goals first|assumption |(go_split_ands;assumption)
 case rest=>
 obtain⟨rfl,hb⟩:=hcut;clear g0 g1 g2 g3 g4 g5
 go_wp2_with fail
 go_ret
 exact⟨rfl,hb.out⟩
theorem trimC(X:Bs):Lib.trimSuffix (82::(X++[67])) [67]=82::X:=by
 unfold Lib.trimSuffix Lib.hasSuffix;rw[if_pos (by simp[List.isSuffixOf])];rw[show (82:UInt8)::(X++[67])=(82::X)++[67] from rfl];simp
theorem trimR(X:Bs):Lib.trimPrefix (82::X) [82]=X:=by
 unfold Lib.trimPrefix Lib.hasPrefix;rw[if_pos (by simp[List.isPrefixOf])];rfl
theorem tL(n:Nat):bB n n false=[]:=by unfold bB;simp
theorem uGR(row col r0 c0:Nat)(fr fc:Bool)(b1 b2:Nat)(w:World)(hp:PowTab w)(hr:row<=400)(hc:col<=400)(fq:r0<=400)(pw:c0<=400)(h1:w.cell? ⟨b1,0,none⟩=some (vI (c0:Int)))(h2:w.cell? ⟨b2,0,none⟩=some (vI (r0:Int)))(l1:b1<w.heap.size)(l2:b2<w.heap.size) :
  Calls Tryz.prog 41 #[.agg #[vI (row:Int),vI (col:Int),.bool fr,.bool fc],vI 0,vP b1 0,vP b2 0] w fun e w'=>e=.returned (eD (cE (.seen r0 c0) row col fr fc))/\Below w.heap.size w w':=by
 obtain⟨W0,ak⟩:∃ W0,W0=(w.alloc (.cells #[vI (row:Int),vI (col:Int),.bool fr,.bool fc] 90)).alloc (.cells #[vI 0,vS #[],vI 0] 64):=⟨_,rfl⟩
 have aj:=zh ak;have af:Hid (Below w.heap.size w W0):=zh (by rw[ak];exact((Below.refl _ w).alloc zr _).alloc (by rw[World.size_alloc];omega) _);have aq:W0.heap.size=w.heap.size+2:=by rw[ak,World.size_alloc,World.size_alloc]
 have L0:Hid (Lies W0 w.heap.size 90 #[vI (row:Int),vI (col:Int),.bool fr,.bool fc]):=zh (by rw[ak];exact(Lies.new w _ _).alloc _);have L1:Hid (Lies W0 (w.heap.size+1) 64 #[vI 0,vS #[],vI 0]):=zh (by
  rw[ak];have h:=Lies.new (w.alloc (.cells #[vI (row:Int),vI (col:Int),.bool fr,.bool fc] 90)) 64 #[vI 0,vS #[],vI 0];rw[World.size_alloc]at h;exact h)
 obtain⟨W1,an⟩:=zD W0
 have am:=zh an;have bi:Hid (Below w.heap.size w W1):=zh (by rw[an];exact af.out);have ed:W1.heap.size=w.heap.size+2:=by rw[an];first|exact aq|simpa using aq
 have K0:Hid (Lies W1 w.heap.size 90 #[vI (row:Int),vI (col:Int),.bool fr,.bool fc]):=zh (by rw[an];exact L0.out);have K1:Hid (Lies W1 (w.heap.size+1) 64 #[vI 0,vS #[],vI 0]):=zh (by rw[an];exact L1.out);have ry:Hid (PowTab W1):=zh (hp.next bi.out);have ls:Hid (W1.cell? ⟨b1,0,none⟩=some (vI (c0:Int))/\W1.cell? ⟨b2,0,none⟩=some (vI (r0:Int))/\b1<W1.heap.size/\b2<W1.heap.size):=zh ⟨(bi.out.cell (p:=⟨b1,0,none⟩) l1).trans h1,(bi.out.cell (p:=⟨b2,0,none⟩) l2).trans h2,by omega,by omega⟩
 have ap:Hid (∀ W,Below W1.heap.size W1 W->W.cell? ⟨w.heap.size,0,none⟩=some (vI (row:Int))/\W.cell? ⟨w.heap.size,1,none⟩=some (vI (col:Int))/\W.cell? ⟨w.heap.size,2,none⟩=some (.bool fr)/\W.cell? ⟨w.heap.size,3,none⟩=some (.bool fc)/\W.cell? ⟨w.heap.size+1,0,none⟩=some (vI 0)/\W.cell? ⟨w.heap.size+1,1,none⟩=some (vS #[])/\W.cell? ⟨w.heap.size+1,2,none⟩=some (vI 0)/\W.frozen? ⟨w.heap.size+1,0,none⟩=false/\W.frozen? ⟨w.heap.size+1,1,none⟩=false/\W.frozen? ⟨w.heap.size+1,2,none⟩=false/\W.cell? ⟨b1,0,none⟩=some (vI (c0:Int))/\W.cell? ⟨b2,0,none⟩=some (vI (r0:Int))/\w.heap.size+1<W.heap.size/\Below W1.heap.size W1 W):=zh (fun W h=>⟨(K0.out.next h).cell 0,(K0.out.next h).cell 1,(K0.out.next h).cell 2,(K0.out.next h).cell 3,(K1.out.next h).cell 0,(K1.out.next h).cell 1,(K1.out.next h).cell 2,(K1.out.next h).frozen 0,(K1.out.next h).frozen 1,(K1.out.next h).frozen 2,(h.cell (p:=⟨b1,0,none⟩) ls.out.2.2.1).trans ls.out.1,(h.cell (p:=⟨b2,0,none⟩) ls.out.2.2.2).trans ls.out.2.1,by have:=h.size;omega,h⟩)
 have H0:Hid (W0.cell? ⟨w.heap.size,0,none⟩=some (vI (row:Int))/\W0.cell? ⟨w.heap.size,1,none⟩=some (vI (col:Int))/\W0.cell? ⟨w.heap.size,2,none⟩=some (.bool fr)/\W0.cell? ⟨w.heap.size,3,none⟩=some (.bool fc)/\W0.frozen? ⟨w.heap.size,0,none⟩=false/\W0.frozen? ⟨w.heap.size,1,none⟩=false/\W0.frozen? ⟨w.heap.size,2,none⟩=false/\W0.frozen? ⟨w.heap.size,3,none⟩=false/\W0.cell? ⟨b1,0,none⟩=some (vI (c0:Int))/\W0.cell? ⟨b2,0,none⟩=some (vI (r0:Int))/\b1≠w.heap.size/\b2≠w.heap.size):=zh ⟨L0.out.cell 0,L0.out.cell 1,L0.out.cell 2,L0.out.cell 3,L0.out.frozen 0,L0.out.frozen 1,L0.out.frozen 2,L0.out.frozen 3,(af.out.cell (p:=⟨b1,0,none⟩) l1).trans h1,(af.out.cell (p:=⟨b2,0,none⟩) l2).trans h2,by omega,by omega⟩;have CR:=zh (fun W (h:PowTab W)=>oP row col r0 c0 fr fc W h hr hc fq pw)
 have qg:Hid (eD (cE (.seen r0 c0) row col fr fc)=.agg #[vI 3,vT (82::(bB row r0 fr++67::bB col c0 fc)),vI 0]):=zh rfl;obtain⟨M,hM⟩:=zD (82::(bB row r0 fr++67::bB col c0 fc))
 rw[<- hM]at CR qg;clear hM;obtain⟨tv,jp⟩:=zD (eD (cE (.seen r0 c0) row col fr fc))
 have qv:=zh jp;rw[<- jp];clear ak an hp jp L0 L1 K0 K1 h1 h2 l1 l2 aq ed ls
 go_in
 go_upto_region 1 with fail
 rw[<- aj.out];clear aj;obtain⟨m0,m1,m2,m3,g0,g1,g2,g3,p1,p2,n1,n2⟩:=H0.out
 go_upto_region 3 with fail
 clear m0 m1 m2 m3 g0 g1 g2 g3 p1 p2;rw[<- am.out];clear am H0;obtain⟨m0,m1,m2,m3,t0,t1,t2,f0,f1,f2,p1,p2,z0,cg⟩:=ap.out _ zB
 go_wp2_with (first
  |(go_at_call 43;(with_reducible refine(CR.out _ ry.out).mono ?_);rintro e wx ⟨rfl,hb⟩;have HB:=zh hb;clear m0 m1 m2 m3 t0 t1 t2 f0 f1 f2 p1 p2 z0 cg;obtain⟨m0,m1,m2,m3,t0,t1,t2,f0,f1,f2,p1,p2,z0,cg⟩:=ap.out _ hb;clear hb))
 refine yt (v:=.agg #[vI 3,vT (M),vI 0]) (by simp[results,Tryz.results41,go_sem,t0,t1,t2]) rfl ?_;refine⟨by rw[qv.out,qg.out],?_⟩;exact(((zU bi.out HB.out).setCell (p:=⟨_,_,none⟩) (Nat.le_succ _) _).setCell (p:=⟨_,_,none⟩) (Nat.le_succ _) _).setCell (p:=⟨_,_,none⟩) (Nat.le_succ _) _
theorem seen_row(row col r0 c0:Nat)(fr fc:Bool)(b1 b2:Nat)(w:World)(hp:PowTab w)(hr:row<=400)(fq:r0<=400)(pw:c0<=400)(h1:w.cell? ⟨b1,0,none⟩=some (vI (c0:Int)))(h2:w.cell? ⟨b2,0,none⟩=some (vI (r0:Int)))(l1:b1<w.heap.size)(l2:b2<w.heap.size) :
  Calls Tryz.prog 41 #[.agg #[vI (row:Int),vI (col:Int),.bool fr,.bool fc],vI 1,vP b1 0,vP b2 0] w fun e w'=>e=.returned (eD (cX (.seen r0 c0) row fr))/\Below w.heap.size w w':=by
 obtain⟨W0,ak⟩:∃ W0,W0=(w.alloc (.cells #[vI (row:Int),vI (col:Int),.bool fr,.bool fc] 90)).alloc (.cells #[vI 0,vS #[],vI 0] 64):=⟨_,rfl⟩
 have aj:=zh ak;have af:Hid (Below w.heap.size w W0):=zh (by rw[ak];exact((Below.refl _ w).alloc zr _).alloc (by rw[World.size_alloc];omega) _);have aq:W0.heap.size=w.heap.size+2:=by rw[ak,World.size_alloc,World.size_alloc]
 have L0:Hid (Lies W0 w.heap.size 90 #[vI (row:Int),vI (col:Int),.bool fr,.bool fc]):=zh (by rw[ak];exact(Lies.new w _ _).alloc _);have L1:Hid (Lies W0 (w.heap.size+1) 64 #[vI 0,vS #[],vI 0]):=zh (by
  rw[ak];have h:=Lies.new (w.alloc (.cells #[vI (row:Int),vI (col:Int),.bool fr,.bool fc] 90)) 64 #[vI 0,vS #[],vI 0];rw[World.size_alloc]at h;exact h)
 obtain⟨W1,an⟩:∃ W1,W1=((W0.setCell ⟨w.heap.size,1,none⟩ (vI (c0:Int))).setCell ⟨w.heap.size,3,none⟩ (.bool false)):=⟨_,rfl⟩
 have am:=zh an;have bi:Hid (Below w.heap.size w W1):=zh (by rw[an];exact((af.out.setCell (p:=⟨_,_,none⟩) zr _).setCell (p:=⟨_,_,none⟩) zr _));have ed:W1.heap.size=w.heap.size+2:=by rw[an];first|exact aq|simpa using aq
 have K0:Hid (Lies W1 w.heap.size 90 #[vI (row:Int),vI (c0:Int),.bool fr,.bool false]):=zh (by rw[an];exact((L0.out.put 1 (vI (c0:Int))).put 3 (.bool false)));have K1:Hid (Lies W1 (w.heap.size+1) 64 #[vI 0,vS #[],vI 0]):=zh (by rw[an];exact(aC (aC L1.out (by omega) _ _) (by omega) _ _));have ry:Hid (PowTab W1):=zh (hp.next bi.out);have ls:Hid (W1.cell? ⟨b1,0,none⟩=some (vI (c0:Int))/\W1.cell? ⟨b2,0,none⟩=some (vI (r0:Int))/\b1<W1.heap.size/\b2<W1.heap.size):=zh ⟨(bi.out.cell (p:=⟨b1,0,none⟩) l1).trans h1,(bi.out.cell (p:=⟨b2,0,none⟩) l2).trans h2,by omega,by omega⟩
 have ap:Hid (∀ W,Below W1.heap.size W1 W->W.cell? ⟨w.heap.size,0,none⟩=some (vI (row:Int))/\W.cell? ⟨w.heap.size,1,none⟩=some (vI (c0:Int))/\W.cell? ⟨w.heap.size,2,none⟩=some (.bool fr)/\W.cell? ⟨w.heap.size,3,none⟩=some (.bool false)/\W.cell? ⟨w.heap.size+1,0,none⟩=some (vI 0)/\W.cell? ⟨w.heap.size+1,1,none⟩=some (vS #[])/\W.cell? ⟨w.heap.size+1,2,none⟩=some (vI 0)/\W.frozen? ⟨w.heap.size+1,0,none⟩=false/\W.frozen? ⟨w.heap.size+1,1,none⟩=false/\W.frozen? ⟨w.heap.size+1,2,none⟩=false/\W.cell? ⟨b1,0,none⟩=some (vI (c0:Int))/\W.cell? ⟨b2,0,none⟩=some (vI (r0:Int))/\w.heap.size+1<W.heap.size/\Below W1.heap.size W1 W):=zh (fun W h=>⟨(K0.out.next h).cell 0,(K0.out.next h).cell 1,(K0.out.next h).cell 2,(K0.out.next h).cell 3,(K1.out.next h).cell 0,(K1.out.next h).cell 1,(K1.out.next h).cell 2,(K1.out.next h).frozen 0,(K1.out.next h).frozen 1,(K1.out.next h).frozen 2,(h.cell (p:=⟨b1,0,none⟩) ls.out.2.2.1).trans ls.out.1,(h.cell (p:=⟨b2,0,none⟩) ls.out.2.2.2).trans ls.out.2.1,by have:=h.size;omega,h⟩)
 have H0:Hid (W0.cell? ⟨w.heap.size,0,none⟩=some (vI (row:Int))/\W0.cell? ⟨w.heap.size,1,none⟩=some (vI (col:Int))/\W0.cell? ⟨w.heap.size,2,none⟩=some (.bool fr)/\W0.cell? ⟨w.heap.size,3,none⟩=some (.bool fc)/\W0.frozen? ⟨w.heap.size,0,none⟩=false/\W0.frozen? ⟨w.heap.size,1,none⟩=false/\W0.frozen? ⟨w.heap.size,2,none⟩=false/\W0.frozen? ⟨w.heap.size,3,none⟩=false/\W0.cell? ⟨b1,0,none⟩=some (vI (c0:Int))/\W0.cell? ⟨b2,0,none⟩=some (vI (r0:Int))/\b1≠w.heap.size/\b2≠w.heap.size):=zh ⟨L0.out.cell 0,L0.out.cell 1,L0.out.cell 2,L0.out.cell 3,L0.out.frozen 0,L0.out.frozen 1,L0.out.frozen 2,L0.out.frozen 3,(af.out.cell (p:=⟨b1,0,none⟩) l1).trans h1,(af.out.cell (p:=⟨b2,0,none⟩) l2).trans h2,by omega,by omega⟩;have CR:=zh (fun W (h:PowTab W)=>oP row c0 r0 c0 fr false W h hr pw fq pw);rw[tL]at CR
 have qg:Hid (eD (cX (.seen r0 c0) row fr)=.agg #[vI 3,vT (82::bB row r0 fr),vI 0]):=zh rfl;have hl:=nG row r0 fr hr fq;generalize bB row r0 fr=X at *;have CT:Hid (∀ W,Calls Tryz.prog 42 #[vT (82::(X++[67])),vS #[67]] W fun e w'=>e=.returned (vT (82::X))/\w'=W):=zh (fun W=>by
  have h:=Tryz.strings_TrimSuffix ⟨(82::(X++[67])).toArray⟩ ⟨#[67]⟩ W (by show (82::(X++[67])).toArray.size<=_;simp;omega);rw[show Lib.trimSuffix (⟨(82::(X++[67])).toArray⟩:ByteArray).data.toList (⟨#[67]⟩:ByteArray).data.toList=82::X from trimC X]at h;exact h)
 obtain⟨tv,jp⟩:=zD (eD (cX (.seen r0 c0) row fr))
 have qv:=zh jp;rw[<- jp];clear ak an hp jp L0 L1 K0 K1 h1 h2 l1 l2 aq ed ls
 go_in
 go_upto_region 1 with fail
 rw[<- aj.out];clear aj;obtain⟨m0,m1,m2,m3,g0,g1,g2,g3,p1,p2,n1,n2⟩:=H0.out
 go_upto_region 6 with fail
 clear m0 m1 m2 m3 g0 g1 g2 g3 p1 p2;rw[<- am.out];clear am H0;obtain⟨m0,m1,m2,m3,t0,t1,t2,f0,f1,f2,p1,p2,z0,cg⟩:=ap.out _ zB
 go_wp2_with (first
  |(go_at_call 43;(with_reducible refine(CR.out _ ry.out).mono ?_);rintro e wx ⟨rfl,hb⟩;have HB:=zh hb;clear m0 m1 m2 m3 t0 t1 t2 f0 f1 f2 p1 p2 z0 cg;obtain⟨m0,m1,m2,m3,t0,t1,t2,f0,f1,f2,p1,p2,z0,cg⟩:=ap.out _ hb;clear hb)
  |(go_at_call 42;(with_reducible refine(CT.out _).mono ?_);rintro e wx ⟨rfl,rfl⟩))
 refine yt (v:=.agg #[vI 3,vT (82::X),vI 0]) (by simp[results,Tryz.results41,go_sem,t0,t1,t2]) rfl ?_;refine⟨by rw[qv.out,qg.out],?_⟩;exact(((zU bi.out HB.out).setCell (p:=⟨_,_,none⟩) (Nat.le_succ _) _).setCell (p:=⟨_,_,none⟩) (Nat.le_succ _) _).setCell (p:=⟨_,_,none⟩) (Nat.le_succ _) _
theorem seen_col(row col r0 c0:Nat)(fr fc:Bool)(b1 b2:Nat)(w:World)(hp:PowTab w)(hc:col<=400)(fq:r0<=400)(pw:c0<=400)(h1:w.cell? ⟨b1,0,none⟩=some (vI (c0:Int)))(h2:w.cell? ⟨b2,0,none⟩=some (vI (r0:Int)))(l1:b1<w.heap.size)(l2:b2<w.heap.size) :
  Calls Tryz.prog 41 #[.agg #[vI (row:Int),vI (col:Int),.bool fr,.bool fc],vI 2,vP b1 0,vP b2 0] w fun e w'=>e=.returned (eD (cW (.seen r0 c0) col fc))/\Below w.heap.size w w':=by
 obtain⟨W0,ak⟩:∃ W0,W0=(w.alloc (.cells #[vI (row:Int),vI (col:Int),.bool fr,.bool fc] 90)).alloc (.cells #[vI 0,vS #[],vI 0] 64):=⟨_,rfl⟩
 have aj:=zh ak;have af:Hid (Below w.heap.size w W0):=zh (by rw[ak];exact((Below.refl _ w).alloc zr _).alloc (by rw[World.size_alloc];omega) _);have aq:W0.heap.size=w.heap.size+2:=by rw[ak,World.size_alloc,World.size_alloc]
 have L0:Hid (Lies W0 w.heap.size 90 #[vI (row:Int),vI (col:Int),.bool fr,.bool fc]):=zh (by rw[ak];exact(Lies.new w _ _).alloc _);have L1:Hid (Lies W0 (w.heap.size+1) 64 #[vI 0,vS #[],vI 0]):=zh (by
  rw[ak];have h:=Lies.new (w.alloc (.cells #[vI (row:Int),vI (col:Int),.bool fr,.bool fc] 90)) 64 #[vI 0,vS #[],vI 0];rw[World.size_alloc]at h;exact h)
 obtain⟨W1,an⟩:∃ W1,W1=((W0.setCell ⟨w.heap.size,0,none⟩ (vI (r0:Int))).setCell ⟨w.heap.size,2,none⟩ (.bool false)):=⟨_,rfl⟩
 have am:=zh an;have bi:Hid (Below w.heap.size w W1):=zh (by rw[an];exact((af.out.setCell (p:=⟨_,_,none⟩) zr _).setCell (p:=⟨_,_,none⟩) zr _));have ed:W1.heap.size=w.heap.size+2:=by rw[an];first|exact aq|simpa using aq
 have K0:Hid (Lies W1 w.heap.size 90 #[vI (r0:Int),vI (col:Int),.bool false,.bool fc]):=zh (by rw[an];exact((L0.out.put 0 (vI (r0:Int))).put 2 (.bool false)));have K1:Hid (Lies W1 (w.heap.size+1) 64 #[vI 0,vS #[],vI 0]):=zh (by rw[an];exact(aC (aC L1.out (by omega) _ _) (by omega) _ _));have ry:Hid (PowTab W1):=zh (hp.next bi.out);have ls:Hid (W1.cell? ⟨b1,0,none⟩=some (vI (c0:Int))/\W1.cell? ⟨b2,0,none⟩=some (vI (r0:Int))/\b1<W1.heap.size/\b2<W1.heap.size):=zh ⟨(bi.out.cell (p:=⟨b1,0,none⟩) l1).trans h1,(bi.out.cell (p:=⟨b2,0,none⟩) l2).trans h2,by omega,by omega⟩
 have ap:Hid (∀ W,Below W1.heap.size W1 W->W.cell? ⟨w.heap.size,0,none⟩=some (vI (r0:Int))/\W.cell? ⟨w.heap.size,1,none⟩=some (vI (col:Int))/\W.cell? ⟨w.heap.size,2,none⟩=some (.bool false)/\W.cell? ⟨w.heap.size,3,none⟩=some (.bool fc)/\W.cell? ⟨w.heap.size+1,0,none⟩=some (vI 0)/\W.cell? ⟨w.heap.size+1,1,none⟩=some (vS #[])/\W.cell? ⟨w.heap.size+1,2,none⟩=some (vI 0)/\W.frozen? ⟨w.heap.size+1,0,none⟩=false/\W.frozen? ⟨w.heap.size+1,1,none⟩=false/\W.frozen? ⟨w.heap.size+1,2,none⟩=false/\W.cell? ⟨b1,0,none⟩=some (vI (c0:Int))/\W.cell? ⟨b2,0,none⟩=some (vI (r0:Int))/\w.heap.size+1<W.heap.size/\Below W1.heap.size W1 W):=zh (fun W h=>⟨(K0.out.next h).cell 0,(K0.out.next h).cell 1,(K0.out.next h).cell 2,(K0.out.next h).cell 3,(K1.out.next h).cell 0,(K1.out.next h).cell 1,(K1.out.next h).cell 2,(K1.out.next h).frozen 0,(K1.out.next h).frozen 1,(K1.out.next h).frozen 2,(h.cell (p:=⟨b1,0,none⟩) ls.out.2.2.1).trans ls.out.1,(h.cell (p:=⟨b2,0,none⟩) ls.out.2.2.2).trans ls.out.2.1,by have:=h.size;omega,h⟩)
 have H0:Hid (W0.cell? ⟨w.heap.size,0,none⟩=some (vI (row:Int))/\W0.cell? ⟨w.heap.size,1,none⟩=some (vI (col:Int))/\W0.cell? ⟨w.heap.size,2,none⟩=some (.bool fr)/\W0.cell? ⟨w.heap.size,3,none⟩=some (.bool fc)/\W0.frozen? ⟨w.heap.size,0,none⟩=false/\W0.frozen? ⟨w.heap.size,1,none⟩=false/\W0.frozen? ⟨w.heap.size,2,none⟩=false/\W0.frozen? ⟨w.heap.size,3,none⟩=false/\W0.cell? ⟨b1,0,none⟩=some (vI (c0:Int))/\W0.cell? ⟨b2,0,none⟩=some (vI (r0:Int))/\b1≠w.heap.size/\b2≠w.heap.size):=zh ⟨L0.out.cell 0,L0.out.cell 1,L0.out.cell 2,L0.out.cell 3,L0.out.frozen 0,L0.out.frozen 1,L0.out.frozen 2,L0.out.frozen 3,(af.out.cell (p:=⟨b1,0,none⟩) l1).trans h1,(af.out.cell (p:=⟨b2,0,none⟩) l2).trans h2,by omega,by omega⟩;have CR:=zh (fun W (h:PowTab W)=>oP r0 col r0 c0 false fc W h fq hc fq pw);rw[tL]at CR
 have qg:Hid (eD (cW (.seen r0 c0) col fc)=.agg #[vI 3,vT (67::bB col c0 fc),vI 0]):=zh rfl;generalize bB col c0 fc=X at *;have CT:Hid (∀ W,Calls Tryz.prog 44 #[vT (82::67::X),vS #[82]] W fun e w'=>e=.returned (vT (67::X))/\w'=W):=zh (fun W=>by
  have h:=Tryz.strings_TrimPrefix ⟨(82::67::X).toArray⟩ ⟨#[82]⟩ W;rw[show Lib.trimPrefix (⟨(82::67::X).toArray⟩:ByteArray).data.toList (⟨#[82]⟩:ByteArray).data.toList=67::X from trimR (67::X)]at h;exact h)
 obtain⟨tv,jp⟩:=zD (eD (cW (.seen r0 c0) col fc))
 have qv:=zh jp;rw[<- jp];clear ak an hp jp L0 L1 K0 K1 h1 h2 l1 l2 aq ed ls
 go_in
 go_upto_region 1 with fail
 rw[<- aj.out];clear aj;obtain⟨m0,m1,m2,m3,g0,g1,g2,g3,p1,p2,n1,n2⟩:=H0.out
 go_upto_region 9 with fail
 clear m0 m1 m2 m3 g0 g1 g2 g3 p1 p2;rw[<- am.out];clear am H0;obtain⟨m0,m1,m2,m3,t0,t1,t2,f0,f1,f2,p1,p2,z0,cg⟩:=ap.out _ zB
 go_wp2_with (first
  |(go_at_call 43;(with_reducible refine(CR.out _ ry.out).mono ?_);rintro e wx ⟨rfl,hb⟩;have HB:=zh hb;clear m0 m1 m2 m3 t0 t1 t2 f0 f1 f2 p1 p2 z0 cg;obtain⟨m0,m1,m2,m3,t0,t1,t2,f0,f1,f2,p1,p2,z0,cg⟩:=ap.out _ hb;clear hb)
  |(go_at_call 44;(with_reducible refine(CT.out _).mono ?_);rintro e wx ⟨rfl,rfl⟩))
 refine yt (v:=.agg #[vI 3,vT (67::X),vI 0]) (by simp[results,Tryz.results41,go_sem,t0,t1,t2]) rfl ?_;refine⟨by rw[qv.out,qg.out],?_⟩;exact(((zU bi.out HB.out).setCell (p:=⟨_,_,none⟩) (Nat.le_succ _) _).setCell (p:=⟨_,_,none⟩) (Nat.le_succ _) _).setCell (p:=⟨_,_,none⟩) (Nat.le_succ _) _
end Go.Proofs.YtjfihpaeglpblaaGreatDoor
