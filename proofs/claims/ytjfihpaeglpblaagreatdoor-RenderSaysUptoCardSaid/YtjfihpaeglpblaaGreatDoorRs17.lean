/-
  Lemmas, part 17: WrF PlR3 OpenI OpenV OpenN.
-/
import Derived.Test.YtjfihpaeglpblaaGreatDoorCards
import Derived.ProofKit
import Derived.OpenShut
import Derived.ShutString
import Derived.Deep.DeepHandedRow
import Derived.Deep.Slices
import Derived.SizedLaws
import Derived.Test.YtjfihpaeglpblaaGreatDoorRs16
set_option maxHeartbeats 100000000
set_option maxRecDepth 1000000
namespace Go.Proofs.YtjfihpaeglpblaaGreatDoor
open Go.RowKit
theorem lM{p m:Nat}{rp cp:Option Nat}{R C:AxV}{ts:List RTok}(h:NodeH)(w:World)(hw:WrS w p m rp cp R C (.func (.func 34) #[] #[]) ts)(hn:ts.length<=700000)(hr:Hid (h.a.row≠id0))(hc:Hid (h.a.col≠id0))(i1 i2 j1 j2:Int)(k1 k2:Bool)(hk:k1=true->k2=false)(hE0:∀ W,WrS W p m rp cp R C (.func (.func 34) #[] #[]) ts->Calls Tryz.prog 194 #[.pointer (ptr rp),.agg #[vI h.a.row.a,vI h.a.row.n],.agg #[vI h.b.row.a,vI h.b.row.n]] W fun e w'=>e=.returned (.tuple #[vI i1,vI i2,.bool k1])/\WrS w' p m rp cp R C (.func (.func 34) #[] #[]) ts/\Kw p (rp.toList++cp.toList) W w')(j9:∀ W,WrS W p m rp cp R C (.func (.func 34) #[] #[]) ts->Calls Tryz.prog 194 #[.pointer (ptr cp),.agg #[vI h.a.col.a,vI h.a.col.n],.agg #[vI h.b.col.a,vI h.b.col.n]] W fun e w'=>e=.returned (.tuple #[vI j1,vI j2,.bool k2])/\WrS w' p m rp cp R C (.func (.func 34) #[] #[]) ts/\Kw p (rp.toList++cp.toList) W w') :
  Calls Tryz.prog 139 #[vP p 0,.agg #[vI h.a.row.a,vI h.a.row.n,vI h.a.col.a,vI h.a.col.n,.bool h.a.fr,.bool h.a.fc,vI h.b.row.a,vI h.b.row.n,vI h.b.col.a,vI h.b.col.n,.bool h.b.fr,.bool h.b.fc]] w fun e w'=>WrO p m rp cp R C (.func (.func 34) #[] #[]) (ts++dB) w e w':=by
 obtain⟨W0,W1,W2,Z,ai,al,jq,fm,cu,gc,HA,oj,ol,r9,jx,jy,jz,j0,dy,dz,sc,sd,ph,pz,nv,ll,mr⟩:=iW h w hw;have hZ:=fm.out;have CE0:Hid (∀ x y u v W,Z x y u v W->Calls Tryz.prog 194 #[.pointer (ptr rp),.agg #[vI h.a.row.a,vI h.a.row.n],.agg #[vI h.b.row.a,vI h.b.row.n]] W fun e w'=>e=.returned (.tuple #[vI i1,vI i2,.bool k1])/\Z x y u v w'):=zh (fun x y u v W g=>by
  obtain⟨g1,g2,g3,g4,g5⟩:=(hZ _ _ _ _ _).1 g;refine(hE0 W g1).mono ?_;rintro e w' ⟨rfl,k1,k2⟩;exact⟨rfl,(hZ _ _ _ _ _).2 ⟨k1,g2.trans k2,Kw.lies k2 g1 g3 (by decide) (by decide) (by decide),Kw.lies k2 g1 g4 (by decide) (by decide) (by decide),Kw.lies k2 g1 g5 (by decide) (by decide) (by decide)⟩⟩)
 have CE1:Hid (∀ x y u v W,Z x y u v W->Calls Tryz.prog 194 #[.pointer (ptr cp),.agg #[vI h.a.col.a,vI h.a.col.n],.agg #[vI h.b.col.a,vI h.b.col.n]] W fun e w'=>e=.returned (.tuple #[vI j1,vI j2,.bool k2])/\Z x y u v w'):=zh (fun x y u v W g=>by
  obtain⟨g1,g2,g3,g4,g5⟩:=(hZ _ _ _ _ _).1 g;refine(j9 W g1).mono ?_;rintro e w' ⟨rfl,k1,k2⟩;exact⟨rfl,(hZ _ _ _ _ _).2 ⟨k1,g2.trans k2,Kw.lies k2 g1 g3 (by decide) (by decide) (by decide),Kw.lies k2 g1 g4 (by decide) (by decide) (by decide),Kw.lies k2 g1 g5 (by decide) (by decide) (by decide)⟩⟩)
 have CG:Hid (∀ x y u v W,Z x y u v W->Calls Tryz.prog 193 #[vP p 0] W fun e w'=>WrO p m rp cp R C (.func (.func 34) #[] #[]) (ts++dB) W e w'):=zh (fun x y u v W g=>lY W ((hZ _ _ _ _ _).1 g).1 (by omega));clear hw hZ
 go_in
 go_upto_region 1 with fail
 rw[<- ai.out];clear ai;obtain⟨-,a4,a5,a10,a11⟩:=ll.out
 go_upto_region 3 with fail
 rw[<- al.out];clear al ll a4 a5 a10 a11;obtain⟨a10,a11⟩:=mr.out
 go_upto_region 4 with fail
 rw[<- jq.out];clear jq mr a10 a11;obtain⟨a0,a1,a2,a3,a6,a7,a8,a9⟩:=nv.out;have e1:∀ W:World,(binOp .eql 27 (.agg #[vI h.a.row.a,vI h.a.row.n]) (.agg #[vI 0,vI 0])).run Tryz.prog W=.ok (.bool false) W:=fun W=>by have:=dF h.a.row id0 W;rwa [decide_eq_false hr.out]at this
 have e2:∀ W:World,(binOp .eql 27 (.agg #[vI h.a.col.a,vI h.a.col.n]) (.agg #[vI 0,vI 0])).run Tryz.prog W=.ok (.bool false) W:=fun W=>by have:=dF h.a.col id0 W;rwa [decide_eq_false hc.out]at this
 go_upto_region 7 with fail
 refine wp_region_held_drew (S:=fun w'=>w'.cell? ⟨p,0,none⟩=some (.pointer (ptr rp))/\ArC h w.heap.size w') (by kernel_rfl) (dy.out _ _ _ _ _ (gc.out _ _ _ _ _ _ cu.out zB.drew)) (fun ae=>?_);refine TkA 0 (vP p 0) ?_;refine TkA 1 (vP p 0) ?_;refine TkA 2 (vP p 0) ?_;refine TkB 3 (.pointer (ptr rp)) ?_;refine TkA 4 (vP w.heap.size 0) ?_;refine TkA 5 (vP w.heap.size 0) ?_;refine TkB 6 (.agg #[vI h.a.row.a,vI h.a.row.n]) ?_;refine TkA 7 (vP w.heap.size 6) ?_;refine TkA 8 (vP w.heap.size 6) ?_;refine TkB 9 (.agg #[vI h.b.row.a,vI h.b.row.n]) ?_;refine TkR 10 (fun K hK=>?_)
 go_simp
 go_at_call 194
 refine(CE0.out _ _ _ _ _ (gc.out _ _ _ _ _ _ cu.out zB.drew)).mono ?_;rintro e wx ⟨rfl,mc⟩;have gd:=zh mc;clear mc
 go_wp2_with fail
 refine hK.out _ _ (dy.out _ _ _ _ _ gd.out) (fun aa=>?_);clear hK K ae;have ae:=aa;clear aa;refine TkA 11 (.tuple #[vI i1,vI i2,.bool k1]) ?_;refine TkA 12 (vI i1) ?_;refine TkA 13 (vI i2) ?_;refine TkA 14 (.bool k1) ?_;refine TkA 15 (vP W0.heap.size 0) ?_;obtain⟨k0,k1,f0,f1⟩:=oj.out _ _ _ _ _ gd.out;refine TkR 16 (fun K hK=>?_)
 go_simp
 clear k0 k1 f0 f1;have gh:=zh (jx.out _ _ _ _ _ i1 gd.out);refine hK.out _ _ (dy.out _ _ _ _ _ gh.out) (fun aa=>?_);clear hK K ae;have ae:=aa;clear aa;refine TkA 17 (vP W1.heap.size 0) ?_;obtain⟨k0,k1,f0,f1⟩:=ol.out _ _ _ _ _ gh.out;refine TkR 18 (fun K hK=>?_)
 go_simp
 clear k0 k1 f0 f1;have gj:=zh (jz.out _ _ _ _ _ i2 gh.out);refine hK.out _ _ (dy.out _ _ _ _ _ gj.out) (fun aa=>?_);clear hK K ae;have ae:=aa;clear aa;refine TkA 19 (.bool k1) ?_;refine TkD ?_
 (try simp only[Act.put,yz])
 obtain⟨W9,jn⟩:∃ W9,W9=(wx.setCell ⟨W0.heap.size,0,none⟩ (vI i1)).setCell ⟨W1.heap.size,0,none⟩ (vI i2):=⟨_,rfl⟩
 rw[<- jn];rw[<- jn]at gj;clear jn gd gh ae cu;have cu:=gj;clear gj;clear a0 a1 a2 a3 a6 a7 a8 a9;obtain⟨a0,a1,a2,a3,a6,a7,a8,a9⟩:=HA.out _ _ _ _ _ cu.out
 go_upto_region 10 with fail
 refine wp_region_held_drew (S:=fun w'=>w'.cell? ⟨p,1,none⟩=some (.pointer (ptr cp))/\ArC h w.heap.size w') (by kernel_rfl) (dz.out _ _ _ _ _ (gc.out _ _ _ _ _ _ cu.out zB.drew)) (fun ae=>?_);refine TkA 0 (vP p 0) ?_;refine TkA 1 (vP p 0) ?_;refine TkA 2 (vP p 1) ?_;refine TkB 3 (.pointer (ptr cp)) ?_;refine TkA 4 (vP w.heap.size 0) ?_;refine TkA 5 (vP w.heap.size 2) ?_;refine TkB 6 (.agg #[vI h.a.col.a,vI h.a.col.n]) ?_;refine TkA 7 (vP w.heap.size 6) ?_;refine TkA 8 (vP w.heap.size 8) ?_;refine TkB 9 (.agg #[vI h.b.col.a,vI h.b.col.n]) ?_;refine TkR 10 (fun K hK=>?_)
 go_simp
 go_at_call 194
 refine(CE1.out _ _ _ _ _ (gc.out _ _ _ _ _ _ cu.out zB.drew)).mono ?_;rintro e wx ⟨rfl,mc⟩;have gd:=zh mc;clear mc
 go_wp2_with fail
 refine hK.out _ _ (dz.out _ _ _ _ _ gd.out) (fun aa=>?_);clear hK K ae;have ae:=aa;clear aa;refine TkA 11 (.tuple #[vI j1,vI j2,.bool k2]) ?_;refine TkA 12 (vI j1) ?_;refine TkA 13 (vI j2) ?_;refine TkA 14 (.bool k2) ?_;refine TkA 15 (vP W0.heap.size 1) ?_;obtain⟨k0,k1,f0,f1⟩:=oj.out _ _ _ _ _ gd.out;refine TkR 16 (fun K hK=>?_)
 go_simp
 clear k0 k1 f0 f1;have gh:=zh (jy.out _ _ _ _ _ j1 gd.out);refine hK.out _ _ (dz.out _ _ _ _ _ gh.out) (fun aa=>?_);clear hK K ae;have ae:=aa;clear aa;refine TkA 17 (vP W1.heap.size 1) ?_;obtain⟨k0,k1,f0,f1⟩:=ol.out _ _ _ _ _ gh.out;refine TkR 18 (fun K hK=>?_)
 go_simp
 clear k0 k1 f0 f1;have gj:=zh (j0.out _ _ _ _ _ j2 gh.out);refine hK.out _ _ (dz.out _ _ _ _ _ gj.out) (fun aa=>?_);clear hK K ae;have ae:=aa;clear aa;refine TkA 19 (.bool k2) ?_;refine TkD ?_
 (try simp only[Act.put,yz])
 obtain⟨W9,jn⟩:∃ W9,W9=(wx.setCell ⟨W0.heap.size,1,none⟩ (vI j1)).setCell ⟨W1.heap.size,1,none⟩ (vI j2):=⟨_,rfl⟩
 rw[<- jn];rw[<- jn]at gj;clear jn gd gh ae cu;have cu:=gj;clear gj;clear a0 a1 a2 a3 a6 a7 a8 a9;clear e1 e2;cases k1
 ·have HK:=zh (ph.out _ _ _ _ _ cu.out)
  go_wp2_with ((with_reducible refine(CG.out _ _ _ _ _ cu.out).mono ?_);rintro e wx ⟨rfl,hs,hk⟩;have jo:=zh hs;have f8:=zh (HK.out.trans hk);clear hs hk)
  go_end0
  exact⟨rfl,jo.out,f8.out⟩
 obtain rfl:=hk rfl;have HK:=zh (ph.out _ _ _ _ _ cu.out)
 go_wp2_with ((with_reducible refine(CG.out _ _ _ _ _ cu.out).mono ?_);rintro e wx ⟨rfl,hs,hk⟩;have jo:=zh hs;have f8:=zh (HK.out.trans hk);clear hs hk)
 go_end0
 exact⟨rfl,jo.out,f8.out⟩
theorem xG{p m:Nat}{rp cp:Option Nat}{R C:AxV}{ts:List RTok}(h:NodeH)(w:World)(hw:WrS w p m rp cp R C (.func (.func 34) #[] #[]) ts)(hn:ts.length<=700000)(hr:Hid (h.a.row≠id0))(hc:Hid (h.a.col≠id0))(i1 i2 j1 j2:Int)(hE0:∀ W,WrS W p m rp cp R C (.func (.func 34) #[] #[]) ts->Calls Tryz.prog 194 #[.pointer (ptr rp),.agg #[vI h.a.row.a,vI h.a.row.n],.agg #[vI h.b.row.a,vI h.b.row.n]] W fun e w'=>e=.returned (.tuple #[vI i1,vI i2,.bool true])/\WrS w' p m rp cp R C (.func (.func 34) #[] #[]) ts/\Kw p (rp.toList++cp.toList) W w')(j9:∀ W,WrS W p m rp cp R C (.func (.func 34) #[] #[]) ts->Calls Tryz.prog 194 #[.pointer (ptr cp),.agg #[vI h.a.col.a,vI h.a.col.n],.agg #[vI h.b.col.a,vI h.b.col.n]] W fun e w'=>e=.returned (.tuple #[vI j1,vI j2,.bool true])/\WrS w' p m rp cp R C (.func (.func 34) #[] #[]) ts/\Kw p (rp.toList++cp.toList) W w')(t1 t2:RTok)(hT:∀ W,PowTab W->Calls Tryz.prog 34 #[.agg #[vI i1,vI j1,.bool h.a.fr,.bool h.a.fc],vI 0] W fun e w'=>e=.returned (iE t1)/\Below W.heap.size W w')(hU:∀ W,PowTab W->Calls Tryz.prog 34 #[.agg #[vI i2,vI j2,.bool h.b.fr,.bool h.b.fc],vI 0] W fun e w'=>e=.returned (iE t2)/\Below W.heap.size W w') :
  Calls Tryz.prog 139 #[vP p 0,.agg #[vI h.a.row.a,vI h.a.row.n,vI h.a.col.a,vI h.a.col.n,.bool h.a.fr,.bool h.a.fc,vI h.b.row.a,vI h.b.row.n,vI h.b.col.a,vI h.b.col.n,.bool h.b.fr,.bool h.b.fc]] w fun e w'=>WrO p m rp cp R C (.func (.func 34) #[] #[]) (ts++[t1]++[tk 5 [58]]++[t2]) w e w':=by
 obtain⟨W0,W1,W2,Z,ai,al,jq,fm,cu,gc,HA,oj,ol,r9,jx,jy,jz,j0,dy,dz,sc,sd,ph,pz,nv,ll,mr⟩:=iW h w hw;have hZ:=fm.out;have CE0:Hid (∀ x y u v W,Z x y u v W->Calls Tryz.prog 194 #[.pointer (ptr rp),.agg #[vI h.a.row.a,vI h.a.row.n],.agg #[vI h.b.row.a,vI h.b.row.n]] W fun e w'=>e=.returned (.tuple #[vI i1,vI i2,.bool true])/\Z x y u v w'):=zh (fun x y u v W g=>by
  obtain⟨g1,g2,g3,g4,g5⟩:=(hZ _ _ _ _ _).1 g;refine(hE0 W g1).mono ?_;rintro e w' ⟨rfl,k1,k2⟩;exact⟨rfl,(hZ _ _ _ _ _).2 ⟨k1,g2.trans k2,Kw.lies k2 g1 g3 (by decide) (by decide) (by decide),Kw.lies k2 g1 g4 (by decide) (by decide) (by decide),Kw.lies k2 g1 g5 (by decide) (by decide) (by decide)⟩⟩)
 have CE1:Hid (∀ x y u v W,Z x y u v W->Calls Tryz.prog 194 #[.pointer (ptr cp),.agg #[vI h.a.col.a,vI h.a.col.n],.agg #[vI h.b.col.a,vI h.b.col.n]] W fun e w'=>e=.returned (.tuple #[vI j1,vI j2,.bool true])/\Z x y u v w'):=zh (fun x y u v W g=>by
  obtain⟨g1,g2,g3,g4,g5⟩:=(hZ _ _ _ _ _).1 g;refine(j9 W g1).mono ?_;rintro e w' ⟨rfl,k1,k2⟩;exact⟨rfl,(hZ _ _ _ _ _).2 ⟨k1,g2.trans k2,Kw.lies k2 g1 g3 (by decide) (by decide) (by decide),Kw.lies k2 g1 g4 (by decide) (by decide) (by decide),Kw.lies k2 g1 g5 (by decide) (by decide) (by decide)⟩⟩)
 have CT:=zh hT;have CU:=zh hU;have um:Hid True:=zh trivial;obtain⟨tc,f6⟩:∃ x,x=tk 5 [58]:=⟨_,rfl⟩
 have CC:=zh (cB (p:=p) (m:=m) (rp:=rp) (cp:=cp) (R:=R) (C:=C) (sf:=.func (.func 34) #[] #[]) 5 [58] #[58] rfl tc f6);rw[<- f6];clear f6 hT hU;clear hw hZ
 go_in
 go_upto_region 1 with fail
 rw[<- ai.out];clear ai;obtain⟨-,a4,a5,a10,a11⟩:=ll.out
 go_upto_region 3 with fail
 rw[<- al.out];clear al ll a4 a5 a10 a11;obtain⟨a10,a11⟩:=mr.out
 go_upto_region 4 with fail
 rw[<- jq.out];clear jq mr a10 a11;obtain⟨a0,a1,a2,a3,a6,a7,a8,a9⟩:=nv.out;have e1:∀ W:World,(binOp .eql 27 (.agg #[vI h.a.row.a,vI h.a.row.n]) (.agg #[vI 0,vI 0])).run Tryz.prog W=.ok (.bool false) W:=fun W=>by have:=dF h.a.row id0 W;rwa [decide_eq_false hr.out]at this
 have e2:∀ W:World,(binOp .eql 27 (.agg #[vI h.a.col.a,vI h.a.col.n]) (.agg #[vI 0,vI 0])).run Tryz.prog W=.ok (.bool false) W:=fun W=>by have:=dF h.a.col id0 W;rwa [decide_eq_false hc.out]at this
 go_upto_region 7 with fail
 refine wp_region_held_drew (S:=fun w'=>w'.cell? ⟨p,0,none⟩=some (.pointer (ptr rp))/\ArC h w.heap.size w') (by kernel_rfl) (dy.out _ _ _ _ _ (gc.out _ _ _ _ _ _ cu.out zB.drew)) (fun ae=>?_);refine TkA 0 (vP p 0) ?_;refine TkA 1 (vP p 0) ?_;refine TkA 2 (vP p 0) ?_;refine TkB 3 (.pointer (ptr rp)) ?_;refine TkA 4 (vP w.heap.size 0) ?_;refine TkA 5 (vP w.heap.size 0) ?_;refine TkB 6 (.agg #[vI h.a.row.a,vI h.a.row.n]) ?_;refine TkA 7 (vP w.heap.size 6) ?_;refine TkA 8 (vP w.heap.size 6) ?_;refine TkB 9 (.agg #[vI h.b.row.a,vI h.b.row.n]) ?_;refine TkR 10 (fun K hK=>?_)
 go_simp
 go_at_call 194
 refine(CE0.out _ _ _ _ _ (gc.out _ _ _ _ _ _ cu.out zB.drew)).mono ?_;rintro e wx ⟨rfl,mc⟩;have gd:=zh mc;clear mc
 go_wp2_with fail
 refine hK.out _ _ (dy.out _ _ _ _ _ gd.out) (fun aa=>?_);clear hK K ae;have ae:=aa;clear aa;refine TkA 11 (.tuple #[vI i1,vI i2,.bool true]) ?_;refine TkA 12 (vI i1) ?_;refine TkA 13 (vI i2) ?_;refine TkA 14 (.bool true) ?_;refine TkA 15 (vP W0.heap.size 0) ?_;obtain⟨k0,k1,f0,f1⟩:=oj.out _ _ _ _ _ gd.out;refine TkR 16 (fun K hK=>?_)
 go_simp
 clear k0 k1 f0 f1;have gh:=zh (jx.out _ _ _ _ _ i1 gd.out);refine hK.out _ _ (dy.out _ _ _ _ _ gh.out) (fun aa=>?_);clear hK K ae;have ae:=aa;clear aa;refine TkA 17 (vP W1.heap.size 0) ?_;obtain⟨k0,k1,f0,f1⟩:=ol.out _ _ _ _ _ gh.out;refine TkR 18 (fun K hK=>?_)
 go_simp
 clear k0 k1 f0 f1;have gj:=zh (jz.out _ _ _ _ _ i2 gh.out);refine hK.out _ _ (dy.out _ _ _ _ _ gj.out) (fun aa=>?_);clear hK K ae;have ae:=aa;clear aa;refine TkA 19 (.bool true) ?_;refine TkD ?_
 (try simp only[Act.put,yz])
 obtain⟨W9,jn⟩:∃ W9,W9=(wx.setCell ⟨W0.heap.size,0,none⟩ (vI i1)).setCell ⟨W1.heap.size,0,none⟩ (vI i2):=⟨_,rfl⟩
 rw[<- jn];rw[<- jn]at gj;clear jn gd gh ae cu;have cu:=gj;clear gj;clear a0 a1 a2 a3 a6 a7 a8 a9;obtain⟨a0,a1,a2,a3,a6,a7,a8,a9⟩:=HA.out _ _ _ _ _ cu.out
 go_upto_region 10 with fail
 refine wp_region_held_drew (S:=fun w'=>w'.cell? ⟨p,1,none⟩=some (.pointer (ptr cp))/\ArC h w.heap.size w') (by kernel_rfl) (dz.out _ _ _ _ _ (gc.out _ _ _ _ _ _ cu.out zB.drew)) (fun ae=>?_);refine TkA 0 (vP p 0) ?_;refine TkA 1 (vP p 0) ?_;refine TkA 2 (vP p 1) ?_;refine TkB 3 (.pointer (ptr cp)) ?_;refine TkA 4 (vP w.heap.size 0) ?_;refine TkA 5 (vP w.heap.size 2) ?_;refine TkB 6 (.agg #[vI h.a.col.a,vI h.a.col.n]) ?_;refine TkA 7 (vP w.heap.size 6) ?_;refine TkA 8 (vP w.heap.size 8) ?_;refine TkB 9 (.agg #[vI h.b.col.a,vI h.b.col.n]) ?_;refine TkR 10 (fun K hK=>?_)
 go_simp
 go_at_call 194
 refine(CE1.out _ _ _ _ _ (gc.out _ _ _ _ _ _ cu.out zB.drew)).mono ?_;rintro e wx ⟨rfl,mc⟩;have gd:=zh mc;clear mc
 go_wp2_with fail
 refine hK.out _ _ (dz.out _ _ _ _ _ gd.out) (fun aa=>?_);clear hK K ae;have ae:=aa;clear aa;refine TkA 11 (.tuple #[vI j1,vI j2,.bool true]) ?_;refine TkA 12 (vI j1) ?_;refine TkA 13 (vI j2) ?_;refine TkA 14 (.bool true) ?_;refine TkA 15 (vP W0.heap.size 1) ?_;obtain⟨k0,k1,f0,f1⟩:=oj.out _ _ _ _ _ gd.out;refine TkR 16 (fun K hK=>?_)
 go_simp
 clear k0 k1 f0 f1;have gh:=zh (jy.out _ _ _ _ _ j1 gd.out);refine hK.out _ _ (dz.out _ _ _ _ _ gh.out) (fun aa=>?_);clear hK K ae;have ae:=aa;clear aa;refine TkA 17 (vP W1.heap.size 1) ?_;obtain⟨k0,k1,f0,f1⟩:=ol.out _ _ _ _ _ gh.out;refine TkR 18 (fun K hK=>?_)
 go_simp
 clear k0 k1 f0 f1;have gj:=zh (j0.out _ _ _ _ _ j2 gh.out);refine hK.out _ _ (dz.out _ _ _ _ _ gj.out) (fun aa=>?_);clear hK K ae;have ae:=aa;clear aa;refine TkA 19 (.bool true) ?_;refine TkD ?_
 (try simp only[Act.put,yz])
 obtain⟨W9,jn⟩:∃ W9,W9=(wx.setCell ⟨W0.heap.size,1,none⟩ (vI j1)).setCell ⟨W1.heap.size,1,none⟩ (vI j2):=⟨_,rfl⟩
 rw[<- jn];rw[<- jn]at gj;clear jn gd gh ae cu;have cu:=gj;clear gj;clear a0 a1 a2 a3 a6 a7 a8 a9;clear e1 e2 CE0 CE1;have un:=zh (ph.out _ _ _ _ _ cu.out);have mh:=zh (r9.out _ _ _ _ _ cu.out);have uo:=zh (sc.out _ _ _ _ _ cu.out);have uq:=zh (sd.out _ _ _ _ _ cu.out);clear fm gc HA oj ol r9 jx jy jz j0 dy dz sc sd ph cu nv
 go_upto_region 13 with fail
 go_cut [] (fun wx=>Hid (WrS wx p m rp cp R C (.func (.func 34) #[] #[]) (ts++[t1]))/\Hid (Kw p (rp.toList++cp.toList) w wx)/\Hid (Lies wx W1.heap.size 90 #[vI i2,vI j2,.bool h.b.fr,.bool h.b.fc]))
 case first=>
  have fd:Hid (WrS W9 p m rp cp R C (.func (.func 34) #[] #[]) ts):=mh;have HK:Hid (Kw p (rp.toList++cp.toList) w W9):=un;have ij:Hid (Lies W9 W0.heap.size 90 #[vI i1,vI j1,.bool h.a.fr,.bool h.a.fc]):=uo;have cr:Hid (Lies W9 W1.heap.size 90 #[vI i2,vI j2,.bool h.b.fr,.bool h.b.fc]):=uq;clear mh un uo uq;obtain⟨W6,lr⟩:=zD W9
  rw[<- lr]at fd HK ij cr ⊢;clear lr;have me:Hid (p<W0.heap.size):=zh pz.out.1;have en:Hid (p<W1.heap.size):=zh pz.out.2;obtain⟨v0,eh,ji⟩:=fd.out.box;obtain⟨A1,c1,rfl⟩:=aV ji;have cy:=zh eh;have ez:=zh ji;have j7:Hid (∀ W,Below W6.heap.size W6 W->PowTab W):=zh (fun W hb=>(fd.out.next hb).gl.pow);clear eh ji;have bm:Hid (∀ W,Below W6.heap.size W6 W->SaC p W0.heap.size i1 j1 h.a.fr h.a.fc W):=zh (fun W hb=>⟨(cy.out.next hb).cell 3,(ij.out.next hb).cell 0,(ij.out.next hb).cell 1,(ij.out.next hb).cell 2,(ij.out.next hb).cell 3⟩);refine wp_region_held_drew (S:=fun w'=>SaC p W0.heap.size i1 j1 h.a.fr h.a.fc w') (by kernel_rfl) (bm.out _ zB.drew) (fun ae=>?_);refine TkA 0 (vP p 0) ?_;refine TkA 1 (vP p 0) ?_;refine TkA 2 (vP p 0) ?_;refine TkA 3 (vP p 4) ?_
  refine TkA 5 (vP p 0) ?_;refine TkA 6 (vP p 0) ?_;refine TkA 7 (vP p 3) ?_;refine TkB 8 (.func (.func 34) #[] #[]) ?_;refine TkB 9 (.agg #[vI i1,vI j1,.bool h.a.fr,.bool h.a.fc]) ?_;refine TkA 10 (vI 0) ?_;have ab:Hid (Below W6.heap.size W6 W6.drew):=zh zB.drew;refine wpAnyH_ready (rs:=[4,11]) (by kernel_rfl) (by simp) ?_;refine AllReadyH.cons rfl (fun K hK=>?pa5) (AllReadyH.cons rfl (fun K hK=>?pb5) AllReadyH.nil)
  case' pa5=>
   have c4:=(cy.out.next ab.out).cell 4;simp only[za,zb,zf]at c4
   go_simp
   clear c4;refine hK.out _ _ (bm.out _ ab.out) (fun aa=>?_);clear hK K ae;have ae:=aa;clear aa;refine TkR 11 (fun K hK=>?_)
   go_simp
   go_at_call 34
   refine(CT.out _ (j7.out _ ab.out)).mono ?_;rintro e wx ⟨rfl,hb⟩;replace ab:=zT ab hb;clear hb
   go_wp2_with fail
   refine hK.out _ _ (bm.out _ ab.out) (fun aa=>?_);clear hK K ae;have ae:=aa;clear aa;refine TkR 12 (fun K hK=>?_)
   go_simp
   obtain⟨W7,az⟩:=zD (wx.alloc (.cells #[vI t1.kind,vT t1.text,vI t1.place] 64))
   rw[<- az];have jk:=zL az;replace ab:=zF ab az;clear az;refine hK.out _ _ (bm.out _ ab.out) (fun aa=>?_);clear hK K ae;have ae:=aa;clear aa
  case' pb5=>
   go_simp
   go_at_call 34
   refine(CT.out _ (j7.out _ ab.out)).mono ?_;rintro e wx ⟨rfl,hb⟩;replace ab:=zT ab hb;clear hb
   go_wp2_with fail
   refine hK.out _ _ (bm.out _ ab.out) (fun aa=>?_);clear hK K ae;have ae:=aa;clear aa;refine wpAnyH_ready (rs:=[4,12]) (by kernel_rfl) (by simp) ?_;refine AllReadyH.cons rfl (fun K hK=>?pc5) (AllReadyH.cons rfl (fun K hK=>?pd5) AllReadyH.nil)
   case' pc5=>
    have c4:=(cy.out.next ab.out).cell 4;simp only[za,zb,zf]at c4
    go_simp
    clear c4;refine hK.out _ _ (bm.out _ ab.out) (fun aa=>?_);clear hK K ae;have ae:=aa;clear aa;refine TkR 12 (fun K hK=>?_)
    go_simp
    obtain⟨W7,az⟩:=zD (wx.alloc (.cells #[vI t1.kind,vT t1.text,vI t1.place] 64))
    rw[<- az];have jk:=zL az;replace ab:=zF ab az;clear az;refine hK.out _ _ (bm.out _ ab.out) (fun aa=>?_);clear hK K ae;have ae:=aa;clear aa
   case' pd5=>
    go_simp
    obtain⟨W7,az⟩:=zD (wx.alloc (.cells #[vI t1.kind,vT t1.text,vI t1.place] 64))
    rw[<- az];have jk:=zL az;replace ab:=zF ab az;clear az;refine hK.out _ _ (bm.out _ ab.out) (fun aa=>?_);clear hK K ae;have ae:=aa;clear aa;refine TkR 4 (fun K hK=>?_);have c4:=(cy.out.next ab.out).cell 4;simp only[za,zb,zf]at c4
    go_simp
    clear c4;refine hK.out _ _ (bm.out _ ab.out) (fun aa=>?_);clear hK K ae;have ae:=aa;clear aa
  all_goals
   refine TkR 13 (fun K hK=>?_);refine cG rfl _ _ rfl (p+1) (.slice A1 ts.length c1) ts t1 wx.heap.size rfl (aD ab.out ez.out) rfl jk.out (by omega) (yv (Nat.succ_le_of_lt fd.out.lt) ab.out.size) ?_;intro A5 c5 w5 k5 g5;have de:=zh k5;have qn:=zh g5;have dx:=zh ((cy.out.next ab.out).grownA g5 (bE (by decide) (aD ab.out ez.out) (cy.out.next ab.out)));have ik:=zh ((ij.out.next ab.out).grownA g5 (bE (by decide) (aD ab.out ez.out) (ij.out.next ab.out)));have ep:=zh ((cr.out.next ab.out).grownA g5 (bE (by decide) (aD ab.out ez.out) (cr.out.next ab.out)));clear k5 g5;refine hK.out _ _ ⟨dx.out.cell 3,ik.out.cell 0,ik.out.cell 1,ik.out.cell 2,ik.out.cell 3⟩ (fun aa=>?_);clear hK K ae;have ae:=aa;clear aa;refine TkA 14 (vP p 0) ?_
   refine TkA 15 (vP p 4) ?_;have k4:=dx.out.cell 4;simp only[za,zb,zf]at k4;have k4f:=dx.out.frozen 4;refine TkR 16 (fun K hK=>?_)
   go_simp
   clear k4 k4f;have l7:=zh ((fd.out.next ab.out).grown (ts':=ts++[t1]) ((cy.out.next ab.out).cell 4) de.out qn.out);have qp:=zh ((HK.out.trans (Kw.of_below ab.out)).trans l7.out.2);have qq:=zh l7.out.1;have j5:=zh (aC ik.out (b:=p) (by have:=me.out;omega) 4 (.slice A5 (ts.length+1) c5));have fv:=zh (aC ep.out (b:=p) (by have:=en.out;omega) 4 (.slice A5 (ts.length+1) c5));have m6:=zh (dx.out.put 4 (.slice A5 (ts.length+1) c5));refine hK.out _ _ ⟨m6.out.cell 3,j5.out.cell 0,j5.out.cell 1,j5.out.cell 2,j5.out.cell 3⟩ (fun aa=>?_);clear hK K ae aa;refine TkD ?_
   (try simp only[Act.put,yz])
   go_wp2_with fail
   go_meet
   exact⟨qq,qp,fv⟩
 case rest=>
 clear mh un uo uq CT um;obtain⟨yy,HKa,cr⟩:=hcut;obtain⟨W7,az⟩:=zD wc
 subst az
 go_upto_region 15 with((with_reducible refine(CC.out _ _ yy.out (by simp;omega)).mono ?_);rintro e wx ⟨rfl,hs,hk⟩;have fd:=zh hs;have HK:=zh (HKa.out.trans hk);have pi:=zh (Kw.lies hk yy.out cr.out (by decide) (by decide) (by decide));clear hs hk)
 replace cr:=pi;clear pi;obtain⟨us,rm⟩:=zD (ts++[t1]++[tc])
 rw[<- rm]at fd;have HUs:=zh rm;have u5q:us.length<=700002:=by rw[rm];simp;omega
 clear rm;obtain⟨W6,lr⟩:=zD wx
 subst lr;have en:Hid (p<W1.heap.size):=zh pz.out.2;obtain⟨v0,eh,ji⟩:=fd.out.box;obtain⟨A1,c1,rfl⟩:=aV ji;have cy:=zh eh;have ez:=zh ji;have j7:Hid (∀ W,Below W6.heap.size W6 W->PowTab W):=zh (fun W hb=>(fd.out.next hb).gl.pow);clear eh ji;have bm:Hid (∀ W,Below W6.heap.size W6 W->SaC p W1.heap.size i2 j2 h.b.fr h.b.fc W):=zh (fun W hb=>⟨(cy.out.next hb).cell 3,(cr.out.next hb).cell 0,(cr.out.next hb).cell 1,(cr.out.next hb).cell 2,(cr.out.next hb).cell 3⟩);refine wp_region_held_drew (S:=fun w'=>SaC p W1.heap.size i2 j2 h.b.fr h.b.fc w') (by kernel_rfl) (bm.out _ zB.drew) (fun ae=>?_);refine TkA 0 (vP p 0) ?_;refine TkA 1 (vP p 0) ?_;refine TkA 2 (vP p 0) ?_;refine TkA 3 (vP p 4) ?_;refine TkA 5 (vP p 0) ?_
 refine TkA 6 (vP p 0) ?_;refine TkA 7 (vP p 3) ?_;refine TkB 8 (.func (.func 34) #[] #[]) ?_;refine TkB 9 (.agg #[vI i2,vI j2,.bool h.b.fr,.bool h.b.fc]) ?_;refine TkA 10 (vI 0) ?_;have ab:Hid (Below W6.heap.size W6 W6.drew):=zh zB.drew;refine wpAnyH_ready (rs:=[4,11]) (by kernel_rfl) (by simp) ?_;refine AllReadyH.cons rfl (fun K hK=>?pa6) (AllReadyH.cons rfl (fun K hK=>?pb6) AllReadyH.nil)
 case' pa6=>
  have c4:=(cy.out.next ab.out).cell 4;simp only[za,zb,zf]at c4
  go_simp
  clear c4;refine hK.out _ _ (bm.out _ ab.out) (fun aa=>?_);clear hK K ae;have ae:=aa;clear aa;refine TkR 11 (fun K hK=>?_)
  go_simp
  go_at_call 34
  refine(CU.out _ (j7.out _ ab.out)).mono ?_;rintro e wx ⟨rfl,hb⟩;replace ab:=zT ab hb;clear hb
  go_wp2_with fail
  refine hK.out _ _ (bm.out _ ab.out) (fun aa=>?_);clear hK K ae;have ae:=aa;clear aa;refine TkR 12 (fun K hK=>?_)
  go_simp
  obtain⟨W7,az⟩:=zD (wx.alloc (.cells #[vI t2.kind,vT t2.text,vI t2.place] 64))
  rw[<- az];have jk:=zL az;replace ab:=zF ab az;clear az;refine hK.out _ _ (bm.out _ ab.out) (fun aa=>?_);clear hK K ae;have ae:=aa;clear aa
 case' pb6=>
  go_simp
  go_at_call 34
  refine(CU.out _ (j7.out _ ab.out)).mono ?_;rintro e wx ⟨rfl,hb⟩;replace ab:=zT ab hb;clear hb
  go_wp2_with fail
  refine hK.out _ _ (bm.out _ ab.out) (fun aa=>?_);clear hK K ae;have ae:=aa;clear aa;refine wpAnyH_ready (rs:=[4,12]) (by kernel_rfl) (by simp) ?_;refine AllReadyH.cons rfl (fun K hK=>?pc6) (AllReadyH.cons rfl (fun K hK=>?pd6) AllReadyH.nil)
  case' pc6=>
   have c4:=(cy.out.next ab.out).cell 4;simp only[za,zb,zf]at c4
   go_simp
   clear c4;refine hK.out _ _ (bm.out _ ab.out) (fun aa=>?_);clear hK K ae;have ae:=aa;clear aa;refine TkR 12 (fun K hK=>?_)
   go_simp
   obtain⟨W7,az⟩:=zD (wx.alloc (.cells #[vI t2.kind,vT t2.text,vI t2.place] 64))
   rw[<- az];have jk:=zL az;replace ab:=zF ab az;clear az;refine hK.out _ _ (bm.out _ ab.out) (fun aa=>?_);clear hK K ae;have ae:=aa;clear aa
  case' pd6=>
   go_simp
   obtain⟨W7,az⟩:=zD (wx.alloc (.cells #[vI t2.kind,vT t2.text,vI t2.place] 64))
   rw[<- az];have jk:=zL az;replace ab:=zF ab az;clear az;refine hK.out _ _ (bm.out _ ab.out) (fun aa=>?_);clear hK K ae;have ae:=aa;clear aa;refine TkR 4 (fun K hK=>?_);have c4:=(cy.out.next ab.out).cell 4;simp only[za,zb,zf]at c4
   go_simp
   clear c4;refine hK.out _ _ (bm.out _ ab.out) (fun aa=>?_);clear hK K ae;have ae:=aa;clear aa
 all_goals
  refine TkR 13 (fun K hK=>?_);refine cG rfl _ _ rfl (p+1) (.slice A1 us.length c1) us t2 wx.heap.size rfl (aD ab.out ez.out) rfl jk.out (by omega) (yv (Nat.succ_le_of_lt fd.out.lt) ab.out.size) ?_;intro A5 c5 w5 k5 g5;have de:=zh k5;have qn:=zh g5;have dx:=zh ((cy.out.next ab.out).grownA g5 (bE (by decide) (aD ab.out ez.out) (cy.out.next ab.out)));have ep:=zh ((cr.out.next ab.out).grownA g5 (bE (by decide) (aD ab.out ez.out) (cr.out.next ab.out)));clear k5 g5;refine hK.out _ _ ⟨dx.out.cell 3,ep.out.cell 0,ep.out.cell 1,ep.out.cell 2,ep.out.cell 3⟩ (fun aa=>?_);clear hK K ae;have ae:=aa;clear aa;refine TkA 14 (vP p 0) ?_;refine TkA 15 (vP p 4) ?_;have k4:=dx.out.cell 4;simp only[za,zb,zf]at k4
  have k4f:=dx.out.frozen 4;refine TkR 16 (fun K hK=>?_)
  go_simp
  clear k4 k4f;have l7:=zh ((fd.out.next ab.out).grown (ts':=us++[t2]) ((cy.out.next ab.out).cell 4) de.out qn.out);have qp:=zh ((HK.out.trans (Kw.of_below ab.out)).trans l7.out.2);have qq:=zh l7.out.1;have fv:=zh (aC ep.out (b:=p) (by have:=en.out;omega) 4 (.slice A5 (us.length+1) c5));have m6:=zh (dx.out.put 4 (.slice A5 (us.length+1) c5));refine hK.out _ _ ⟨m6.out.cell 3,fv.out.cell 0,fv.out.cell 1,fv.out.cell 2,fv.out.cell 3⟩ (fun aa=>?_);clear hK K ae aa;refine TkD ?_
  (try simp only[Act.put,yz])
  go_wp2_with fail
  go_end0
  exact⟨rfl,by rw[<- HUs.out];exact qq.out,qp.out⟩
theorem dP{k:Int}:∀ {l:List Tree} (i:Nat) (hi:i<l.length),aZ l k=true->(l[i]'hi).right k=true/\(k=8->(l[i]'hi).h.kind=0)
 | [],_,hi,_=>absurd hi (by simp)
 |t::r,0,_,h=>by
  simp only[aZ,yh,Bool.or_eq_true,decide_eq_true_eq]at h;exact⟨h.1.2,fun e=>h.1.1.resolve_left (fun x=>x e)⟩
 |t::r,i+1,hi,h=>by
  simp only[aZ,yh]at h;exact dP (l:=r) i (by simpa using hi) h.2
theorem eD{h:NodeH}{l:List Tree}{k:Int}(hr:(Tree.mk h l).right k=true):bI h l.length (l.map fun t=>t.h.kind) k=true/\aZ l h.kind=true:=by
 rw[Tree.right]at hr;simpa using hr
theorem mZ{h:NodeH}{n:Nat}{ks:List Int}{k:Int}(hr:bI h n ks k=true)(hk:h.kind=0):aW h.v=true/\h.v.kind≠0:=by
 unfold bI at hr;rw[if_pos hk]at hr;simp only[dG,yh,decide_eq_true_eq]at hr;exact⟨hr.1.1.1.2,hr.1.1.1.1⟩
theorem qJ{h:NodeH}{n:Nat}{ks:List Int}{k:Int}(hr:bI h n ks k=true)(hk:h.kind=2):¬ (h.a.row=id0/\h.a.col=id0)/\n=0:=by
 unfold bI at hr;rw[if_neg (by omega),if_neg (by omega),if_pos hk]at hr;simp only[yh,decide_eq_true_eq]at hr;refine⟨fun⟨e1,e2⟩=>?_,hr.2⟩;have:=hr.1.1;simp[cF,e1,e2]at this
theorem yO{h:NodeH}{n:Nat}{ks:List Int}{k:Int}(hr:bI h n ks k=true)(hk:h.kind=4):bX h.name=true/\n<=32:=by
 unfold bI at hr;rw[if_neg (by omega),if_neg (by omega),if_neg (by omega),if_pos hk]at hr;simp only[yh,decide_eq_true_eq]at hr;exact⟨hr.1.1.1,hr.1.1.2⟩
theorem pE{h:NodeH}{n:Nat}{ks:List Int}{k:Int}(hr:bI h n ks k=true)(hk:h.kind=5):unB h.name=true/\n=1:=by
 unfold bI at hr;rw[if_neg (by omega),if_neg (by omega),if_neg (by omega),if_neg (by omega),if_pos hk]at hr;simp only[yh,decide_eq_true_eq]at hr;exact⟨hr.1.1,hr.1.2⟩
theorem iD{h:NodeH}{n:Nat}{ks:List Int}{k:Int}(hr:bI h n ks k=true)(hk:h.kind=6):mR h.name=true/\n=2:=by
 unfold bI at hr;rw[if_neg (by omega),if_neg (by omega),if_neg (by omega),if_neg (by omega),if_neg (by omega),if_pos hk]at hr;simp only[yh,decide_eq_true_eq]at hr;exact⟨hr.1.1,hr.1.2⟩
theorem yP{h:NodeH}{n:Nat}{ks:List Int}{k:Int}(hr:bI h n ks k=true)(hk:h.kind=7):bQ h.name=true/\n=0:=by
 unfold bI at hr;rw[if_neg (by omega),if_neg (by omega),if_neg (by omega),if_neg (by omega),if_neg (by omega),if_neg (by omega),if_pos hk]at hr;simp only[yh,decide_eq_true_eq]at hr;exact⟨hr.1.1,hr.2⟩
theorem nA{h:NodeH}{n:Nat}{ks:List Int}{k:Int}(hr:bI h n ks k=true)(hk:h.kind=8):∃ r c:Nat,h.rows=(r:Int)/\1<=r/\1<=c/\n=r*c:=by
 unfold bI at hr;rw[if_neg (by omega),if_neg (by omega),if_neg (by omega),if_neg (by omega),if_neg (by omega),if_neg (by omega),if_neg (by omega),if_pos hk]at hr;simp only[yh,decide_eq_true_eq]at hr;obtain⟨⟨⟨h1,h2⟩,h3⟩,_⟩:=hr;obtain⟨r,np⟩:∃ r:Nat,h.rows=(r:Int):=⟨h.rows.toNat,by omega⟩
 rw[np]at h1 h3;have h4:n % r=0:=by
  rw[<- Int.ofNat_tmod]at h3
  exact_mod_cast h3
 obtain⟨c,hc⟩:=Nat.dvd_of_mod_eq_zero h4;refine⟨r,c,np,by omega,?_,hc⟩;rcases Nat.eq_zero_or_pos c with h0|h0
 ·subst h0;omega
 exact h0
theorem qK{h:NodeH}{n:Nat}{ks:List Int}{k:Int}(hr:bI h n ks k=true):h.kind=0\/(h.kind=1\/h.kind=3)\/h.kind=2\/h.kind=4\/h.kind=5\/h.kind=6\/h.kind=7\/h.kind=8\/h.kind=9:=by
 unfold bI at hr
 by_cases h0:h.kind=0;· exact .inl h0
 by_cases h1:h.kind=1\/h.kind=3;· exact .inr (.inl h1)
 by_cases h2:h.kind=2;· simp[h2]
 by_cases h4:h.kind=4;· simp[h4]
 by_cases h5:h.kind=5;· simp[h5]
 by_cases h6:h.kind=6;· simp[h6]
 by_cases h7:h.kind=7;· simp[h7]
 by_cases h8:h.kind=8;· simp[h8]
 by_cases h9:h.kind=9;· simp[h9]
 rw[if_neg h0,if_neg h1,if_neg h2,if_neg h4,if_neg h5,if_neg h6,if_neg h7,if_neg h8,if_neg h9]at hr;cases hr
theorem bR(v:Say)(R C:AxV):∀ (l:List Tree),(bG v R C l).length=l.length
 | []=>rfl
 |t::r=>by rw[bG,yi,yi,bR v R C r]
theorem pJ(v:Say)(R C:AxV):∀ (l:List Tree) (i:Nat) (hi:i<l.length) (hj:i<(bG v R C l).length),(bG v R C l)[i]'hj=(l[i]'hi).toks v R C
 | [],_,hi,_=>absurd hi (by simp)
 |t::r,0,_,_=>by simp[bG]
 |t::r,i+1,hi,hj=>by
  simp only[bG,List.getElem_cons_succ];exact pJ v R C r i (by simpa using hi) _
def fN:List (List RTok)->Nat
 | []=>0
 |a::r=>a.length+fN r
theorem lJ:∀ (a b:List (List RTok)),fN (a++b)=fN a+fN b
 | [],b=>by simp[fN]
 |x::a,b=>by rw[yp,fN,lJ a b,fN];omega
theorem zK:∀ {l:List (List RTok)} {a:List RTok},a∈l->a.length<=fN l
 |x::r,a,h=>by
  rw[fN];rcases ym.1 h with e|e
  ·subst e;omega
  have:=zK e;omega
theorem lX(l:List (List RTok))(k:Nat):fN (l.take k)<=fN l:=by
 have:=lJ (l.take k) (l.drop k);rw[List.take_append_drop]at this;omega
theorem gL:∀ (l:List (List RTok)),(bF l).length<=fN l+(l.length-1)
 | []=>by simp[bF,fN]
 | [a]=>by simp[bF,fN]
 |a::b::r=>by
  have ih:=gL (b::r);rw[bF,fN,yl,yi];simp only[yi]at ih ⊢;omega
theorem jC(wide:Nat)(ts:List (List RTok)):∀ k,(cS wide ts k).length<=fN (ts.take (k*wide))+k*wide+k
 |0=>by simp[cS]
 |k+1=>by
  have ih:=jC wide ts k;have hl:=gL ((ts.drop (k*wide)).take wide);have h1:((ts.drop (k*wide)).take wide).length<=wide:=by rw[zc];omega
  have h2:fN (ts.take ((k+1)*wide))=fN (ts.take (k*wide))+fN ((ts.drop (k*wide)).take wide):=by
   rw[<- lJ]
   congr 1
   rw[Nat.succ_mul,List.take_add]
  rw[cS,yl,yi,h2,Nat.succ_mul];omega
theorem eI(a b:Int)(ts:List RTok):(dU a b ts).length<=ts.length+2:=by
 unfold dU
 split <;> simp
theorem litT_len(x:Val):(jQ x).length<=2:=by
 unfold jQ
 repeat' split
 all_goals simp
theorem uER(v:Say)(R C:AxV)(h:NodeH):(kE v R C h).length<=2:=by
 unfold kE dB
 repeat' split
 all_goals simp
theorem uGM(v:Say)(R C:AxV)(a b:Cor):(gB v R C a b).length<=3:=by
 unfold gB dB
 repeat' split
 all_goals simp
theorem uFI(v:Say)(R C:AxV)(h:NodeH)(lv:List Int)(ts:List (List RTok))(k:Int)(ks:List Int)(hr:bI h ts.length ks k=true):(dM v R C h lv ts).length<=4+fN ts+2*ts.length:=by
 have qg:=gL ts;have hhd:(ts.headD []).length<=fN ts:=by
  cases ts with
  |nil=>simp
  |cons a r=>simp[fN]
 unfold dM;by_cases h0:h.kind=0
 ·rw[if_pos h0];have:=litT_len h.v;omega
 rw[if_neg h0];by_cases h1:h.kind=1\/h.kind=3
 ·rw[if_pos h1];have:=uER v R C h;omega
 rw[if_neg h1];by_cases h2:h.kind=2
 ·rw[if_pos h2];have:=uGM v R C h.a h.b;omega
 rw[if_neg h2];by_cases h4:h.kind=4
 ·rw[if_pos h4];simp only[yi,yl,List.length_nil];omega
 rw[if_neg h4];by_cases h5:h.kind=5
 ·rw[if_pos h5]
  split
  ·have:=eI (lv.headD 0) 7 (ts.headD []);simp only[yl,yi,List.length_nil];omega
  have:=eI (lv.headD 0) 6 (ts.headD []);simp only[yi];omega
 rw[if_neg h5];by_cases h6:h.kind=6
 ·rw[if_pos h6];obtain⟨_,hn⟩:=iD hr h6
  match ts,hn with
  | [a,b],_=>
   have e1:=eI (lv.headD 0) (bD h.name) a;have e2:=eI (lv.tail.headD 0) (bD h.name+1) b;simp only[List.headD_cons,List.tail_cons,yl,yi,fN,List.length_nil];omega
 rw[if_neg h6];by_cases h7:h.kind=7
 ·rw[if_pos h7];simp;omega
 rw[if_neg h7];by_cases h8:h.kind=8
 ·rw[if_pos h8];obtain⟨r,c,np,fj,du,hn⟩:=nA hr h8;rw[np];have hd:ts.length / (r:Int).toNat=c:=by rw[Int.toNat_natCast,hn];exact Nat.mul_div_cancel_left c (by omega)
  rw[hd,Int.toNat_natCast,yl];have e1:=jC c ts r;have e2:=lX ts (r*c);have e3:r<=r*c:=Nat.le_mul_of_pos_right r du;simp only[yi,List.length_nil];omega
 rw[if_neg h8];simp
mutual
theorem eF(v:Say)(R C:AxV):∀ (t:Tree) (k:Int),t.right k=true->(t.toks v R C).length+2<=6*t.size
 | .mk h l,k,hr=>by
  obtain⟨h1,h2⟩:=eD hr;have ih:=fO v R C l h.kind h2;have hn:=uFI v R C h (l.map bN) (bG v R C l) k (l.map fun t=>t.h.kind) (by rw[bR];exact h1);rw[bR]at hn;rw[Tree.toks,Tree.size];omega
theorem fO(v:Say)(R C:AxV):∀ (l:List Tree) (k:Int),aZ l k=true->fN (bG v R C l)+2*l.length<=6*aM l
 | [],_,_=>by simp[bG,fN,aM]
 |t::r,k,hr=>by
  simp only[aZ,yh]at hr;have h1:=eF v R C t k hr.1.2;have h2:=fO v R C r k hr.2;rw[bG,fN,aM,yi];omega
end
def iO(t:RTok):Prop:=t.text.length<=1000/\(t.kind=5->t.text≠[])
theorem zP(m e:Int)(hR:bH m e=true):(bK m e).length<=255:=by
 rcases Nat.lt_or_ge 255 (bK m e).length with hl|hl
 ·have hp:=uBP _ _ hR;unfold wR at hp;rw[if_pos hl]at hp;cases hp
 exact hl
theorem uBL{m e:Int}(h:bH m e=true):bH (-m) e=true:=by
 unfold bH at h ⊢;by_cases h0:m=0
 ·subst h0;simpa using h
 rw[if_neg h0]at h;rw[if_neg (by omega),Int.natAbs_neg];exact h
theorem xP(f:Int):(aY f).length<=7:=by
 unfold aY
 split
 ·generalize f.toNat=k;unfold jN
  split <;> decide
 decide
theorem uBC{z:Int}(h1:-1000<=z)(h2:z<=1000):(Lib.itoa z).length<=5:=by
 unfold Lib.itoa;have h3:=bW z.natAbs 3 (by have:(10:Nat) ^ (3+1)=10000:=rfl;omega);have h4:=bW z.toNat 3 (by have:(10:Nat) ^ (3+1)=10000:=rfl;omega)
 split
 ·simp;omega
 omega
theorem litT_ok{x:Val}(hR:aW x=true):∀ t∈jQ x,iO t:=by
 unfold jQ;by_cases h1:x.kind=1
 ·rw[if_pos h1];have hp:bH x.mant x.exp=true:=by
   unfold aW at hR;simp only[yh]at hR;have:=hR.2
   rwa [if_pos h1]at this
  by_cases hm:x.mant<0
  ·rw[if_pos hm];have:=zP _ _ (uBL hp);intro t ht;simp only[ym,List.not_mem_nil,or_false]at ht;rcases ht with rfl|rfl
   ·exact⟨by decide,fun _=>by simp⟩
   exact⟨by show (bK (-x.mant) x.exp).length<=1000;omega,fun h=>by cases h⟩
  rw[if_neg hm];have:=zP _ _ hp;intro t ht;simp only[ym,List.not_mem_nil,or_false]at ht;subst ht;exact⟨by show (bK x.mant x.exp).length<=1000;omega,fun h=>by cases h⟩
 rw[if_neg h1];by_cases h2:x.kind=2
 ·rw[if_pos h2];have hl:x.text.length<=255:=by
   unfold aW at hR;simp only[yh]at hR;have:=hR.2;rw[if_neg h1,if_pos h2]at this;simpa using this
  intro t ht;simp only[ym,List.not_mem_nil,or_false]at ht;subst ht;exact⟨by show x.text.length<=1000;omega,fun h=>by cases h⟩
 rw[if_neg h2];by_cases h4:x.kind=4
 ·rw[if_pos h4];have:=xP x.fault;intro t ht;simp only[ym,List.not_mem_nil,or_false]at ht;subst ht;exact⟨by show (aY x.fault).length<=1000;omega,fun h=>by cases h⟩
 rw[if_neg h4];intro t ht;simp only[ym,List.not_mem_nil,or_false]at ht;subst ht;refine⟨?_,fun h=>by cases h⟩;show (dE x).1.length<=1000;unfold dE;rw[if_neg h1,if_neg h2];by_cases h3:x.kind=3
 ·rw[if_pos h3];cases x.truth <;> decide
 rw[if_neg h3,if_neg h4]
 decide
theorem nN:∀ t∈dB,iO t:=by
 intro t ht;simp only[dB,ym,List.not_mem_nil,or_false]at ht;subst ht;exact⟨by decide,fun h=>by cases h⟩
theorem xB{p q:Nat}{f:Bool}(hp:p<=400)(hq:q<=400):(cA p q f).length<=8:=by
 unfold cA;have h1:=bW (p+1) 3 (by have:(10:Nat) ^ (3+1)=10000:=rfl;omega);have h2:=uBC (z:=(p:Int)-(q:Int)) (by omega) (by omega)
 repeat' split
 ·omega
 ·decide
 simp;omega
theorem nD{v:Say}(hv:v.ok){r c:Nat}(hr:r<=400)(hc:c<=400)(fr fc:Bool):iO (cY v r c fr fc):=by
 cases v with
 |plain=>
  have h1:=bW (r+1) 3 (by have:(10:Nat) ^ (3+1)=10000:=rfl;omega);have h2:=fY (c+1) (by omega);refine⟨?_,fun h=>by cases h⟩;show (iY r c fr fc).length<=1000;unfold iY;cases fr <;> cases fc <;> simp[qT] <;> omega
 |seen a b=>
  have h1:=xB (f:=fr) hr hv.1;have h2:=xB (f:=fc) hc hv.2;refine⟨?_,fun h=>by cases h⟩;show (82::(cA r a fr++67::cA c b fc)).length<=1000;simp only[yi,yl];omega
theorem vO{v:Say}(hv:v.ok){r:Nat}(hr:r<=400)(f:Bool):iO (dW v r f):=by
 cases v with
 |plain=>
  have h1:=bW (r+1) 3 (by have:(10:Nat) ^ (3+1)=10000:=rfl;omega);cases f
  ·exact⟨by show (Lib.decDigits (r+1)).length<=1000;omega,fun h=>by cases h⟩
  exact⟨by show (36::Lib.decDigits (r+1)).length<=1000;rw[yi];omega,fun h=>by cases h⟩
 |seen a b=>
  have h1:=xB (f:=f) hr hv.1;exact⟨by show (82::cA r a f).length<=1000;rw[yi];omega,fun h=>by cases h⟩
theorem vN{v:Say}(hv:v.ok){c:Nat}(hc:c<=400)(f:Bool):iO (dV v c f):=by
 cases v with
 |plain=>
  have h2:=fY (c+1) (by omega);cases f
  ·exact⟨by show (dS (c+1)).length<=1000;omega,fun h=>by cases h⟩
  exact⟨by show (36::dS (c+1)).length<=1000;rw[yi];omega,fun h=>by cases h⟩
 |seen a b=>
  have h1:=xB (f:=f) hc hv.2;exact⟨by show (67::cA c b f).length<=1000;rw[yi];omega,fun h=>by cases h⟩
theorem gI(s:Bs)(h:s≠[])(hl:s.length<=1000):iO (tk 5 s):=⟨hl,fun _=>h⟩
theorem jB{A:AxV}(hA:mN A)(x:IdR):aU A x<=300:=by
 match A,hA with
 |none,_=>show (-1:Int)<=300;omega
 |some (ids,fl),⟨h1,h2,_,_⟩=>
  show iC x 0 (aG ids fl)<=300;have:=cZ ids fl;by_cases hm:x∈aG ids fl
  ·obtain⟨k,hk,hg⟩:=iZ x _ 0 hm;have:=(List.getElem?_eq_some_iff.1 hg).1;rw[hk];omega
  rw[eU x _ 0 hm];omega
theorem cellT_ok{v:Say}(hv:v.ok){R C:AxV}(hR:mN R)(hC:mN C)(h:NodeH):∀ t∈kE v R C h,iO t:=by
 unfold kE
 split
 ·exact nN
 have h1:=jB hR h.a.row;have h2:=jB hC h.a.col;intro t ht;rcases ym.1 ht with rfl|ht
 ·exact nD hv (by omega) (by omega) _ _
 split at ht
 ·simp only[ym,List.not_mem_nil,or_false]at ht;subst ht;exact gI _ (by simp) (by decide)
 cases ht
theorem tI{a b c:RTok}(ha:iO a)(hb:iO b)(hc:iO c):∀ t∈[a,b,c],iO t:=by
 intro t ht;simp only[ym,List.not_mem_nil,or_false]at ht;rcases ht with rfl|rfl|rfl
 ·exact ha
 ·exact hb
 exact hc
theorem spanT_ok{v:Say}(hv:v.ok){R C:AxV}(hR:mN R)(hC:mN C)(a b:Cor):∀ t∈gB v R C a b,iO t:=by
 have hs:iO (tk 5 [58]):=gI _ (by simp) (by decide);unfold gB;by_cases h1:a.row=id0
 ·rw[if_pos h1];rcases cH hC a.col b.col with h|⟨n,m,hn,hm,h⟩
  ·rw[h];exact nN
  rw[h];exact tI (vN hv (by simp;omega) _) hs (vN hv (by simp;omega) _)
 rw[if_neg h1];by_cases h2:a.col=id0
 ·rw[if_pos h2];rcases cH hR a.row b.row with h|⟨n,m,hn,hm,h⟩
  ·rw[h];exact nN
  rw[h];exact tI (vO hv (by simp;omega) _) hs (vO hv (by simp;omega) _)
 rw[if_neg h2];rcases cH hR a.row b.row with h|⟨n,m,hn,hm,h⟩
 ·rw[h];exact nN
 rcases cH hC a.col b.col with g|⟨n',m',hn',mi,g⟩
 ·rw[h,g];exact nN
 rw[h,g];exact tI (nD hv (by simp;omega) (by simp;omega) _ _) hs (nD hv (by simp;omega) (by simp;omega) _ _)
theorem oX:∀ {l:List (List RTok)} {t:RTok},t∈bF l->t=tk 5 [44]\/∃ a∈l,t∈a
 | [],_,h=>by cases h
 | [a],t,h=>.inr ⟨a,List.mem_cons_self,h⟩
 |a::b::r,t,h=>by
  rw[bF]at h;rcases List.mem_append.1 h with h|h
  ·exact .inr ⟨a,List.mem_cons_self,h⟩
  rcases ym.1 h with h|h
  ·exact .inl h
  rcases oX h with h|⟨x,hx,h⟩
  ·exact .inl h
  exact .inr ⟨x,zg _ hx,h⟩
theorem vL{wide:Nat}{ts:List (List RTok)}{t:RTok}:∀ {k:Nat},t∈cS wide ts k->(∃ s:Bs,s.length=1/\t=tk 5 s)\/∃ a∈ts,t∈a
 |0,h=>by cases h
 |k+1,h=>by
  rw[cS]at h;rcases List.mem_append.1 h with h|h
  ·exact vL h
  rcases ym.1 h with h|h
  ·exact .inl ⟨_,by split <;> rfl,h⟩
  rcases oX h with h|⟨x,hx,h⟩
  ·exact .inl ⟨_,rfl,h⟩
  exact .inr ⟨x,List.mem_of_mem_drop (List.mem_of_mem_take hx),h⟩
theorem lZ{a b:Int}{ts:List RTok}{t:RTok}(h:t∈dU a b ts):(∃ s:Bs,s.length=1/\t=tk 5 s)\/t∈ts:=by
 unfold dU at h
 split at h
 ·exact .inr h
 rcases ym.1 h with h|h
 ·exact .inl ⟨_,rfl,h⟩
 rcases List.mem_append.1 h with h|h
 ·exact .inr h
 exact .inl ⟨[41],rfl,by simpa using h⟩
theorem sJ{t:RTok}(h:∃ s:Bs,s.length=1/\t=tk 5 s):iO t:=by
 obtain⟨s,h1,rfl⟩:=h;exact gI s (fun e=>by subst e;cases h1) (by omega)
theorem binB_ln{s:Bs}(h:mR s=true):s≠[]/\s.length<=2:=by
 unfold mR at h;simp only[Bool.or_eq_true,beq_iff_eq]at h;rcases h with((((((((((h|h)|h)|h)|h)|h)|h)|h)|h)|h)|h)|h <;> subst h <;> decide
theorem unB_ln{s:Bs}(h:unB s=true):s≠[]/\s.length<=2:=by
 unfold unB at h;simp only[Bool.or_eq_true,beq_iff_eq]at h;rcases h with(h|h)|h <;> subst h <;> decide
theorem uEQ{s:Bs}(h:bX s=true):s.length<=32:=by
 unfold bX at h;simp only[yh,decide_eq_true_eq]at h;exact h.1.1.1.2
theorem uFE{s:Bs}(h:bQ s=true):s.length<=32:=by
 unfold bQ at h;simp only[yh,decide_eq_true_eq]at h;exact h.1.1.1.1.2
theorem lO{l:List (List RTok)}{t:RTok}(h:t∈l.headD []):∃ a∈l,t∈a:=by
 cases l with
 |nil=>cases h
 |cons a r=>exact⟨a,List.mem_cons_self,h⟩
theorem nodeT_ok{v:Say}(hv:v.ok){R C:AxV}(hR:mN R)(hC:mN C)(h:NodeH)(lv:List Int)(ts:List (List RTok))(k:Int)(ks:List Int)(hr:bI h ts.length ks k=true)(hk:∀ a∈ts,∀ t∈a,iO t):∀ t∈dM v R C h lv ts,iO t:=by
 have se:∀ t,(∃ a∈ts,t∈a)->iO t:=fun t ⟨a,ha,ht⟩=>hk a ha t ht
 have h44:iO (tk 5 [44]):=gI _ (by simp) (by decide);unfold dM;by_cases h0:h.kind=0
 ·rw[if_pos h0];exact litT_ok (mZ hr h0).1
 rw[if_neg h0];by_cases h1:h.kind=1\/h.kind=3
 ·rw[if_pos h1];exact cellT_ok hv hR hC h
 rw[if_neg h1];by_cases h2:h.kind=2
 ·rw[if_pos h2];exact spanT_ok hv hR hC h.a h.b
 rw[if_neg h2];by_cases h4:h.kind=4
 ·rw[if_pos h4];have hl:=uEQ (yO hr h4).1;intro t ht;rcases ym.1 ht with rfl|ht
  ·exact⟨by show h.name.length<=1000;omega,fun e=>by cases e⟩
  rcases ym.1 ht with rfl|ht
  ·exact gI _ (by simp) (by decide)
  rcases List.mem_append.1 ht with ht|ht
  ·rcases oX ht with e|e
   ·subst e;exact h44
   exact se t e
  rw[yf]at ht;subst ht;exact gI _ (by simp) (by decide)
 rw[if_neg h4];by_cases h5:h.kind=5
 ·rw[if_pos h5];obtain⟨e1,e2⟩:=unB_ln (pE hr h5).1;have hnm:iO (tk 5 h.name):=gI _ e1 (by omega)
  split
  ·intro t ht;rcases List.mem_append.1 ht with ht|ht
   ·rcases lZ ht with e|e
    ·exact sJ e
    exact se t (lO e)
   rw[yf]at ht;subst ht;exact hnm
  intro t ht;rcases ym.1 ht with rfl|ht
  ·exact hnm
  rcases lZ ht with e|e
  ·exact sJ e
  exact se t (lO e)
 rw[if_neg h5];by_cases h6:h.kind=6
 ·rw[if_pos h6];obtain⟨e1,e2⟩:=binB_ln (iD hr h6).1;intro t ht;rcases List.mem_append.1 ht with ht|ht
  ·rcases lZ ht with e|e
   ·exact sJ e
   exact se t (lO e)
  rcases ym.1 ht with rfl|ht
  ·exact gI _ e1 (by omega)
  rcases lZ ht with e|e
  ·exact sJ e
  obtain⟨a,ha,ht⟩:=lO e;exact se t ⟨a,List.mem_of_mem_tail ha,ht⟩
 rw[if_neg h6];by_cases h7:h.kind=7
 ·rw[if_pos h7];have hl:=uFE (yP hr h7).1;intro t ht;rw[yf]at ht;subst ht;exact⟨by show h.name.length<=1000;omega,fun e=>by cases e⟩
 rw[if_neg h7];by_cases h8:h.kind=8
 ·rw[if_pos h8];intro t ht;rcases List.mem_append.1 ht with ht|ht
  ·rcases vL ht with e|e
   ·exact sJ e
   exact se t e
  rw[yf]at ht;subst ht;exact gI _ (by simp) (by decide)
 rw[if_neg h8];intro t ht;cases ht
mutual
theorem xE{v:Say}(hv:v.ok){R C:AxV}(hR:mN R)(hC:mN C):∀ (t:Tree) (k:Int),t.right k=true->∀ x∈t.toks v R C,iO x
 | .mk h l,k,hr=>by
  obtain⟨h1,h2⟩:=eD hr;have ih:=zO hv hR hC l h.kind h2;rw[Tree.toks];exact nodeT_ok hv hR hC h (l.map bN) (bG v R C l) k (l.map fun t=>t.h.kind) (by rw[bR];exact h1) ih
theorem zO{v:Say}(hv:v.ok){R C:AxV}(hR:mN R)(hC:mN C):∀ (l:List Tree) (k:Int),aZ l k=true->∀ a∈bG v R C l,∀ x∈a,iO x
 | [],_,_=>by intro a ha;cases ha
 |t::r,k,hr=>by
  simp only[aZ,yh]at hr;intro a ha;rw[bG]at ha;rcases ym.1 ha with rfl|ha
  ·exact xE hv hR hC t k hr.1.2
  exact zO hv hR hC r k hr.2 a ha
end
theorem nV{t:Tree}(h:dO t=0):t.right 6=true/\t.size<=256:=by
 unfold dO at h
 split at h
 ·cases h
 split at h
 ·cases h
 split at h
 ·exact⟨by assumption,by omega⟩
 cases h
end Go.Proofs.YtjfihpaeglpblaaGreatDoor
namespace Go.Proofs.YtjfihpaeglpblaaGreatDoor
open Go.ChangeShapes Go.WideShapes Go.ChangeAt Go.RowKit
section
variable {H:Type} {enc:TypeId×Value->H} {W:World}
theorem tK{n:Nat}{c0 c1:Value}{x:DataW H×List MemPlace}(h:DataW.trod enc Tryz.prog W 0 (fun _=>true) true n 27 [c0,c1]=some x) :
  ∃ t:IdR,c0=vI t.a/\c1=vI t.n/\t.fits:=by
 obtain⟨xs,k,_,hx,_,hlen,hg⟩:=DataW.trod_struct Tryz.underlying27 h
 match xs,hlen with
 | [y0,y1],_=>
  have g0:DataW.trod enc Tryz.prog W 0 (fun _=>true) true k 3 [c0]=some y0:=by have:=hg 0 _ rfl;simpa [rW] using this
  have g1:DataW.trod enc Tryz.prog W 0 (fun _=>true) true k 3 [c1]=some y1:=by have:=hg 1 _ rfl;simpa [rW] using this
  obtain⟨m,e0,rfl,w0⟩:=DataW.trod_int Tryz.underlying3 g0;obtain⟨p,e2,rfl,w2⟩:=DataW.trod_int Tryz.underlying3 g1;injection e0 with e0;injection e2 with e2;subst e0 e2;exact⟨⟨m,p⟩,rfl,rfl,w0,w2⟩
theorem in_ids{a:Option Addr}{len cap:Nat}{d:DataW H}{p:List MemPlace}(h:DataW.Trod enc Tryz.prog W 0 (fun _=>true) true 35 (.slice a len cap) d p) :
  ∃ ts:List IdR,ts.length=len/\eQ W a ts/\∀ t∈ts,t.fits:=by
 obtain⟨fuel,hf⟩:=h;rcases Go.Deep.open_slice Tryz.underlying35 hf with⟨fh,_⟩|⟨x,l,c,m,n,D,Pl,fh,hb,hl,hm,td,hx,hi⟩
 ·simp[Value.cells]at fh;obtain⟨rfl,rfl,rfl⟩:=fh;exact⟨[],rfl,fun h0=>by simp at h0,fun t ht=>by simp at ht⟩
 simp[Value.cells]at fh;obtain⟨rfl,rfl,rfl⟩:=fh;rw[if_pos rfl]at td;subst td;rw[wJ]at hi;obtain⟨g,o,spot⟩:=x;have key:∀ i,i<len->∃ t:IdR,(W.cell? ((⟨g,o,spot⟩:Addr).add (i*2))=some (vI t.a)/\W.cell? (((⟨g,o,spot⟩:Addr).add (i*2)).add 1)=some (vI t.n))/\t.fits:=by
  intro i lu;obtain⟨nn,hc,ht'⟩:=hi i (by omega);obtain⟨_,li,iq⟩:=World.cells?_some hc
  match nn,li with
  | [c0,c1],_=>
   obtain⟨t,e0,e1,ef⟩:=tK ht';have h0:=iq 0 (by omega);have h1:=iq 1 (by omega);simp only[zb,zf]at h0 h1;refine⟨t,⟨?_,?_⟩,ef⟩
   ·rw[<- e0,<- h0];simp[Addr.add]
   rw[<- e1,<- h1]
 have hch:∃ f:Nat->IdR,∀ i (lu:i<len),(W.cell? ((⟨g,o,spot⟩:Addr).add (i*2))=some (vI (f i).a)/\W.cell? (((⟨g,o,spot⟩:Addr).add (i*2)).add 1)=some (vI (f i).n))/\(f i).fits :=
  ⟨fun i=>if h:i<len then Classical.choose (key i h) else ⟨0,0⟩,fun i lu=>by
   have:=Classical.choose_spec (key i lu);simp only[dif_pos lu];exact this⟩
 obtain⟨f,u9q⟩:=hch;refine⟨(List.range len).map f,by simp,fun h0=>?_,fun t ht=>?_⟩
 ·have h0':0<len:=by simpa using h0
  have hsp:spot=none:=by
   have:=(u9q 0 h0').1.1;simpa [Addr.add] using World.cell?_spot this
  subst hsp;have wk:∀ k j:Nat,(⟨g,k,none⟩:Addr).add j=⟨g,k+j,none⟩:=fun k j=>by
   unfold Addr.add;by_cases e:j=0
   ·simp[e]
   simp[e]
  refine⟨g,o,rfl,?_,fun j hj=>?_⟩
  ·have:=(u9q 0 h0').1.1;rw[wk]at this;exact dN this
  have hj':j<len:=by simpa using hj
  obtain⟨h1,h2⟩:=(u9q j hj').1;rw[wk,wk]at h2;rw[wk]at h1;simp only[List.getElem_map,List.getElem_range];exact⟨h1,h2⟩
 obtain⟨i,hi,rfl⟩:=yj.1 ht;exact(u9q i (yg.1 hi)).2
end
end Go.Proofs.YtjfihpaeglpblaaGreatDoor
namespace Go.Proofs.YtjfihpaeglpblaaGreatDoor
open Go.ChangeShapes Go.WideShapes Go.ChangeAt Go.RowKit
theorem xK:Tryz.prog.cellsOf 3=1:=by kernel_rfl
section
variable {H:Type} {enc:TypeId×Value->H} {w:World} {base:Nat} {sp:Nat->Bool} {held:Bool}
theorem trod_num{n:Nat}{c1 c2:Value}{x:DataW H×List MemPlace}(h:DataW.trod enc Tryz.prog w base sp held n 23 [c1,c2]=some x) :
  ∃ m e:Int,c1=vI m/\c2=vI e/\x.2=[]/\-9223372036854775808<=m/\m<=9223372036854775807/\-9223372036854775808<=e/\e<=9223372036854775807:=by
 obtain⟨xs,k,_,hx,_,hlen,hg⟩:=DataW.trod_struct Tryz.underlying23 h
 match xs,hlen with
 | [y0,y1],_=>
  have g0:DataW.trod enc Tryz.prog w base sp held k 3 [c1]=some y0:=by have:=hg 0 _ rfl;simpa [xK] using this
  have g1:DataW.trod enc Tryz.prog w base sp held k 3 [c2]=some y1:=by have:=hg 1 _ rfl;simpa [xK] using this
  obtain⟨m,e0,rfl,w0⟩:=DataW.trod_int Tryz.underlying3 g0;obtain⟨e,e1,rfl,w1⟩:=DataW.trod_int Tryz.underlying3 g1;injection e0 with e0;injection e1 with e1;obtain⟨a1,a2⟩:=bounds_i64 w0;obtain⟨a3,a4⟩:=bounds_i64 w1;exact⟨m,e,e0,e1,by rw[hx];rfl,a1,a2,a3,a4⟩
end
end Go.Proofs.YtjfihpaeglpblaaGreatDoor
namespace Go.Proofs.YtjfihpaeglpblaaGreatDoor
open Go.ChangeShapes Go.WideShapes Go.ChangeAt Go.RowKit
theorem qV:Tryz.prog.cellsOf 3=1:=by kernel_rfl
theorem uDJ:Tryz.prog.cellsOf 9=1:=by kernel_rfl
theorem wD:Tryz.prog.cellsOf 4=1:=by kernel_rfl
theorem cellsN4:Tryz.prog.cellsOf 23=2:=by kernel_rfl
theorem cellsN5:Tryz.prog.cellsOf 25=6:=by kernel_rfl
theorem uDK:Tryz.prog.cellsOf 27=2:=by kernel_rfl
theorem uDL:Tryz.prog.cellsOf 29=6:=by kernel_rfl
theorem cellsN8:Tryz.prog.cellsOf 31=12:=by kernel_rfl
theorem cellsN9:Tryz.prog.cellsOf 32=1:=by kernel_rfl
theorem uDI:Tryz.prog.cellsOf 34=22:=by kernel_rfl
def Cor.fits(c:Cor):Prop:=c.row.fits/\c.col.fits
def NodeH.ok(N:Nat)(h:NodeH):Prop:=-9223372036854775808<=h.v.mant/\h.v.mant<=9223372036854775807/\h.a.fits/\h.b.fits/\h.v.text.length<=N/\h.name.length<=N
mutual
def Tree.ok(N:Nat):Tree->Prop
 | .mk h l=>h.ok N/\okL N l
def okL(N:Nat):List Tree->Prop
 | []=>True
 |t::r=>t.ok N/\okL N r
end
mutual
theorem Tree.ok.mono{N M:Nat}(hN:N<=M):∀ {t:Tree},t.ok N->t.ok M
 | .mk h l,hk=>by
  rw[Tree.ok]at hk ⊢;obtain⟨⟨a1,a2,a3,a4,a5,a6⟩,hl⟩:=hk;exact⟨⟨a1,a2,a3,a4,yv a5 hN,yv a6 hN⟩,okL.mono hN hl⟩
theorem okL.mono{N M:Nat}(hN:N<=M):∀ {l:List Tree},okL N l->okL M l
 | [],_=>trivial
 |t::r,hk=>by
  rw[okL]at hk ⊢;exact⟨Tree.ok.mono hN hk.1,okL.mono hN hk.2⟩
end
theorem okL_of{N:Nat}:∀ {l:List Tree},(∀ t∈l,t.ok N)->okL N l
 | [],_=>trivial
 |t::_,h=>⟨h t List.mem_cons_self,okL_of (fun x hx=>h x (zg _ hx))⟩
theorem xX{P:Nat->Prop}{W:World}{g:Nat}:∀ (l:List Tree) (o:Nat),(∀ i (hi:i<l.length),NodeP P W g (o+i*22) (l[i]'hi))->KidsP P W g o l
 | [],_,_=>trivial
 |t::r,o,h=>⟨by have:=h 0 (by simp);simpa using this,xX r (o+22) (fun i hi=>by
  have:=h (i+1) (by simpa using hi);rw[show o+(i+1)*22=o+22+i*22 by omega]at this;exact this)⟩
theorem nH(g k j:Nat):(⟨g,k,none⟩:Addr).add j=⟨g,k+j,none⟩:=by
 unfold Addr.add;by_cases e:j=0
 ·simp[e]
 simp[e]
section
variable {H:Type} {enc:TypeId×Value->H} {W:World}
theorem nI(d:DataW H):1<=Rows.uptoBulk d:=by
 cases d with
 |lit l=>cases l <;> simp[Rows.uptoBulk]
 |nil=>simp[Rows.uptoBulk]
 |ptr d=>simp[Rows.uptoBulk]
 |slice elems spare=>simp[Rows.uptoBulk]
 |agg parts=>simp[Rows.uptoBulk]
 |iface t d=>simp[Rows.uptoBulk]
 |map entries=>simp[Rows.uptoBulk]
 |held h=>simp[Rows.uptoBulk]
theorem bulk_part{d:DataW H}{l:List (DataW H)}(h:d∈l):Rows.uptoBulk d<=Rows.uptoBulkAll l:=by
 induction l with
 |nil=>cases h
 |cons x r ih=>
  simp only[Rows.uptoBulkAll];rcases ym.1 h with e|e
  ·subst e;omega
  have:=ih e;omega
theorem tF(N:Nat):∀ (n:Nat) (f:Nat->Tree) (D:Nat->DataW H),(∀ i,i<n->7*(f i).size<=Rows.uptoBulk (D i))->7*aM ((List.range n).map f)<=Rows.uptoBulkAll ((List.range n).map D)
 |0,_,_,_=>by simp[aM]
 |n+1,f,D,h=>by
  have ih:=tF N n (fun i=>f (i+1)) (fun i=>D (i+1)) (fun i hi=>h (i+1) (by omega));have h0:=h 0 (by omega);rw[List.range_succ_eq_map];simp only[List.map_cons,List.map_map,aM,Rows.uptoBulkAll];have e1:(f ∘ Nat.succ)=fun i=>f (i+1):=rfl
  have e2:(D ∘ Nat.succ)=fun i=>D (i+1):=rfl
  rw[e1,e2];omega
theorem uGT{n:Nat}{c1 c2 c3 c4 c5 c6:Value}{x:DataW H×List MemPlace}(h:DataW.trod enc Tryz.prog W 0 (fun _=>true) true n 25 [c1,c2,c3,c4,c5,c6]=some x) :
  ∃ a:Val,(c1=vI a.kind/\c2=vI a.mant/\c3=vI a.exp/\c4=vT a.text/\c5=.bool a.truth/\c6=vI a.fault)/\-9223372036854775808<=a.mant/\a.mant<=9223372036854775807/\a.text.length<=Rows.uptoBulk x.1:=by
 obtain⟨xs,n,_,hx,_,hlen,hg⟩:=DataW.trod_struct Tryz.underlying25 h
 match xs,hlen with
 | [y0,y1,y2,y3,y4],_=>
  have g0:DataW.trod enc Tryz.prog W 0 (fun _=>true) true n 3 [c1]=some y0:=by have:=hg 0 _ rfl;simpa [qV] using this
  have g1:DataW.trod enc Tryz.prog W 0 (fun _=>true) true n 23 [c2,c3]=some y1:=by have:=hg 1 _ rfl;simpa [cellsN4] using this
  have g2:DataW.trod enc Tryz.prog W 0 (fun _=>true) true n 9 [c4]=some y2:=by have:=hg 2 _ rfl;simpa [uDJ] using this
  have g3:DataW.trod enc Tryz.prog W 0 (fun _=>true) true n 4 [c5]=some y3:=by have:=hg 3 _ rfl;simpa [wD] using this
  have g4:DataW.trod enc Tryz.prog W 0 (fun _=>true) true n 3 [c6]=some y4:=by have:=hg 4 _ rfl;simpa [qV] using this
  obtain⟨k,e0,rfl,w0⟩:=DataW.trod_int Tryz.underlying3 g0;obtain⟨m,e,rfl,rfl,x1,a1,a2,a3,a4⟩:=trod_num g1;obtain⟨s,e2,rfl,w2⟩:=DataW.trod_string Tryz.underlying9 g2;obtain⟨b,e3,rfl⟩:=DataW.trod_bool Tryz.underlying4 g3;obtain⟨f,e4,rfl,w4⟩:=DataW.trod_int Tryz.underlying3 g4;injection e0 with e0;injection e2 with e2;injection e3 with e3;injection e4 with e4;subst e0 e2 e3 e4;refine⟨⟨k,m,e,s.data.toList,b,f⟩,⟨rfl,rfl,rfl,by simp,rfl,rfl⟩,a1,a2,?_⟩;rw[hx];simp only[List.map_cons,List.map_nil,Rows.uptoBulk,Rows.uptoBulkAll];omega
theorem vR{n:Nat}{c0 c1 c2 c3 c4 c5:Value}{x:DataW H×List MemPlace}(h:DataW.trod enc Tryz.prog W 0 (fun _=>true) true n 29 [c0,c1,c2,c3,c4,c5]=some x) :
  ∃ a:Cor,(c0=vI a.row.a/\c1=vI a.row.n/\c2=vI a.col.a/\c3=vI a.col.n/\c4=.bool a.fr/\c5=.bool a.fc)/\a.fits:=by
 obtain⟨xs,n,_,hx,_,hlen,hg⟩:=DataW.trod_struct Tryz.underlying29 h
 match xs,hlen with
 | [y0,y1,y2,y3],_=>
  have g0:DataW.trod enc Tryz.prog W 0 (fun _=>true) true n 27 [c0,c1]=some y0:=by have:=hg 0 _ rfl;simpa [uDK] using this
  have g1:DataW.trod enc Tryz.prog W 0 (fun _=>true) true n 27 [c2,c3]=some y1:=by have:=hg 1 _ rfl;simpa [uDK] using this
  have g2:DataW.trod enc Tryz.prog W 0 (fun _=>true) true n 4 [c4]=some y2:=by have:=hg 2 _ rfl;simpa [wD] using this
  have g3:DataW.trod enc Tryz.prog W 0 (fun _=>true) true n 4 [c5]=some y3:=by have:=hg 3 _ rfl;simpa [wD] using this
  obtain⟨r,rfl,rfl,rf⟩:=tK g0;obtain⟨k,rfl,rfl,kf⟩:=tK g1;obtain⟨b,e2,rfl⟩:=DataW.trod_bool Tryz.underlying4 g2;obtain⟨d,e3,rfl⟩:=DataW.trod_bool Tryz.underlying4 g3;injection e2 with e2;injection e3 with e3;subst e2 e3;exact⟨⟨r,k,b,d⟩,⟨rfl,rfl,rfl,rfl,rfl,rfl⟩,rf,kf⟩
theorem uGS:∀ (b n:Nat) (cs:List Value) (x:DataW H×List MemPlace),Rows.uptoBulk x.1<=b->DataW.trod enc Tryz.prog W 0 (fun _=>true) true n 34 cs=some x ->
  ∃ (t:Tree) (A:Option Addr) (cp:Nat),cs=(aJ t.h A t.l.length cp).toList/\t.l.length<=cp/\KidsPO (fun _=>True) W A t.l/\t.ok (Rows.uptoBulk x.1)/\7*t.size<=Rows.uptoBulk x.1:=by
 intro b
 induction b with
 |zero=>intro n cs x hb;have:=nI x.1;omega
 |succ b ih=>
 intro n cs x hbx h;obtain⟨xs,k,hkn,hx,li,hlen,hg⟩:=DataW.trod_struct Tryz.underlying34 h;rw[uDI]at li
 match cs,li with
 | [c0,c1,c2,c3,c4,c5,c6,c7,c8,c9,ku,kv,kw,c13,kz,la,c16,c17,c18,c19,xm,jp],_=>
 match xs,hlen with
 | [y0,y1,y2,y3,y4,y5],_=>
  have g0:DataW.trod enc Tryz.prog W 0 (fun _=>true) true k 3 [c0]=some y0:=by have:=hg 0 _ rfl;simpa [qV] using this
  have g1:DataW.trod enc Tryz.prog W 0 (fun _=>true) true k 25 [c1,c2,c3,c4,c5,c6]=some y1:=by have:=hg 1 _ rfl;simpa [cellsN5] using this
  have g2:DataW.trod enc Tryz.prog W 0 (fun _=>true) true k 9 [c7]=some y2:=by have:=hg 2 _ rfl;simpa [uDJ] using this
  have g3:DataW.trod enc Tryz.prog W 0 (fun _=>true) true k 31 [c8,c9,ku,kv,kw,c13,kz,la,c16,c17,c18,c19]=some y3:=by have:=hg 3 _ rfl;simpa [cellsN8] using this
  have g4:DataW.trod enc Tryz.prog W 0 (fun _=>true) true k 3 [xm]=some y4:=by have:=hg 4 _ rfl;simpa [qV] using this
  have g5:DataW.trod enc Tryz.prog W 0 (fun _=>true) true k 32 [jp]=some y5:=by have:=hg 5 _ rfl;simpa [cellsN9] using this
  clear hg h;obtain⟨kd,e0,rfl,_⟩:=DataW.trod_int Tryz.underlying3 g0;obtain⟨v,⟨rfl,rfl,rfl,rfl,rfl,rfl⟩,v1,v2,v3⟩:=uGT g1;obtain⟨s,e2,rfl,_⟩:=DataW.trod_string Tryz.underlying9 g2;obtain⟨zs,k3,_,hz,_,hzl,hzg⟩:=DataW.trod_struct Tryz.underlying31 g3;obtain⟨rw',e4,rfl,_⟩:=DataW.trod_int Tryz.underlying3 g4;injection e0 with e0;injection e2 with e2;injection e4 with e4;subst e0 e2 e4
  match zs,hzl with
  | [z0,z1],_=>
  have q0:DataW.trod enc Tryz.prog W 0 (fun _=>true) true k3 29 [c8,c9,ku,kv,kw,c13]=some z0:=by have:=hzg 0 _ rfl;simpa [uDL] using this
  have q1:DataW.trod enc Tryz.prog W 0 (fun _=>true) true k3 29 [kz,la,c16,c17,c18,c19]=some z1:=by have:=hzg 1 _ rfl;simpa [uDL] using this
  clear hzg;obtain⟨ca,⟨rfl,rfl,rfl,rfl,rfl,rfl⟩,fa⟩:=vR q0;obtain⟨cb,⟨rfl,rfl,rfl,rfl,rfl,rfl⟩,fb⟩:=vR q1;have b1:=nI y1.1;have b3:=nI y3.1;have hB:Rows.uptoBulk x.1=1+(Rows.uptoBulk y1.1+((s.data.toList.length+1)+(Rows.uptoBulk y3.1+(1+(Rows.uptoBulk y5.1+0)))))+1:=by
   rw[hx];simp only[List.map_cons,List.map_nil,Rows.uptoBulk,Rows.uptoBulkAll]
  rcases Go.Deep.open_slice Tryz.underlying32 g5 with⟨fh,h5⟩|⟨a,len,cap,m,n',D,Pl,fh,hb,hl,hm,td,h5,hi⟩
  ·injection fh with fh _;subst fh;have b5:=nI y5.1;refine⟨.mk ⟨kd,v,s.data.toList,ca,cb,rw'⟩ [],none,0,by simp[Tree.h,Tree.l],zr,.inl rfl,⟨⟨v1,v2,fa,fb,by show v.text.length<=_;omega,by show s.data.toList.length<=_;omega⟩,trivial⟩,?_⟩;show 7*(aM []+1)<=_;rw[aM];omega
  injection fh with fh _;subst fh;rw[if_pos rfl]at td;obtain rfl:cap=m:=td.symm;rw[uDI]at hi;have mp:Rows.uptoBulkAll ((List.range len).map D)+1<=Rows.uptoBulk y5.1:=by
   rw[h5];simp only[Rows.uptoBulk];omega
  obtain⟨g,o,spot⟩:=a;have key:∀ i,i<len->∃ (t:Tree) (A:Option Addr) (cp:Nat),(∀ j,j<22->W.cell? (((⟨g,o,spot⟩:Addr).add (i*22)).add j)=(aJ t.h A t.l.length cp)[j]?)/\t.l.length<=cp/\KidsPO (fun _=>True) W A t.l/\t.ok (Rows.uptoBulk (D i))/\7*t.size<=Rows.uptoBulk (D i):=by
   intro i lu;obtain⟨nn,hc,ht'⟩:=hi i (by omega);obtain⟨_,li,iq⟩:=World.cells?_some hc;have hD:=bulk_part (yj.2 ⟨i,yg.2 lu,rfl⟩:D i∈(List.range len).map D);obtain⟨t,A,cp,rfl,t0,t1,t2,t3⟩:=ih n' nn (D i,Pl i) (by show Rows.uptoBulk (D i)<=b;omega) ht';exact⟨t,A,cp,fun j hj=>by rw[iq j hj];simp,t0,t1,t2,t3⟩
  obtain⟨f,hf⟩:∃ f:Nat->Tree,∀ i,i<len->∃ (A:Option Addr) (cp:Nat),(∀ j,j<22->W.cell? (((⟨g,o,spot⟩:Addr).add (i*22)).add j)=(aJ (f i).h A (f i).l.length cp)[j]?)/\(f i).l.length<=cp/\KidsPO (fun _=>True) W A (f i).l/\(f i).ok (Rows.uptoBulk (D i))/\7*(f i).size<=Rows.uptoBulk (D i) :=
   ⟨fun i=>if h:i<len then Classical.choose (key i h) else tree0,fun i lu=>by
    have:=Classical.choose_spec (key i lu);simp only[dif_pos lu];exact this⟩
  have aq:=tF 0 len f D (fun i lu=>by obtain⟨_,_,_,_,_,_,h4⟩:=hf i lu;exact h4);refine⟨.mk ⟨kd,v,s.data.toList,ca,cb,rw'⟩ ((List.range len).map f),some ⟨g,o,spot⟩,cap,by simp[Tree.h,Tree.l],by show ((List.range len).map f).length<=cap;simpa using hl,?_,⟨⟨v1,v2,fa,fb,by show v.text.length<=_;omega,by show s.data.toList.length<=_;omega⟩,okL_of (fun t ht=>?_)⟩,?_⟩
  ·show KidsPO (fun _=>True) W (some ⟨g,o,spot⟩) ((List.range len).map f);by_cases h0:len=0
   ·subst h0;exact .inl rfl
   have h0':0<len:=by omega
   obtain⟨A0,cp0,hc0,_⟩:=hf 0 h0';have oc:=hc0 0 (by decide);have oc:W.cell? (((⟨g,o,spot⟩:Addr).add (0*22)).add 0)=some (vI (f 0).h.kind):=oc;have hsp:spot=none:=by simpa [Addr.add] using World.cell?_spot oc
   subst hsp;rw[nH,nH]at oc;refine .inr ⟨g,o,rfl,trivial,dN oc,xX _ _ (fun i lu=>?_)⟩;have hil':i<len:=by simpa using lu
   obtain⟨A,cp,hc,li,hk,_⟩:=hf i hil';simp only[List.getElem_map,List.getElem_range];generalize f i=u at *;obtain⟨uh,ul⟩:=u;refine⟨A,cp,li,fun j hj=>?_,hk⟩;have:=hc j hj
   rwa [nH,nH]at this
  ·obtain⟨i,hi2,rfl⟩:=yj.1 ht;obtain⟨_,_,_,_,_,h3,_⟩:=hf i (yg.1 hi2);refine h3.mono ?_;have:=bulk_part (yj.2 ⟨i,hi2,rfl⟩:D i∈(List.range len).map D);omega
  show 7*(aM ((List.range len).map f)+1)<=_;omega
end
end Go.Proofs.YtjfihpaeglpblaaGreatDoor
