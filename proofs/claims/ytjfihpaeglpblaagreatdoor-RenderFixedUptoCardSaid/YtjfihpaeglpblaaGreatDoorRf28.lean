/-
  Lemmas, part 28: WxD.
-/
import Derived.Test.YtjfihpaeglpblaaGreatDoorRf27
set_option maxHeartbeats 100000000
set_option maxRecDepth 1000000
namespace Go.Proofs.YtjfihpaeglpblaaGreatDoor
open Go.RowKit
abbrev ArX(h:NodeH)(b:Nat)(W:World):Prop:=W.cell? ⟨b,0,none⟩=some (vI h.a.row.a)/\W.cell? ⟨b,1,none⟩=some (vI h.a.row.n)/\W.cell? ⟨b,2,none⟩=some (vI h.a.col.a)/\W.cell? ⟨b,3,none⟩=some (vI h.a.col.n)/\W.cell? ⟨b,6,none⟩=some (vI h.b.row.a)/\W.cell? ⟨b,7,none⟩=some (vI h.b.row.n)/\W.cell? ⟨b,8,none⟩=some (vI h.b.col.a)/\W.cell? ⟨b,9,none⟩=some (vI h.b.col.n)
abbrev SaX(sff:FuncId)(sfx:Array Value)(p q:Nat)(x y:Int)(a b:Bool)(W:World):Prop:=W.cell? ⟨p,3,none⟩=some (.func (.func sff) #[] sfx)/\W.cell? ⟨q,0,none⟩=some (vI x)/\W.cell? ⟨q,1,none⟩=some (vI y)/\W.cell? ⟨q,2,none⟩=some (.bool a)/\W.cell? ⟨q,3,none⟩=some (.bool b)
theorem fZ{p m:Nat}{rp cp:Option Nat}{R C:AxV}{sff:FuncId}{sfx:Array Value}{ts:List RTok}(h:NodeH)(w:World)(hw:WrS w p m rp cp R C (.func (.func sff) #[] sfx) ts):∃ (W0 W1 W2:World) (Z:Int->Int->Int->Int->World->Prop),Hid (W0=w.alloc (.cells #[vI h.a.row.a,vI h.a.row.n,vI h.a.col.a,vI h.a.col.n,.bool h.a.fr,.bool h.a.fc,vI h.b.row.a,vI h.b.row.n,vI h.b.col.a,vI h.b.col.n,.bool h.b.fr,.bool h.b.fc] 31))/\Hid (W1=W0.alloc (.cells #[vI 0,vI 0,.bool h.a.fr,.bool h.a.fc] 90))/\Hid (W2=W1.alloc (.cells #[vI 0,vI 0,.bool h.b.fr,.bool h.b.fc] 90))/\Hid (∀ x y u v W,Z x y u v W↔(WrS W p m rp cp R C (.func (.func sff) #[] sfx) ts/\Kw p (rp.toList++cp.toList) w W/\Lies W w.heap.size 31 #[vI h.a.row.a,vI h.a.row.n,vI h.a.col.a,vI h.a.col.n,.bool h.a.fr,.bool h.a.fc,vI h.b.row.a,vI h.b.row.n,vI h.b.col.a,vI h.b.col.n,.bool h.b.fr,.bool h.b.fc]/\Lies W W0.heap.size 90 #[vI x,vI y,.bool h.a.fr,.bool h.a.fc]/\Lies W W1.heap.size 90 #[vI u,vI v,.bool h.b.fr,.bool h.b.fc]))/\Hid (Z 0 0 0 0 W2)/\Hid (∀ x y u v W W',Z x y u v W->Below W.heap.size W W'->Z x y u v W')/\Hid (∀ x y u v W,Z x y u v W->ArX h w.heap.size W)/\Hid (∀ x y u v W,Z x y u v W->W.cell? ⟨W0.heap.size,0,none⟩=some (vI x)/\W.cell? ⟨W0.heap.size,1,none⟩=some (vI y)/\W.frozen? ⟨W0.heap.size,0,none⟩=false/\W.frozen? ⟨W0.heap.size,1,none⟩=false)/\Hid (∀ x y u v W,Z x y u v W->W.cell? ⟨W1.heap.size,0,none⟩=some (vI u)/\W.cell? ⟨W1.heap.size,1,none⟩=some (vI v)/\W.frozen? ⟨W1.heap.size,0,none⟩=false/\W.frozen? ⟨W1.heap.size,1,none⟩=false)/\Hid (∀ x y u v W,Z x y u v W->WrS W p m rp cp R C (.func (.func sff) #[] sfx) ts)/\Hid (∀ x y u v W k,Z x y u v W->Z k y u v (W.setCell ⟨W0.heap.size,0,none⟩ (vI k)))/\Hid (∀ x y u v W k,Z x y u v W->Z x k u v (W.setCell ⟨W0.heap.size,1,none⟩ (vI k)))/\Hid (∀ x y u v W k,Z x y u v W->Z x y k v (W.setCell ⟨W1.heap.size,0,none⟩ (vI k)))/\Hid (∀ x y u v W k,Z x y u v W->Z x y u k (W.setCell ⟨W1.heap.size,1,none⟩ (vI k)))/\Hid (∀ x y u v W,Z x y u v W->W.cell? ⟨p,0,none⟩=some (.pointer (ptr rp))/\ArX h w.heap.size W)/\Hid (∀ x y u v W,Z x y u v W->W.cell? ⟨p,1,none⟩=some (.pointer (ptr cp))/\ArX h w.heap.size W)/\Hid (∀ x y u v W,Z x y u v W->Lies W W0.heap.size 90 #[vI x,vI y,.bool h.a.fr,.bool h.a.fc])/\Hid (∀ x y u v W,Z x y u v W->Lies W W1.heap.size 90 #[vI u,vI v,.bool h.b.fr,.bool h.b.fc])/\Hid (∀ x y u v W,Z x y u v W->Kw p (rp.toList++cp.toList) w W)/\Hid (p<W0.heap.size/\p<W1.heap.size)/\Hid (ArX h w.heap.size W2)/\Hid ((ArX h w.heap.size W0)/\W0.cell? ⟨w.heap.size,4,none⟩=some (.bool h.a.fr)/\W0.cell? ⟨w.heap.size,5,none⟩=some (.bool h.a.fc)/\W0.cell? ⟨w.heap.size,10,none⟩=some (.bool h.b.fr)/\W0.cell? ⟨w.heap.size,11,none⟩=some (.bool h.b.fc))/\Hid (W1.cell? ⟨w.heap.size,10,none⟩=some (.bool h.b.fr)/\W1.cell? ⟨w.heap.size,11,none⟩=some (.bool h.b.fc)):=by
 obtain⟨W0,aj⟩:=zD (w.alloc (.cells #[vI h.a.row.a,vI h.a.row.n,vI h.a.col.a,vI h.a.col.n,.bool h.a.fr,.bool h.a.fc,vI h.b.row.a,vI h.b.row.n,vI h.b.col.a,vI h.b.col.n,.bool h.b.fr,.bool h.b.fc] 31))
 obtain⟨W1,am⟩:=zD (W0.alloc (.cells #[vI 0,vI 0,.bool h.a.fr,.bool h.a.fc] 90))
 obtain⟨W2,dx⟩:=zD (W1.alloc (.cells #[vI 0,vI 0,.bool h.b.fr,.bool h.b.fc] 90))
 have ak:=zh aj;have al:=zh am;have jo:=zh dx;have aq:=zA aj;have bf:=zA am;have ba:=zA dx;have hs0:W0.heap.size=w.heap.size+1:=by rw[aj,World.size_alloc]
 have fe:W1.heap.size=W0.heap.size+1:=by rw[am,World.size_alloc]
 obtain⟨Z,hZ⟩:∃ Z:Int->Int->Int->Int->World->Prop,∀ x y u v W,Z x y u v W↔(WrS W p m rp cp R C (.func (.func sff) #[] sfx) ts/\Kw p (rp.toList++cp.toList) w W/\Lies W w.heap.size 31 #[vI h.a.row.a,vI h.a.row.n,vI h.a.col.a,vI h.a.col.n,.bool h.a.fr,.bool h.a.fc,vI h.b.row.a,vI h.b.row.n,vI h.b.col.a,vI h.b.col.n,.bool h.b.fr,.bool h.b.fc]/\Lies W W0.heap.size 90 #[vI x,vI y,.bool h.a.fr,.bool h.a.fc]/\Lies W W1.heap.size 90 #[vI u,vI v,.bool h.b.fr,.bool h.b.fc]):=⟨_,fun _ _ _ _ _=>Iff.rfl⟩
 have fg:=zh hZ;have wj:Hid (Z 0 0 0 0 W2):=zh ((hZ _ _ _ _ _).2 ⟨((hw.next aq.out).next bf.out).next ba.out,((Kw.of_below aq.out).trans (Kw.of_below bf.out)).trans (Kw.of_below ba.out),by
  have l0:Lies W0 w.heap.size 31 #[vI h.a.row.a,vI h.a.row.n,vI h.a.col.a,vI h.a.col.n,.bool h.a.fr,.bool h.a.fc,vI h.b.row.a,vI h.b.row.n,vI h.b.col.a,vI h.b.col.n,.bool h.b.fr,.bool h.b.fc]:=by rw[aj];exact Lies.new w _ _
  exact(l0.next bf.out).next ba.out,by
  have l1:Lies W1 W0.heap.size 90 #[vI 0,vI 0,.bool h.a.fr,.bool h.a.fc]:=by rw[am];exact Lies.new W0 _ _
  exact l1.next ba.out,by rw[dx];exact Lies.new W1 _ _⟩)
 have f7:Hid (∀ x y u v W W',Z x y u v W->Below W.heap.size W W'->Z x y u v W'):=zh (fun x y u v W W' g hb=>(hZ _ _ _ _ _).2 (by
  obtain⟨g1,g2,g3,g4,g5⟩:=(hZ _ _ _ _ _).1 g;exact⟨g1.next hb,g2.trans (Kw.of_below hb),g3.next hb,g4.next hb,g5.next hb⟩))
 have HA:Hid (∀ x y u v W,Z x y u v W->ArX h w.heap.size W):=zh (fun x y u v W g=>by
  obtain⟨g1,g2,g3,g4,g5⟩:=(hZ _ _ _ _ _).1 g;exact⟨g3.cell 0,g3.cell 1,g3.cell 2,g3.cell 3,g3.cell 6,g3.cell 7,g3.cell 8,g3.cell 9⟩)
 have ng:Hid (∀ x y u v W,Z x y u v W->W.cell? ⟨W0.heap.size,0,none⟩=some (vI x)/\W.cell? ⟨W0.heap.size,1,none⟩=some (vI y)/\W.frozen? ⟨W0.heap.size,0,none⟩=false/\W.frozen? ⟨W0.heap.size,1,none⟩=false):=zh (fun x y u v W g=>by
  obtain⟨g1,g2,g3,g4,g5⟩:=(hZ _ _ _ _ _).1 g;exact⟨g4.cell 0,g4.cell 1,g4.frozen 0,g4.frozen 1⟩)
 have nh:Hid (∀ x y u v W,Z x y u v W->W.cell? ⟨W1.heap.size,0,none⟩=some (vI u)/\W.cell? ⟨W1.heap.size,1,none⟩=some (vI v)/\W.frozen? ⟨W1.heap.size,0,none⟩=false/\W.frozen? ⟨W1.heap.size,1,none⟩=false):=zh (fun x y u v W g=>by
  obtain⟨g1,g2,g3,g4,g5⟩:=(hZ _ _ _ _ _).1 g;exact⟨g5.cell 0,g5.cell 1,g5.frozen 0,g5.frozen 1⟩)
 have rn:Hid (∀ x y u v W,Z x y u v W->WrS W p m rp cp R C (.func (.func sff) #[] sfx) ts):=zh (fun x y u v W g=>((hZ _ _ _ _ _).1 g).1);have hpw:=hw.lt;have jv:Hid (∀ x y u v W k,Z x y u v W->Z k y u v (W.setCell ⟨W0.heap.size,0,none⟩ (vI k))):=zh (fun x y u v W k g=>by
  obtain⟨g1,g2,g3,g4,g5⟩:=(hZ _ _ _ _ _).1 g;have k1:=kK W W0.heap.size 0 (vI k);exact(hZ _ _ _ _ _).2 ⟨g1.loc k1 (by omega) g4 (by decide) (by decide) (by decide) (by decide) (by decide),g2.loc k1 (by omega),aB g3 (by omega) _ _,g4.put 0 (vI k),aB g5 (by omega) _ _⟩)
 have jw:Hid (∀ x y u v W k,Z x y u v W->Z x k u v (W.setCell ⟨W0.heap.size,1,none⟩ (vI k))):=zh (fun x y u v W k g=>by
  obtain⟨g1,g2,g3,g4,g5⟩:=(hZ _ _ _ _ _).1 g;have k1:=kK W W0.heap.size 1 (vI k);exact(hZ _ _ _ _ _).2 ⟨g1.loc k1 (by omega) g4 (by decide) (by decide) (by decide) (by decide) (by decide),g2.loc k1 (by omega),aB g3 (by omega) _ _,g4.put 1 (vI k),aB g5 (by omega) _ _⟩)
 have jx:Hid (∀ x y u v W k,Z x y u v W->Z x y k v (W.setCell ⟨W1.heap.size,0,none⟩ (vI k))):=zh (fun x y u v W k g=>by
  obtain⟨g1,g2,g3,g4,g5⟩:=(hZ _ _ _ _ _).1 g;have k1:=kK W W1.heap.size 0 (vI k);exact(hZ _ _ _ _ _).2 ⟨g1.loc k1 (by omega) g5 (by decide) (by decide) (by decide) (by decide) (by decide),g2.loc k1 (by omega),aB g3 (by omega) _ _,aB g4 (by omega) _ _,g5.put 0 (vI k)⟩)
 have jy:Hid (∀ x y u v W k,Z x y u v W->Z x y u k (W.setCell ⟨W1.heap.size,1,none⟩ (vI k))):=zh (fun x y u v W k g=>by
  obtain⟨g1,g2,g3,g4,g5⟩:=(hZ _ _ _ _ _).1 g;have k1:=kK W W1.heap.size 1 (vI k);exact(hZ _ _ _ _ _).2 ⟨g1.loc k1 (by omega) g5 (by decide) (by decide) (by decide) (by decide) (by decide),g2.loc k1 (by omega),aB g3 (by omega) _ _,aB g4 (by omega) _ _,g5.put 1 (vI k)⟩)
 have dj:Hid (∀ x y u v W,Z x y u v W->W.cell? ⟨p,0,none⟩=some (.pointer (ptr rp))/\ArX h w.heap.size W):=zh (fun x y u v W g=>by
  obtain⟨vv,k,_⟩:=((hZ _ _ _ _ _).1 g).1.box;exact⟨k.cell 0,HA.out x y u v W g⟩)
 have dm:Hid (∀ x y u v W,Z x y u v W->W.cell? ⟨p,1,none⟩=some (.pointer (ptr cp))/\ArX h w.heap.size W):=zh (fun x y u v W g=>by
  obtain⟨vv,k,_⟩:=((hZ _ _ _ _ _).1 g).1.box;exact⟨k.cell 1,HA.out x y u v W g⟩)
 have ro:Hid (∀ x y u v W,Z x y u v W->Lies W W0.heap.size 90 #[vI x,vI y,.bool h.a.fr,.bool h.a.fc]):=zh (fun x y u v W g=>((hZ _ _ _ _ _).1 g).2.2.2.1);have rq:Hid (∀ x y u v W,Z x y u v W->Lies W W1.heap.size 90 #[vI u,vI v,.bool h.b.fr,.bool h.b.fc]):=zh (fun x y u v W g=>((hZ _ _ _ _ _).1 g).2.2.2.2);have oj:Hid (∀ x y u v W,Z x y u v W->Kw p (rp.toList++cp.toList) w W):=zh (fun x y u v W g=>((hZ _ _ _ _ _).1 g).2.1);have oz:Hid (p<W0.heap.size/\p<W1.heap.size):=zh ⟨by omega,by omega⟩;have o3:=zh (HA.out _ _ _ _ _ wj.out);have m4:Hid ((ArX h w.heap.size W0)/\W0.cell? ⟨w.heap.size,4,none⟩=some (.bool h.a.fr)/\W0.cell? ⟨w.heap.size,5,none⟩=some (.bool h.a.fc)/\W0.cell? ⟨w.heap.size,10,none⟩=some (.bool h.b.fr)/\W0.cell? ⟨w.heap.size,11,none⟩=some (.bool h.b.fc)):=zh (by
  have l0:Lies W0 w.heap.size 31 #[vI h.a.row.a,vI h.a.row.n,vI h.a.col.a,vI h.a.col.n,.bool h.a.fr,.bool h.a.fc,vI h.b.row.a,vI h.b.row.n,vI h.b.col.a,vI h.b.col.n,.bool h.b.fr,.bool h.b.fc]:=by rw[aj];exact Lies.new w _ _
  exact⟨⟨l0.cell 0,l0.cell 1,l0.cell 2,l0.cell 3,l0.cell 6,l0.cell 7,l0.cell 8,l0.cell 9⟩,l0.cell 4,l0.cell 5,l0.cell 10,l0.cell 11⟩)
 have ma:Hid (W1.cell? ⟨w.heap.size,10,none⟩=some (.bool h.b.fr)/\W1.cell? ⟨w.heap.size,11,none⟩=some (.bool h.b.fc)):=zh (by
  have l0:Lies W0 w.heap.size 31 #[vI h.a.row.a,vI h.a.row.n,vI h.a.col.a,vI h.a.col.n,.bool h.a.fr,.bool h.a.fc,vI h.b.row.a,vI h.b.row.n,vI h.b.col.a,vI h.b.col.n,.bool h.b.fr,.bool h.b.fc]:=by rw[aj];exact Lies.new w _ _
  exact⟨(l0.next bf.out).cell 10,(l0.next bf.out).cell 11⟩)
 exact⟨W0,W1,W2,Z,ak,al,jo,fg,wj,f7,HA,ng,nh,rn,jv,jw,jx,jy,dj,dm,ro,rq,oj,oz,o3,m4,ma⟩
theorem tJ{p m:Nat}{rp cp:Option Nat}{R C:AxV}{sff:FuncId}{sfx:Array Value}{ts:List RTok}(h:NodeH)(w:World)(hw:WrS w p m rp cp R C (.func (.func sff) #[] sfx) ts)(hn:ts.length<=700000)(hr:Hid (h.a.row=id0))(hc:Hid (h.a.col≠id0))(hE1:∀ W,WrS W p m rp cp R C (.func (.func sff) #[] sfx) ts->Calls Tryz.prog 194 #[.pointer (ptr cp),.agg #[vI h.a.col.a,vI h.a.col.n],.agg #[vI h.b.col.a,vI h.b.col.n]] W fun e w'=>e=.returned (.tuple #[vI 0,vI 0,.bool false])/\WrS w' p m rp cp R C (.func (.func sff) #[] sfx) ts/\Kw p (rp.toList++cp.toList) W w') :
  Calls Tryz.prog 139 #[vP p 0,.agg #[vI h.a.row.a,vI h.a.row.n,vI h.a.col.a,vI h.a.col.n,.bool h.a.fr,.bool h.a.fc,vI h.b.row.a,vI h.b.row.n,vI h.b.col.a,vI h.b.col.n,.bool h.b.fr,.bool h.b.fc]] w fun e w'=>WrO p m rp cp R C (.func (.func sff) #[] sfx) (ts++eK) w e w':=by
 obtain⟨W0,W1,W2,Z,ak,al,jo,fg,cq,f7,HA,ng,nh,rn,jv,jw,jx,jy,dj,dm,ro,rq,oj,oz,o3,m4,ma⟩:=fZ h w hw;have hZ:=fg.out;have CE1:Hid (∀ x y u v W,Z x y u v W->Calls Tryz.prog 194 #[.pointer (ptr cp),.agg #[vI h.a.col.a,vI h.a.col.n],.agg #[vI h.b.col.a,vI h.b.col.n]] W fun e w'=>e=.returned (.tuple #[vI 0,vI 0,.bool false])/\Z x y u v w'):=zh (fun x y u v W g=>by
  obtain⟨g1,g2,g3,g4,g5⟩:=(hZ _ _ _ _ _).1 g;refine(hE1 W g1).mono ?_;rintro e w' ⟨rfl,k1,k2⟩;exact⟨rfl,(hZ _ _ _ _ _).2 ⟨k1,g2.trans k2,Kw.lies k2 g1 g3 (by decide) (by decide) (by decide),Kw.lies k2 g1 g4 (by decide) (by decide) (by decide),Kw.lies k2 g1 g5 (by decide) (by decide) (by decide)⟩⟩)
 have CG:Hid (∀ x y u v W,Z x y u v W->Calls Tryz.prog 193 #[vP p 0] W fun e w'=>WrO p m rp cp R C (.func (.func sff) #[] sfx) (ts++eK) W e w'):=zh (fun x y u v W g=>kT W ((hZ _ _ _ _ _).1 g).1 (by omega));clear hw hZ
 go_in
 go_upto_region 1 with fail
 rw[<- ak.out];clear ak;obtain⟨-,a4,a5,a10,a11⟩:=m4.out
 go_upto_region 3 with fail
 rw[<- al.out];clear al m4 a4 a5 a10 a11;obtain⟨a10,a11⟩:=ma.out
 go_upto_region 4 with fail
 rw[<- jo.out];clear jo ma a10 a11;obtain⟨a0,a1,a2,a3,a6,a7,a8,a9⟩:=o3.out;have e1:∀ W:World,(binOp .eql 27 (.agg #[vI h.a.row.a,vI h.a.row.n]) (.agg #[vI 0,vI 0])).run Tryz.prog W=.ok (.bool true) W:=fun W=>by have:=cP h.a.row id0 W;rwa [decide_eq_true hr.out]at this
 have e2:∀ W:World,(binOp .eql 27 (.agg #[vI h.a.col.a,vI h.a.col.n]) (.agg #[vI 0,vI 0])).run Tryz.prog W=.ok (.bool false) W:=fun W=>by have:=cP h.a.col id0 W;rwa [decide_eq_false hc.out]at this
 go_upto_region 10 with fail
 refine wp_region_held_drew (S:=fun w'=>w'.cell? ⟨p,1,none⟩=some (.pointer (ptr cp))/\ArX h w.heap.size w') (by kernel_rfl) (dm.out _ _ _ _ _ (f7.out _ _ _ _ _ _ cq.out zB.drew)) (fun af=>?_);refine TkA 0 (vP p 0) ?_;refine TkA 1 (vP p 0) ?_;refine TkA 2 (vP p 1) ?_;refine TkB 3 (.pointer (ptr cp)) ?_;refine TkA 4 (vP w.heap.size 0) ?_;refine TkA 5 (vP w.heap.size 2) ?_;refine TkB 6 (.agg #[vI h.a.col.a,vI h.a.col.n]) ?_;refine TkA 7 (vP w.heap.size 6) ?_;refine TkA 8 (vP w.heap.size 8) ?_;refine TkB 9 (.agg #[vI h.b.col.a,vI h.b.col.n]) ?_;refine TkR 10 (fun K hK=>?_)
 go_simp
 go_at_call 194
 refine(CE1.out _ _ _ _ _ (f7.out _ _ _ _ _ _ cq.out zB.drew)).mono ?_;rintro e wx ⟨rfl,lq⟩;have gc:=zh lq;clear lq
 go_wp2_with fail
 refine hK.out _ _ (dm.out _ _ _ _ _ gc.out) (fun aa=>?_);clear hK K af;have af:=aa;clear aa;refine TkA 11 (.tuple #[vI 0,vI 0,.bool false]) ?_;refine TkA 12 (vI 0) ?_;refine TkA 13 (vI 0) ?_;refine TkA 14 (.bool false) ?_;refine TkA 15 (vP W0.heap.size 1) ?_;obtain⟨k0,k1,f0,f1⟩:=ng.out _ _ _ _ _ gc.out;refine TkR 16 (fun K hK=>?_)
 go_simp
 clear k0 k1 f0 f1;have gd:=zh (jw.out _ _ _ _ _ 0 gc.out);refine hK.out _ _ (dm.out _ _ _ _ _ gd.out) (fun aa=>?_);clear hK K af;have af:=aa;clear aa;refine TkA 17 (vP W1.heap.size 1) ?_;obtain⟨k0,k1,f0,f1⟩:=nh.out _ _ _ _ _ gd.out;refine TkR 18 (fun K hK=>?_)
 go_simp
 clear k0 k1 f0 f1;have gh:=zh (jy.out _ _ _ _ _ 0 gd.out);refine hK.out _ _ (dm.out _ _ _ _ _ gh.out) (fun aa=>?_);clear hK K af;have af:=aa;clear aa;refine TkA 19 (.bool false) ?_;refine TkD ?_
 (try simp only[Act.put,yz])
 obtain⟨W9,jf⟩:∃ W9,W9=(wx.setCell ⟨W0.heap.size,1,none⟩ (vI 0)).setCell ⟨W1.heap.size,1,none⟩ (vI 0):=⟨_,rfl⟩
 rw[<- jf];rw[<- jf]at gh;clear jf gc gd af cq;have cq:=gh;clear gh;clear a0 a1 a2 a3 a6 a7 a8 a9;clear e1 e2;have HK:=zh (oj.out _ _ _ _ _ cq.out)
 go_wp2_with ((with_reducible refine(CG.out _ _ _ _ _ cq.out).mono ?_);rintro e wx ⟨rfl,hs,hk⟩;have jl:=zh hs;have fv:=zh (HK.out.trans hk);clear hs hk)
 go_end0
 exact⟨rfl,jl.out,fv.out⟩
theorem yQ{p m:Nat}{rp cp:Option Nat}{R C:AxV}{sff:FuncId}{sfx:Array Value}{ts:List RTok}(h:NodeH)(w:World)(hw:WrS w p m rp cp R C (.func (.func sff) #[] sfx) ts)(hn:ts.length<=700000)(hr:Hid (h.a.row=id0))(hc:Hid (h.a.col≠id0))(i1 i2:Int)(hE1:∀ W,WrS W p m rp cp R C (.func (.func sff) #[] sfx) ts->Calls Tryz.prog 194 #[.pointer (ptr cp),.agg #[vI h.a.col.a,vI h.a.col.n],.agg #[vI h.b.col.a,vI h.b.col.n]] W fun e w'=>e=.returned (.tuple #[vI i1,vI i2,.bool true])/\WrS w' p m rp cp R C (.func (.func sff) #[] sfx) ts/\Kw p (rp.toList++cp.toList) W w')(t1 t2:RTok)(hF:∀ xs W,Sem.run Tryz.prog (callFunc sff xs) W=.ok (.enter sff xs) W)(hT:∀ W,Kw p (rp.toList++cp.toList) w W->Calls Tryz.prog sff (#[.agg #[vI 0,vI i1,.bool h.a.fr,.bool h.a.fc],vI 2]++sfx) W fun e w'=>e=.returned (dS t1)/\Below W.heap.size W w')(hU:∀ W,Kw p (rp.toList++cp.toList) w W->Calls Tryz.prog sff (#[.agg #[vI 0,vI i2,.bool h.b.fr,.bool h.b.fc],vI 2]++sfx) W fun e w'=>e=.returned (dS t2)/\Below W.heap.size W w') :
  Calls Tryz.prog 139 #[vP p 0,.agg #[vI h.a.row.a,vI h.a.row.n,vI h.a.col.a,vI h.a.col.n,.bool h.a.fr,.bool h.a.fc,vI h.b.row.a,vI h.b.row.n,vI h.b.col.a,vI h.b.col.n,.bool h.b.fr,.bool h.b.fc]] w fun e w'=>WrO p m rp cp R C (.func (.func sff) #[] sfx) (ts++[t1]++[tk 5 [58]]++[t2]) w e w':=by
 obtain⟨W0,W1,W2,Z,ak,al,jo,fg,cq,f7,HA,ng,nh,rn,jv,jw,jx,jy,dj,dm,ro,rq,oj,oz,o3,m4,ma⟩:=fZ h w hw;have hZ:=fg.out;have CE1:Hid (∀ x y u v W,Z x y u v W->Calls Tryz.prog 194 #[.pointer (ptr cp),.agg #[vI h.a.col.a,vI h.a.col.n],.agg #[vI h.b.col.a,vI h.b.col.n]] W fun e w'=>e=.returned (.tuple #[vI i1,vI i2,.bool true])/\Z x y u v w'):=zh (fun x y u v W g=>by
  obtain⟨g1,g2,g3,g4,g5⟩:=(hZ _ _ _ _ _).1 g;refine(hE1 W g1).mono ?_;rintro e w' ⟨rfl,k1,k2⟩;exact⟨rfl,(hZ _ _ _ _ _).2 ⟨k1,g2.trans k2,Kw.lies k2 g1 g3 (by decide) (by decide) (by decide),Kw.lies k2 g1 g4 (by decide) (by decide) (by decide),Kw.lies k2 g1 g5 (by decide) (by decide) (by decide)⟩⟩)
 have CT:=zh hT;have CU:=zh hU;have t8:Hid True:=zh trivial;obtain⟨tc,pd⟩:∃ x,x=tk 5 [58]:=⟨_,rfl⟩
 have CC:=zh (bQ (p:=p) (m:=m) (rp:=rp) (cp:=cp) (R:=R) (C:=C) (sf:=.func (.func sff) #[] sfx) 5 [58] #[58] rfl tc pd);rw[<- pd];clear pd hT hU;clear hw hZ
 go_in
 go_upto_region 1 with fail
 rw[<- ak.out];clear ak;obtain⟨-,a4,a5,a10,a11⟩:=m4.out
 go_upto_region 3 with fail
 rw[<- al.out];clear al m4 a4 a5 a10 a11;obtain⟨a10,a11⟩:=ma.out
 go_upto_region 4 with fail
 rw[<- jo.out];clear jo ma a10 a11;obtain⟨a0,a1,a2,a3,a6,a7,a8,a9⟩:=o3.out;have e1:∀ W:World,(binOp .eql 27 (.agg #[vI h.a.row.a,vI h.a.row.n]) (.agg #[vI 0,vI 0])).run Tryz.prog W=.ok (.bool true) W:=fun W=>by have:=cP h.a.row id0 W;rwa [decide_eq_true hr.out]at this
 have e2:∀ W:World,(binOp .eql 27 (.agg #[vI h.a.col.a,vI h.a.col.n]) (.agg #[vI 0,vI 0])).run Tryz.prog W=.ok (.bool false) W:=fun W=>by have:=cP h.a.col id0 W;rwa [decide_eq_false hc.out]at this
 go_upto_region 10 with fail
 refine wp_region_held_drew (S:=fun w'=>w'.cell? ⟨p,1,none⟩=some (.pointer (ptr cp))/\ArX h w.heap.size w') (by kernel_rfl) (dm.out _ _ _ _ _ (f7.out _ _ _ _ _ _ cq.out zB.drew)) (fun af=>?_);refine TkA 0 (vP p 0) ?_;refine TkA 1 (vP p 0) ?_;refine TkA 2 (vP p 1) ?_;refine TkB 3 (.pointer (ptr cp)) ?_;refine TkA 4 (vP w.heap.size 0) ?_;refine TkA 5 (vP w.heap.size 2) ?_;refine TkB 6 (.agg #[vI h.a.col.a,vI h.a.col.n]) ?_;refine TkA 7 (vP w.heap.size 6) ?_;refine TkA 8 (vP w.heap.size 8) ?_;refine TkB 9 (.agg #[vI h.b.col.a,vI h.b.col.n]) ?_;refine TkR 10 (fun K hK=>?_)
 go_simp
 go_at_call 194
 refine(CE1.out _ _ _ _ _ (f7.out _ _ _ _ _ _ cq.out zB.drew)).mono ?_;rintro e wx ⟨rfl,lq⟩;have gc:=zh lq;clear lq
 go_wp2_with fail
 refine hK.out _ _ (dm.out _ _ _ _ _ gc.out) (fun aa=>?_);clear hK K af;have af:=aa;clear aa;refine TkA 11 (.tuple #[vI i1,vI i2,.bool true]) ?_;refine TkA 12 (vI i1) ?_;refine TkA 13 (vI i2) ?_;refine TkA 14 (.bool true) ?_;refine TkA 15 (vP W0.heap.size 1) ?_;obtain⟨k0,k1,f0,f1⟩:=ng.out _ _ _ _ _ gc.out;refine TkR 16 (fun K hK=>?_)
 go_simp
 clear k0 k1 f0 f1;have gd:=zh (jw.out _ _ _ _ _ i1 gc.out);refine hK.out _ _ (dm.out _ _ _ _ _ gd.out) (fun aa=>?_);clear hK K af;have af:=aa;clear aa;refine TkA 17 (vP W1.heap.size 1) ?_;obtain⟨k0,k1,f0,f1⟩:=nh.out _ _ _ _ _ gd.out;refine TkR 18 (fun K hK=>?_)
 go_simp
 clear k0 k1 f0 f1;have gh:=zh (jy.out _ _ _ _ _ i2 gd.out);refine hK.out _ _ (dm.out _ _ _ _ _ gh.out) (fun aa=>?_);clear hK K af;have af:=aa;clear aa;refine TkA 19 (.bool true) ?_;refine TkD ?_
 (try simp only[Act.put,yz])
 obtain⟨W9,jf⟩:∃ W9,W9=(wx.setCell ⟨W0.heap.size,1,none⟩ (vI i1)).setCell ⟨W1.heap.size,1,none⟩ (vI i2):=⟨_,rfl⟩
 rw[<- jf];rw[<- jf]at gh;clear jf gc gd af cq;have cq:=gh;clear gh;clear a0 a1 a2 a3 a6 a7 a8 a9;clear e1 e2 CE1;have t9:=zh (oj.out _ _ _ _ _ cq.out);have kl:=zh (rn.out _ _ _ _ _ cq.out);have ua:=zh (ro.out _ _ _ _ _ cq.out);have ub:=zh (rq.out _ _ _ _ _ cq.out);clear fg f7 HA ng nh rn jv jw jx jy dj dm ro rq oj cq o3
 go_upto_region 13 with fail
 go_cut [] (fun wx=>Hid (WrS wx p m rp cp R C (.func (.func sff) #[] sfx) (ts++[t1]))/\Hid (Kw p (rp.toList++cp.toList) w wx)/\Hid (Lies wx W1.heap.size 90 #[vI 0,vI i2,.bool h.b.fr,.bool h.b.fc]))
 case first=>
  have dz:Hid (WrS W9 p m rp cp R C (.func (.func sff) #[] sfx) ts):=kl;have HK:Hid (Kw p (rp.toList++cp.toList) w W9):=t9;have ec:Hid (Lies W9 W0.heap.size 90 #[vI 0,vI i1,.bool h.a.fr,.bool h.a.fc]):=ua;have bu:Hid (Lies W9 W1.heap.size 90 #[vI 0,vI i2,.bool h.b.fr,.bool h.b.fc]):=ub;clear kl t9 ua ub;obtain⟨W6,ja⟩:=zD W9
  rw[<- ja]at dz HK ec bu ⊢;clear ja;have lr:Hid (p<W0.heap.size):=zh oz.out.1;have ei:Hid (p<W1.heap.size):=zh oz.out.2;obtain⟨v0,ed,jb⟩:=dz.out.box;obtain⟨A1,c1,rfl⟩:=aY jb;have cm:=zh ed;have gm:=zh jb;have ju:Hid (∀ W,Below W6.heap.size W6 W->Kw p (rp.toList++cp.toList) w W):=zh (fun W hb=>HK.out.trans (Kw.of_below hb));clear ed jb;have bq:Hid (∀ W,Below W6.heap.size W6 W->SaX sff sfx p W0.heap.size 0 i1 h.a.fr h.a.fc W):=zh (fun W hb=>⟨(cm.out.next hb).cell 3,(ec.out.next hb).cell 0,(ec.out.next hb).cell 1,(ec.out.next hb).cell 2,(ec.out.next hb).cell 3⟩);refine wp_region_held_drew (S:=fun w'=>SaX sff sfx p W0.heap.size 0 i1 h.a.fr h.a.fc w') (by kernel_rfl) (bq.out _ zB.drew) (fun af=>?_);refine TkA 0 (vP p 0) ?_;refine TkA 1 (vP p 0) ?_;refine TkA 2 (vP p 0) ?_
  refine TkA 3 (vP p 4) ?_;refine TkA 5 (vP p 0) ?_;refine TkA 6 (vP p 0) ?_;refine TkA 7 (vP p 3) ?_;refine TkB 8 (.func (.func sff) #[] sfx) ?_;refine TkB 9 (.agg #[vI 0,vI i1,.bool h.a.fr,.bool h.a.fc]) ?_;refine TkA 10 (vI 2) ?_;have ae:Hid (Below W6.heap.size W6 W6.drew):=zh zB.drew;refine wpAnyH_ready (rs:=[4,11]) (by kernel_rfl) (by simp) ?_;refine AllReadyH.cons rfl (fun K hK=>?pa1) (AllReadyH.cons rfl (fun K hK=>?pb1) AllReadyH.nil)
  case' pa1=>
   have c4:=(cm.out.next ae.out).cell 4;simp only[za,zb,zf]at c4
   go_simp
   clear c4;refine hK.out _ _ (bq.out _ ae.out) (fun aa=>?_);clear hK K af;have af:=aa;clear aa;refine TkR 11 (fun K hK=>?_)
   go_simp
   refine(CT.out _ (ju.out _ ae.out)).mono ?_;rintro e wx ⟨rfl,hb⟩;replace ae:=zT ae hb;clear hb
   go_wp2_with fail
   refine hK.out _ _ (bq.out _ ae.out) (fun aa=>?_);clear hK K af;have af:=aa;clear aa;refine TkR 12 (fun K hK=>?_)
   go_simp
   obtain⟨W7,au⟩:=zD (wx.alloc (.cells #[vI t1.kind,vT t1.text,vI t1.place] 64))
   rw[<- au];have jc:=zL au;replace ae:=zF ae au;clear au;refine hK.out _ _ (bq.out _ ae.out) (fun aa=>?_);clear hK K af;have af:=aa;clear aa
  case' pb1=>
   go_simp
   refine(CT.out _ (ju.out _ ae.out)).mono ?_;rintro e wx ⟨rfl,hb⟩;replace ae:=zT ae hb;clear hb
   go_wp2_with fail
   refine hK.out _ _ (bq.out _ ae.out) (fun aa=>?_);clear hK K af;have af:=aa;clear aa;refine wpAnyH_ready (rs:=[4,12]) (by kernel_rfl) (by simp) ?_;refine AllReadyH.cons rfl (fun K hK=>?pc1) (AllReadyH.cons rfl (fun K hK=>?pd1) AllReadyH.nil)
   case' pc1=>
    have c4:=(cm.out.next ae.out).cell 4;simp only[za,zb,zf]at c4
    go_simp
    clear c4;refine hK.out _ _ (bq.out _ ae.out) (fun aa=>?_);clear hK K af;have af:=aa;clear aa;refine TkR 12 (fun K hK=>?_)
    go_simp
    obtain⟨W7,au⟩:=zD (wx.alloc (.cells #[vI t1.kind,vT t1.text,vI t1.place] 64))
    rw[<- au];have jc:=zL au;replace ae:=zF ae au;clear au;refine hK.out _ _ (bq.out _ ae.out) (fun aa=>?_);clear hK K af;have af:=aa;clear aa
   case' pd1=>
    go_simp
    obtain⟨W7,au⟩:=zD (wx.alloc (.cells #[vI t1.kind,vT t1.text,vI t1.place] 64))
    rw[<- au];have jc:=zL au;replace ae:=zF ae au;clear au;refine hK.out _ _ (bq.out _ ae.out) (fun aa=>?_);clear hK K af;have af:=aa;clear aa;refine TkR 4 (fun K hK=>?_);have c4:=(cm.out.next ae.out).cell 4;simp only[za,zb,zf]at c4
    go_simp
    clear c4;refine hK.out _ _ (bq.out _ ae.out) (fun aa=>?_);clear hK K af;have af:=aa;clear aa
  all_goals
   refine TkR 13 (fun K hK=>?_);refine bW rfl _ _ rfl (p+1) (.slice A1 ts.length c1) ts t1 wx.heap.size rfl (aL ae.out gm.out) rfl jc.out (by omega) (yv (Nat.succ_le_of_lt dz.out.lt) ae.out.size) ?_;intro A5 c5 w5 k5 g5;have nt:=zh k5;have nu:=zh g5;have di:=zh ((cm.out.next ae.out).grownA g5 (aX (by decide) (aL ae.out gm.out) (cm.out.next ae.out)));have ii:=zh ((ec.out.next ae.out).grownA g5 (aX (by decide) (aL ae.out gm.out) (ec.out.next ae.out)));have ej:=zh ((bu.out.next ae.out).grownA g5 (aX (by decide) (aL ae.out gm.out) (bu.out.next ae.out)));clear k5 g5;refine hK.out _ _ ⟨di.out.cell 3,ii.out.cell 0,ii.out.cell 1,ii.out.cell 2,ii.out.cell 3⟩ (fun aa=>?_);clear hK K af;have af:=aa;clear aa;refine TkA 14 (vP p 0) ?_
   refine TkA 15 (vP p 4) ?_;have k4:=di.out.cell 4;simp only[za,zb,zf]at k4;have k4f:=di.out.frozen 4;refine TkR 16 (fun K hK=>?_)
   go_simp
   clear k4 k4f;have ll:=zh ((dz.out.next ae.out).grown (ts':=ts++[t1]) ((cm.out.next ae.out).cell 4) nt.out nu.out);have pn:=zh ((HK.out.trans (Kw.of_below ae.out)).trans ll.out.2);have j7:=zh ll.out.1;have jz:=zh (aB ii.out (b:=p) (by have:=lr.out;omega) 4 (.slice A5 (ts.length+1) c5));have fp:=zh (aB ej.out (b:=p) (by have:=ei.out;omega) 4 (.slice A5 (ts.length+1) c5));have mh:=zh (di.out.put 4 (.slice A5 (ts.length+1) c5));refine hK.out _ _ ⟨mh.out.cell 3,jz.out.cell 0,jz.out.cell 1,jz.out.cell 2,jz.out.cell 3⟩ (fun aa=>?_);clear hK K af aa;refine TkD ?_
   (try simp only[Act.put,yz])
   go_wp2_with fail
   go_meet
   exact⟨j7,pn,fp⟩
 case rest=>
 clear kl t9 ua ub CT t8;obtain⟨ld,HKa,bu⟩:=hcut;obtain⟨W7,au⟩:=zD wc
 subst au
 go_upto_region 15 with((with_reducible refine(CC.out _ _ ld.out (by simp;omega)).mono ?_);rintro e wx ⟨rfl,hs,hk⟩;have dz:=zh hs;have HK:=zh (HKa.out.trans hk);have ol:=zh (Kw.lies hk ld.out bu.out (by decide) (by decide) (by decide));clear hs hk)
 replace bu:=ol;clear ol;obtain⟨us,qp⟩:=zD (ts++[t1]++[tc])
 rw[<- qp]at dz;have HUs:=zh qp;have hn2:us.length<=700002:=by rw[qp];simp;omega
 clear qp;obtain⟨W6,ja⟩:=zD wx
 subst ja;have ei:Hid (p<W1.heap.size):=zh oz.out.2;obtain⟨v0,ed,jb⟩:=dz.out.box;obtain⟨A1,c1,rfl⟩:=aY jb;have cm:=zh ed;have gm:=zh jb;have ju:Hid (∀ W,Below W6.heap.size W6 W->Kw p (rp.toList++cp.toList) w W):=zh (fun W hb=>HK.out.trans (Kw.of_below hb));clear ed jb;have bq:Hid (∀ W,Below W6.heap.size W6 W->SaX sff sfx p W1.heap.size 0 i2 h.b.fr h.b.fc W):=zh (fun W hb=>⟨(cm.out.next hb).cell 3,(bu.out.next hb).cell 0,(bu.out.next hb).cell 1,(bu.out.next hb).cell 2,(bu.out.next hb).cell 3⟩);refine wp_region_held_drew (S:=fun w'=>SaX sff sfx p W1.heap.size 0 i2 h.b.fr h.b.fc w') (by kernel_rfl) (bq.out _ zB.drew) (fun af=>?_);refine TkA 0 (vP p 0) ?_;refine TkA 1 (vP p 0) ?_;refine TkA 2 (vP p 0) ?_;refine TkA 3 (vP p 4) ?_
 refine TkA 5 (vP p 0) ?_;refine TkA 6 (vP p 0) ?_;refine TkA 7 (vP p 3) ?_;refine TkB 8 (.func (.func sff) #[] sfx) ?_;refine TkB 9 (.agg #[vI 0,vI i2,.bool h.b.fr,.bool h.b.fc]) ?_;refine TkA 10 (vI 2) ?_;have ae:Hid (Below W6.heap.size W6 W6.drew):=zh zB.drew;refine wpAnyH_ready (rs:=[4,11]) (by kernel_rfl) (by simp) ?_;refine AllReadyH.cons rfl (fun K hK=>?pa2) (AllReadyH.cons rfl (fun K hK=>?pb2) AllReadyH.nil)
 case' pa2=>
  have c4:=(cm.out.next ae.out).cell 4;simp only[za,zb,zf]at c4
  go_simp
  clear c4;refine hK.out _ _ (bq.out _ ae.out) (fun aa=>?_);clear hK K af;have af:=aa;clear aa;refine TkR 11 (fun K hK=>?_)
  go_simp
  refine(CU.out _ (ju.out _ ae.out)).mono ?_;rintro e wx ⟨rfl,hb⟩;replace ae:=zT ae hb;clear hb
  go_wp2_with fail
  refine hK.out _ _ (bq.out _ ae.out) (fun aa=>?_);clear hK K af;have af:=aa;clear aa;refine TkR 12 (fun K hK=>?_)
  go_simp
  obtain⟨W7,au⟩:=zD (wx.alloc (.cells #[vI t2.kind,vT t2.text,vI t2.place] 64))
  rw[<- au];have jc:=zL au;replace ae:=zF ae au;clear au;refine hK.out _ _ (bq.out _ ae.out) (fun aa=>?_);clear hK K af;have af:=aa;clear aa
 case' pb2=>
  go_simp
  refine(CU.out _ (ju.out _ ae.out)).mono ?_;rintro e wx ⟨rfl,hb⟩;replace ae:=zT ae hb;clear hb
  go_wp2_with fail
  refine hK.out _ _ (bq.out _ ae.out) (fun aa=>?_);clear hK K af;have af:=aa;clear aa;refine wpAnyH_ready (rs:=[4,12]) (by kernel_rfl) (by simp) ?_;refine AllReadyH.cons rfl (fun K hK=>?pc2) (AllReadyH.cons rfl (fun K hK=>?pd2) AllReadyH.nil)
  case' pc2=>
   have c4:=(cm.out.next ae.out).cell 4;simp only[za,zb,zf]at c4
   go_simp
   clear c4;refine hK.out _ _ (bq.out _ ae.out) (fun aa=>?_);clear hK K af;have af:=aa;clear aa;refine TkR 12 (fun K hK=>?_)
   go_simp
   obtain⟨W7,au⟩:=zD (wx.alloc (.cells #[vI t2.kind,vT t2.text,vI t2.place] 64))
   rw[<- au];have jc:=zL au;replace ae:=zF ae au;clear au;refine hK.out _ _ (bq.out _ ae.out) (fun aa=>?_);clear hK K af;have af:=aa;clear aa
  case' pd2=>
   go_simp
   obtain⟨W7,au⟩:=zD (wx.alloc (.cells #[vI t2.kind,vT t2.text,vI t2.place] 64))
   rw[<- au];have jc:=zL au;replace ae:=zF ae au;clear au;refine hK.out _ _ (bq.out _ ae.out) (fun aa=>?_);clear hK K af;have af:=aa;clear aa;refine TkR 4 (fun K hK=>?_);have c4:=(cm.out.next ae.out).cell 4;simp only[za,zb,zf]at c4
   go_simp
   clear c4;refine hK.out _ _ (bq.out _ ae.out) (fun aa=>?_);clear hK K af;have af:=aa;clear aa
 all_goals
  refine TkR 13 (fun K hK=>?_);refine bW rfl _ _ rfl (p+1) (.slice A1 us.length c1) us t2 wx.heap.size rfl (aL ae.out gm.out) rfl jc.out (by omega) (yv (Nat.succ_le_of_lt dz.out.lt) ae.out.size) ?_;intro A5 c5 w5 k5 g5;have nt:=zh k5;have nu:=zh g5;have di:=zh ((cm.out.next ae.out).grownA g5 (aX (by decide) (aL ae.out gm.out) (cm.out.next ae.out)));have ej:=zh ((bu.out.next ae.out).grownA g5 (aX (by decide) (aL ae.out gm.out) (bu.out.next ae.out)));clear k5 g5;refine hK.out _ _ ⟨di.out.cell 3,ej.out.cell 0,ej.out.cell 1,ej.out.cell 2,ej.out.cell 3⟩ (fun aa=>?_);clear hK K af;have af:=aa;clear aa;refine TkA 14 (vP p 0) ?_;refine TkA 15 (vP p 4) ?_;have k4:=di.out.cell 4;simp only[za,zb,zf]at k4
  have k4f:=di.out.frozen 4;refine TkR 16 (fun K hK=>?_)
  go_simp
  clear k4 k4f;have ll:=zh ((dz.out.next ae.out).grown (ts':=us++[t2]) ((cm.out.next ae.out).cell 4) nt.out nu.out);have pn:=zh ((HK.out.trans (Kw.of_below ae.out)).trans ll.out.2);have j7:=zh ll.out.1;have fp:=zh (aB ej.out (b:=p) (by have:=ei.out;omega) 4 (.slice A5 (us.length+1) c5));have mh:=zh (di.out.put 4 (.slice A5 (us.length+1) c5));refine hK.out _ _ ⟨mh.out.cell 3,fp.out.cell 0,fp.out.cell 1,fp.out.cell 2,fp.out.cell 3⟩ (fun aa=>?_);clear hK K af aa;refine TkD ?_
  (try simp only[Act.put,yz])
  go_wp2_with fail
  go_end0
  exact⟨rfl,by rw[<- HUs.out];exact j7.out,pn.out⟩
end Go.Proofs.YtjfihpaeglpblaaGreatDoor
