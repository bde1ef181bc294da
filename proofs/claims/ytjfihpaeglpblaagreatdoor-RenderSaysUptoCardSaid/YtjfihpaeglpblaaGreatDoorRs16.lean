/-
  Lemmas, part 16: WrD WrE.
-/
import Derived.Test.YtjfihpaeglpblaaGreatDoorRs15
set_option maxHeartbeats 100000000
set_option maxRecDepth 1000000
namespace Go.Proofs.YtjfihpaeglpblaaGreatDoor
open Go.RowKit
abbrev ArC(h:NodeH)(b:Nat)(W:World):Prop:=W.cell? ⟨b,0,none⟩=some (vI h.a.row.a)/\W.cell? ⟨b,1,none⟩=some (vI h.a.row.n)/\W.cell? ⟨b,2,none⟩=some (vI h.a.col.a)/\W.cell? ⟨b,3,none⟩=some (vI h.a.col.n)/\W.cell? ⟨b,6,none⟩=some (vI h.b.row.a)/\W.cell? ⟨b,7,none⟩=some (vI h.b.row.n)/\W.cell? ⟨b,8,none⟩=some (vI h.b.col.a)/\W.cell? ⟨b,9,none⟩=some (vI h.b.col.n)
abbrev SaC(p q:Nat)(x y:Int)(a b:Bool)(W:World):Prop:=W.cell? ⟨p,3,none⟩=some (.func (.func 34) #[] #[])/\W.cell? ⟨q,0,none⟩=some (vI x)/\W.cell? ⟨q,1,none⟩=some (vI y)/\W.cell? ⟨q,2,none⟩=some (.bool a)/\W.cell? ⟨q,3,none⟩=some (.bool b)
theorem iW{p m:Nat}{rp cp:Option Nat}{R C:AxV}{ts:List RTok}(h:NodeH)(w:World)(hw:WrS w p m rp cp R C (.func (.func 34) #[] #[]) ts):∃ (W0 W1 W2:World) (Z:Int->Int->Int->Int->World->Prop),Hid (W0=w.alloc (.cells #[vI h.a.row.a,vI h.a.row.n,vI h.a.col.a,vI h.a.col.n,.bool h.a.fr,.bool h.a.fc,vI h.b.row.a,vI h.b.row.n,vI h.b.col.a,vI h.b.col.n,.bool h.b.fr,.bool h.b.fc] 31))/\Hid (W1=W0.alloc (.cells #[vI 0,vI 0,.bool h.a.fr,.bool h.a.fc] 90))/\Hid (W2=W1.alloc (.cells #[vI 0,vI 0,.bool h.b.fr,.bool h.b.fc] 90))/\Hid (∀ x y u v W,Z x y u v W↔(WrS W p m rp cp R C (.func (.func 34) #[] #[]) ts/\Kw p (rp.toList++cp.toList) w W/\Lies W w.heap.size 31 #[vI h.a.row.a,vI h.a.row.n,vI h.a.col.a,vI h.a.col.n,.bool h.a.fr,.bool h.a.fc,vI h.b.row.a,vI h.b.row.n,vI h.b.col.a,vI h.b.col.n,.bool h.b.fr,.bool h.b.fc]/\Lies W W0.heap.size 90 #[vI x,vI y,.bool h.a.fr,.bool h.a.fc]/\Lies W W1.heap.size 90 #[vI u,vI v,.bool h.b.fr,.bool h.b.fc]))/\Hid (Z 0 0 0 0 W2)/\Hid (∀ x y u v W W',Z x y u v W->Below W.heap.size W W'->Z x y u v W')/\Hid (∀ x y u v W,Z x y u v W->ArC h w.heap.size W)/\Hid (∀ x y u v W,Z x y u v W->W.cell? ⟨W0.heap.size,0,none⟩=some (vI x)/\W.cell? ⟨W0.heap.size,1,none⟩=some (vI y)/\W.frozen? ⟨W0.heap.size,0,none⟩=false/\W.frozen? ⟨W0.heap.size,1,none⟩=false)/\Hid (∀ x y u v W,Z x y u v W->W.cell? ⟨W1.heap.size,0,none⟩=some (vI u)/\W.cell? ⟨W1.heap.size,1,none⟩=some (vI v)/\W.frozen? ⟨W1.heap.size,0,none⟩=false/\W.frozen? ⟨W1.heap.size,1,none⟩=false)/\Hid (∀ x y u v W,Z x y u v W->WrS W p m rp cp R C (.func (.func 34) #[] #[]) ts)/\Hid (∀ x y u v W k,Z x y u v W->Z k y u v (W.setCell ⟨W0.heap.size,0,none⟩ (vI k)))/\Hid (∀ x y u v W k,Z x y u v W->Z x k u v (W.setCell ⟨W0.heap.size,1,none⟩ (vI k)))/\Hid (∀ x y u v W k,Z x y u v W->Z x y k v (W.setCell ⟨W1.heap.size,0,none⟩ (vI k)))/\Hid (∀ x y u v W k,Z x y u v W->Z x y u k (W.setCell ⟨W1.heap.size,1,none⟩ (vI k)))/\Hid (∀ x y u v W,Z x y u v W->W.cell? ⟨p,0,none⟩=some (.pointer (ptr rp))/\ArC h w.heap.size W)/\Hid (∀ x y u v W,Z x y u v W->W.cell? ⟨p,1,none⟩=some (.pointer (ptr cp))/\ArC h w.heap.size W)/\Hid (∀ x y u v W,Z x y u v W->Lies W W0.heap.size 90 #[vI x,vI y,.bool h.a.fr,.bool h.a.fc])/\Hid (∀ x y u v W,Z x y u v W->Lies W W1.heap.size 90 #[vI u,vI v,.bool h.b.fr,.bool h.b.fc])/\Hid (∀ x y u v W,Z x y u v W->Kw p (rp.toList++cp.toList) w W)/\Hid (p<W0.heap.size/\p<W1.heap.size)/\Hid (ArC h w.heap.size W2)/\Hid ((ArC h w.heap.size W0)/\W0.cell? ⟨w.heap.size,4,none⟩=some (.bool h.a.fr)/\W0.cell? ⟨w.heap.size,5,none⟩=some (.bool h.a.fc)/\W0.cell? ⟨w.heap.size,10,none⟩=some (.bool h.b.fr)/\W0.cell? ⟨w.heap.size,11,none⟩=some (.bool h.b.fc))/\Hid (W1.cell? ⟨w.heap.size,10,none⟩=some (.bool h.b.fr)/\W1.cell? ⟨w.heap.size,11,none⟩=some (.bool h.b.fc)):=by
 obtain⟨W0,ak⟩:=zD (w.alloc (.cells #[vI h.a.row.a,vI h.a.row.n,vI h.a.col.a,vI h.a.col.n,.bool h.a.fr,.bool h.a.fc,vI h.b.row.a,vI h.b.row.n,vI h.b.col.a,vI h.b.col.n,.bool h.b.fr,.bool h.b.fc] 31))
 obtain⟨W1,an⟩:=zD (W0.alloc (.cells #[vI 0,vI 0,.bool h.a.fr,.bool h.a.fc] 90))
 obtain⟨W2,fz⟩:=zD (W1.alloc (.cells #[vI 0,vI 0,.bool h.b.fr,.bool h.b.fc] 90))
 have ai:=zh ak;have al:=zh an;have jq:=zh fz;have ag:=zA ak;have bq:=zA an;have au:=zA fz;have hs0:W0.heap.size=w.heap.size+1:=by rw[ak,World.size_alloc]
 have fi:W1.heap.size=W0.heap.size+1:=by rw[an,World.size_alloc]
 obtain⟨Z,hZ⟩:∃ Z:Int->Int->Int->Int->World->Prop,∀ x y u v W,Z x y u v W↔(WrS W p m rp cp R C (.func (.func 34) #[] #[]) ts/\Kw p (rp.toList++cp.toList) w W/\Lies W w.heap.size 31 #[vI h.a.row.a,vI h.a.row.n,vI h.a.col.a,vI h.a.col.n,.bool h.a.fr,.bool h.a.fc,vI h.b.row.a,vI h.b.row.n,vI h.b.col.a,vI h.b.col.n,.bool h.b.fr,.bool h.b.fc]/\Lies W W0.heap.size 90 #[vI x,vI y,.bool h.a.fr,.bool h.a.fc]/\Lies W W1.heap.size 90 #[vI u,vI v,.bool h.b.fr,.bool h.b.fc]):=⟨_,fun _ _ _ _ _=>Iff.rfl⟩
 have fm:=zh hZ;have wt:Hid (Z 0 0 0 0 W2):=zh ((hZ _ _ _ _ _).2 ⟨((hw.next ag.out).next bq.out).next au.out,((Kw.of_below ag.out).trans (Kw.of_below bq.out)).trans (Kw.of_below au.out),by
  have l0:Lies W0 w.heap.size 31 #[vI h.a.row.a,vI h.a.row.n,vI h.a.col.a,vI h.a.col.n,.bool h.a.fr,.bool h.a.fc,vI h.b.row.a,vI h.b.row.n,vI h.b.col.a,vI h.b.col.n,.bool h.b.fr,.bool h.b.fc]:=by rw[ak];exact Lies.new w _ _
  exact(l0.next bq.out).next au.out,by
  have l1:Lies W1 W0.heap.size 90 #[vI 0,vI 0,.bool h.a.fr,.bool h.a.fc]:=by rw[an];exact Lies.new W0 _ _
  exact l1.next au.out,by rw[fz];exact Lies.new W1 _ _⟩)
 have gc:Hid (∀ x y u v W W',Z x y u v W->Below W.heap.size W W'->Z x y u v W'):=zh (fun x y u v W W' g hb=>(hZ _ _ _ _ _).2 (by
  obtain⟨g1,g2,g3,g4,g5⟩:=(hZ _ _ _ _ _).1 g;exact⟨g1.next hb,g2.trans (Kw.of_below hb),g3.next hb,g4.next hb,g5.next hb⟩))
 have HA:Hid (∀ x y u v W,Z x y u v W->ArC h w.heap.size W):=zh (fun x y u v W g=>by
  obtain⟨g1,g2,g3,g4,g5⟩:=(hZ _ _ _ _ _).1 g;exact⟨g3.cell 0,g3.cell 1,g3.cell 2,g3.cell 3,g3.cell 6,g3.cell 7,g3.cell 8,g3.cell 9⟩)
 have oj:Hid (∀ x y u v W,Z x y u v W->W.cell? ⟨W0.heap.size,0,none⟩=some (vI x)/\W.cell? ⟨W0.heap.size,1,none⟩=some (vI y)/\W.frozen? ⟨W0.heap.size,0,none⟩=false/\W.frozen? ⟨W0.heap.size,1,none⟩=false):=zh (fun x y u v W g=>by
  obtain⟨g1,g2,g3,g4,g5⟩:=(hZ _ _ _ _ _).1 g;exact⟨g4.cell 0,g4.cell 1,g4.frozen 0,g4.frozen 1⟩)
 have ol:Hid (∀ x y u v W,Z x y u v W->W.cell? ⟨W1.heap.size,0,none⟩=some (vI u)/\W.cell? ⟨W1.heap.size,1,none⟩=some (vI v)/\W.frozen? ⟨W1.heap.size,0,none⟩=false/\W.frozen? ⟨W1.heap.size,1,none⟩=false):=zh (fun x y u v W g=>by
  obtain⟨g1,g2,g3,g4,g5⟩:=(hZ _ _ _ _ _).1 g;exact⟨g5.cell 0,g5.cell 1,g5.frozen 0,g5.frozen 1⟩)
 have r9:Hid (∀ x y u v W,Z x y u v W->WrS W p m rp cp R C (.func (.func 34) #[] #[]) ts):=zh (fun x y u v W g=>((hZ _ _ _ _ _).1 g).1);have hpw:=hw.lt;have jx:Hid (∀ x y u v W k,Z x y u v W->Z k y u v (W.setCell ⟨W0.heap.size,0,none⟩ (vI k))):=zh (fun x y u v W k g=>by
  obtain⟨g1,g2,g3,g4,g5⟩:=(hZ _ _ _ _ _).1 g;have k1:=lQ W W0.heap.size 0 (vI k);exact(hZ _ _ _ _ _).2 ⟨g1.loc k1 (by omega) g4 (by decide) (by decide) (by decide) (by decide) (by decide),g2.loc k1 (by omega),aC g3 (by omega) _ _,g4.put 0 (vI k),aC g5 (by omega) _ _⟩)
 have jy:Hid (∀ x y u v W k,Z x y u v W->Z x k u v (W.setCell ⟨W0.heap.size,1,none⟩ (vI k))):=zh (fun x y u v W k g=>by
  obtain⟨g1,g2,g3,g4,g5⟩:=(hZ _ _ _ _ _).1 g;have k1:=lQ W W0.heap.size 1 (vI k);exact(hZ _ _ _ _ _).2 ⟨g1.loc k1 (by omega) g4 (by decide) (by decide) (by decide) (by decide) (by decide),g2.loc k1 (by omega),aC g3 (by omega) _ _,g4.put 1 (vI k),aC g5 (by omega) _ _⟩)
 have jz:Hid (∀ x y u v W k,Z x y u v W->Z x y k v (W.setCell ⟨W1.heap.size,0,none⟩ (vI k))):=zh (fun x y u v W k g=>by
  obtain⟨g1,g2,g3,g4,g5⟩:=(hZ _ _ _ _ _).1 g;have k1:=lQ W W1.heap.size 0 (vI k);exact(hZ _ _ _ _ _).2 ⟨g1.loc k1 (by omega) g5 (by decide) (by decide) (by decide) (by decide) (by decide),g2.loc k1 (by omega),aC g3 (by omega) _ _,aC g4 (by omega) _ _,g5.put 0 (vI k)⟩)
 have j0:Hid (∀ x y u v W k,Z x y u v W->Z x y u k (W.setCell ⟨W1.heap.size,1,none⟩ (vI k))):=zh (fun x y u v W k g=>by
  obtain⟨g1,g2,g3,g4,g5⟩:=(hZ _ _ _ _ _).1 g;have k1:=lQ W W1.heap.size 1 (vI k);exact(hZ _ _ _ _ _).2 ⟨g1.loc k1 (by omega) g5 (by decide) (by decide) (by decide) (by decide) (by decide),g2.loc k1 (by omega),aC g3 (by omega) _ _,aC g4 (by omega) _ _,g5.put 1 (vI k)⟩)
 have dy:Hid (∀ x y u v W,Z x y u v W->W.cell? ⟨p,0,none⟩=some (.pointer (ptr rp))/\ArC h w.heap.size W):=zh (fun x y u v W g=>by
  obtain⟨vv,k,_⟩:=((hZ _ _ _ _ _).1 g).1.box;exact⟨k.cell 0,HA.out x y u v W g⟩)
 have dz:Hid (∀ x y u v W,Z x y u v W->W.cell? ⟨p,1,none⟩=some (.pointer (ptr cp))/\ArC h w.heap.size W):=zh (fun x y u v W g=>by
  obtain⟨vv,k,_⟩:=((hZ _ _ _ _ _).1 g).1.box;exact⟨k.cell 1,HA.out x y u v W g⟩)
 have sc:Hid (∀ x y u v W,Z x y u v W->Lies W W0.heap.size 90 #[vI x,vI y,.bool h.a.fr,.bool h.a.fc]):=zh (fun x y u v W g=>((hZ _ _ _ _ _).1 g).2.2.2.1);have sd:Hid (∀ x y u v W,Z x y u v W->Lies W W1.heap.size 90 #[vI u,vI v,.bool h.b.fr,.bool h.b.fc]):=zh (fun x y u v W g=>((hZ _ _ _ _ _).1 g).2.2.2.2);have ph:Hid (∀ x y u v W,Z x y u v W->Kw p (rp.toList++cp.toList) w W):=zh (fun x y u v W g=>((hZ _ _ _ _ _).1 g).2.1);have pz:Hid (p<W0.heap.size/\p<W1.heap.size):=zh ⟨by omega,by omega⟩;have nv:=zh (HA.out _ _ _ _ _ wt.out);have ll:Hid ((ArC h w.heap.size W0)/\W0.cell? ⟨w.heap.size,4,none⟩=some (.bool h.a.fr)/\W0.cell? ⟨w.heap.size,5,none⟩=some (.bool h.a.fc)/\W0.cell? ⟨w.heap.size,10,none⟩=some (.bool h.b.fr)/\W0.cell? ⟨w.heap.size,11,none⟩=some (.bool h.b.fc)):=zh (by
  have l0:Lies W0 w.heap.size 31 #[vI h.a.row.a,vI h.a.row.n,vI h.a.col.a,vI h.a.col.n,.bool h.a.fr,.bool h.a.fc,vI h.b.row.a,vI h.b.row.n,vI h.b.col.a,vI h.b.col.n,.bool h.b.fr,.bool h.b.fc]:=by rw[ak];exact Lies.new w _ _
  exact⟨⟨l0.cell 0,l0.cell 1,l0.cell 2,l0.cell 3,l0.cell 6,l0.cell 7,l0.cell 8,l0.cell 9⟩,l0.cell 4,l0.cell 5,l0.cell 10,l0.cell 11⟩)
 have mr:Hid (W1.cell? ⟨w.heap.size,10,none⟩=some (.bool h.b.fr)/\W1.cell? ⟨w.heap.size,11,none⟩=some (.bool h.b.fc)):=zh (by
  have l0:Lies W0 w.heap.size 31 #[vI h.a.row.a,vI h.a.row.n,vI h.a.col.a,vI h.a.col.n,.bool h.a.fr,.bool h.a.fc,vI h.b.row.a,vI h.b.row.n,vI h.b.col.a,vI h.b.col.n,.bool h.b.fr,.bool h.b.fc]:=by rw[ak];exact Lies.new w _ _
  exact⟨(l0.next bq.out).cell 10,(l0.next bq.out).cell 11⟩)
 exact⟨W0,W1,W2,Z,ai,al,jq,fm,wt,gc,HA,oj,ol,r9,jx,jy,jz,j0,dy,dz,sc,sd,ph,pz,nv,ll,mr⟩
theorem uD{p m:Nat}{rp cp:Option Nat}{R C:AxV}{ts:List RTok}(h:NodeH)(w:World)(hw:WrS w p m rp cp R C (.func (.func 34) #[] #[]) ts)(hn:ts.length<=700000)(hr:Hid (h.a.row=id0))(hc:Hid (h.a.col≠id0))(j9:∀ W,WrS W p m rp cp R C (.func (.func 34) #[] #[]) ts->Calls Tryz.prog 194 #[.pointer (ptr cp),.agg #[vI h.a.col.a,vI h.a.col.n],.agg #[vI h.b.col.a,vI h.b.col.n]] W fun e w'=>e=.returned (.tuple #[vI 0,vI 0,.bool false])/\WrS w' p m rp cp R C (.func (.func 34) #[] #[]) ts/\Kw p (rp.toList++cp.toList) W w') :
  Calls Tryz.prog 139 #[vP p 0,.agg #[vI h.a.row.a,vI h.a.row.n,vI h.a.col.a,vI h.a.col.n,.bool h.a.fr,.bool h.a.fc,vI h.b.row.a,vI h.b.row.n,vI h.b.col.a,vI h.b.col.n,.bool h.b.fr,.bool h.b.fc]] w fun e w'=>WrO p m rp cp R C (.func (.func 34) #[] #[]) (ts++dB) w e w':=by
 obtain⟨W0,W1,W2,Z,ai,al,jq,fm,cu,gc,HA,oj,ol,r9,jx,jy,jz,j0,dy,dz,sc,sd,ph,pz,nv,ll,mr⟩:=iW h w hw;have hZ:=fm.out;have CE1:Hid (∀ x y u v W,Z x y u v W->Calls Tryz.prog 194 #[.pointer (ptr cp),.agg #[vI h.a.col.a,vI h.a.col.n],.agg #[vI h.b.col.a,vI h.b.col.n]] W fun e w'=>e=.returned (.tuple #[vI 0,vI 0,.bool false])/\Z x y u v w'):=zh (fun x y u v W g=>by
  obtain⟨g1,g2,g3,g4,g5⟩:=(hZ _ _ _ _ _).1 g;refine(j9 W g1).mono ?_;rintro e w' ⟨rfl,k1,k2⟩;exact⟨rfl,(hZ _ _ _ _ _).2 ⟨k1,g2.trans k2,Kw.lies k2 g1 g3 (by decide) (by decide) (by decide),Kw.lies k2 g1 g4 (by decide) (by decide) (by decide),Kw.lies k2 g1 g5 (by decide) (by decide) (by decide)⟩⟩)
 have CG:Hid (∀ x y u v W,Z x y u v W->Calls Tryz.prog 193 #[vP p 0] W fun e w'=>WrO p m rp cp R C (.func (.func 34) #[] #[]) (ts++dB) W e w'):=zh (fun x y u v W g=>lY W ((hZ _ _ _ _ _).1 g).1 (by omega));clear hw hZ
 go_in
 go_upto_region 1 with fail
 rw[<- ai.out];clear ai;obtain⟨-,a4,a5,a10,a11⟩:=ll.out
 go_upto_region 3 with fail
 rw[<- al.out];clear al ll a4 a5 a10 a11;obtain⟨a10,a11⟩:=mr.out
 go_upto_region 4 with fail
 rw[<- jq.out];clear jq mr a10 a11;obtain⟨a0,a1,a2,a3,a6,a7,a8,a9⟩:=nv.out;have e1:∀ W:World,(binOp .eql 27 (.agg #[vI h.a.row.a,vI h.a.row.n]) (.agg #[vI 0,vI 0])).run Tryz.prog W=.ok (.bool true) W:=fun W=>by have:=dF h.a.row id0 W;rwa [decide_eq_true hr.out]at this
 have e2:∀ W:World,(binOp .eql 27 (.agg #[vI h.a.col.a,vI h.a.col.n]) (.agg #[vI 0,vI 0])).run Tryz.prog W=.ok (.bool false) W:=fun W=>by have:=dF h.a.col id0 W;rwa [decide_eq_false hc.out]at this
 go_upto_region 10 with fail
 refine wp_region_held_drew (S:=fun w'=>w'.cell? ⟨p,1,none⟩=some (.pointer (ptr cp))/\ArC h w.heap.size w') (by kernel_rfl) (dz.out _ _ _ _ _ (gc.out _ _ _ _ _ _ cu.out zB.drew)) (fun ae=>?_);refine TkA 0 (vP p 0) ?_;refine TkA 1 (vP p 0) ?_;refine TkA 2 (vP p 1) ?_;refine TkB 3 (.pointer (ptr cp)) ?_;refine TkA 4 (vP w.heap.size 0) ?_;refine TkA 5 (vP w.heap.size 2) ?_;refine TkB 6 (.agg #[vI h.a.col.a,vI h.a.col.n]) ?_;refine TkA 7 (vP w.heap.size 6) ?_;refine TkA 8 (vP w.heap.size 8) ?_;refine TkB 9 (.agg #[vI h.b.col.a,vI h.b.col.n]) ?_;refine TkR 10 (fun K hK=>?_)
 go_simp
 go_at_call 194
 refine(CE1.out _ _ _ _ _ (gc.out _ _ _ _ _ _ cu.out zB.drew)).mono ?_;rintro e wx ⟨rfl,mc⟩;have gd:=zh mc;clear mc
 go_wp2_with fail
 refine hK.out _ _ (dz.out _ _ _ _ _ gd.out) (fun aa=>?_);clear hK K ae;have ae:=aa;clear aa;refine TkA 11 (.tuple #[vI 0,vI 0,.bool false]) ?_;refine TkA 12 (vI 0) ?_;refine TkA 13 (vI 0) ?_;refine TkA 14 (.bool false) ?_;refine TkA 15 (vP W0.heap.size 1) ?_;obtain⟨k0,k1,f0,f1⟩:=oj.out _ _ _ _ _ gd.out;refine TkR 16 (fun K hK=>?_)
 go_simp
 clear k0 k1 f0 f1;have gh:=zh (jy.out _ _ _ _ _ 0 gd.out);refine hK.out _ _ (dz.out _ _ _ _ _ gh.out) (fun aa=>?_);clear hK K ae;have ae:=aa;clear aa;refine TkA 17 (vP W1.heap.size 1) ?_;obtain⟨k0,k1,f0,f1⟩:=ol.out _ _ _ _ _ gh.out;refine TkR 18 (fun K hK=>?_)
 go_simp
 clear k0 k1 f0 f1;have gj:=zh (j0.out _ _ _ _ _ 0 gh.out);refine hK.out _ _ (dz.out _ _ _ _ _ gj.out) (fun aa=>?_);clear hK K ae;have ae:=aa;clear aa;refine TkA 19 (.bool false) ?_;refine TkD ?_
 (try simp only[Act.put,yz])
 obtain⟨W9,jn⟩:∃ W9,W9=(wx.setCell ⟨W0.heap.size,1,none⟩ (vI 0)).setCell ⟨W1.heap.size,1,none⟩ (vI 0):=⟨_,rfl⟩
 rw[<- jn];rw[<- jn]at gj;clear jn gd gh ae cu;have cu:=gj;clear gj;clear a0 a1 a2 a3 a6 a7 a8 a9;clear e1 e2;have HK:=zh (ph.out _ _ _ _ _ cu.out)
 go_wp2_with ((with_reducible refine(CG.out _ _ _ _ _ cu.out).mono ?_);rintro e wx ⟨rfl,hs,hk⟩;have jo:=zh hs;have f8:=zh (HK.out.trans hk);clear hs hk)
 go_end0
 exact⟨rfl,jo.out,f8.out⟩
theorem zS{p m:Nat}{rp cp:Option Nat}{R C:AxV}{ts:List RTok}(h:NodeH)(w:World)(hw:WrS w p m rp cp R C (.func (.func 34) #[] #[]) ts)(hn:ts.length<=700000)(hr:Hid (h.a.row=id0))(hc:Hid (h.a.col≠id0))(i1 i2:Int)(j9:∀ W,WrS W p m rp cp R C (.func (.func 34) #[] #[]) ts->Calls Tryz.prog 194 #[.pointer (ptr cp),.agg #[vI h.a.col.a,vI h.a.col.n],.agg #[vI h.b.col.a,vI h.b.col.n]] W fun e w'=>e=.returned (.tuple #[vI i1,vI i2,.bool true])/\WrS w' p m rp cp R C (.func (.func 34) #[] #[]) ts/\Kw p (rp.toList++cp.toList) W w')(t1 t2:RTok)(hT:∀ W,PowTab W->Calls Tryz.prog 34 #[.agg #[vI 0,vI i1,.bool h.a.fr,.bool h.a.fc],vI 2] W fun e w'=>e=.returned (iE t1)/\Below W.heap.size W w')(hU:∀ W,PowTab W->Calls Tryz.prog 34 #[.agg #[vI 0,vI i2,.bool h.b.fr,.bool h.b.fc],vI 2] W fun e w'=>e=.returned (iE t2)/\Below W.heap.size W w') :
  Calls Tryz.prog 139 #[vP p 0,.agg #[vI h.a.row.a,vI h.a.row.n,vI h.a.col.a,vI h.a.col.n,.bool h.a.fr,.bool h.a.fc,vI h.b.row.a,vI h.b.row.n,vI h.b.col.a,vI h.b.col.n,.bool h.b.fr,.bool h.b.fc]] w fun e w'=>WrO p m rp cp R C (.func (.func 34) #[] #[]) (ts++[t1]++[tk 5 [58]]++[t2]) w e w':=by
 obtain⟨W0,W1,W2,Z,ai,al,jq,fm,cu,gc,HA,oj,ol,r9,jx,jy,jz,j0,dy,dz,sc,sd,ph,pz,nv,ll,mr⟩:=iW h w hw;have hZ:=fm.out;have CE1:Hid (∀ x y u v W,Z x y u v W->Calls Tryz.prog 194 #[.pointer (ptr cp),.agg #[vI h.a.col.a,vI h.a.col.n],.agg #[vI h.b.col.a,vI h.b.col.n]] W fun e w'=>e=.returned (.tuple #[vI i1,vI i2,.bool true])/\Z x y u v w'):=zh (fun x y u v W g=>by
  obtain⟨g1,g2,g3,g4,g5⟩:=(hZ _ _ _ _ _).1 g;refine(j9 W g1).mono ?_;rintro e w' ⟨rfl,k1,k2⟩;exact⟨rfl,(hZ _ _ _ _ _).2 ⟨k1,g2.trans k2,Kw.lies k2 g1 g3 (by decide) (by decide) (by decide),Kw.lies k2 g1 g4 (by decide) (by decide) (by decide),Kw.lies k2 g1 g5 (by decide) (by decide) (by decide)⟩⟩)
 have CT:=zh hT;have CU:=zh hU;have um:Hid True:=zh trivial;obtain⟨tc,f6⟩:∃ x,x=tk 5 [58]:=⟨_,rfl⟩
 have CC:=zh (cB (p:=p) (m:=m) (rp:=rp) (cp:=cp) (R:=R) (C:=C) (sf:=.func (.func 34) #[] #[]) 5 [58] #[58] rfl tc f6);rw[<- f6];clear f6 hT hU;clear hw hZ
 go_in
 go_upto_region 1 with fail
 rw[<- ai.out];clear ai;obtain⟨-,a4,a5,a10,a11⟩:=ll.out
 go_upto_region 3 with fail
 rw[<- al.out];clear al ll a4 a5 a10 a11;obtain⟨a10,a11⟩:=mr.out
 go_upto_region 4 with fail
 rw[<- jq.out];clear jq mr a10 a11;obtain⟨a0,a1,a2,a3,a6,a7,a8,a9⟩:=nv.out;have e1:∀ W:World,(binOp .eql 27 (.agg #[vI h.a.row.a,vI h.a.row.n]) (.agg #[vI 0,vI 0])).run Tryz.prog W=.ok (.bool true) W:=fun W=>by have:=dF h.a.row id0 W;rwa [decide_eq_true hr.out]at this
 have e2:∀ W:World,(binOp .eql 27 (.agg #[vI h.a.col.a,vI h.a.col.n]) (.agg #[vI 0,vI 0])).run Tryz.prog W=.ok (.bool false) W:=fun W=>by have:=dF h.a.col id0 W;rwa [decide_eq_false hc.out]at this
 go_upto_region 10 with fail
 refine wp_region_held_drew (S:=fun w'=>w'.cell? ⟨p,1,none⟩=some (.pointer (ptr cp))/\ArC h w.heap.size w') (by kernel_rfl) (dz.out _ _ _ _ _ (gc.out _ _ _ _ _ _ cu.out zB.drew)) (fun ae=>?_);refine TkA 0 (vP p 0) ?_;refine TkA 1 (vP p 0) ?_;refine TkA 2 (vP p 1) ?_;refine TkB 3 (.pointer (ptr cp)) ?_;refine TkA 4 (vP w.heap.size 0) ?_;refine TkA 5 (vP w.heap.size 2) ?_;refine TkB 6 (.agg #[vI h.a.col.a,vI h.a.col.n]) ?_;refine TkA 7 (vP w.heap.size 6) ?_;refine TkA 8 (vP w.heap.size 8) ?_;refine TkB 9 (.agg #[vI h.b.col.a,vI h.b.col.n]) ?_;refine TkR 10 (fun K hK=>?_)
 go_simp
 go_at_call 194
 refine(CE1.out _ _ _ _ _ (gc.out _ _ _ _ _ _ cu.out zB.drew)).mono ?_;rintro e wx ⟨rfl,mc⟩;have gd:=zh mc;clear mc
 go_wp2_with fail
 refine hK.out _ _ (dz.out _ _ _ _ _ gd.out) (fun aa=>?_);clear hK K ae;have ae:=aa;clear aa;refine TkA 11 (.tuple #[vI i1,vI i2,.bool true]) ?_;refine TkA 12 (vI i1) ?_;refine TkA 13 (vI i2) ?_;refine TkA 14 (.bool true) ?_;refine TkA 15 (vP W0.heap.size 1) ?_;obtain⟨k0,k1,f0,f1⟩:=oj.out _ _ _ _ _ gd.out;refine TkR 16 (fun K hK=>?_)
 go_simp
 clear k0 k1 f0 f1;have gh:=zh (jy.out _ _ _ _ _ i1 gd.out);refine hK.out _ _ (dz.out _ _ _ _ _ gh.out) (fun aa=>?_);clear hK K ae;have ae:=aa;clear aa;refine TkA 17 (vP W1.heap.size 1) ?_;obtain⟨k0,k1,f0,f1⟩:=ol.out _ _ _ _ _ gh.out;refine TkR 18 (fun K hK=>?_)
 go_simp
 clear k0 k1 f0 f1;have gj:=zh (j0.out _ _ _ _ _ i2 gh.out);refine hK.out _ _ (dz.out _ _ _ _ _ gj.out) (fun aa=>?_);clear hK K ae;have ae:=aa;clear aa;refine TkA 19 (.bool true) ?_;refine TkD ?_
 (try simp only[Act.put,yz])
 obtain⟨W9,jn⟩:∃ W9,W9=(wx.setCell ⟨W0.heap.size,1,none⟩ (vI i1)).setCell ⟨W1.heap.size,1,none⟩ (vI i2):=⟨_,rfl⟩
 rw[<- jn];rw[<- jn]at gj;clear jn gd gh ae cu;have cu:=gj;clear gj;clear a0 a1 a2 a3 a6 a7 a8 a9;clear e1 e2 CE1;have un:=zh (ph.out _ _ _ _ _ cu.out);have mh:=zh (r9.out _ _ _ _ _ cu.out);have uo:=zh (sc.out _ _ _ _ _ cu.out);have uq:=zh (sd.out _ _ _ _ _ cu.out);clear fm gc HA oj ol r9 jx jy jz j0 dy dz sc sd ph cu nv
 go_upto_region 13 with fail
 go_cut [] (fun wx=>Hid (WrS wx p m rp cp R C (.func (.func 34) #[] #[]) (ts++[t1]))/\Hid (Kw p (rp.toList++cp.toList) w wx)/\Hid (Lies wx W1.heap.size 90 #[vI 0,vI i2,.bool h.b.fr,.bool h.b.fc]))
 case first=>
  have fd:Hid (WrS W9 p m rp cp R C (.func (.func 34) #[] #[]) ts):=mh;have HK:Hid (Kw p (rp.toList++cp.toList) w W9):=un;have ij:Hid (Lies W9 W0.heap.size 90 #[vI 0,vI i1,.bool h.a.fr,.bool h.a.fc]):=uo;have cr:Hid (Lies W9 W1.heap.size 90 #[vI 0,vI i2,.bool h.b.fr,.bool h.b.fc]):=uq;clear mh un uo uq;obtain⟨W6,lr⟩:=zD W9
  rw[<- lr]at fd HK ij cr ⊢;clear lr;have me:Hid (p<W0.heap.size):=zh pz.out.1;have en:Hid (p<W1.heap.size):=zh pz.out.2;obtain⟨v0,eh,ji⟩:=fd.out.box;obtain⟨A1,c1,rfl⟩:=aV ji;have cy:=zh eh;have ez:=zh ji;have j7:Hid (∀ W,Below W6.heap.size W6 W->PowTab W):=zh (fun W hb=>(fd.out.next hb).gl.pow);clear eh ji;have bm:Hid (∀ W,Below W6.heap.size W6 W->SaC p W0.heap.size 0 i1 h.a.fr h.a.fc W):=zh (fun W hb=>⟨(cy.out.next hb).cell 3,(ij.out.next hb).cell 0,(ij.out.next hb).cell 1,(ij.out.next hb).cell 2,(ij.out.next hb).cell 3⟩);refine wp_region_held_drew (S:=fun w'=>SaC p W0.heap.size 0 i1 h.a.fr h.a.fc w') (by kernel_rfl) (bm.out _ zB.drew) (fun ae=>?_);refine TkA 0 (vP p 0) ?_;refine TkA 1 (vP p 0) ?_;refine TkA 2 (vP p 0) ?_;refine TkA 3 (vP p 4) ?_
  refine TkA 5 (vP p 0) ?_;refine TkA 6 (vP p 0) ?_;refine TkA 7 (vP p 3) ?_;refine TkB 8 (.func (.func 34) #[] #[]) ?_;refine TkB 9 (.agg #[vI 0,vI i1,.bool h.a.fr,.bool h.a.fc]) ?_;refine TkA 10 (vI 2) ?_;have ab:Hid (Below W6.heap.size W6 W6.drew):=zh zB.drew;refine wpAnyH_ready (rs:=[4,11]) (by kernel_rfl) (by simp) ?_;refine AllReadyH.cons rfl (fun K hK=>?pa1) (AllReadyH.cons rfl (fun K hK=>?pb1) AllReadyH.nil)
  case' pa1=>
   have c4:=(cy.out.next ab.out).cell 4;simp only[za,zb,zf]at c4
   go_simp
   clear c4;refine hK.out _ _ (bm.out _ ab.out) (fun aa=>?_);clear hK K ae;have ae:=aa;clear aa;refine TkR 11 (fun K hK=>?_)
   go_simp
   go_at_call 34
   refine(CT.out _ (j7.out _ ab.out)).mono ?_;rintro e wx ⟨rfl,hb⟩;replace ab:=zT ab hb;clear hb
   go_wp2_with fail
   refine hK.out _ _ (bm.out _ ab.out) (fun aa=>?_);clear hK K ae;have ae:=aa;clear aa;refine TkR 12 (fun K hK=>?_)
   go_simp
   obtain⟨W7,az⟩:=zD (wx.alloc (.cells #[vI t1.kind,vT t1.text,vI t1.place] 64))
   rw[<- az];have jk:=zL az;replace ab:=zF ab az;clear az;refine hK.out _ _ (bm.out _ ab.out) (fun aa=>?_);clear hK K ae;have ae:=aa;clear aa
  case' pb1=>
   go_simp
   go_at_call 34
   refine(CT.out _ (j7.out _ ab.out)).mono ?_;rintro e wx ⟨rfl,hb⟩;replace ab:=zT ab hb;clear hb
   go_wp2_with fail
   refine hK.out _ _ (bm.out _ ab.out) (fun aa=>?_);clear hK K ae;have ae:=aa;clear aa;refine wpAnyH_ready (rs:=[4,12]) (by kernel_rfl) (by simp) ?_;refine AllReadyH.cons rfl (fun K hK=>?pc1) (AllReadyH.cons rfl (fun K hK=>?pd1) AllReadyH.nil)
   case' pc1=>
    have c4:=(cy.out.next ab.out).cell 4;simp only[za,zb,zf]at c4
    go_simp
    clear c4;refine hK.out _ _ (bm.out _ ab.out) (fun aa=>?_);clear hK K ae;have ae:=aa;clear aa;refine TkR 12 (fun K hK=>?_)
    go_simp
    obtain⟨W7,az⟩:=zD (wx.alloc (.cells #[vI t1.kind,vT t1.text,vI t1.place] 64))
    rw[<- az];have jk:=zL az;replace ab:=zF ab az;clear az;refine hK.out _ _ (bm.out _ ab.out) (fun aa=>?_);clear hK K ae;have ae:=aa;clear aa
   case' pd1=>
    go_simp
    obtain⟨W7,az⟩:=zD (wx.alloc (.cells #[vI t1.kind,vT t1.text,vI t1.place] 64))
    rw[<- az];have jk:=zL az;replace ab:=zF ab az;clear az;refine hK.out _ _ (bm.out _ ab.out) (fun aa=>?_);clear hK K ae;have ae:=aa;clear aa;refine TkR 4 (fun K hK=>?_);have c4:=(cy.out.next ab.out).cell 4;simp only[za,zb,zf]at c4
    go_simp
    clear c4;refine hK.out _ _ (bm.out _ ab.out) (fun aa=>?_);clear hK K ae;have ae:=aa;clear aa
  all_goals
   refine TkR 13 (fun K hK=>?_);refine cG rfl _ _ rfl (p+1) (.slice A1 ts.length c1) ts t1 wx.heap.size rfl (aD ab.out ez.out) rfl jk.out (by omega) (yv (Nat.succ_le_of_lt fd.out.lt) ab.out.size) ?_;intro A5 c5 w5 k5 g5;have de:=zh k5;have qn:=zh g5;have dx:=zh ((cy.out.next ab.out).grownA g5 (bE (by decide) (aD ab.out ez.out) (cy.out.next ab.out)));have ik:=zh ((ij.out.next ab.out).grownA g5 (bE (by decide) (aD ab.out ez.out) (ij.out.next ab.out)));have ep:=zh ((cr.out.next ab.out).grownA g5 (bE (by decide) (aD ab.out ez.out) (cr.out.next ab.out)));clear k5 g5;refine hK.out _ _ ⟨dx.out.cell 3,ik.out.cell 0,ik.out.cell 1,ik.out.cell 2,ik.out.cell 3⟩ (fun aa=>?_);clear hK K ae;have ae:=aa;clear aa;refine TkA 14 (vP p 0) ?_
   refine TkA 15 (vP p 4) ?_;have k4:=dx.out.cell 4;simp only[za,zb,zf]at k4;have k4f:=dx.out.frozen 4;refine TkR 16 (fun K hK=>?_)
   go_simp
   clear k4 k4f;have l7:=zh ((fd.out.next ab.out).grown (ts':=ts++[t1]) ((cy.out.next ab.out).cell 4) de.out qn.out);have qp:=zh ((HK.out.trans (Kw.of_below ab.out)).trans l7.out.2);have qq:=zh l7.out.1;have j5:=zh (aC ik.out (b:=p) (by have:=me.out;omega) 4 (.slice A5 (ts.length+1) c5));have fv:=zh (aC ep.out (b:=p) (by have:=en.out;omega) 4 (.slice A5 (ts.length+1) c5));have m6:=zh (dx.out.put 4 (.slice A5 (ts.length+1) c5));refine hK.out _ _ ⟨m6.out.cell 3,j5.out.cell 0,j5.out.cell 1,j5.out.cell 2,j5.out.cell 3⟩ (fun aa=>?_);clear hK K ae aa;refine TkD ?_
   (try simp only[Act.put,yz])
   go_wp2_with fail
   go_meet
   exact⟨qq,qp,fv⟩
 case rest=>
 clear mh un uo uq CT um;obtain⟨yy,HKa,cr⟩:=hcut;obtain⟨W7,az⟩:=zD wc
 subst az
 go_upto_region 15 with((with_reducible refine(CC.out _ _ yy.out (by simp;omega)).mono ?_);rintro e wx ⟨rfl,hs,hk⟩;have fd:=zh hs;have HK:=zh (HKa.out.trans hk);have pi:=zh (Kw.lies hk yy.out cr.out (by decide) (by decide) (by decide));clear hs hk)
 replace cr:=pi;clear pi;obtain⟨us,rm⟩:=zD (ts++[t1]++[tc])
 rw[<- rm]at fd;have HUs:=zh rm;have u5q:us.length<=700002:=by rw[rm];simp;omega
 clear rm;obtain⟨W6,lr⟩:=zD wx
 subst lr;have en:Hid (p<W1.heap.size):=zh pz.out.2;obtain⟨v0,eh,ji⟩:=fd.out.box;obtain⟨A1,c1,rfl⟩:=aV ji;have cy:=zh eh;have ez:=zh ji;have j7:Hid (∀ W,Below W6.heap.size W6 W->PowTab W):=zh (fun W hb=>(fd.out.next hb).gl.pow);clear eh ji;have bm:Hid (∀ W,Below W6.heap.size W6 W->SaC p W1.heap.size 0 i2 h.b.fr h.b.fc W):=zh (fun W hb=>⟨(cy.out.next hb).cell 3,(cr.out.next hb).cell 0,(cr.out.next hb).cell 1,(cr.out.next hb).cell 2,(cr.out.next hb).cell 3⟩);refine wp_region_held_drew (S:=fun w'=>SaC p W1.heap.size 0 i2 h.b.fr h.b.fc w') (by kernel_rfl) (bm.out _ zB.drew) (fun ae=>?_);refine TkA 0 (vP p 0) ?_;refine TkA 1 (vP p 0) ?_;refine TkA 2 (vP p 0) ?_;refine TkA 3 (vP p 4) ?_;refine TkA 5 (vP p 0) ?_
 refine TkA 6 (vP p 0) ?_;refine TkA 7 (vP p 3) ?_;refine TkB 8 (.func (.func 34) #[] #[]) ?_;refine TkB 9 (.agg #[vI 0,vI i2,.bool h.b.fr,.bool h.b.fc]) ?_;refine TkA 10 (vI 2) ?_;have ab:Hid (Below W6.heap.size W6 W6.drew):=zh zB.drew;refine wpAnyH_ready (rs:=[4,11]) (by kernel_rfl) (by simp) ?_;refine AllReadyH.cons rfl (fun K hK=>?pa2) (AllReadyH.cons rfl (fun K hK=>?pb2) AllReadyH.nil)
 case' pa2=>
  have c4:=(cy.out.next ab.out).cell 4;simp only[za,zb,zf]at c4
  go_simp
  clear c4;refine hK.out _ _ (bm.out _ ab.out) (fun aa=>?_);clear hK K ae;have ae:=aa;clear aa;refine TkR 11 (fun K hK=>?_)
  go_simp
  go_at_call 34
  refine(CU.out _ (j7.out _ ab.out)).mono ?_;rintro e wx ⟨rfl,hb⟩;replace ab:=zT ab hb;clear hb
  go_wp2_with fail
  refine hK.out _ _ (bm.out _ ab.out) (fun aa=>?_);clear hK K ae;have ae:=aa;clear aa;refine TkR 12 (fun K hK=>?_)
  go_simp
  obtain⟨W7,az⟩:=zD (wx.alloc (.cells #[vI t2.kind,vT t2.text,vI t2.place] 64))
  rw[<- az];have jk:=zL az;replace ab:=zF ab az;clear az;refine hK.out _ _ (bm.out _ ab.out) (fun aa=>?_);clear hK K ae;have ae:=aa;clear aa
 case' pb2=>
  go_simp
  go_at_call 34
  refine(CU.out _ (j7.out _ ab.out)).mono ?_;rintro e wx ⟨rfl,hb⟩;replace ab:=zT ab hb;clear hb
  go_wp2_with fail
  refine hK.out _ _ (bm.out _ ab.out) (fun aa=>?_);clear hK K ae;have ae:=aa;clear aa;refine wpAnyH_ready (rs:=[4,12]) (by kernel_rfl) (by simp) ?_;refine AllReadyH.cons rfl (fun K hK=>?pc2) (AllReadyH.cons rfl (fun K hK=>?pd2) AllReadyH.nil)
  case' pc2=>
   have c4:=(cy.out.next ab.out).cell 4;simp only[za,zb,zf]at c4
   go_simp
   clear c4;refine hK.out _ _ (bm.out _ ab.out) (fun aa=>?_);clear hK K ae;have ae:=aa;clear aa;refine TkR 12 (fun K hK=>?_)
   go_simp
   obtain⟨W7,az⟩:=zD (wx.alloc (.cells #[vI t2.kind,vT t2.text,vI t2.place] 64))
   rw[<- az];have jk:=zL az;replace ab:=zF ab az;clear az;refine hK.out _ _ (bm.out _ ab.out) (fun aa=>?_);clear hK K ae;have ae:=aa;clear aa
  case' pd2=>
   go_simp
   obtain⟨W7,az⟩:=zD (wx.alloc (.cells #[vI t2.kind,vT t2.text,vI t2.place] 64))
   rw[<- az];have jk:=zL az;replace ab:=zF ab az;clear az;refine hK.out _ _ (bm.out _ ab.out) (fun aa=>?_);clear hK K ae;have ae:=aa;clear aa;refine TkR 4 (fun K hK=>?_);have c4:=(cy.out.next ab.out).cell 4;simp only[za,zb,zf]at c4
   go_simp
   clear c4;refine hK.out _ _ (bm.out _ ab.out) (fun aa=>?_);clear hK K ae;have ae:=aa;clear aa
 all_goals
  refine TkR 13 (fun K hK=>?_);refine cG rfl _ _ rfl (p+1) (.slice A1 us.length c1) us t2 wx.heap.size rfl (aD ab.out ez.out) rfl jk.out (by omega) (yv (Nat.succ_le_of_lt fd.out.lt) ab.out.size) ?_;intro A5 c5 w5 k5 g5;have de:=zh k5;have qn:=zh g5;have dx:=zh ((cy.out.next ab.out).grownA g5 (bE (by decide) (aD ab.out ez.out) (cy.out.next ab.out)));have ep:=zh ((cr.out.next ab.out).grownA g5 (bE (by decide) (aD ab.out ez.out) (cr.out.next ab.out)));clear k5 g5;refine hK.out _ _ ⟨dx.out.cell 3,ep.out.cell 0,ep.out.cell 1,ep.out.cell 2,ep.out.cell 3⟩ (fun aa=>?_);clear hK K ae;have ae:=aa;clear aa;refine TkA 14 (vP p 0) ?_;refine TkA 15 (vP p 4) ?_;have k4:=dx.out.cell 4;simp only[za,zb,zf]at k4
  have k4f:=dx.out.frozen 4;refine TkR 16 (fun K hK=>?_)
  go_simp
  clear k4 k4f;have l7:=zh ((fd.out.next ab.out).grown (ts':=us++[t2]) ((cy.out.next ab.out).cell 4) de.out qn.out);have qp:=zh ((HK.out.trans (Kw.of_below ab.out)).trans l7.out.2);have qq:=zh l7.out.1;have fv:=zh (aC ep.out (b:=p) (by have:=en.out;omega) 4 (.slice A5 (us.length+1) c5));have m6:=zh (dx.out.put 4 (.slice A5 (us.length+1) c5));refine hK.out _ _ ⟨m6.out.cell 3,fv.out.cell 0,fv.out.cell 1,fv.out.cell 2,fv.out.cell 3⟩ (fun aa=>?_);clear hK K ae aa;refine TkD ?_
  (try simp only[Act.put,yz])
  go_wp2_with fail
  go_end0
  exact⟨rfl,by rw[<- HUs.out];exact qq.out,qp.out⟩
theorem uE{p m:Nat}{rp cp:Option Nat}{R C:AxV}{ts:List RTok}(h:NodeH)(w:World)(hw:WrS w p m rp cp R C (.func (.func 34) #[] #[]) ts)(hn:ts.length<=700000)(hr:Hid (h.a.row≠id0))(hc:Hid (h.a.col=id0))(hE0:∀ W,WrS W p m rp cp R C (.func (.func 34) #[] #[]) ts->Calls Tryz.prog 194 #[.pointer (ptr rp),.agg #[vI h.a.row.a,vI h.a.row.n],.agg #[vI h.b.row.a,vI h.b.row.n]] W fun e w'=>e=.returned (.tuple #[vI 0,vI 0,.bool false])/\WrS w' p m rp cp R C (.func (.func 34) #[] #[]) ts/\Kw p (rp.toList++cp.toList) W w') :
  Calls Tryz.prog 139 #[vP p 0,.agg #[vI h.a.row.a,vI h.a.row.n,vI h.a.col.a,vI h.a.col.n,.bool h.a.fr,.bool h.a.fc,vI h.b.row.a,vI h.b.row.n,vI h.b.col.a,vI h.b.col.n,.bool h.b.fr,.bool h.b.fc]] w fun e w'=>WrO p m rp cp R C (.func (.func 34) #[] #[]) (ts++dB) w e w':=by
 obtain⟨W0,W1,W2,Z,ai,al,jq,fm,cu,gc,HA,oj,ol,r9,jx,jy,jz,j0,dy,dz,sc,sd,ph,pz,nv,ll,mr⟩:=iW h w hw;have hZ:=fm.out;have CE0:Hid (∀ x y u v W,Z x y u v W->Calls Tryz.prog 194 #[.pointer (ptr rp),.agg #[vI h.a.row.a,vI h.a.row.n],.agg #[vI h.b.row.a,vI h.b.row.n]] W fun e w'=>e=.returned (.tuple #[vI 0,vI 0,.bool false])/\Z x y u v w'):=zh (fun x y u v W g=>by
  obtain⟨g1,g2,g3,g4,g5⟩:=(hZ _ _ _ _ _).1 g;refine(hE0 W g1).mono ?_;rintro e w' ⟨rfl,k1,k2⟩;exact⟨rfl,(hZ _ _ _ _ _).2 ⟨k1,g2.trans k2,Kw.lies k2 g1 g3 (by decide) (by decide) (by decide),Kw.lies k2 g1 g4 (by decide) (by decide) (by decide),Kw.lies k2 g1 g5 (by decide) (by decide) (by decide)⟩⟩)
 have CG:Hid (∀ x y u v W,Z x y u v W->Calls Tryz.prog 193 #[vP p 0] W fun e w'=>WrO p m rp cp R C (.func (.func 34) #[] #[]) (ts++dB) W e w'):=zh (fun x y u v W g=>lY W ((hZ _ _ _ _ _).1 g).1 (by omega));clear hw hZ
 go_in
 go_upto_region 1 with fail
 rw[<- ai.out];clear ai;obtain⟨-,a4,a5,a10,a11⟩:=ll.out
 go_upto_region 3 with fail
 rw[<- al.out];clear al ll a4 a5 a10 a11;obtain⟨a10,a11⟩:=mr.out
 go_upto_region 4 with fail
 rw[<- jq.out];clear jq mr a10 a11;obtain⟨a0,a1,a2,a3,a6,a7,a8,a9⟩:=nv.out;have e1:∀ W:World,(binOp .eql 27 (.agg #[vI h.a.row.a,vI h.a.row.n]) (.agg #[vI 0,vI 0])).run Tryz.prog W=.ok (.bool false) W:=fun W=>by have:=dF h.a.row id0 W;rwa [decide_eq_false hr.out]at this
 have e2:∀ W:World,(binOp .eql 27 (.agg #[vI h.a.col.a,vI h.a.col.n]) (.agg #[vI 0,vI 0])).run Tryz.prog W=.ok (.bool true) W:=fun W=>by have:=dF h.a.col id0 W;rwa [decide_eq_true hc.out]at this
 go_upto_region 7 with fail
 refine wp_region_held_drew (S:=fun w'=>w'.cell? ⟨p,0,none⟩=some (.pointer (ptr rp))/\ArC h w.heap.size w') (by kernel_rfl) (dy.out _ _ _ _ _ (gc.out _ _ _ _ _ _ cu.out zB.drew)) (fun ae=>?_);refine TkA 0 (vP p 0) ?_;refine TkA 1 (vP p 0) ?_;refine TkA 2 (vP p 0) ?_;refine TkB 3 (.pointer (ptr rp)) ?_;refine TkA 4 (vP w.heap.size 0) ?_;refine TkA 5 (vP w.heap.size 0) ?_;refine TkB 6 (.agg #[vI h.a.row.a,vI h.a.row.n]) ?_;refine TkA 7 (vP w.heap.size 6) ?_;refine TkA 8 (vP w.heap.size 6) ?_;refine TkB 9 (.agg #[vI h.b.row.a,vI h.b.row.n]) ?_;refine TkR 10 (fun K hK=>?_)
 go_simp
 go_at_call 194
 refine(CE0.out _ _ _ _ _ (gc.out _ _ _ _ _ _ cu.out zB.drew)).mono ?_;rintro e wx ⟨rfl,mc⟩;have gd:=zh mc;clear mc
 go_wp2_with fail
 refine hK.out _ _ (dy.out _ _ _ _ _ gd.out) (fun aa=>?_);clear hK K ae;have ae:=aa;clear aa;refine TkA 11 (.tuple #[vI 0,vI 0,.bool false]) ?_;refine TkA 12 (vI 0) ?_;refine TkA 13 (vI 0) ?_;refine TkA 14 (.bool false) ?_;refine TkA 15 (vP W0.heap.size 0) ?_;obtain⟨k0,k1,f0,f1⟩:=oj.out _ _ _ _ _ gd.out;refine TkR 16 (fun K hK=>?_)
 go_simp
 clear k0 k1 f0 f1;have gh:=zh (jx.out _ _ _ _ _ 0 gd.out);refine hK.out _ _ (dy.out _ _ _ _ _ gh.out) (fun aa=>?_);clear hK K ae;have ae:=aa;clear aa;refine TkA 17 (vP W1.heap.size 0) ?_;obtain⟨k0,k1,f0,f1⟩:=ol.out _ _ _ _ _ gh.out;refine TkR 18 (fun K hK=>?_)
 go_simp
 clear k0 k1 f0 f1;have gj:=zh (jz.out _ _ _ _ _ 0 gh.out);refine hK.out _ _ (dy.out _ _ _ _ _ gj.out) (fun aa=>?_);clear hK K ae;have ae:=aa;clear aa;refine TkA 19 (.bool false) ?_;refine TkD ?_
 (try simp only[Act.put,yz])
 obtain⟨W9,jn⟩:∃ W9,W9=(wx.setCell ⟨W0.heap.size,0,none⟩ (vI 0)).setCell ⟨W1.heap.size,0,none⟩ (vI 0):=⟨_,rfl⟩
 rw[<- jn];rw[<- jn]at gj;clear jn gd gh ae cu;have cu:=gj;clear gj;clear a0 a1 a2 a3 a6 a7 a8 a9;obtain⟨a0,a1,a2,a3,a6,a7,a8,a9⟩:=HA.out _ _ _ _ _ cu.out;have HK:=zh (ph.out _ _ _ _ _ cu.out)
 go_wp2_with ((with_reducible refine(CG.out _ _ _ _ _ cu.out).mono ?_);rintro e wx ⟨rfl,hs,hk⟩;have jo:=zh hs;have f8:=zh (HK.out.trans hk);clear hs hk)
 go_end0
 exact⟨rfl,jo.out,f8.out⟩
theorem zV{p m:Nat}{rp cp:Option Nat}{R C:AxV}{ts:List RTok}(h:NodeH)(w:World)(hw:WrS w p m rp cp R C (.func (.func 34) #[] #[]) ts)(hn:ts.length<=700000)(hr:Hid (h.a.row≠id0))(hc:Hid (h.a.col=id0))(i1 i2:Int)(hE0:∀ W,WrS W p m rp cp R C (.func (.func 34) #[] #[]) ts->Calls Tryz.prog 194 #[.pointer (ptr rp),.agg #[vI h.a.row.a,vI h.a.row.n],.agg #[vI h.b.row.a,vI h.b.row.n]] W fun e w'=>e=.returned (.tuple #[vI i1,vI i2,.bool true])/\WrS w' p m rp cp R C (.func (.func 34) #[] #[]) ts/\Kw p (rp.toList++cp.toList) W w')(t1 t2:RTok)(hT:∀ W,PowTab W->Calls Tryz.prog 34 #[.agg #[vI i1,vI 0,.bool h.a.fr,.bool h.a.fc],vI 1] W fun e w'=>e=.returned (iE t1)/\Below W.heap.size W w')(hU:∀ W,PowTab W->Calls Tryz.prog 34 #[.agg #[vI i2,vI 0,.bool h.b.fr,.bool h.b.fc],vI 1] W fun e w'=>e=.returned (iE t2)/\Below W.heap.size W w') :
  Calls Tryz.prog 139 #[vP p 0,.agg #[vI h.a.row.a,vI h.a.row.n,vI h.a.col.a,vI h.a.col.n,.bool h.a.fr,.bool h.a.fc,vI h.b.row.a,vI h.b.row.n,vI h.b.col.a,vI h.b.col.n,.bool h.b.fr,.bool h.b.fc]] w fun e w'=>WrO p m rp cp R C (.func (.func 34) #[] #[]) (ts++[t1]++[tk 5 [58]]++[t2]) w e w':=by
 obtain⟨W0,W1,W2,Z,ai,al,jq,fm,cu,gc,HA,oj,ol,r9,jx,jy,jz,j0,dy,dz,sc,sd,ph,pz,nv,ll,mr⟩:=iW h w hw;have hZ:=fm.out;have CE0:Hid (∀ x y u v W,Z x y u v W->Calls Tryz.prog 194 #[.pointer (ptr rp),.agg #[vI h.a.row.a,vI h.a.row.n],.agg #[vI h.b.row.a,vI h.b.row.n]] W fun e w'=>e=.returned (.tuple #[vI i1,vI i2,.bool true])/\Z x y u v w'):=zh (fun x y u v W g=>by
  obtain⟨g1,g2,g3,g4,g5⟩:=(hZ _ _ _ _ _).1 g;refine(hE0 W g1).mono ?_;rintro e w' ⟨rfl,k1,k2⟩;exact⟨rfl,(hZ _ _ _ _ _).2 ⟨k1,g2.trans k2,Kw.lies k2 g1 g3 (by decide) (by decide) (by decide),Kw.lies k2 g1 g4 (by decide) (by decide) (by decide),Kw.lies k2 g1 g5 (by decide) (by decide) (by decide)⟩⟩)
 have CT:=zh hT;have CU:=zh hU;have um:Hid True:=zh trivial;obtain⟨tc,f6⟩:∃ x,x=tk 5 [58]:=⟨_,rfl⟩
 have CC:=zh (cB (p:=p) (m:=m) (rp:=rp) (cp:=cp) (R:=R) (C:=C) (sf:=.func (.func 34) #[] #[]) 5 [58] #[58] rfl tc f6);rw[<- f6];clear f6 hT hU;clear hw hZ
 go_in
 go_upto_region 1 with fail
 rw[<- ai.out];clear ai;obtain⟨-,a4,a5,a10,a11⟩:=ll.out
 go_upto_region 3 with fail
 rw[<- al.out];clear al ll a4 a5 a10 a11;obtain⟨a10,a11⟩:=mr.out
 go_upto_region 4 with fail
 rw[<- jq.out];clear jq mr a10 a11;obtain⟨a0,a1,a2,a3,a6,a7,a8,a9⟩:=nv.out;have e1:∀ W:World,(binOp .eql 27 (.agg #[vI h.a.row.a,vI h.a.row.n]) (.agg #[vI 0,vI 0])).run Tryz.prog W=.ok (.bool false) W:=fun W=>by have:=dF h.a.row id0 W;rwa [decide_eq_false hr.out]at this
 have e2:∀ W:World,(binOp .eql 27 (.agg #[vI h.a.col.a,vI h.a.col.n]) (.agg #[vI 0,vI 0])).run Tryz.prog W=.ok (.bool true) W:=fun W=>by have:=dF h.a.col id0 W;rwa [decide_eq_true hc.out]at this
 go_upto_region 7 with fail
 refine wp_region_held_drew (S:=fun w'=>w'.cell? ⟨p,0,none⟩=some (.pointer (ptr rp))/\ArC h w.heap.size w') (by kernel_rfl) (dy.out _ _ _ _ _ (gc.out _ _ _ _ _ _ cu.out zB.drew)) (fun ae=>?_);refine TkA 0 (vP p 0) ?_;refine TkA 1 (vP p 0) ?_;refine TkA 2 (vP p 0) ?_;refine TkB 3 (.pointer (ptr rp)) ?_;refine TkA 4 (vP w.heap.size 0) ?_;refine TkA 5 (vP w.heap.size 0) ?_;refine TkB 6 (.agg #[vI h.a.row.a,vI h.a.row.n]) ?_;refine TkA 7 (vP w.heap.size 6) ?_;refine TkA 8 (vP w.heap.size 6) ?_;refine TkB 9 (.agg #[vI h.b.row.a,vI h.b.row.n]) ?_;refine TkR 10 (fun K hK=>?_)
 go_simp
 go_at_call 194
 refine(CE0.out _ _ _ _ _ (gc.out _ _ _ _ _ _ cu.out zB.drew)).mono ?_;rintro e wx ⟨rfl,mc⟩;have gd:=zh mc;clear mc
 go_wp2_with fail
 refine hK.out _ _ (dy.out _ _ _ _ _ gd.out) (fun aa=>?_);clear hK K ae;have ae:=aa;clear aa;refine TkA 11 (.tuple #[vI i1,vI i2,.bool true]) ?_;refine TkA 12 (vI i1) ?_;refine TkA 13 (vI i2) ?_;refine TkA 14 (.bool true) ?_;refine TkA 15 (vP W0.heap.size 0) ?_;obtain⟨k0,k1,f0,f1⟩:=oj.out _ _ _ _ _ gd.out;refine TkR 16 (fun K hK=>?_)
 go_simp
 clear k0 k1 f0 f1;have gh:=zh (jx.out _ _ _ _ _ i1 gd.out);refine hK.out _ _ (dy.out _ _ _ _ _ gh.out) (fun aa=>?_);clear hK K ae;have ae:=aa;clear aa;refine TkA 17 (vP W1.heap.size 0) ?_;obtain⟨k0,k1,f0,f1⟩:=ol.out _ _ _ _ _ gh.out;refine TkR 18 (fun K hK=>?_)
 go_simp
 clear k0 k1 f0 f1;have gj:=zh (jz.out _ _ _ _ _ i2 gh.out);refine hK.out _ _ (dy.out _ _ _ _ _ gj.out) (fun aa=>?_);clear hK K ae;have ae:=aa;clear aa;refine TkA 19 (.bool true) ?_;refine TkD ?_
 (try simp only[Act.put,yz])
 obtain⟨W9,jn⟩:∃ W9,W9=(wx.setCell ⟨W0.heap.size,0,none⟩ (vI i1)).setCell ⟨W1.heap.size,0,none⟩ (vI i2):=⟨_,rfl⟩
 rw[<- jn];rw[<- jn]at gj;clear jn gd gh ae cu;have cu:=gj;clear gj;clear a0 a1 a2 a3 a6 a7 a8 a9;obtain⟨a0,a1,a2,a3,a6,a7,a8,a9⟩:=HA.out _ _ _ _ _ cu.out;clear CE0;have un:=zh (ph.out _ _ _ _ _ cu.out);have mh:=zh (r9.out _ _ _ _ _ cu.out);have uo:=zh (sc.out _ _ _ _ _ cu.out);have uq:=zh (sd.out _ _ _ _ _ cu.out);clear fm gc HA oj ol r9 jx jy jz j0 dy dz sc sd ph cu nv
 go_upto_region 13 with fail
 clear e1 e2 a0 a1 a2 a3 a6 a7 a8 a9
 go_cut [] (fun wx=>Hid (WrS wx p m rp cp R C (.func (.func 34) #[] #[]) (ts++[t1]))/\Hid (Kw p (rp.toList++cp.toList) w wx)/\Hid (Lies wx W1.heap.size 90 #[vI i2,vI 0,.bool h.b.fr,.bool h.b.fc]))
 case first=>
  have fd:Hid (WrS W9 p m rp cp R C (.func (.func 34) #[] #[]) ts):=mh;have HK:Hid (Kw p (rp.toList++cp.toList) w W9):=un;have ij:Hid (Lies W9 W0.heap.size 90 #[vI i1,vI 0,.bool h.a.fr,.bool h.a.fc]):=uo;have cr:Hid (Lies W9 W1.heap.size 90 #[vI i2,vI 0,.bool h.b.fr,.bool h.b.fc]):=uq;clear mh un uo uq;obtain⟨W6,lr⟩:=zD W9
  rw[<- lr]at fd HK ij cr ⊢;clear lr;have me:Hid (p<W0.heap.size):=zh pz.out.1;have en:Hid (p<W1.heap.size):=zh pz.out.2;obtain⟨v0,eh,ji⟩:=fd.out.box;obtain⟨A1,c1,rfl⟩:=aV ji;have cy:=zh eh;have ez:=zh ji;have j7:Hid (∀ W,Below W6.heap.size W6 W->PowTab W):=zh (fun W hb=>(fd.out.next hb).gl.pow);clear eh ji;have bm:Hid (∀ W,Below W6.heap.size W6 W->SaC p W0.heap.size i1 0 h.a.fr h.a.fc W):=zh (fun W hb=>⟨(cy.out.next hb).cell 3,(ij.out.next hb).cell 0,(ij.out.next hb).cell 1,(ij.out.next hb).cell 2,(ij.out.next hb).cell 3⟩);refine wp_region_held_drew (S:=fun w'=>SaC p W0.heap.size i1 0 h.a.fr h.a.fc w') (by kernel_rfl) (bm.out _ zB.drew) (fun ae=>?_);refine TkA 0 (vP p 0) ?_;refine TkA 1 (vP p 0) ?_;refine TkA 2 (vP p 0) ?_;refine TkA 3 (vP p 4) ?_
  refine TkA 5 (vP p 0) ?_;refine TkA 6 (vP p 0) ?_;refine TkA 7 (vP p 3) ?_;refine TkB 8 (.func (.func 34) #[] #[]) ?_;refine TkB 9 (.agg #[vI i1,vI 0,.bool h.a.fr,.bool h.a.fc]) ?_;refine TkA 10 (vI 1) ?_;have ab:Hid (Below W6.heap.size W6 W6.drew):=zh zB.drew;refine wpAnyH_ready (rs:=[4,11]) (by kernel_rfl) (by simp) ?_;refine AllReadyH.cons rfl (fun K hK=>?pa3) (AllReadyH.cons rfl (fun K hK=>?pb3) AllReadyH.nil)
  case' pa3=>
   have c4:=(cy.out.next ab.out).cell 4;simp only[za,zb,zf]at c4
   go_simp
   clear c4;refine hK.out _ _ (bm.out _ ab.out) (fun aa=>?_);clear hK K ae;have ae:=aa;clear aa;refine TkR 11 (fun K hK=>?_)
   go_simp
   go_at_call 34
   refine(CT.out _ (j7.out _ ab.out)).mono ?_;rintro e wx ⟨rfl,hb⟩;replace ab:=zT ab hb;clear hb
   go_wp2_with fail
   refine hK.out _ _ (bm.out _ ab.out) (fun aa=>?_);clear hK K ae;have ae:=aa;clear aa;refine TkR 12 (fun K hK=>?_)
   go_simp
   obtain⟨W7,az⟩:=zD (wx.alloc (.cells #[vI t1.kind,vT t1.text,vI t1.place] 64))
   rw[<- az];have jk:=zL az;replace ab:=zF ab az;clear az;refine hK.out _ _ (bm.out _ ab.out) (fun aa=>?_);clear hK K ae;have ae:=aa;clear aa
  case' pb3=>
   go_simp
   go_at_call 34
   refine(CT.out _ (j7.out _ ab.out)).mono ?_;rintro e wx ⟨rfl,hb⟩;replace ab:=zT ab hb;clear hb
   go_wp2_with fail
   refine hK.out _ _ (bm.out _ ab.out) (fun aa=>?_);clear hK K ae;have ae:=aa;clear aa;refine wpAnyH_ready (rs:=[4,12]) (by kernel_rfl) (by simp) ?_;refine AllReadyH.cons rfl (fun K hK=>?pc3) (AllReadyH.cons rfl (fun K hK=>?pd3) AllReadyH.nil)
   case' pc3=>
    have c4:=(cy.out.next ab.out).cell 4;simp only[za,zb,zf]at c4
    go_simp
    clear c4;refine hK.out _ _ (bm.out _ ab.out) (fun aa=>?_);clear hK K ae;have ae:=aa;clear aa;refine TkR 12 (fun K hK=>?_)
    go_simp
    obtain⟨W7,az⟩:=zD (wx.alloc (.cells #[vI t1.kind,vT t1.text,vI t1.place] 64))
    rw[<- az];have jk:=zL az;replace ab:=zF ab az;clear az;refine hK.out _ _ (bm.out _ ab.out) (fun aa=>?_);clear hK K ae;have ae:=aa;clear aa
   case' pd3=>
    go_simp
    obtain⟨W7,az⟩:=zD (wx.alloc (.cells #[vI t1.kind,vT t1.text,vI t1.place] 64))
    rw[<- az];have jk:=zL az;replace ab:=zF ab az;clear az;refine hK.out _ _ (bm.out _ ab.out) (fun aa=>?_);clear hK K ae;have ae:=aa;clear aa;refine TkR 4 (fun K hK=>?_);have c4:=(cy.out.next ab.out).cell 4;simp only[za,zb,zf]at c4
    go_simp
    clear c4;refine hK.out _ _ (bm.out _ ab.out) (fun aa=>?_);clear hK K ae;have ae:=aa;clear aa
  all_goals
   refine TkR 13 (fun K hK=>?_);refine cG rfl _ _ rfl (p+1) (.slice A1 ts.length c1) ts t1 wx.heap.size rfl (aD ab.out ez.out) rfl jk.out (by omega) (yv (Nat.succ_le_of_lt fd.out.lt) ab.out.size) ?_;intro A5 c5 w5 k5 g5;have de:=zh k5;have qn:=zh g5;have dx:=zh ((cy.out.next ab.out).grownA g5 (bE (by decide) (aD ab.out ez.out) (cy.out.next ab.out)));have ik:=zh ((ij.out.next ab.out).grownA g5 (bE (by decide) (aD ab.out ez.out) (ij.out.next ab.out)));have ep:=zh ((cr.out.next ab.out).grownA g5 (bE (by decide) (aD ab.out ez.out) (cr.out.next ab.out)));clear k5 g5;refine hK.out _ _ ⟨dx.out.cell 3,ik.out.cell 0,ik.out.cell 1,ik.out.cell 2,ik.out.cell 3⟩ (fun aa=>?_);clear hK K ae;have ae:=aa;clear aa;refine TkA 14 (vP p 0) ?_
   refine TkA 15 (vP p 4) ?_;have k4:=dx.out.cell 4;simp only[za,zb,zf]at k4;have k4f:=dx.out.frozen 4;refine TkR 16 (fun K hK=>?_)
   go_simp
   clear k4 k4f;have l7:=zh ((fd.out.next ab.out).grown (ts':=ts++[t1]) ((cy.out.next ab.out).cell 4) de.out qn.out);have qp:=zh ((HK.out.trans (Kw.of_below ab.out)).trans l7.out.2);have qq:=zh l7.out.1;have j5:=zh (aC ik.out (b:=p) (by have:=me.out;omega) 4 (.slice A5 (ts.length+1) c5));have fv:=zh (aC ep.out (b:=p) (by have:=en.out;omega) 4 (.slice A5 (ts.length+1) c5));have m6:=zh (dx.out.put 4 (.slice A5 (ts.length+1) c5));refine hK.out _ _ ⟨m6.out.cell 3,j5.out.cell 0,j5.out.cell 1,j5.out.cell 2,j5.out.cell 3⟩ (fun aa=>?_);clear hK K ae aa;refine TkD ?_
   (try simp only[Act.put,yz])
   go_wp2_with fail
   go_meet
   exact⟨qq,qp,fv⟩
 case rest=>
 clear mh un uo uq CT um;obtain⟨yy,HKa,cr⟩:=hcut;obtain⟨W7,az⟩:=zD wc
 subst az
 go_upto_region 15 with((with_reducible refine(CC.out _ _ yy.out (by simp;omega)).mono ?_);rintro e wx ⟨rfl,hs,hk⟩;have fd:=zh hs;have HK:=zh (HKa.out.trans hk);have pi:=zh (Kw.lies hk yy.out cr.out (by decide) (by decide) (by decide));clear hs hk)
 replace cr:=pi;clear pi;obtain⟨us,rm⟩:=zD (ts++[t1]++[tc])
 rw[<- rm]at fd;have HUs:=zh rm;have u5q:us.length<=700002:=by rw[rm];simp;omega
 clear rm;obtain⟨W6,lr⟩:=zD wx
 subst lr;have en:Hid (p<W1.heap.size):=zh pz.out.2;obtain⟨v0,eh,ji⟩:=fd.out.box;obtain⟨A1,c1,rfl⟩:=aV ji;have cy:=zh eh;have ez:=zh ji;have j7:Hid (∀ W,Below W6.heap.size W6 W->PowTab W):=zh (fun W hb=>(fd.out.next hb).gl.pow);clear eh ji;have bm:Hid (∀ W,Below W6.heap.size W6 W->SaC p W1.heap.size i2 0 h.b.fr h.b.fc W):=zh (fun W hb=>⟨(cy.out.next hb).cell 3,(cr.out.next hb).cell 0,(cr.out.next hb).cell 1,(cr.out.next hb).cell 2,(cr.out.next hb).cell 3⟩);refine wp_region_held_drew (S:=fun w'=>SaC p W1.heap.size i2 0 h.b.fr h.b.fc w') (by kernel_rfl) (bm.out _ zB.drew) (fun ae=>?_);refine TkA 0 (vP p 0) ?_;refine TkA 1 (vP p 0) ?_;refine TkA 2 (vP p 0) ?_;refine TkA 3 (vP p 4) ?_;refine TkA 5 (vP p 0) ?_
 refine TkA 6 (vP p 0) ?_;refine TkA 7 (vP p 3) ?_;refine TkB 8 (.func (.func 34) #[] #[]) ?_;refine TkB 9 (.agg #[vI i2,vI 0,.bool h.b.fr,.bool h.b.fc]) ?_;refine TkA 10 (vI 1) ?_;have ab:Hid (Below W6.heap.size W6 W6.drew):=zh zB.drew;refine wpAnyH_ready (rs:=[4,11]) (by kernel_rfl) (by simp) ?_;refine AllReadyH.cons rfl (fun K hK=>?pa4) (AllReadyH.cons rfl (fun K hK=>?pb4) AllReadyH.nil)
 case' pa4=>
  have c4:=(cy.out.next ab.out).cell 4;simp only[za,zb,zf]at c4
  go_simp
  clear c4;refine hK.out _ _ (bm.out _ ab.out) (fun aa=>?_);clear hK K ae;have ae:=aa;clear aa;refine TkR 11 (fun K hK=>?_)
  go_simp
  go_at_call 34
  refine(CU.out _ (j7.out _ ab.out)).mono ?_;rintro e wx ⟨rfl,hb⟩;replace ab:=zT ab hb;clear hb
  go_wp2_with fail
  refine hK.out _ _ (bm.out _ ab.out) (fun aa=>?_);clear hK K ae;have ae:=aa;clear aa;refine TkR 12 (fun K hK=>?_)
  go_simp
  obtain⟨W7,az⟩:=zD (wx.alloc (.cells #[vI t2.kind,vT t2.text,vI t2.place] 64))
  rw[<- az];have jk:=zL az;replace ab:=zF ab az;clear az;refine hK.out _ _ (bm.out _ ab.out) (fun aa=>?_);clear hK K ae;have ae:=aa;clear aa
 case' pb4=>
  go_simp
  go_at_call 34
  refine(CU.out _ (j7.out _ ab.out)).mono ?_;rintro e wx ⟨rfl,hb⟩;replace ab:=zT ab hb;clear hb
  go_wp2_with fail
  refine hK.out _ _ (bm.out _ ab.out) (fun aa=>?_);clear hK K ae;have ae:=aa;clear aa;refine wpAnyH_ready (rs:=[4,12]) (by kernel_rfl) (by simp) ?_;refine AllReadyH.cons rfl (fun K hK=>?pc4) (AllReadyH.cons rfl (fun K hK=>?pd4) AllReadyH.nil)
  case' pc4=>
   have c4:=(cy.out.next ab.out).cell 4;simp only[za,zb,zf]at c4
   go_simp
   clear c4;refine hK.out _ _ (bm.out _ ab.out) (fun aa=>?_);clear hK K ae;have ae:=aa;clear aa;refine TkR 12 (fun K hK=>?_)
   go_simp
   obtain⟨W7,az⟩:=zD (wx.alloc (.cells #[vI t2.kind,vT t2.text,vI t2.place] 64))
   rw[<- az];have jk:=zL az;replace ab:=zF ab az;clear az;refine hK.out _ _ (bm.out _ ab.out) (fun aa=>?_);clear hK K ae;have ae:=aa;clear aa
  case' pd4=>
   go_simp
   obtain⟨W7,az⟩:=zD (wx.alloc (.cells #[vI t2.kind,vT t2.text,vI t2.place] 64))
   rw[<- az];have jk:=zL az;replace ab:=zF ab az;clear az;refine hK.out _ _ (bm.out _ ab.out) (fun aa=>?_);clear hK K ae;have ae:=aa;clear aa;refine TkR 4 (fun K hK=>?_);have c4:=(cy.out.next ab.out).cell 4;simp only[za,zb,zf]at c4
   go_simp
   clear c4;refine hK.out _ _ (bm.out _ ab.out) (fun aa=>?_);clear hK K ae;have ae:=aa;clear aa
 all_goals
  refine TkR 13 (fun K hK=>?_);refine cG rfl _ _ rfl (p+1) (.slice A1 us.length c1) us t2 wx.heap.size rfl (aD ab.out ez.out) rfl jk.out (by omega) (yv (Nat.succ_le_of_lt fd.out.lt) ab.out.size) ?_;intro A5 c5 w5 k5 g5;have de:=zh k5;have qn:=zh g5;have dx:=zh ((cy.out.next ab.out).grownA g5 (bE (by decide) (aD ab.out ez.out) (cy.out.next ab.out)));have ep:=zh ((cr.out.next ab.out).grownA g5 (bE (by decide) (aD ab.out ez.out) (cr.out.next ab.out)));clear k5 g5;refine hK.out _ _ ⟨dx.out.cell 3,ep.out.cell 0,ep.out.cell 1,ep.out.cell 2,ep.out.cell 3⟩ (fun aa=>?_);clear hK K ae;have ae:=aa;clear aa;refine TkA 14 (vP p 0) ?_;refine TkA 15 (vP p 4) ?_;have k4:=dx.out.cell 4;simp only[za,zb,zf]at k4
  have k4f:=dx.out.frozen 4;refine TkR 16 (fun K hK=>?_)
  go_simp
  clear k4 k4f;have l7:=zh ((fd.out.next ab.out).grown (ts':=us++[t2]) ((cy.out.next ab.out).cell 4) de.out qn.out);have qp:=zh ((HK.out.trans (Kw.of_below ab.out)).trans l7.out.2);have qq:=zh l7.out.1;have fv:=zh (aC ep.out (b:=p) (by have:=en.out;omega) 4 (.slice A5 (us.length+1) c5));have m6:=zh (dx.out.put 4 (.slice A5 (us.length+1) c5));refine hK.out _ _ ⟨m6.out.cell 3,fv.out.cell 0,fv.out.cell 1,fv.out.cell 2,fv.out.cell 3⟩ (fun aa=>?_);clear hK K ae aa;refine TkD ?_
  (try simp only[Act.put,yz])
  go_wp2_with fail
  go_end0
  exact⟨rfl,by rw[<- HUs.out];exact qq.out,qp.out⟩
end Go.Proofs.YtjfihpaeglpblaaGreatDoor
