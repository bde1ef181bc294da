/-
  Lemmas, part 24: WrC WxD WxE.
-/
import Derived.Test.YtjfihpaeglpblaaGreatDoorRv23
set_option maxHeartbeats 100000000
set_option maxRecDepth 1000000
namespace Go.Proofs.YtjfihpaeglpblaaGreatDoor
open Go.RowKit
def endsV:Option (Int×Int)->Value
 |none=>.tuple #[vI 0,vI 0,.bool false]
 |some (a,b)=>.tuple #[vI a,vI b,.bool true]
theorem jM{ids:List IdR}{fl:List Bool}(he:ids.length=fl.length){x y z:IdR}(hz:z∈aP (some (ids,fl)) x y):z∈ids/\x∈ids/\y∈ids:=by
 have hx:x∈ids:=Classical.byContradiction (fun h=>by rw[jN (.inl h)]at hz;cases hz);have hy:y∈ids:=Classical.byContradiction (fun h=>by rw[jN (.inr h)]at hz;cases hz);refine⟨?_,hx,hy⟩;unfold aP at hz;dsimp only at hz
 split at hz
 ·cases hz
 exact dM _ _ _ (vE he _ _ z hz)
theorem uHB(p:Option Nat)(A:AxV)(x y:IdR)(w:World)(hA:AxF w p A)(hx:x.fits)(hy:y.fits)(hz:(aP A x y).length=0) :
  Calls Tryz.prog 194 #[.pointer (ptr p),idV x,idV y] w fun e w'=>e=.returned (.tuple #[vI 0,vI 0,.bool false])/\AxF w' p A/\Kp p.toList w w':=by
 obtain⟨W0,ak⟩:∃ W0,W0=(w.alloc (.cells #[vI x.a,vI x.n] 27)).alloc (.cells #[vI y.a,vI y.n] 27):=⟨_,rfl⟩
 have aj:=zh ak;have af:Hid (Below w.heap.size w W0):=zh (by rw[ak];exact((Below.refl _ w).alloc zr _).alloc (by rw[World.size_alloc];omega) _);have L0:Hid (Lies W0 w.heap.size 27 #[vI x.a,vI x.n]):=zh (by rw[ak];exact(Lies.new w _ _).alloc _);have L1:Hid (Lies W0 (w.heap.size+1) 27 #[vI y.a,vI y.n]):=zh (by
  rw[ak];have h:=Lies.new (w.alloc (.cells #[vI x.a,vI x.n] 27)) 27 #[vI y.a,vI y.n];rw[World.size_alloc]at h;exact h)
 have CB:=zh (kN p A x y W0 (hA.next af.out) hx hy);clear ak hA hx hy;obtain⟨x0,x1⟩:W0.cell? ⟨w.heap.size,0,none⟩=some (vI x.a)/\W0.cell? ⟨w.heap.size,1,none⟩=some (vI x.n):=⟨L0.out.cell 0,L0.out.cell 1⟩
 obtain⟨y0,y1⟩:W0.cell? ⟨w.heap.size+1,0,none⟩=some (vI y.a)/\W0.cell? ⟨w.heap.size+1,1,none⟩=some (vI y.n):=⟨L1.out.cell 0,L1.out.cell 1⟩
 go_in
 go_upto_region 1 with fail
 rw[<- aj.out];clear aj
 go_wp2_with fail
 refine CB.out.mono ?_;rintro e W2 ⟨B,c,rfl,-,hF,hk⟩;clear CB x0 x1 y0 y1;have nh:=zh hF;have fu:Hid (Kp p.toList w W2):=zh ((Kp.of_below af.out).trans hk);rw[hz];clear hF hk hz
 go_wp2_with fail
 go_ret3
 exact⟨rfl,nh.out,fu.out⟩
theorem uDA(b:Nat)(ids:List IdR)(fl:List Bool)(x y z u:IdR)(m n1 n2:Nat)(w:World)(hA:AxF w (some b) (some (ids,fl)))(hx:x.fits)(hy:y.fits)(hm:(aP (some (ids,fl)) x y).length=m+1)
  (hz:(aP (some (ids,fl)) x y)[0]?=some z) (hu:(aP (some (ids,fl)) x y)[m]?=some u) (h1:aI (some (ids,fl)) z=(n1:Int)) (h2:aI (some (ids,fl)) u=(n2:Int)) (bh:Bool) (hb:eX (some (ids,fl)) x y=bh) :
  Calls Tryz.prog 194 #[.pointer (ptr (some b)),idV x,idV y] w fun e w'=>e=.returned (.tuple #[vI (if bh then (n2:Int) else n1),vI (if bh then (n1:Int) else n2),.bool true])/\AxF w' (some b) (some (ids,fl))/\Kp [b] w w':=by
 obtain⟨W0,ak⟩:∃ W0,W0=(w.alloc (.cells #[vI x.a,vI x.n] 27)).alloc (.cells #[vI y.a,vI y.n] 27):=⟨_,rfl⟩
 have aj:=zh ak;have af:Hid (Below w.heap.size w W0):=zh (by rw[ak];exact((Below.refl _ w).alloc zr _).alloc (by rw[World.size_alloc];omega) _);have L0:Hid (Lies W0 w.heap.size 27 #[vI x.a,vI x.n]):=zh (by rw[ak];exact(Lies.new w _ _).alloc _);have L1:Hid (Lies W0 (w.heap.size+1) 27 #[vI y.a,vI y.n]):=zh (by
  rw[ak];have h:=Lies.new (w.alloc (.cells #[vI x.a,vI x.n] 27)) 27 #[vI y.a,vI y.n];rw[World.size_alloc]at h;exact h)
 have hbw:b<w.heap.size:=by
  obtain⟨_,_,_,_,_,_,_,_,h⟩:=hA.lists;exact h
 have hmz:=List.mem_of_getElem? hz;have hmu:=List.mem_of_getElem? hu;have hfz:z.fits:=hA.2.2.1 z (jM hA.1 hmz).1;have hfu:u.fits:=hA.2.2.1 u (jM hA.1 hmu).1;have hm300:m+1<=300:=by
  have e:(aP (some (ids,fl)) x y).length<=ids.length:=by
   unfold aP;dsimp only
   split
   ·simp
   refine yv (dA _ _) ?_;rw[zc,yk];omega
  have:=hA.2.1;omega
 have CB:=zh (kN (some b) (some (ids,fl)) x y W0 (hA.next af.out) hx hy);have CZ:Hid (∀ W,AxF W (some b) (some (ids,fl))->Calls Tryz.prog 40 #[.pointer (ptr (some b)),.agg #[vI z.a,vI z.n]] W fun e w'=>e=.returned (.tuple #[vI (n1:Int),.bool true])/\AxF w' (some b) (some (ids,fl))/\Kp [b] W w'):=zh (fun W h=>(eH (some b) (some (ids,fl)) z W h hfz).mono (by
  rintro e w' ⟨rfl,k1,k2⟩;refine⟨?_,k1,k2⟩;unfold sY;rw[h1,if_neg (by omega),decide_eq_true (by omega)]))
 have CU:Hid (∀ W,AxF W (some b) (some (ids,fl))->Calls Tryz.prog 40 #[.pointer (ptr (some b)),.agg #[vI u.a,vI u.n]] W fun e w'=>e=.returned (.tuple #[vI (n2:Int),.bool true])/\AxF w' (some b) (some (ids,fl))/\Kp [b] W w'):=zh (fun W h=>(eH (some b) (some (ids,fl)) u W h hfu).mono (by
  rintro e w' ⟨rfl,k1,k2⟩;refine⟨?_,k1,k2⟩;unfold sY;rw[h2,if_neg (by omega),decide_eq_true (by omega)]))
 have CH:Hid (∀ W,AxF W (some b) (some (ids,fl))->Calls Tryz.prog 228 #[.pointer (ptr (some b)),.agg #[vI x.a,vI x.n],.agg #[vI y.a,vI y.n]] W fun e w'=>e=.returned (.bool bh)/\Below W.heap.size W w'):=zh (fun W h=>by
  rw[<- hb];exact wT b ids fl x y W h (jM hA.1 hmz).2.1 (jM hA.1 hmz).2.2)
 have HNb:Hid (∀ k,w.heap.size<=k->k∉[b]):=zh (fun k hk hm=>by rw[yf.1 hm]at hk;omega);obtain⟨L,hL⟩:=zD (aP (some (ids,fl)) x y)
 rw[<- hL]at CB hm hz hu;have HLm:=zh (And.intro hm (And.intro hz hu));have hmi:(m:Int)+1<=300:=by omega
 clear ak hA hx hy hmz hmu hfz hfu hm300 hm hz hu h1 h2 hb hL hbw;obtain⟨x0,x1⟩:W0.cell? ⟨w.heap.size,0,none⟩=some (vI x.a)/\W0.cell? ⟨w.heap.size,1,none⟩=some (vI x.n):=⟨L0.out.cell 0,L0.out.cell 1⟩
 obtain⟨y0,y1⟩:W0.cell? ⟨w.heap.size+1,0,none⟩=some (vI y.a)/\W0.cell? ⟨w.heap.size+1,1,none⟩=some (vI y.n):=⟨L1.out.cell 0,L1.out.cell 1⟩
 go_in
 go_upto_region 1 with fail
 rw[<- aj.out];clear aj
 go_wp2_with fail
 refine CB.out.mono ?_;rintro e W2 ⟨B,c,rfl,ho,hF,hk⟩;clear CB x0 x1 y0 y1;have nh:=zh hF;have fu:Hid (Kp [b] w W2):=zh ((Kp.of_below af.out).trans hk);have tn:Hid (Lies W2 w.heap.size 27 #[vI x.a,vI x.n]):=zh (hk.lies L0.out (HNb.out _ zr));have HY2:Hid (Lies W2 (w.heap.size+1) 27 #[vI y.a,vI y.n]):=zh (hk.lies L1.out (HNb.out _ (Nat.le_succ _)));obtain⟨hm,hz,hu⟩:=HLm.out;rw[hm]at ho ⊢;obtain⟨g,cp,q1,i5,lw,bq⟩:=fY ho (by omega);injection q1 with q1 _ q2;subst q1 q2;obtain⟨m9,i9⟩:=List.getElem?_eq_some_iff.1 hz;obtain⟨hu0,hu1⟩:=List.getElem?_eq_some_iff.1 hu;have k0:=gI L 0 m9;have km:=gI L m hu0;rw[i9]at k0;rw[hu1]at km
 have HRw:Hid (∀ W,Kp [b] W2 W->W.cell? ⟨g,0,none⟩=some (vI z.a)/\W.cell? ⟨g,1,none⟩=some (vI z.n)/\W.cell? ⟨g,m*2,none⟩=some (vI u.a)/\W.cell? ⟨g,m*2+1,none⟩=some (vI u.n)):=zh (fun W en=>by
  have mw:=HNb.out g (yv af.out.size i5);refine⟨(en.cell lw mw).trans (bq _ _ k0.1),(en.cell lw mw).trans (bq _ _ k0.2),(en.cell lw mw).trans (bq _ _ km.1),(en.cell lw mw).trans (bq _ _ km.2)⟩)
 obtain⟨c0,c1,-,-⟩:=HRw.out W2 (Kp.refl _ _);clear ho hF hk hm hz hu i5 lw bq m9 i9 hu0 hu1 k0 km L0 L1;have hmn:(0:Int)<(m:Int)+1:=by omega
 have sc:Hid (∀ W,Kp [b] W2 W->W.cell? ⟨w.heap.size,0,none⟩=some (vI x.a)/\W.cell? ⟨w.heap.size,1,none⟩=some (vI x.n)/\W.cell? ⟨w.heap.size+1,0,none⟩=some (vI y.a)/\W.cell? ⟨w.heap.size+1,1,none⟩=some (vI y.n)):=zh (fun W hk=>by
  have e1:=hk.lies tn.out (HNb.out _ zr);have e2:=hk.lies HY2.out (HNb.out _ (Nat.le_succ _));exact⟨e1.cell 0,e1.cell 1,e2.cell 0,e2.cell 1⟩)
 clear tn HY2;cases bh
 all_goals
  go_wp2_with (first
   |((with_reducible refine(CZ.out _ nh.out).mono ?_);rintro e W3 ⟨rfl,hF,hk⟩;have HF3:=zh hF;have oo:=zh hk;clear hF hk c0 c1 nh;obtain⟨-,-,c2,c3⟩:=HRw.out W3 oo.out)
   |((with_reducible refine(CU.out _ HF3.out).mono ?_);rintro e W4 ⟨rfl,hF,hk⟩;have HF4:=zh hF;have gd:=zh (oo.out.trans hk);clear hF hk c2 c3 HF3;obtain⟨x0,x1,y0,y1⟩:=sc.out W4 gd.out)
   |((with_reducible refine(CH.out _ HF4.out).mono ?_);rintro e W5 ⟨rfl,hb⟩;have HF5:=zh (HF4.out.next hb);have lr:=zh (gd.out.trans (Kp.of_below hb));clear hb))
  go_ret3
  exact⟨rfl,HF5.out,fu.out.trans lr.out⟩
theorem wE(p:Option Nat)(A:AxV)(x y:IdR)(w:World)(hA:AxF w p A)(hx:x.fits)(hy:y.fits) :
  Calls Tryz.prog 194 #[.pointer (ptr p),idV x,idV y] w fun e w'=>e=.returned (endsV (cO A x y))/\AxF w' p A/\Kp p.toList w w':=by
 rcases Nat.eq_zero_or_pos (aP A x y).length with hz|hz
 ·rw[mQ (List.eq_nil_of_length_eq_zero hz)];exact uHB p A x y w hA hx hy hz
 match p,A,hA,hz with
 |none,none,_,hz=>exact absurd hz (by show ¬ 0<([]:List IdR).length;simp)
 |some b,some (ids,fl),hA,hz=>
  obtain⟨m,hm⟩:∃ m,(aP (some (ids,fl)) x y).length=m+1:=⟨(aP (some (ids,fl)) x y).length-1,by omega⟩
  have hp:=vJ hA.av x y;obtain⟨n1,k1,e1⟩:=hp _ (List.getElem_mem (by omega:0<(aP (some (ids,fl)) x y).length));obtain⟨n2,k2,e2⟩:=hp _ (List.getElem_mem (by omega:m<(aP (some (ids,fl)) x y).length));have hav:=kM m _ _ hm (List.getElem?_eq_getElem (by omega)) (List.getElem?_eq_getElem (by omega));rw[e1,e2]at hav;refine(uDA b ids fl x y _ _ m n1 n2 w hA hx hy hm (List.getElem?_eq_getElem (by omega)) (List.getElem?_eq_getElem (by omega)) e1 e2 _ rfl).mono ?_;rintro e w' ⟨rfl,h2,h3⟩;refine⟨?_,h2,h3⟩;rw[hav];cases eX (some (ids,fl)) x y <;> rfl
abbrev ArX(h:NodeH)(b:Nat)(W:World):Prop:=W.cell? ⟨b,0,none⟩=some (vI h.a.row.a)/\W.cell? ⟨b,1,none⟩=some (vI h.a.row.n)/\W.cell? ⟨b,2,none⟩=some (vI h.a.col.a)/\W.cell? ⟨b,3,none⟩=some (vI h.a.col.n)/\W.cell? ⟨b,6,none⟩=some (vI h.b.row.a)/\W.cell? ⟨b,7,none⟩=some (vI h.b.row.n)/\W.cell? ⟨b,8,none⟩=some (vI h.b.col.a)/\W.cell? ⟨b,9,none⟩=some (vI h.b.col.n)
abbrev SaX(sff:FuncId)(sfx:Array Value)(p q:Nat)(x y:Int)(a b:Bool)(W:World):Prop:=W.cell? ⟨p,3,none⟩=some (.func (.func sff) #[] sfx)/\W.cell? ⟨q,0,none⟩=some (vI x)/\W.cell? ⟨q,1,none⟩=some (vI y)/\W.cell? ⟨q,2,none⟩=some (.bool a)/\W.cell? ⟨q,3,none⟩=some (.bool b)
theorem gU{p m:Nat}{rp cp:Option Nat}{R C:AxV}{sff:FuncId}{sfx:Array Value}{ts:List RTok}(h:NodeH)(w:World)(hw:WrS w p m rp cp R C (.func (.func sff) #[] sfx) ts):∃ (W0 W1 W2:World) (Z:Int->Int->Int->Int->World->Prop),Hid (W0=w.alloc (.cells #[vI h.a.row.a,vI h.a.row.n,vI h.a.col.a,vI h.a.col.n,.bool h.a.fr,.bool h.a.fc,vI h.b.row.a,vI h.b.row.n,vI h.b.col.a,vI h.b.col.n,.bool h.b.fr,.bool h.b.fc] 31))/\Hid (W1=W0.alloc (.cells #[vI 0,vI 0,.bool h.a.fr,.bool h.a.fc] 90))/\Hid (W2=W1.alloc (.cells #[vI 0,vI 0,.bool h.b.fr,.bool h.b.fc] 90))/\Hid (∀ x y u v W,Z x y u v W↔(WrS W p m rp cp R C (.func (.func sff) #[] sfx) ts/\Kw p (rp.toList++cp.toList) w W/\Lies W w.heap.size 31 #[vI h.a.row.a,vI h.a.row.n,vI h.a.col.a,vI h.a.col.n,.bool h.a.fr,.bool h.a.fc,vI h.b.row.a,vI h.b.row.n,vI h.b.col.a,vI h.b.col.n,.bool h.b.fr,.bool h.b.fc]/\Lies W W0.heap.size 90 #[vI x,vI y,.bool h.a.fr,.bool h.a.fc]/\Lies W W1.heap.size 90 #[vI u,vI v,.bool h.b.fr,.bool h.b.fc]))/\Hid (Z 0 0 0 0 W2)/\Hid (∀ x y u v W W',Z x y u v W->Below W.heap.size W W'->Z x y u v W')/\Hid (∀ x y u v W,Z x y u v W->ArX h w.heap.size W)/\Hid (∀ x y u v W,Z x y u v W->W.cell? ⟨W0.heap.size,0,none⟩=some (vI x)/\W.cell? ⟨W0.heap.size,1,none⟩=some (vI y)/\W.frozen? ⟨W0.heap.size,0,none⟩=false/\W.frozen? ⟨W0.heap.size,1,none⟩=false)/\Hid (∀ x y u v W,Z x y u v W->W.cell? ⟨W1.heap.size,0,none⟩=some (vI u)/\W.cell? ⟨W1.heap.size,1,none⟩=some (vI v)/\W.frozen? ⟨W1.heap.size,0,none⟩=false/\W.frozen? ⟨W1.heap.size,1,none⟩=false)/\Hid (∀ x y u v W,Z x y u v W->WrS W p m rp cp R C (.func (.func sff) #[] sfx) ts)/\Hid (∀ x y u v W k,Z x y u v W->Z k y u v (W.setCell ⟨W0.heap.size,0,none⟩ (vI k)))/\Hid (∀ x y u v W k,Z x y u v W->Z x k u v (W.setCell ⟨W0.heap.size,1,none⟩ (vI k)))/\Hid (∀ x y u v W k,Z x y u v W->Z x y k v (W.setCell ⟨W1.heap.size,0,none⟩ (vI k)))/\Hid (∀ x y u v W k,Z x y u v W->Z x y u k (W.setCell ⟨W1.heap.size,1,none⟩ (vI k)))/\Hid (∀ x y u v W,Z x y u v W->W.cell? ⟨p,0,none⟩=some (.pointer (ptr rp))/\ArX h w.heap.size W)/\Hid (∀ x y u v W,Z x y u v W->W.cell? ⟨p,1,none⟩=some (.pointer (ptr cp))/\ArX h w.heap.size W)/\Hid (∀ x y u v W,Z x y u v W->Lies W W0.heap.size 90 #[vI x,vI y,.bool h.a.fr,.bool h.a.fc])/\Hid (∀ x y u v W,Z x y u v W->Lies W W1.heap.size 90 #[vI u,vI v,.bool h.b.fr,.bool h.b.fc])/\Hid (∀ x y u v W,Z x y u v W->Kw p (rp.toList++cp.toList) w W)/\Hid (p<W0.heap.size/\p<W1.heap.size)/\Hid (ArX h w.heap.size W2)/\Hid ((ArX h w.heap.size W0)/\W0.cell? ⟨w.heap.size,4,none⟩=some (.bool h.a.fr)/\W0.cell? ⟨w.heap.size,5,none⟩=some (.bool h.a.fc)/\W0.cell? ⟨w.heap.size,10,none⟩=some (.bool h.b.fr)/\W0.cell? ⟨w.heap.size,11,none⟩=some (.bool h.b.fc))/\Hid (W1.cell? ⟨w.heap.size,10,none⟩=some (.bool h.b.fr)/\W1.cell? ⟨w.heap.size,11,none⟩=some (.bool h.b.fc)):=by
 obtain⟨W0,ak⟩:=zD (w.alloc (.cells #[vI h.a.row.a,vI h.a.row.n,vI h.a.col.a,vI h.a.col.n,.bool h.a.fr,.bool h.a.fc,vI h.b.row.a,vI h.b.row.n,vI h.b.col.a,vI h.b.col.n,.bool h.b.fr,.bool h.b.fc] 31))
 obtain⟨W1,an⟩:=zD (W0.alloc (.cells #[vI 0,vI 0,.bool h.a.fr,.bool h.a.fc] 90))
 obtain⟨W2,fj⟩:=zD (W1.alloc (.cells #[vI 0,vI 0,.bool h.b.fr,.bool h.b.fc] 90))
 have aj:=zh ak;have am:=zh an;have jx:=zh fj;have af:=zA ak;have bi:=zA an;have aw:=zA fj;have hs0:W0.heap.size=w.heap.size+1:=by rw[ak,World.size_alloc]
 have ed:W1.heap.size=W0.heap.size+1:=by rw[an,World.size_alloc]
 obtain⟨Z,hZ⟩:∃ Z:Int->Int->Int->Int->World->Prop,∀ x y u v W,Z x y u v W↔(WrS W p m rp cp R C (.func (.func sff) #[] sfx) ts/\Kw p (rp.toList++cp.toList) w W/\Lies W w.heap.size 31 #[vI h.a.row.a,vI h.a.row.n,vI h.a.col.a,vI h.a.col.n,.bool h.a.fr,.bool h.a.fc,vI h.b.row.a,vI h.b.row.n,vI h.b.col.a,vI h.b.col.n,.bool h.b.fr,.bool h.b.fc]/\Lies W W0.heap.size 90 #[vI x,vI y,.bool h.a.fr,.bool h.a.fc]/\Lies W W1.heap.size 90 #[vI u,vI v,.bool h.b.fr,.bool h.b.fc]):=⟨_,fun _ _ _ _ _=>Iff.rfl⟩
 have fs:=zh hZ;have ye:Hid (Z 0 0 0 0 W2):=zh ((hZ _ _ _ _ _).2 ⟨((hw.next af.out).next bi.out).next aw.out,((Kw.of_below af.out).trans (Kw.of_below bi.out)).trans (Kw.of_below aw.out),by
  have l0:Lies W0 w.heap.size 31 #[vI h.a.row.a,vI h.a.row.n,vI h.a.col.a,vI h.a.col.n,.bool h.a.fr,.bool h.a.fc,vI h.b.row.a,vI h.b.row.n,vI h.b.col.a,vI h.b.col.n,.bool h.b.fr,.bool h.b.fc]:=by rw[ak];exact Lies.new w _ _
  exact(l0.next bi.out).next aw.out,by
  have l1:Lies W1 W0.heap.size 90 #[vI 0,vI 0,.bool h.a.fr,.bool h.a.fc]:=by rw[an];exact Lies.new W0 _ _
  exact l1.next aw.out,by rw[fj];exact Lies.new W1 _ _⟩)
 have gh:Hid (∀ x y u v W W',Z x y u v W->Below W.heap.size W W'->Z x y u v W'):=zh (fun x y u v W W' g hb=>(hZ _ _ _ _ _).2 (by
  obtain⟨g1,g2,g3,g4,g5⟩:=(hZ _ _ _ _ _).1 g;exact⟨g1.next hb,g2.trans (Kw.of_below hb),g3.next hb,g4.next hb,g5.next hb⟩))
 have HA:Hid (∀ x y u v W,Z x y u v W->ArX h w.heap.size W):=zh (fun x y u v W g=>by
  obtain⟨g1,g2,g3,g4,g5⟩:=(hZ _ _ _ _ _).1 g;exact⟨g3.cell 0,g3.cell 1,g3.cell 2,g3.cell 3,g3.cell 6,g3.cell 7,g3.cell 8,g3.cell 9⟩)
 have ou:Hid (∀ x y u v W,Z x y u v W->W.cell? ⟨W0.heap.size,0,none⟩=some (vI x)/\W.cell? ⟨W0.heap.size,1,none⟩=some (vI y)/\W.frozen? ⟨W0.heap.size,0,none⟩=false/\W.frozen? ⟨W0.heap.size,1,none⟩=false):=zh (fun x y u v W g=>by
  obtain⟨g1,g2,g3,g4,g5⟩:=(hZ _ _ _ _ _).1 g;exact⟨g4.cell 0,g4.cell 1,g4.frozen 0,g4.frozen 1⟩)
 have ox:Hid (∀ x y u v W,Z x y u v W->W.cell? ⟨W1.heap.size,0,none⟩=some (vI u)/\W.cell? ⟨W1.heap.size,1,none⟩=some (vI v)/\W.frozen? ⟨W1.heap.size,0,none⟩=false/\W.frozen? ⟨W1.heap.size,1,none⟩=false):=zh (fun x y u v W g=>by
  obtain⟨g1,g2,g3,g4,g5⟩:=(hZ _ _ _ _ _).1 g;exact⟨g5.cell 0,g5.cell 1,g5.frozen 0,g5.frozen 1⟩)
 have sy:Hid (∀ x y u v W,Z x y u v W->WrS W p m rp cp R C (.func (.func sff) #[] sfx) ts):=zh (fun x y u v W g=>((hZ _ _ _ _ _).1 g).1);have hpw:=hw.lt;have j8:Hid (∀ x y u v W k,Z x y u v W->Z k y u v (W.setCell ⟨W0.heap.size,0,none⟩ (vI k))):=zh (fun x y u v W k g=>by
  obtain⟨g1,g2,g3,g4,g5⟩:=(hZ _ _ _ _ _).1 g;have k1:=lS W W0.heap.size 0 (vI k);exact(hZ _ _ _ _ _).2 ⟨g1.loc k1 (by omega) g4 (by decide) (by decide) (by decide) (by decide) (by decide),g2.loc k1 (by omega),aC g3 (by omega) _ _,g4.put 0 (vI k),aC g5 (by omega) _ _⟩)
 have j9:Hid (∀ x y u v W k,Z x y u v W->Z x k u v (W.setCell ⟨W0.heap.size,1,none⟩ (vI k))):=zh (fun x y u v W k g=>by
  obtain⟨g1,g2,g3,g4,g5⟩:=(hZ _ _ _ _ _).1 g;have k1:=lS W W0.heap.size 1 (vI k);exact(hZ _ _ _ _ _).2 ⟨g1.loc k1 (by omega) g4 (by decide) (by decide) (by decide) (by decide) (by decide),g2.loc k1 (by omega),aC g3 (by omega) _ _,g4.put 1 (vI k),aC g5 (by omega) _ _⟩)
 have kc:Hid (∀ x y u v W k,Z x y u v W->Z x y k v (W.setCell ⟨W1.heap.size,0,none⟩ (vI k))):=zh (fun x y u v W k g=>by
  obtain⟨g1,g2,g3,g4,g5⟩:=(hZ _ _ _ _ _).1 g;have k1:=lS W W1.heap.size 0 (vI k);exact(hZ _ _ _ _ _).2 ⟨g1.loc k1 (by omega) g5 (by decide) (by decide) (by decide) (by decide) (by decide),g2.loc k1 (by omega),aC g3 (by omega) _ _,aC g4 (by omega) _ _,g5.put 0 (vI k)⟩)
 have kg:Hid (∀ x y u v W k,Z x y u v W->Z x y u k (W.setCell ⟨W1.heap.size,1,none⟩ (vI k))):=zh (fun x y u v W k g=>by
  obtain⟨g1,g2,g3,g4,g5⟩:=(hZ _ _ _ _ _).1 g;have k1:=lS W W1.heap.size 1 (vI k);exact(hZ _ _ _ _ _).2 ⟨g1.loc k1 (by omega) g5 (by decide) (by decide) (by decide) (by decide) (by decide),g2.loc k1 (by omega),aC g3 (by omega) _ _,aC g4 (by omega) _ _,g5.put 1 (vI k)⟩)
 have dz:Hid (∀ x y u v W,Z x y u v W->W.cell? ⟨p,0,none⟩=some (.pointer (ptr rp))/\ArX h w.heap.size W):=zh (fun x y u v W g=>by
  obtain⟨vv,k,_⟩:=((hZ _ _ _ _ _).1 g).1.box;exact⟨k.cell 0,HA.out x y u v W g⟩)
 have ec:Hid (∀ x y u v W,Z x y u v W->W.cell? ⟨p,1,none⟩=some (.pointer (ptr cp))/\ArX h w.heap.size W):=zh (fun x y u v W g=>by
  obtain⟨vv,k,_⟩:=((hZ _ _ _ _ _).1 g).1.box;exact⟨k.cell 1,HA.out x y u v W g⟩)
 have s7:Hid (∀ x y u v W,Z x y u v W->Lies W W0.heap.size 90 #[vI x,vI y,.bool h.a.fr,.bool h.a.fc]):=zh (fun x y u v W g=>((hZ _ _ _ _ _).1 g).2.2.2.1);have s8:Hid (∀ x y u v W,Z x y u v W->Lies W W1.heap.size 90 #[vI u,vI v,.bool h.b.fr,.bool h.b.fc]):=zh (fun x y u v W g=>((hZ _ _ _ _ _).1 g).2.2.2.2);have pn:Hid (∀ x y u v W,Z x y u v W->Kw p (rp.toList++cp.toList) w W):=zh (fun x y u v W g=>((hZ _ _ _ _ _).1 g).2.1);have qj:Hid (p<W0.heap.size/\p<W1.heap.size):=zh ⟨by omega,by omega⟩;have oh:=zh (HA.out _ _ _ _ _ ye.out);have lp:Hid ((ArX h w.heap.size W0)/\W0.cell? ⟨w.heap.size,4,none⟩=some (.bool h.a.fr)/\W0.cell? ⟨w.heap.size,5,none⟩=some (.bool h.a.fc)/\W0.cell? ⟨w.heap.size,10,none⟩=some (.bool h.b.fr)/\W0.cell? ⟨w.heap.size,11,none⟩=some (.bool h.b.fc)):=zh (by
  have l0:Lies W0 w.heap.size 31 #[vI h.a.row.a,vI h.a.row.n,vI h.a.col.a,vI h.a.col.n,.bool h.a.fr,.bool h.a.fc,vI h.b.row.a,vI h.b.row.n,vI h.b.col.a,vI h.b.col.n,.bool h.b.fr,.bool h.b.fc]:=by rw[ak];exact Lies.new w _ _
  exact⟨⟨l0.cell 0,l0.cell 1,l0.cell 2,l0.cell 3,l0.cell 6,l0.cell 7,l0.cell 8,l0.cell 9⟩,l0.cell 4,l0.cell 5,l0.cell 10,l0.cell 11⟩)
 have mz:Hid (W1.cell? ⟨w.heap.size,10,none⟩=some (.bool h.b.fr)/\W1.cell? ⟨w.heap.size,11,none⟩=some (.bool h.b.fc)):=zh (by
  have l0:Lies W0 w.heap.size 31 #[vI h.a.row.a,vI h.a.row.n,vI h.a.col.a,vI h.a.col.n,.bool h.a.fr,.bool h.a.fc,vI h.b.row.a,vI h.b.row.n,vI h.b.col.a,vI h.b.col.n,.bool h.b.fr,.bool h.b.fc]:=by rw[ak];exact Lies.new w _ _
  exact⟨(l0.next bi.out).cell 10,(l0.next bi.out).cell 11⟩)
 exact⟨W0,W1,W2,Z,aj,am,jx,fs,ye,gh,HA,ou,ox,sy,j8,j9,kc,kg,dz,ec,s7,s8,pn,qj,oh,lp,mz⟩
theorem uP{p m:Nat}{rp cp:Option Nat}{R C:AxV}{sff:FuncId}{sfx:Array Value}{ts:List RTok}(h:NodeH)(w:World)(hw:WrS w p m rp cp R C (.func (.func sff) #[] sfx) ts)(hn:ts.length<=700000)(hr:Hid (h.a.row=id0))(hc:Hid (h.a.col≠id0))(kl:∀ W,WrS W p m rp cp R C (.func (.func sff) #[] sfx) ts->Calls Tryz.prog 194 #[.pointer (ptr cp),.agg #[vI h.a.col.a,vI h.a.col.n],.agg #[vI h.b.col.a,vI h.b.col.n]] W fun e w'=>e=.returned (.tuple #[vI 0,vI 0,.bool false])/\WrS w' p m rp cp R C (.func (.func sff) #[] sfx) ts/\Kw p (rp.toList++cp.toList) W w') :
  Calls Tryz.prog 139 #[vP p 0,.agg #[vI h.a.row.a,vI h.a.row.n,vI h.a.col.a,vI h.a.col.n,.bool h.a.fr,.bool h.a.fc,vI h.b.row.a,vI h.b.row.n,vI h.b.col.a,vI h.b.col.n,.bool h.b.fr,.bool h.b.fc]] w fun e w'=>WrO p m rp cp R C (.func (.func sff) #[] sfx) (ts++dC) w e w':=by
 obtain⟨W0,W1,W2,Z,aj,am,jx,fs,cv,gh,HA,ou,ox,sy,j8,j9,kc,kg,dz,ec,s7,s8,pn,qj,oh,lp,mz⟩:=gU h w hw;have hZ:=fs.out;have CE1:Hid (∀ x y u v W,Z x y u v W->Calls Tryz.prog 194 #[.pointer (ptr cp),.agg #[vI h.a.col.a,vI h.a.col.n],.agg #[vI h.b.col.a,vI h.b.col.n]] W fun e w'=>e=.returned (.tuple #[vI 0,vI 0,.bool false])/\Z x y u v w'):=zh (fun x y u v W g=>by
  obtain⟨g1,g2,g3,g4,g5⟩:=(hZ _ _ _ _ _).1 g;refine(kl W g1).mono ?_;rintro e w' ⟨rfl,k1,k2⟩;exact⟨rfl,(hZ _ _ _ _ _).2 ⟨k1,g2.trans k2,Kw.lies k2 g1 g3 (by decide) (by decide) (by decide),Kw.lies k2 g1 g4 (by decide) (by decide) (by decide),Kw.lies k2 g1 g5 (by decide) (by decide) (by decide)⟩⟩)
 have CG:Hid (∀ x y u v W,Z x y u v W->Calls Tryz.prog 193 #[vP p 0] W fun e w'=>WrO p m rp cp R C (.func (.func sff) #[] sfx) (ts++dC) W e w'):=zh (fun x y u v W g=>mA W ((hZ _ _ _ _ _).1 g).1 (by omega));clear hw hZ
 go_in
 go_upto_region 1 with fail
 rw[<- aj.out];clear aj;obtain⟨-,a4,a5,a10,a11⟩:=lp.out
 go_upto_region 3 with fail
 rw[<- am.out];clear am lp a4 a5 a10 a11;obtain⟨a10,a11⟩:=mz.out
 go_upto_region 4 with fail
 rw[<- jx.out];clear jx mz a10 a11;obtain⟨a0,a1,a2,a3,a6,a7,a8,a9⟩:=oh.out;have e1:∀ W:World,(binOp .eql 27 (.agg #[vI h.a.row.a,vI h.a.row.n]) (.agg #[vI 0,vI 0])).run Tryz.prog W=.ok (.bool true) W:=fun W=>by have:=dG h.a.row id0 W;rwa [decide_eq_true hr.out]at this
 have e2:∀ W:World,(binOp .eql 27 (.agg #[vI h.a.col.a,vI h.a.col.n]) (.agg #[vI 0,vI 0])).run Tryz.prog W=.ok (.bool false) W:=fun W=>by have:=dG h.a.col id0 W;rwa [decide_eq_false hc.out]at this
 go_upto_region 10 with fail
 refine wp_region_held_drew (S:=fun w'=>w'.cell? ⟨p,1,none⟩=some (.pointer (ptr cp))/\ArX h w.heap.size w') (by kernel_rfl) (ec.out _ _ _ _ _ (gh.out _ _ _ _ _ _ cv.out zB.drew)) (fun ag=>?_);refine TkA 0 (vP p 0) ?_;refine TkA 1 (vP p 0) ?_;refine TkA 2 (vP p 1) ?_;refine TkB 3 (.pointer (ptr cp)) ?_;refine TkA 4 (vP w.heap.size 0) ?_;refine TkA 5 (vP w.heap.size 2) ?_;refine TkB 6 (.agg #[vI h.a.col.a,vI h.a.col.n]) ?_;refine TkA 7 (vP w.heap.size 6) ?_;refine TkA 8 (vP w.heap.size 8) ?_;refine TkB 9 (.agg #[vI h.b.col.a,vI h.b.col.n]) ?_;refine TkR 10 (fun K hK=>?_)
 go_simp
 go_at_call 194
 refine(CE1.out _ _ _ _ _ (gh.out _ _ _ _ _ _ cv.out zB.drew)).mono ?_;rintro e wx ⟨rfl,mg⟩;have gj:=zh mg;clear mg
 go_wp2_with fail
 refine hK.out _ _ (ec.out _ _ _ _ _ gj.out) (fun aa=>?_);clear hK K ag;have ag:=aa;clear aa;refine TkA 11 (.tuple #[vI 0,vI 0,.bool false]) ?_;refine TkA 12 (vI 0) ?_;refine TkA 13 (vI 0) ?_;refine TkA 14 (.bool false) ?_;refine TkA 15 (vP W0.heap.size 1) ?_;obtain⟨k0,k1,f0,f1⟩:=ou.out _ _ _ _ _ gj.out;refine TkR 16 (fun K hK=>?_)
 go_simp
 clear k0 k1 f0 f1;have gm:=zh (j9.out _ _ _ _ _ 0 gj.out);refine hK.out _ _ (ec.out _ _ _ _ _ gm.out) (fun aa=>?_);clear hK K ag;have ag:=aa;clear aa;refine TkA 17 (vP W1.heap.size 1) ?_;obtain⟨k0,k1,f0,f1⟩:=ox.out _ _ _ _ _ gm.out;refine TkR 18 (fun K hK=>?_)
 go_simp
 clear k0 k1 f0 f1;have gr:=zh (kg.out _ _ _ _ _ 0 gm.out);refine hK.out _ _ (ec.out _ _ _ _ _ gr.out) (fun aa=>?_);clear hK K ag;have ag:=aa;clear aa;refine TkA 19 (.bool false) ?_;refine TkD ?_
 (try simp only[Act.put,yz])
 obtain⟨W9,ju⟩:∃ W9,W9=(wx.setCell ⟨W0.heap.size,1,none⟩ (vI 0)).setCell ⟨W1.heap.size,1,none⟩ (vI 0):=⟨_,rfl⟩
 rw[<- ju];rw[<- ju]at gr;clear ju gj gm ag cv;have cv:=gr;clear gr;clear a0 a1 a2 a3 a6 a7 a8 a9;clear e1 e2;have HK:=zh (pn.out _ _ _ _ _ cv.out)
 go_wp2_with ((with_reducible refine(CG.out _ _ _ _ _ cv.out).mono ?_);rintro e wx ⟨rfl,hs,hk⟩;have jv:=zh hs;have gd:=zh (HK.out.trans hk);clear hs hk)
 go_end0
 exact⟨rfl,jv.out,gd.out⟩
theorem uAH{p m:Nat}{rp cp:Option Nat}{R C:AxV}{sff:FuncId}{sfx:Array Value}{ts:List RTok}(h:NodeH)(w:World)(hw:WrS w p m rp cp R C (.func (.func sff) #[] sfx) ts)(hn:ts.length<=700000)(hr:Hid (h.a.row=id0))(hc:Hid (h.a.col≠id0))(i1 i2:Int)(kl:∀ W,WrS W p m rp cp R C (.func (.func sff) #[] sfx) ts->Calls Tryz.prog 194 #[.pointer (ptr cp),.agg #[vI h.a.col.a,vI h.a.col.n],.agg #[vI h.b.col.a,vI h.b.col.n]] W fun e w'=>e=.returned (.tuple #[vI i1,vI i2,.bool true])/\WrS w' p m rp cp R C (.func (.func sff) #[] sfx) ts/\Kw p (rp.toList++cp.toList) W w')(t1 t2:RTok)(hF:∀ xs W,Sem.run Tryz.prog (callFunc sff xs) W=.ok (.enter sff xs) W)(hT:∀ W,Kw p (rp.toList++cp.toList) w W->Calls Tryz.prog sff (#[.agg #[vI 0,vI i1,.bool h.a.fr,.bool h.a.fc],vI 2]++sfx) W fun e w'=>e=.returned (eD t1)/\Below W.heap.size W w')(hU:∀ W,Kw p (rp.toList++cp.toList) w W->Calls Tryz.prog sff (#[.agg #[vI 0,vI i2,.bool h.b.fr,.bool h.b.fc],vI 2]++sfx) W fun e w'=>e=.returned (eD t2)/\Below W.heap.size W w') :
  Calls Tryz.prog 139 #[vP p 0,.agg #[vI h.a.row.a,vI h.a.row.n,vI h.a.col.a,vI h.a.col.n,.bool h.a.fr,.bool h.a.fc,vI h.b.row.a,vI h.b.row.n,vI h.b.col.a,vI h.b.col.n,.bool h.b.fr,.bool h.b.fc]] w fun e w'=>WrO p m rp cp R C (.func (.func sff) #[] sfx) (ts++[t1]++[tk 5 [58]]++[t2]) w e w':=by
 obtain⟨W0,W1,W2,Z,aj,am,jx,fs,cv,gh,HA,ou,ox,sy,j8,j9,kc,kg,dz,ec,s7,s8,pn,qj,oh,lp,mz⟩:=gU h w hw;have hZ:=fs.out;have CE1:Hid (∀ x y u v W,Z x y u v W->Calls Tryz.prog 194 #[.pointer (ptr cp),.agg #[vI h.a.col.a,vI h.a.col.n],.agg #[vI h.b.col.a,vI h.b.col.n]] W fun e w'=>e=.returned (.tuple #[vI i1,vI i2,.bool true])/\Z x y u v w'):=zh (fun x y u v W g=>by
  obtain⟨g1,g2,g3,g4,g5⟩:=(hZ _ _ _ _ _).1 g;refine(kl W g1).mono ?_;rintro e w' ⟨rfl,k1,k2⟩;exact⟨rfl,(hZ _ _ _ _ _).2 ⟨k1,g2.trans k2,Kw.lies k2 g1 g3 (by decide) (by decide) (by decide),Kw.lies k2 g1 g4 (by decide) (by decide) (by decide),Kw.lies k2 g1 g5 (by decide) (by decide) (by decide)⟩⟩)
 have CT:=zh hT;have CU:=zh hU;have uz:Hid True:=zh trivial;obtain⟨tc,f8⟩:∃ x,x=tk 5 [58]:=⟨_,rfl⟩
 have CC:=zh (cB (p:=p) (m:=m) (rp:=rp) (cp:=cp) (R:=R) (C:=C) (sf:=.func (.func sff) #[] sfx) 5 [58] #[58] rfl tc f8);rw[<- f8];clear f8 hT hU;clear hw hZ
 go_in
 go_upto_region 1 with fail
 rw[<- aj.out];clear aj;obtain⟨-,a4,a5,a10,a11⟩:=lp.out
 go_upto_region 3 with fail
 rw[<- am.out];clear am lp a4 a5 a10 a11;obtain⟨a10,a11⟩:=mz.out
 go_upto_region 4 with fail
 rw[<- jx.out];clear jx mz a10 a11;obtain⟨a0,a1,a2,a3,a6,a7,a8,a9⟩:=oh.out;have e1:∀ W:World,(binOp .eql 27 (.agg #[vI h.a.row.a,vI h.a.row.n]) (.agg #[vI 0,vI 0])).run Tryz.prog W=.ok (.bool true) W:=fun W=>by have:=dG h.a.row id0 W;rwa [decide_eq_true hr.out]at this
 have e2:∀ W:World,(binOp .eql 27 (.agg #[vI h.a.col.a,vI h.a.col.n]) (.agg #[vI 0,vI 0])).run Tryz.prog W=.ok (.bool false) W:=fun W=>by have:=dG h.a.col id0 W;rwa [decide_eq_false hc.out]at this
 go_upto_region 10 with fail
 refine wp_region_held_drew (S:=fun w'=>w'.cell? ⟨p,1,none⟩=some (.pointer (ptr cp))/\ArX h w.heap.size w') (by kernel_rfl) (ec.out _ _ _ _ _ (gh.out _ _ _ _ _ _ cv.out zB.drew)) (fun ag=>?_);refine TkA 0 (vP p 0) ?_;refine TkA 1 (vP p 0) ?_;refine TkA 2 (vP p 1) ?_;refine TkB 3 (.pointer (ptr cp)) ?_;refine TkA 4 (vP w.heap.size 0) ?_;refine TkA 5 (vP w.heap.size 2) ?_;refine TkB 6 (.agg #[vI h.a.col.a,vI h.a.col.n]) ?_;refine TkA 7 (vP w.heap.size 6) ?_;refine TkA 8 (vP w.heap.size 8) ?_;refine TkB 9 (.agg #[vI h.b.col.a,vI h.b.col.n]) ?_;refine TkR 10 (fun K hK=>?_)
 go_simp
 go_at_call 194
 refine(CE1.out _ _ _ _ _ (gh.out _ _ _ _ _ _ cv.out zB.drew)).mono ?_;rintro e wx ⟨rfl,mg⟩;have gj:=zh mg;clear mg
 go_wp2_with fail
 refine hK.out _ _ (ec.out _ _ _ _ _ gj.out) (fun aa=>?_);clear hK K ag;have ag:=aa;clear aa;refine TkA 11 (.tuple #[vI i1,vI i2,.bool true]) ?_;refine TkA 12 (vI i1) ?_;refine TkA 13 (vI i2) ?_;refine TkA 14 (.bool true) ?_;refine TkA 15 (vP W0.heap.size 1) ?_;obtain⟨k0,k1,f0,f1⟩:=ou.out _ _ _ _ _ gj.out;refine TkR 16 (fun K hK=>?_)
 go_simp
 clear k0 k1 f0 f1;have gm:=zh (j9.out _ _ _ _ _ i1 gj.out);refine hK.out _ _ (ec.out _ _ _ _ _ gm.out) (fun aa=>?_);clear hK K ag;have ag:=aa;clear aa;refine TkA 17 (vP W1.heap.size 1) ?_;obtain⟨k0,k1,f0,f1⟩:=ox.out _ _ _ _ _ gm.out;refine TkR 18 (fun K hK=>?_)
 go_simp
 clear k0 k1 f0 f1;have gr:=zh (kg.out _ _ _ _ _ i2 gm.out);refine hK.out _ _ (ec.out _ _ _ _ _ gr.out) (fun aa=>?_);clear hK K ag;have ag:=aa;clear aa;refine TkA 19 (.bool true) ?_;refine TkD ?_
 (try simp only[Act.put,yz])
 obtain⟨W9,ju⟩:∃ W9,W9=(wx.setCell ⟨W0.heap.size,1,none⟩ (vI i1)).setCell ⟨W1.heap.size,1,none⟩ (vI i2):=⟨_,rfl⟩
 rw[<- ju];rw[<- ju]at gr;clear ju gj gm ag cv;have cv:=gr;clear gr;clear a0 a1 a2 a3 a6 a7 a8 a9;clear e1 e2 CE1;have vc:=zh (pn.out _ _ _ _ _ cv.out);have mo:=zh (sy.out _ _ _ _ _ cv.out);have vd:=zh (s7.out _ _ _ _ _ cv.out);have ve:=zh (s8.out _ _ _ _ _ cv.out);clear fs gh HA ou ox sy j8 j9 kc kg dz ec s7 s8 pn cv oh
 go_upto_region 13 with fail
 go_cut [] (fun wx=>Hid (WrS wx p m rp cp R C (.func (.func sff) #[] sfx) (ts++[t1]))/\Hid (Kw p (rp.toList++cp.toList) w wx)/\Hid (Lies wx W1.heap.size 90 #[vI 0,vI i2,.bool h.b.fr,.bool h.b.fc]))
 case first=>
  have gw:Hid (WrS W9 p m rp cp R C (.func (.func sff) #[] sfx) ts):=mo;have HK:Hid (Kw p (rp.toList++cp.toList) w W9):=vc;have iq:Hid (Lies W9 W0.heap.size 90 #[vI 0,vI i1,.bool h.a.fr,.bool h.a.fc]):=vd;have cr:Hid (Lies W9 W1.heap.size 90 #[vI 0,vI i2,.bool h.b.fr,.bool h.b.fc]):=ve;clear mo vc vd ve;obtain⟨W6,lx⟩:=zD W9
  rw[<- lx]at gw HK iq cr ⊢;clear lx;have mh:Hid (p<W0.heap.size):=zh qj.out.1;have eu:Hid (p<W1.heap.size):=zh qj.out.2;obtain⟨v0,el,jq⟩:=gw.out.box;obtain⟨A1,c1,rfl⟩:=aV jq;have db:=zh el;have fg:=zh jq;have j7:Hid (∀ W,Below W6.heap.size W6 W->Kw p (rp.toList++cp.toList) w W):=zh (fun W hb=>HK.out.trans (Kw.of_below hb));clear el jq;have bp:Hid (∀ W,Below W6.heap.size W6 W->SaX sff sfx p W0.heap.size 0 i1 h.a.fr h.a.fc W):=zh (fun W hb=>⟨(db.out.next hb).cell 3,(iq.out.next hb).cell 0,(iq.out.next hb).cell 1,(iq.out.next hb).cell 2,(iq.out.next hb).cell 3⟩);refine wp_region_held_drew (S:=fun w'=>SaX sff sfx p W0.heap.size 0 i1 h.a.fr h.a.fc w') (by kernel_rfl) (bp.out _ zB.drew) (fun ag=>?_);refine TkA 0 (vP p 0) ?_;refine TkA 1 (vP p 0) ?_;refine TkA 2 (vP p 0) ?_
  refine TkA 3 (vP p 4) ?_;refine TkA 5 (vP p 0) ?_;refine TkA 6 (vP p 0) ?_;refine TkA 7 (vP p 3) ?_;refine TkB 8 (.func (.func sff) #[] sfx) ?_;refine TkB 9 (.agg #[vI 0,vI i1,.bool h.a.fr,.bool h.a.fc]) ?_;refine TkA 10 (vI 2) ?_;have ae:Hid (Below W6.heap.size W6 W6.drew):=zh zB.drew;refine wpAnyH_ready (rs:=[4,11]) (by kernel_rfl) (by simp) ?_;refine AllReadyH.cons rfl (fun K hK=>?pa1) (AllReadyH.cons rfl (fun K hK=>?pb1) AllReadyH.nil)
  case' pa1=>
   have c4:=(db.out.next ae.out).cell 4;simp only[za,zb,zf]at c4
   go_simp
   clear c4;refine hK.out _ _ (bp.out _ ae.out) (fun aa=>?_);clear hK K ag;have ag:=aa;clear aa;refine TkR 11 (fun K hK=>?_)
   go_simp
   refine(CT.out _ (j7.out _ ae.out)).mono ?_;rintro e wx ⟨rfl,hb⟩;replace ae:=zT ae hb;clear hb
   go_wp2_with fail
   refine hK.out _ _ (bp.out _ ae.out) (fun aa=>?_);clear hK K ag;have ag:=aa;clear aa;refine TkR 12 (fun K hK=>?_)
   go_simp
   obtain⟨W7,ba⟩:=zD (wx.alloc (.cells #[vI t1.kind,vT t1.text,vI t1.place] 64))
   rw[<- ba];have jr:=zL ba;replace ae:=zF ae ba;clear ba;refine hK.out _ _ (bp.out _ ae.out) (fun aa=>?_);clear hK K ag;have ag:=aa;clear aa
  case' pb1=>
   go_simp
   refine(CT.out _ (j7.out _ ae.out)).mono ?_;rintro e wx ⟨rfl,hb⟩;replace ae:=zT ae hb;clear hb
   go_wp2_with fail
   refine hK.out _ _ (bp.out _ ae.out) (fun aa=>?_);clear hK K ag;have ag:=aa;clear aa;refine wpAnyH_ready (rs:=[4,12]) (by kernel_rfl) (by simp) ?_;refine AllReadyH.cons rfl (fun K hK=>?pc1) (AllReadyH.cons rfl (fun K hK=>?pd1) AllReadyH.nil)
   case' pc1=>
    have c4:=(db.out.next ae.out).cell 4;simp only[za,zb,zf]at c4
    go_simp
    clear c4;refine hK.out _ _ (bp.out _ ae.out) (fun aa=>?_);clear hK K ag;have ag:=aa;clear aa;refine TkR 12 (fun K hK=>?_)
    go_simp
    obtain⟨W7,ba⟩:=zD (wx.alloc (.cells #[vI t1.kind,vT t1.text,vI t1.place] 64))
    rw[<- ba];have jr:=zL ba;replace ae:=zF ae ba;clear ba;refine hK.out _ _ (bp.out _ ae.out) (fun aa=>?_);clear hK K ag;have ag:=aa;clear aa
   case' pd1=>
    go_simp
    obtain⟨W7,ba⟩:=zD (wx.alloc (.cells #[vI t1.kind,vT t1.text,vI t1.place] 64))
    rw[<- ba];have jr:=zL ba;replace ae:=zF ae ba;clear ba;refine hK.out _ _ (bp.out _ ae.out) (fun aa=>?_);clear hK K ag;have ag:=aa;clear aa;refine TkR 4 (fun K hK=>?_);have c4:=(db.out.next ae.out).cell 4;simp only[za,zb,zf]at c4
    go_simp
    clear c4;refine hK.out _ _ (bp.out _ ae.out) (fun aa=>?_);clear hK K ag;have ag:=aa;clear aa
  all_goals
   refine TkR 13 (fun K hK=>?_);refine cH rfl _ _ rfl (p+1) (.slice A1 ts.length c1) ts t1 wx.heap.size rfl (aD ae.out fg.out) rfl jr.out (by omega) (yv (Nat.succ_le_of_lt gw.out.lt) ae.out.size) ?_;intro A5 c5 w5 k5 g5;have dg:=zh k5;have q8:=zh g5;have dy:=zh ((db.out.next ae.out).grownA g5 (bF (by decide) (aD ae.out fg.out) (db.out.next ae.out)));have ir:=zh ((iq.out.next ae.out).grownA g5 (bF (by decide) (aD ae.out fg.out) (iq.out.next ae.out)));have ev:=zh ((cr.out.next ae.out).grownA g5 (bF (by decide) (aD ae.out fg.out) (cr.out.next ae.out)));clear k5 g5;refine hK.out _ _ ⟨dy.out.cell 3,ir.out.cell 0,ir.out.cell 1,ir.out.cell 2,ir.out.cell 3⟩ (fun aa=>?_);clear hK K ag;have ag:=aa;clear aa;refine TkA 14 (vP p 0) ?_
   refine TkA 15 (vP p 4) ?_;have k4:=dy.out.cell 4;simp only[za,zb,zf]at k4;have k4f:=dy.out.frozen 4;refine TkR 16 (fun K hK=>?_)
   go_simp
   clear k4 k4f;have ma:=zh ((gw.out.next ae.out).grown (ts':=ts++[t1]) ((db.out.next ae.out).cell 4) dg.out q8.out);have ra:=zh ((HK.out.trans (Kw.of_below ae.out)).trans ma.out.2);have rd:=zh ma.out.1;have kh:=zh (aC ir.out (b:=p) (by have:=mh.out;omega) 4 (.slice A5 (ts.length+1) c5));have f6:=zh (aC ev.out (b:=p) (by have:=eu.out;omega) 4 (.slice A5 (ts.length+1) c5));have nf:=zh (dy.out.put 4 (.slice A5 (ts.length+1) c5));refine hK.out _ _ ⟨nf.out.cell 3,kh.out.cell 0,kh.out.cell 1,kh.out.cell 2,kh.out.cell 3⟩ (fun aa=>?_);clear hK K ag aa;refine TkD ?_
   (try simp only[Act.put,yz])
   go_wp2_with fail
   go_meet
   exact⟨rd,ra,f6⟩
 case rest=>
 clear mo vc vd ve CT uz;obtain⟨HSa,HKa,cr⟩:=hcut;obtain⟨W7,ba⟩:=zD wc
 subst ba
 go_upto_region 15 with((with_reducible refine(CC.out _ _ HSa.out (by simp;omega)).mono ?_);rintro e wx ⟨rfl,hs,hk⟩;have gw:=zh hs;have HK:=zh (HKa.out.trans hk);have po:=zh (Kw.lies hk HSa.out cr.out (by decide) (by decide) (by decide));clear hs hk)
 replace cr:=po;clear po;obtain⟨us,r7⟩:=zD (ts++[t1]++[tc])
 rw[<- r7]at gw;have HUs:=zh r7;have vt:us.length<=700002:=by rw[r7];simp;omega
 clear r7;obtain⟨W6,lx⟩:=zD wx
 subst lx;have eu:Hid (p<W1.heap.size):=zh qj.out.2;obtain⟨v0,el,jq⟩:=gw.out.box;obtain⟨A1,c1,rfl⟩:=aV jq;have db:=zh el;have fg:=zh jq;have j7:Hid (∀ W,Below W6.heap.size W6 W->Kw p (rp.toList++cp.toList) w W):=zh (fun W hb=>HK.out.trans (Kw.of_below hb));clear el jq;have bp:Hid (∀ W,Below W6.heap.size W6 W->SaX sff sfx p W1.heap.size 0 i2 h.b.fr h.b.fc W):=zh (fun W hb=>⟨(db.out.next hb).cell 3,(cr.out.next hb).cell 0,(cr.out.next hb).cell 1,(cr.out.next hb).cell 2,(cr.out.next hb).cell 3⟩);refine wp_region_held_drew (S:=fun w'=>SaX sff sfx p W1.heap.size 0 i2 h.b.fr h.b.fc w') (by kernel_rfl) (bp.out _ zB.drew) (fun ag=>?_);refine TkA 0 (vP p 0) ?_;refine TkA 1 (vP p 0) ?_;refine TkA 2 (vP p 0) ?_;refine TkA 3 (vP p 4) ?_
 refine TkA 5 (vP p 0) ?_;refine TkA 6 (vP p 0) ?_;refine TkA 7 (vP p 3) ?_;refine TkB 8 (.func (.func sff) #[] sfx) ?_;refine TkB 9 (.agg #[vI 0,vI i2,.bool h.b.fr,.bool h.b.fc]) ?_;refine TkA 10 (vI 2) ?_;have ae:Hid (Below W6.heap.size W6 W6.drew):=zh zB.drew;refine wpAnyH_ready (rs:=[4,11]) (by kernel_rfl) (by simp) ?_;refine AllReadyH.cons rfl (fun K hK=>?pa2) (AllReadyH.cons rfl (fun K hK=>?pb2) AllReadyH.nil)
 case' pa2=>
  have c4:=(db.out.next ae.out).cell 4;simp only[za,zb,zf]at c4
  go_simp
  clear c4;refine hK.out _ _ (bp.out _ ae.out) (fun aa=>?_);clear hK K ag;have ag:=aa;clear aa;refine TkR 11 (fun K hK=>?_)
  go_simp
  refine(CU.out _ (j7.out _ ae.out)).mono ?_;rintro e wx ⟨rfl,hb⟩;replace ae:=zT ae hb;clear hb
  go_wp2_with fail
  refine hK.out _ _ (bp.out _ ae.out) (fun aa=>?_);clear hK K ag;have ag:=aa;clear aa;refine TkR 12 (fun K hK=>?_)
  go_simp
  obtain⟨W7,ba⟩:=zD (wx.alloc (.cells #[vI t2.kind,vT t2.text,vI t2.place] 64))
  rw[<- ba];have jr:=zL ba;replace ae:=zF ae ba;clear ba;refine hK.out _ _ (bp.out _ ae.out) (fun aa=>?_);clear hK K ag;have ag:=aa;clear aa
 case' pb2=>
  go_simp
  refine(CU.out _ (j7.out _ ae.out)).mono ?_;rintro e wx ⟨rfl,hb⟩;replace ae:=zT ae hb;clear hb
  go_wp2_with fail
  refine hK.out _ _ (bp.out _ ae.out) (fun aa=>?_);clear hK K ag;have ag:=aa;clear aa;refine wpAnyH_ready (rs:=[4,12]) (by kernel_rfl) (by simp) ?_;refine AllReadyH.cons rfl (fun K hK=>?pc2) (AllReadyH.cons rfl (fun K hK=>?pd2) AllReadyH.nil)
  case' pc2=>
   have c4:=(db.out.next ae.out).cell 4;simp only[za,zb,zf]at c4
   go_simp
   clear c4;refine hK.out _ _ (bp.out _ ae.out) (fun aa=>?_);clear hK K ag;have ag:=aa;clear aa;refine TkR 12 (fun K hK=>?_)
   go_simp
   obtain⟨W7,ba⟩:=zD (wx.alloc (.cells #[vI t2.kind,vT t2.text,vI t2.place] 64))
   rw[<- ba];have jr:=zL ba;replace ae:=zF ae ba;clear ba;refine hK.out _ _ (bp.out _ ae.out) (fun aa=>?_);clear hK K ag;have ag:=aa;clear aa
  case' pd2=>
   go_simp
   obtain⟨W7,ba⟩:=zD (wx.alloc (.cells #[vI t2.kind,vT t2.text,vI t2.place] 64))
   rw[<- ba];have jr:=zL ba;replace ae:=zF ae ba;clear ba;refine hK.out _ _ (bp.out _ ae.out) (fun aa=>?_);clear hK K ag;have ag:=aa;clear aa;refine TkR 4 (fun K hK=>?_);have c4:=(db.out.next ae.out).cell 4;simp only[za,zb,zf]at c4
   go_simp
   clear c4;refine hK.out _ _ (bp.out _ ae.out) (fun aa=>?_);clear hK K ag;have ag:=aa;clear aa
 all_goals
  refine TkR 13 (fun K hK=>?_);refine cH rfl _ _ rfl (p+1) (.slice A1 us.length c1) us t2 wx.heap.size rfl (aD ae.out fg.out) rfl jr.out (by omega) (yv (Nat.succ_le_of_lt gw.out.lt) ae.out.size) ?_;intro A5 c5 w5 k5 g5;have dg:=zh k5;have q8:=zh g5;have dy:=zh ((db.out.next ae.out).grownA g5 (bF (by decide) (aD ae.out fg.out) (db.out.next ae.out)));have ev:=zh ((cr.out.next ae.out).grownA g5 (bF (by decide) (aD ae.out fg.out) (cr.out.next ae.out)));clear k5 g5;refine hK.out _ _ ⟨dy.out.cell 3,ev.out.cell 0,ev.out.cell 1,ev.out.cell 2,ev.out.cell 3⟩ (fun aa=>?_);clear hK K ag;have ag:=aa;clear aa;refine TkA 14 (vP p 0) ?_;refine TkA 15 (vP p 4) ?_;have k4:=dy.out.cell 4;simp only[za,zb,zf]at k4
  have k4f:=dy.out.frozen 4;refine TkR 16 (fun K hK=>?_)
  go_simp
  clear k4 k4f;have ma:=zh ((gw.out.next ae.out).grown (ts':=us++[t2]) ((db.out.next ae.out).cell 4) dg.out q8.out);have ra:=zh ((HK.out.trans (Kw.of_below ae.out)).trans ma.out.2);have rd:=zh ma.out.1;have f6:=zh (aC ev.out (b:=p) (by have:=eu.out;omega) 4 (.slice A5 (us.length+1) c5));have nf:=zh (dy.out.put 4 (.slice A5 (us.length+1) c5));refine hK.out _ _ ⟨nf.out.cell 3,f6.out.cell 0,f6.out.cell 1,f6.out.cell 2,f6.out.cell 3⟩ (fun aa=>?_);clear hK K ag aa;refine TkD ?_
  (try simp only[Act.put,yz])
  go_wp2_with fail
  go_end0
  exact⟨rfl,by rw[<- HUs.out];exact rd.out,ra.out⟩
theorem uQ{p m:Nat}{rp cp:Option Nat}{R C:AxV}{sff:FuncId}{sfx:Array Value}{ts:List RTok}(h:NodeH)(w:World)(hw:WrS w p m rp cp R C (.func (.func sff) #[] sfx) ts)(hn:ts.length<=700000)(hr:Hid (h.a.row≠id0))(hc:Hid (h.a.col=id0))(hE0:∀ W,WrS W p m rp cp R C (.func (.func sff) #[] sfx) ts->Calls Tryz.prog 194 #[.pointer (ptr rp),.agg #[vI h.a.row.a,vI h.a.row.n],.agg #[vI h.b.row.a,vI h.b.row.n]] W fun e w'=>e=.returned (.tuple #[vI 0,vI 0,.bool false])/\WrS w' p m rp cp R C (.func (.func sff) #[] sfx) ts/\Kw p (rp.toList++cp.toList) W w') :
  Calls Tryz.prog 139 #[vP p 0,.agg #[vI h.a.row.a,vI h.a.row.n,vI h.a.col.a,vI h.a.col.n,.bool h.a.fr,.bool h.a.fc,vI h.b.row.a,vI h.b.row.n,vI h.b.col.a,vI h.b.col.n,.bool h.b.fr,.bool h.b.fc]] w fun e w'=>WrO p m rp cp R C (.func (.func sff) #[] sfx) (ts++dC) w e w':=by
 obtain⟨W0,W1,W2,Z,aj,am,jx,fs,cv,gh,HA,ou,ox,sy,j8,j9,kc,kg,dz,ec,s7,s8,pn,qj,oh,lp,mz⟩:=gU h w hw;have hZ:=fs.out;have CE0:Hid (∀ x y u v W,Z x y u v W->Calls Tryz.prog 194 #[.pointer (ptr rp),.agg #[vI h.a.row.a,vI h.a.row.n],.agg #[vI h.b.row.a,vI h.b.row.n]] W fun e w'=>e=.returned (.tuple #[vI 0,vI 0,.bool false])/\Z x y u v w'):=zh (fun x y u v W g=>by
  obtain⟨g1,g2,g3,g4,g5⟩:=(hZ _ _ _ _ _).1 g;refine(hE0 W g1).mono ?_;rintro e w' ⟨rfl,k1,k2⟩;exact⟨rfl,(hZ _ _ _ _ _).2 ⟨k1,g2.trans k2,Kw.lies k2 g1 g3 (by decide) (by decide) (by decide),Kw.lies k2 g1 g4 (by decide) (by decide) (by decide),Kw.lies k2 g1 g5 (by decide) (by decide) (by decide)⟩⟩)
 have CG:Hid (∀ x y u v W,Z x y u v W->Calls Tryz.prog 193 #[vP p 0] W fun e w'=>WrO p m rp cp R C (.func (.func sff) #[] sfx) (ts++dC) W e w'):=zh (fun x y u v W g=>mA W ((hZ _ _ _ _ _).1 g).1 (by omega));clear hw hZ
 go_in
 go_upto_region 1 with fail
 rw[<- aj.out];clear aj;obtain⟨-,a4,a5,a10,a11⟩:=lp.out
 go_upto_region 3 with fail
 rw[<- am.out];clear am lp a4 a5 a10 a11;obtain⟨a10,a11⟩:=mz.out
 go_upto_region 4 with fail
 rw[<- jx.out];clear jx mz a10 a11;obtain⟨a0,a1,a2,a3,a6,a7,a8,a9⟩:=oh.out;have e1:∀ W:World,(binOp .eql 27 (.agg #[vI h.a.row.a,vI h.a.row.n]) (.agg #[vI 0,vI 0])).run Tryz.prog W=.ok (.bool false) W:=fun W=>by have:=dG h.a.row id0 W;rwa [decide_eq_false hr.out]at this
 have e2:∀ W:World,(binOp .eql 27 (.agg #[vI h.a.col.a,vI h.a.col.n]) (.agg #[vI 0,vI 0])).run Tryz.prog W=.ok (.bool true) W:=fun W=>by have:=dG h.a.col id0 W;rwa [decide_eq_true hc.out]at this
 go_upto_region 7 with fail
 refine wp_region_held_drew (S:=fun w'=>w'.cell? ⟨p,0,none⟩=some (.pointer (ptr rp))/\ArX h w.heap.size w') (by kernel_rfl) (dz.out _ _ _ _ _ (gh.out _ _ _ _ _ _ cv.out zB.drew)) (fun ag=>?_);refine TkA 0 (vP p 0) ?_;refine TkA 1 (vP p 0) ?_;refine TkA 2 (vP p 0) ?_;refine TkB 3 (.pointer (ptr rp)) ?_;refine TkA 4 (vP w.heap.size 0) ?_;refine TkA 5 (vP w.heap.size 0) ?_;refine TkB 6 (.agg #[vI h.a.row.a,vI h.a.row.n]) ?_;refine TkA 7 (vP w.heap.size 6) ?_;refine TkA 8 (vP w.heap.size 6) ?_;refine TkB 9 (.agg #[vI h.b.row.a,vI h.b.row.n]) ?_;refine TkR 10 (fun K hK=>?_)
 go_simp
 go_at_call 194
 refine(CE0.out _ _ _ _ _ (gh.out _ _ _ _ _ _ cv.out zB.drew)).mono ?_;rintro e wx ⟨rfl,mg⟩;have gj:=zh mg;clear mg
 go_wp2_with fail
 refine hK.out _ _ (dz.out _ _ _ _ _ gj.out) (fun aa=>?_);clear hK K ag;have ag:=aa;clear aa;refine TkA 11 (.tuple #[vI 0,vI 0,.bool false]) ?_;refine TkA 12 (vI 0) ?_;refine TkA 13 (vI 0) ?_;refine TkA 14 (.bool false) ?_;refine TkA 15 (vP W0.heap.size 0) ?_;obtain⟨k0,k1,f0,f1⟩:=ou.out _ _ _ _ _ gj.out;refine TkR 16 (fun K hK=>?_)
 go_simp
 clear k0 k1 f0 f1;have gm:=zh (j8.out _ _ _ _ _ 0 gj.out);refine hK.out _ _ (dz.out _ _ _ _ _ gm.out) (fun aa=>?_);clear hK K ag;have ag:=aa;clear aa;refine TkA 17 (vP W1.heap.size 0) ?_;obtain⟨k0,k1,f0,f1⟩:=ox.out _ _ _ _ _ gm.out;refine TkR 18 (fun K hK=>?_)
 go_simp
 clear k0 k1 f0 f1;have gr:=zh (kc.out _ _ _ _ _ 0 gm.out);refine hK.out _ _ (dz.out _ _ _ _ _ gr.out) (fun aa=>?_);clear hK K ag;have ag:=aa;clear aa;refine TkA 19 (.bool false) ?_;refine TkD ?_
 (try simp only[Act.put,yz])
 obtain⟨W9,ju⟩:∃ W9,W9=(wx.setCell ⟨W0.heap.size,0,none⟩ (vI 0)).setCell ⟨W1.heap.size,0,none⟩ (vI 0):=⟨_,rfl⟩
 rw[<- ju];rw[<- ju]at gr;clear ju gj gm ag cv;have cv:=gr;clear gr;clear a0 a1 a2 a3 a6 a7 a8 a9;obtain⟨a0,a1,a2,a3,a6,a7,a8,a9⟩:=HA.out _ _ _ _ _ cv.out;have HK:=zh (pn.out _ _ _ _ _ cv.out)
 go_wp2_with ((with_reducible refine(CG.out _ _ _ _ _ cv.out).mono ?_);rintro e wx ⟨rfl,hs,hk⟩;have jv:=zh hs;have gd:=zh (HK.out.trans hk);clear hs hk)
 go_end0
 exact⟨rfl,jv.out,gd.out⟩
theorem uAI{p m:Nat}{rp cp:Option Nat}{R C:AxV}{sff:FuncId}{sfx:Array Value}{ts:List RTok}(h:NodeH)(w:World)(hw:WrS w p m rp cp R C (.func (.func sff) #[] sfx) ts)(hn:ts.length<=700000)(hr:Hid (h.a.row≠id0))(hc:Hid (h.a.col=id0))(i1 i2:Int)(hE0:∀ W,WrS W p m rp cp R C (.func (.func sff) #[] sfx) ts->Calls Tryz.prog 194 #[.pointer (ptr rp),.agg #[vI h.a.row.a,vI h.a.row.n],.agg #[vI h.b.row.a,vI h.b.row.n]] W fun e w'=>e=.returned (.tuple #[vI i1,vI i2,.bool true])/\WrS w' p m rp cp R C (.func (.func sff) #[] sfx) ts/\Kw p (rp.toList++cp.toList) W w')(t1 t2:RTok)(hF:∀ xs W,Sem.run Tryz.prog (callFunc sff xs) W=.ok (.enter sff xs) W)(hT:∀ W,Kw p (rp.toList++cp.toList) w W->Calls Tryz.prog sff (#[.agg #[vI i1,vI 0,.bool h.a.fr,.bool h.a.fc],vI 1]++sfx) W fun e w'=>e=.returned (eD t1)/\Below W.heap.size W w')(hU:∀ W,Kw p (rp.toList++cp.toList) w W->Calls Tryz.prog sff (#[.agg #[vI i2,vI 0,.bool h.b.fr,.bool h.b.fc],vI 1]++sfx) W fun e w'=>e=.returned (eD t2)/\Below W.heap.size W w') :
  Calls Tryz.prog 139 #[vP p 0,.agg #[vI h.a.row.a,vI h.a.row.n,vI h.a.col.a,vI h.a.col.n,.bool h.a.fr,.bool h.a.fc,vI h.b.row.a,vI h.b.row.n,vI h.b.col.a,vI h.b.col.n,.bool h.b.fr,.bool h.b.fc]] w fun e w'=>WrO p m rp cp R C (.func (.func sff) #[] sfx) (ts++[t1]++[tk 5 [58]]++[t2]) w e w':=by
 obtain⟨W0,W1,W2,Z,aj,am,jx,fs,cv,gh,HA,ou,ox,sy,j8,j9,kc,kg,dz,ec,s7,s8,pn,qj,oh,lp,mz⟩:=gU h w hw;have hZ:=fs.out;have CE0:Hid (∀ x y u v W,Z x y u v W->Calls Tryz.prog 194 #[.pointer (ptr rp),.agg #[vI h.a.row.a,vI h.a.row.n],.agg #[vI h.b.row.a,vI h.b.row.n]] W fun e w'=>e=.returned (.tuple #[vI i1,vI i2,.bool true])/\Z x y u v w'):=zh (fun x y u v W g=>by
  obtain⟨g1,g2,g3,g4,g5⟩:=(hZ _ _ _ _ _).1 g;refine(hE0 W g1).mono ?_;rintro e w' ⟨rfl,k1,k2⟩;exact⟨rfl,(hZ _ _ _ _ _).2 ⟨k1,g2.trans k2,Kw.lies k2 g1 g3 (by decide) (by decide) (by decide),Kw.lies k2 g1 g4 (by decide) (by decide) (by decide),Kw.lies k2 g1 g5 (by decide) (by decide) (by decide)⟩⟩)
 have CT:=zh hT;have CU:=zh hU;have uz:Hid True:=zh trivial;obtain⟨tc,f8⟩:∃ x,x=tk 5 [58]:=⟨_,rfl⟩
 have CC:=zh (cB (p:=p) (m:=m) (rp:=rp) (cp:=cp) (R:=R) (C:=C) (sf:=.func (.func sff) #[] sfx) 5 [58] #[58] rfl tc f8);rw[<- f8];clear f8 hT hU;clear hw hZ
 go_in
 go_upto_region 1 with fail
 rw[<- aj.out];clear aj;obtain⟨-,a4,a5,a10,a11⟩:=lp.out
 go_upto_region 3 with fail
 rw[<- am.out];clear am lp a4 a5 a10 a11;obtain⟨a10,a11⟩:=mz.out
 go_upto_region 4 with fail
 rw[<- jx.out];clear jx mz a10 a11;obtain⟨a0,a1,a2,a3,a6,a7,a8,a9⟩:=oh.out;have e1:∀ W:World,(binOp .eql 27 (.agg #[vI h.a.row.a,vI h.a.row.n]) (.agg #[vI 0,vI 0])).run Tryz.prog W=.ok (.bool false) W:=fun W=>by have:=dG h.a.row id0 W;rwa [decide_eq_false hr.out]at this
 have e2:∀ W:World,(binOp .eql 27 (.agg #[vI h.a.col.a,vI h.a.col.n]) (.agg #[vI 0,vI 0])).run Tryz.prog W=.ok (.bool true) W:=fun W=>by have:=dG h.a.col id0 W;rwa [decide_eq_true hc.out]at this
 go_upto_region 7 with fail
 refine wp_region_held_drew (S:=fun w'=>w'.cell? ⟨p,0,none⟩=some (.pointer (ptr rp))/\ArX h w.heap.size w') (by kernel_rfl) (dz.out _ _ _ _ _ (gh.out _ _ _ _ _ _ cv.out zB.drew)) (fun ag=>?_);refine TkA 0 (vP p 0) ?_;refine TkA 1 (vP p 0) ?_;refine TkA 2 (vP p 0) ?_;refine TkB 3 (.pointer (ptr rp)) ?_;refine TkA 4 (vP w.heap.size 0) ?_;refine TkA 5 (vP w.heap.size 0) ?_;refine TkB 6 (.agg #[vI h.a.row.a,vI h.a.row.n]) ?_;refine TkA 7 (vP w.heap.size 6) ?_;refine TkA 8 (vP w.heap.size 6) ?_;refine TkB 9 (.agg #[vI h.b.row.a,vI h.b.row.n]) ?_;refine TkR 10 (fun K hK=>?_)
 go_simp
 go_at_call 194
 refine(CE0.out _ _ _ _ _ (gh.out _ _ _ _ _ _ cv.out zB.drew)).mono ?_;rintro e wx ⟨rfl,mg⟩;have gj:=zh mg;clear mg
 go_wp2_with fail
 refine hK.out _ _ (dz.out _ _ _ _ _ gj.out) (fun aa=>?_);clear hK K ag;have ag:=aa;clear aa;refine TkA 11 (.tuple #[vI i1,vI i2,.bool true]) ?_;refine TkA 12 (vI i1) ?_;refine TkA 13 (vI i2) ?_;refine TkA 14 (.bool true) ?_;refine TkA 15 (vP W0.heap.size 0) ?_;obtain⟨k0,k1,f0,f1⟩:=ou.out _ _ _ _ _ gj.out;refine TkR 16 (fun K hK=>?_)
 go_simp
 clear k0 k1 f0 f1;have gm:=zh (j8.out _ _ _ _ _ i1 gj.out);refine hK.out _ _ (dz.out _ _ _ _ _ gm.out) (fun aa=>?_);clear hK K ag;have ag:=aa;clear aa;refine TkA 17 (vP W1.heap.size 0) ?_;obtain⟨k0,k1,f0,f1⟩:=ox.out _ _ _ _ _ gm.out;refine TkR 18 (fun K hK=>?_)
 go_simp
 clear k0 k1 f0 f1;have gr:=zh (kc.out _ _ _ _ _ i2 gm.out);refine hK.out _ _ (dz.out _ _ _ _ _ gr.out) (fun aa=>?_);clear hK K ag;have ag:=aa;clear aa;refine TkA 19 (.bool true) ?_;refine TkD ?_
 (try simp only[Act.put,yz])
 obtain⟨W9,ju⟩:∃ W9,W9=(wx.setCell ⟨W0.heap.size,0,none⟩ (vI i1)).setCell ⟨W1.heap.size,0,none⟩ (vI i2):=⟨_,rfl⟩
 rw[<- ju];rw[<- ju]at gr;clear ju gj gm ag cv;have cv:=gr;clear gr;clear a0 a1 a2 a3 a6 a7 a8 a9;obtain⟨a0,a1,a2,a3,a6,a7,a8,a9⟩:=HA.out _ _ _ _ _ cv.out;clear CE0;have vc:=zh (pn.out _ _ _ _ _ cv.out);have mo:=zh (sy.out _ _ _ _ _ cv.out);have vd:=zh (s7.out _ _ _ _ _ cv.out);have ve:=zh (s8.out _ _ _ _ _ cv.out);clear fs gh HA ou ox sy j8 j9 kc kg dz ec s7 s8 pn cv oh
 go_upto_region 13 with fail
 clear e1 e2 a0 a1 a2 a3 a6 a7 a8 a9
 go_cut [] (fun wx=>Hid (WrS wx p m rp cp R C (.func (.func sff) #[] sfx) (ts++[t1]))/\Hid (Kw p (rp.toList++cp.toList) w wx)/\Hid (Lies wx W1.heap.size 90 #[vI i2,vI 0,.bool h.b.fr,.bool h.b.fc]))
 case first=>
  have gw:Hid (WrS W9 p m rp cp R C (.func (.func sff) #[] sfx) ts):=mo;have HK:Hid (Kw p (rp.toList++cp.toList) w W9):=vc;have iq:Hid (Lies W9 W0.heap.size 90 #[vI i1,vI 0,.bool h.a.fr,.bool h.a.fc]):=vd;have cr:Hid (Lies W9 W1.heap.size 90 #[vI i2,vI 0,.bool h.b.fr,.bool h.b.fc]):=ve;clear mo vc vd ve;obtain⟨W6,lx⟩:=zD W9
  rw[<- lx]at gw HK iq cr ⊢;clear lx;have mh:Hid (p<W0.heap.size):=zh qj.out.1;have eu:Hid (p<W1.heap.size):=zh qj.out.2;obtain⟨v0,el,jq⟩:=gw.out.box;obtain⟨A1,c1,rfl⟩:=aV jq;have db:=zh el;have fg:=zh jq;have j7:Hid (∀ W,Below W6.heap.size W6 W->Kw p (rp.toList++cp.toList) w W):=zh (fun W hb=>HK.out.trans (Kw.of_below hb));clear el jq;have bp:Hid (∀ W,Below W6.heap.size W6 W->SaX sff sfx p W0.heap.size i1 0 h.a.fr h.a.fc W):=zh (fun W hb=>⟨(db.out.next hb).cell 3,(iq.out.next hb).cell 0,(iq.out.next hb).cell 1,(iq.out.next hb).cell 2,(iq.out.next hb).cell 3⟩);refine wp_region_held_drew (S:=fun w'=>SaX sff sfx p W0.heap.size i1 0 h.a.fr h.a.fc w') (by kernel_rfl) (bp.out _ zB.drew) (fun ag=>?_);refine TkA 0 (vP p 0) ?_;refine TkA 1 (vP p 0) ?_;refine TkA 2 (vP p 0) ?_
  refine TkA 3 (vP p 4) ?_;refine TkA 5 (vP p 0) ?_;refine TkA 6 (vP p 0) ?_;refine TkA 7 (vP p 3) ?_;refine TkB 8 (.func (.func sff) #[] sfx) ?_;refine TkB 9 (.agg #[vI i1,vI 0,.bool h.a.fr,.bool h.a.fc]) ?_;refine TkA 10 (vI 1) ?_;have ae:Hid (Below W6.heap.size W6 W6.drew):=zh zB.drew;refine wpAnyH_ready (rs:=[4,11]) (by kernel_rfl) (by simp) ?_;refine AllReadyH.cons rfl (fun K hK=>?pa3) (AllReadyH.cons rfl (fun K hK=>?pb3) AllReadyH.nil)
  case' pa3=>
   have c4:=(db.out.next ae.out).cell 4;simp only[za,zb,zf]at c4
   go_simp
   clear c4;refine hK.out _ _ (bp.out _ ae.out) (fun aa=>?_);clear hK K ag;have ag:=aa;clear aa;refine TkR 11 (fun K hK=>?_)
   go_simp
   refine(CT.out _ (j7.out _ ae.out)).mono ?_;rintro e wx ⟨rfl,hb⟩;replace ae:=zT ae hb;clear hb
   go_wp2_with fail
   refine hK.out _ _ (bp.out _ ae.out) (fun aa=>?_);clear hK K ag;have ag:=aa;clear aa;refine TkR 12 (fun K hK=>?_)
   go_simp
   obtain⟨W7,ba⟩:=zD (wx.alloc (.cells #[vI t1.kind,vT t1.text,vI t1.place] 64))
   rw[<- ba];have jr:=zL ba;replace ae:=zF ae ba;clear ba;refine hK.out _ _ (bp.out _ ae.out) (fun aa=>?_);clear hK K ag;have ag:=aa;clear aa
  case' pb3=>
   go_simp
   refine(CT.out _ (j7.out _ ae.out)).mono ?_;rintro e wx ⟨rfl,hb⟩;replace ae:=zT ae hb;clear hb
   go_wp2_with fail
   refine hK.out _ _ (bp.out _ ae.out) (fun aa=>?_);clear hK K ag;have ag:=aa;clear aa;refine wpAnyH_ready (rs:=[4,12]) (by kernel_rfl) (by simp) ?_;refine AllReadyH.cons rfl (fun K hK=>?pc3) (AllReadyH.cons rfl (fun K hK=>?pd3) AllReadyH.nil)
   case' pc3=>
    have c4:=(db.out.next ae.out).cell 4;simp only[za,zb,zf]at c4
    go_simp
    clear c4;refine hK.out _ _ (bp.out _ ae.out) (fun aa=>?_);clear hK K ag;have ag:=aa;clear aa;refine TkR 12 (fun K hK=>?_)
    go_simp
    obtain⟨W7,ba⟩:=zD (wx.alloc (.cells #[vI t1.kind,vT t1.text,vI t1.place] 64))
    rw[<- ba];have jr:=zL ba;replace ae:=zF ae ba;clear ba;refine hK.out _ _ (bp.out _ ae.out) (fun aa=>?_);clear hK K ag;have ag:=aa;clear aa
   case' pd3=>
    go_simp
    obtain⟨W7,ba⟩:=zD (wx.alloc (.cells #[vI t1.kind,vT t1.text,vI t1.place] 64))
    rw[<- ba];have jr:=zL ba;replace ae:=zF ae ba;clear ba;refine hK.out _ _ (bp.out _ ae.out) (fun aa=>?_);clear hK K ag;have ag:=aa;clear aa;refine TkR 4 (fun K hK=>?_);have c4:=(db.out.next ae.out).cell 4;simp only[za,zb,zf]at c4
    go_simp
    clear c4;refine hK.out _ _ (bp.out _ ae.out) (fun aa=>?_);clear hK K ag;have ag:=aa;clear aa
  all_goals
   refine TkR 13 (fun K hK=>?_);refine cH rfl _ _ rfl (p+1) (.slice A1 ts.length c1) ts t1 wx.heap.size rfl (aD ae.out fg.out) rfl jr.out (by omega) (yv (Nat.succ_le_of_lt gw.out.lt) ae.out.size) ?_;intro A5 c5 w5 k5 g5;have dg:=zh k5;have q8:=zh g5;have dy:=zh ((db.out.next ae.out).grownA g5 (bF (by decide) (aD ae.out fg.out) (db.out.next ae.out)));have ir:=zh ((iq.out.next ae.out).grownA g5 (bF (by decide) (aD ae.out fg.out) (iq.out.next ae.out)));have ev:=zh ((cr.out.next ae.out).grownA g5 (bF (by decide) (aD ae.out fg.out) (cr.out.next ae.out)));clear k5 g5;refine hK.out _ _ ⟨dy.out.cell 3,ir.out.cell 0,ir.out.cell 1,ir.out.cell 2,ir.out.cell 3⟩ (fun aa=>?_);clear hK K ag;have ag:=aa;clear aa;refine TkA 14 (vP p 0) ?_
   refine TkA 15 (vP p 4) ?_;have k4:=dy.out.cell 4;simp only[za,zb,zf]at k4;have k4f:=dy.out.frozen 4;refine TkR 16 (fun K hK=>?_)
   go_simp
   clear k4 k4f;have ma:=zh ((gw.out.next ae.out).grown (ts':=ts++[t1]) ((db.out.next ae.out).cell 4) dg.out q8.out);have ra:=zh ((HK.out.trans (Kw.of_below ae.out)).trans ma.out.2);have rd:=zh ma.out.1;have kh:=zh (aC ir.out (b:=p) (by have:=mh.out;omega) 4 (.slice A5 (ts.length+1) c5));have f6:=zh (aC ev.out (b:=p) (by have:=eu.out;omega) 4 (.slice A5 (ts.length+1) c5));have nf:=zh (dy.out.put 4 (.slice A5 (ts.length+1) c5));refine hK.out _ _ ⟨nf.out.cell 3,kh.out.cell 0,kh.out.cell 1,kh.out.cell 2,kh.out.cell 3⟩ (fun aa=>?_);clear hK K ag aa;refine TkD ?_
   (try simp only[Act.put,yz])
   go_wp2_with fail
   go_meet
   exact⟨rd,ra,f6⟩
 case rest=>
 clear mo vc vd ve CT uz;obtain⟨HSa,HKa,cr⟩:=hcut;obtain⟨W7,ba⟩:=zD wc
 subst ba
 go_upto_region 15 with((with_reducible refine(CC.out _ _ HSa.out (by simp;omega)).mono ?_);rintro e wx ⟨rfl,hs,hk⟩;have gw:=zh hs;have HK:=zh (HKa.out.trans hk);have po:=zh (Kw.lies hk HSa.out cr.out (by decide) (by decide) (by decide));clear hs hk)
 replace cr:=po;clear po;obtain⟨us,r7⟩:=zD (ts++[t1]++[tc])
 rw[<- r7]at gw;have HUs:=zh r7;have vt:us.length<=700002:=by rw[r7];simp;omega
 clear r7;obtain⟨W6,lx⟩:=zD wx
 subst lx;have eu:Hid (p<W1.heap.size):=zh qj.out.2;obtain⟨v0,el,jq⟩:=gw.out.box;obtain⟨A1,c1,rfl⟩:=aV jq;have db:=zh el;have fg:=zh jq;have j7:Hid (∀ W,Below W6.heap.size W6 W->Kw p (rp.toList++cp.toList) w W):=zh (fun W hb=>HK.out.trans (Kw.of_below hb));clear el jq;have bp:Hid (∀ W,Below W6.heap.size W6 W->SaX sff sfx p W1.heap.size i2 0 h.b.fr h.b.fc W):=zh (fun W hb=>⟨(db.out.next hb).cell 3,(cr.out.next hb).cell 0,(cr.out.next hb).cell 1,(cr.out.next hb).cell 2,(cr.out.next hb).cell 3⟩);refine wp_region_held_drew (S:=fun w'=>SaX sff sfx p W1.heap.size i2 0 h.b.fr h.b.fc w') (by kernel_rfl) (bp.out _ zB.drew) (fun ag=>?_);refine TkA 0 (vP p 0) ?_;refine TkA 1 (vP p 0) ?_;refine TkA 2 (vP p 0) ?_;refine TkA 3 (vP p 4) ?_
 refine TkA 5 (vP p 0) ?_;refine TkA 6 (vP p 0) ?_;refine TkA 7 (vP p 3) ?_;refine TkB 8 (.func (.func sff) #[] sfx) ?_;refine TkB 9 (.agg #[vI i2,vI 0,.bool h.b.fr,.bool h.b.fc]) ?_;refine TkA 10 (vI 1) ?_;have ae:Hid (Below W6.heap.size W6 W6.drew):=zh zB.drew;refine wpAnyH_ready (rs:=[4,11]) (by kernel_rfl) (by simp) ?_;refine AllReadyH.cons rfl (fun K hK=>?pa4) (AllReadyH.cons rfl (fun K hK=>?pb4) AllReadyH.nil)
 case' pa4=>
  have c4:=(db.out.next ae.out).cell 4;simp only[za,zb,zf]at c4
  go_simp
  clear c4;refine hK.out _ _ (bp.out _ ae.out) (fun aa=>?_);clear hK K ag;have ag:=aa;clear aa;refine TkR 11 (fun K hK=>?_)
  go_simp
  refine(CU.out _ (j7.out _ ae.out)).mono ?_;rintro e wx ⟨rfl,hb⟩;replace ae:=zT ae hb;clear hb
  go_wp2_with fail
  refine hK.out _ _ (bp.out _ ae.out) (fun aa=>?_);clear hK K ag;have ag:=aa;clear aa;refine TkR 12 (fun K hK=>?_)
  go_simp
  obtain⟨W7,ba⟩:=zD (wx.alloc (.cells #[vI t2.kind,vT t2.text,vI t2.place] 64))
  rw[<- ba];have jr:=zL ba;replace ae:=zF ae ba;clear ba;refine hK.out _ _ (bp.out _ ae.out) (fun aa=>?_);clear hK K ag;have ag:=aa;clear aa
 case' pb4=>
  go_simp
  refine(CU.out _ (j7.out _ ae.out)).mono ?_;rintro e wx ⟨rfl,hb⟩;replace ae:=zT ae hb;clear hb
  go_wp2_with fail
  refine hK.out _ _ (bp.out _ ae.out) (fun aa=>?_);clear hK K ag;have ag:=aa;clear aa;refine wpAnyH_ready (rs:=[4,12]) (by kernel_rfl) (by simp) ?_;refine AllReadyH.cons rfl (fun K hK=>?pc4) (AllReadyH.cons rfl (fun K hK=>?pd4) AllReadyH.nil)
  case' pc4=>
   have c4:=(db.out.next ae.out).cell 4;simp only[za,zb,zf]at c4
   go_simp
   clear c4;refine hK.out _ _ (bp.out _ ae.out) (fun aa=>?_);clear hK K ag;have ag:=aa;clear aa;refine TkR 12 (fun K hK=>?_)
   go_simp
   obtain⟨W7,ba⟩:=zD (wx.alloc (.cells #[vI t2.kind,vT t2.text,vI t2.place] 64))
   rw[<- ba];have jr:=zL ba;replace ae:=zF ae ba;clear ba;refine hK.out _ _ (bp.out _ ae.out) (fun aa=>?_);clear hK K ag;have ag:=aa;clear aa
  case' pd4=>
   go_simp
   obtain⟨W7,ba⟩:=zD (wx.alloc (.cells #[vI t2.kind,vT t2.text,vI t2.place] 64))
   rw[<- ba];have jr:=zL ba;replace ae:=zF ae ba;clear ba;refine hK.out _ _ (bp.out _ ae.out) (fun aa=>?_);clear hK K ag;have ag:=aa;clear aa;refine TkR 4 (fun K hK=>?_);have c4:=(db.out.next ae.out).cell 4;simp only[za,zb,zf]at c4
   go_simp
   clear c4;refine hK.out _ _ (bp.out _ ae.out) (fun aa=>?_);clear hK K ag;have ag:=aa;clear aa
 all_goals
  refine TkR 13 (fun K hK=>?_);refine cH rfl _ _ rfl (p+1) (.slice A1 us.length c1) us t2 wx.heap.size rfl (aD ae.out fg.out) rfl jr.out (by omega) (yv (Nat.succ_le_of_lt gw.out.lt) ae.out.size) ?_;intro A5 c5 w5 k5 g5;have dg:=zh k5;have q8:=zh g5;have dy:=zh ((db.out.next ae.out).grownA g5 (bF (by decide) (aD ae.out fg.out) (db.out.next ae.out)));have ev:=zh ((cr.out.next ae.out).grownA g5 (bF (by decide) (aD ae.out fg.out) (cr.out.next ae.out)));clear k5 g5;refine hK.out _ _ ⟨dy.out.cell 3,ev.out.cell 0,ev.out.cell 1,ev.out.cell 2,ev.out.cell 3⟩ (fun aa=>?_);clear hK K ag;have ag:=aa;clear aa;refine TkA 14 (vP p 0) ?_;refine TkA 15 (vP p 4) ?_;have k4:=dy.out.cell 4;simp only[za,zb,zf]at k4
  have k4f:=dy.out.frozen 4;refine TkR 16 (fun K hK=>?_)
  go_simp
  clear k4 k4f;have ma:=zh ((gw.out.next ae.out).grown (ts':=us++[t2]) ((db.out.next ae.out).cell 4) dg.out q8.out);have ra:=zh ((HK.out.trans (Kw.of_below ae.out)).trans ma.out.2);have rd:=zh ma.out.1;have f6:=zh (aC ev.out (b:=p) (by have:=eu.out;omega) 4 (.slice A5 (us.length+1) c5));have nf:=zh (dy.out.put 4 (.slice A5 (us.length+1) c5));refine hK.out _ _ ⟨nf.out.cell 3,f6.out.cell 0,f6.out.cell 1,f6.out.cell 2,f6.out.cell 3⟩ (fun aa=>?_);clear hK K ag aa;refine TkD ?_
  (try simp only[Act.put,yz])
  go_wp2_with fail
  go_end0
  exact⟨rfl,by rw[<- HUs.out];exact rd.out,ra.out⟩
end Go.Proofs.YtjfihpaeglpblaaGreatDoor
