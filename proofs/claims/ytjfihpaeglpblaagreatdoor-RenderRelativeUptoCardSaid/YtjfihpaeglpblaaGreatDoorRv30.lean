/-
  Lemmas, part 30: RsD RsA RsE RenderSaysW OpenX OpenY.
-/
import Derived.Test.YtjfihpaeglpblaaGreatDoorRv29
set_option maxHeartbeats 100000000
set_option maxRecDepth 1000000
namespace Go.Proofs.YtjfihpaeglpblaaGreatDoor
open Go.RowKit
abbrev twoH:NodeH:=⟨0,⟨1,2,0,[],false,0⟩,[],aQ,aQ,0⟩
abbrev powH:NodeH:=⟨6,aE,[94],aQ,aQ,0⟩
abbrev negH:NodeH:=⟨5,aE,[45],aQ,aQ,0⟩
def negT:Tree:=.mk negH [.mk powH [.mk twoH [],.mk twoH []]]
def gM:List Value:=(aK twoH none 0 0).toList
def uBY(q:Nat):List Value:=(aK powH (some ⟨q,0,none⟩) 2 2).toList
def sQ(q:Nat):List Value:=(aK negH (some ⟨q,0,none⟩) 1 1).toList
theorem uEU:Tryz.prog.built 34 [(0,vI 0),(1,.agg #[vI 1,vI 2,vI 0,vS #[],.bool false,vI 0])]=some gM.toArray:=by kernel_rfl
theorem uET(q:Nat):Tryz.prog.built 34 [(0,vI 6),(2,vS #[94]),(5,.slice (some ⟨q,0,none⟩) 2 2)]=some (uBY q).toArray:=by kernel_rfl
theorem uES(q:Nat):Tryz.prog.built 34 [(0,vI 5),(2,vS #[45]),(5,.slice (some ⟨q,0,none⟩) 1 1)]=some (sQ q).toArray:=by kernel_rfl
theorem iZ{ops:Array Oper}{rest:List Oper}{o:Oper}{a:Act}{w:World}{Q:Exit->Act->World->Prop}(hg:o.guard=none)(t:TypeId)(parts:Array (Nat×Go.Operand))(ho:o.op=.build t parts)(C:List Value)
  (hf:Tryz.prog.built t (parts.map fun(i,x)=>(i,a.eval x)).toList=some C.toArray) (h:wpList Tryz.prog ops Q rest (a.put o.dst (.agg C.toArray)) w):wpList Tryz.prog ops Q (o::rest) a w :=
 wpList_build hg t parts ho (by rw[hf];rfl) (by rw[hf];exact h)
theorem uBJ:fF .plain none none negT=[45,40,50,94,50,41]:=by kernel_rfl
theorem two_one:gM.toArray.all (·.oneCell')=true:=by simp[gM,Value.oneCell']
theorem neg_one(q:Nat):(sQ q).toArray.all (·.oneCell')=true:=by simp[sQ,Value.oneCell']
theorem neg_fine:negT.fine:=by
 refine⟨⟨by decide,by decide,by decide,by decide⟩,⟨⟨by decide,by decide,by decide,by decide⟩,⟨⟨by decide,by decide,by decide,by decide⟩,trivial⟩,⟨⟨by decide,by decide,by decide,by decide⟩,trivial⟩,trivial⟩,trivial⟩
theorem eT:aQ.fits:=⟨⟨by decide,by decide⟩,⟨by decide,by decide⟩⟩
theorem neg_ok:negT.ok 10:=by
 refine⟨⟨by decide,by decide,eT,eT,by decide,by decide⟩,⟨⟨by decide,by decide,eT,eT,by decide,by decide⟩,⟨⟨by decide,by decide,eT,eT,by decide,by decide⟩,trivial⟩,⟨⟨by decide,by decide,eT,eT,by decide,by decide⟩,trivial⟩,trivial⟩,trivial⟩
theorem neg_tree{P:Nat->Prop}{W:World}{a b:Nat}(h1:Lies W a 34 (gM++gM).toArray)(h2:Lies W b 34 (uBY a).toArray)(ha:P a)(hb:P b):TreeP P W negT (sQ b).toArray:=by
 refine⟨some ⟨b,0,none⟩,1,rfl,by decide,.inr ⟨b,0,rfl,hb,h2.lt,⟨some ⟨a,0,none⟩,2,by decide,fun j hj=>?_,.inr ⟨a,0,rfl,ha,h1.lt,⟨none,0,by decide,fun j hj=>?_,.inl rfl⟩,⟨none,0,by decide,fun j hj=>?_,.inl rfl⟩,trivial⟩⟩,trivial⟩⟩
 ·rw[Nat.zero_add,h2.cell j];rfl
 ·rw[Nat.zero_add,h1.cell j];have e:gM.length=22:=rfl;rw[za,List.getElem?_append_left (by omega)];simp[gM]
 rw[h1.cell];have e:gM.length=22:=rfl;rw[za,List.getElem?_append_right (by omega),e,show 0+22+j-22=j from by omega];simp[gM]
theorem rL(w:World)(hg:Gl w):Calls Tryz.prog 10 #[] w fun e w'=>e=.returned (.bool true)/\Below w.heap.size w w':=by
 obtain⟨q,hq⟩:=zD w.heap.size
 obtain⟨W0,ak⟩:=zD (w.alloc (.cells fM.toArray 34))
 have s0:W0.heap.size=q+1:=by rw[ak,World.size_alloc,hq]
 have l0:Lies W0 q 34 fM.toArray:=by rw[ak,hq];exact Lies.new w _ _
 have b0:Below q w W0:=by rw[ak,hq];exact(Below.refl _ w).alloc zr _
 have z0:Kp [] w W0:=by rw[ak];exact(Kp.refl _ w).alloc _
 obtain⟨W1,an⟩:=zD (W0.setCells q 0 gM)
 have l1:Lies W1 q 34 gM.toArray:=by rw[an];exact l0.putAll rfl
 have z1:Kp [] w W1:=by rw[an];exact nW (.inr (by omega)) gM 0 z0
 have s1:W1.heap.size=q+1:=by rw[an,mK,s0]
 obtain⟨W2,fj⟩:=zD (W1.alloc (.cells (gM++gM).toArray 34))
 have s2:W2.heap.size=q+2:=by rw[fj,World.size_alloc,s1]
 have z2:Kp [] w W2:=by rw[fj];exact z1.alloc _
 have l2:Lies W2 (q+1) 34 (gM++gM).toArray:=by rw[fj,<- s1];exact Lies.new _ _ _
 obtain⟨W3,ie⟩:=zD (W2.alloc (.cells (uBY (q+1)).toArray 34))
 have s3:W3.heap.size=q+3:=by rw[ie,World.size_alloc,s2]
 have z3:Kp [] w W3:=by rw[ie];exact z2.alloc _
 have l3:Lies W3 (q+2) 34 (uBY (q+1)).toArray:=by rw[ie,<- s2];exact Lies.new _ _ _
 have m3:Lies W3 (q+1) 34 (gM++gM).toArray:=by rw[ie];exact l2.alloc _
 obtain⟨W4,my⟩:=zD (W3.alloc (.cells fM.toArray 34))
 have s4:W4.heap.size=q+4:=by rw[my,World.size_alloc,s3]
 have z4:Kp [] w W4:=by rw[my];exact z3.alloc _
 have l4:Lies W4 (q+3) 34 fM.toArray:=by rw[my,<- s3];exact Lies.new _ _ _
 obtain⟨W5,fe⟩:=zD (W4.setCells (q+3) 0 (sQ (q+2)))
 have l5:Lies W5 (q+3) 34 (sQ (q+2)).toArray:=by rw[fe];exact l4.putAll rfl
 have z5:Kp [] w W5:=by rw[fe];exact nW (.inr (by omega)) _ 0 z4
 have n5:Lies W5 (q+2) 34 (uBY (q+1)).toArray:=by rw[fe];exact fX (by omega) _ 0 (by rw[my];exact l3.alloc _)
 have m5:Lies W5 (q+1) 34 (gM++gM).toArray:=by rw[fe];exact fX (by omega) _ 0 (by rw[my];exact m3.alloc _)
 have bm:Hid (Below w.heap.size w W5):=zh (z5.below (fun k hk=>by cases hk) zr);have CF:Hid (Calls Tryz.prog 13 #[.agg (sQ (q+2)).toArray,.pointer none,.pointer none] W5 fun e w'=>e=.returned (vS #[45,40,50,94,50,41])/\Gl w'/\Below W5.heap.size W5 w'):=zh (by
  have h:=xL negT 10 none none none none (sQ (q+2)) W5 (neg_tree m5 n5 (by simp) (by simp)) neg_fine neg_ok (by decide) trivial trivial (fun b hb=>by cases hb) (hg.next bm.out) (fun b hb=>by cases hb);rw[uBJ]at h;refine h.mono ?_;rintro e w' ⟨rfl,-,-,h3,h4⟩;exact⟨rfl,h3,h4.below (fun k hk=>by cases hk) zr⟩)
 have om:Hid (W0.there q 0 gM.toArray.size):=zh l0.thereA;have HT4:Hid (W4.there (q+3) 0 (sQ (q+2)).toArray.size):=zh l4.thereA;have jl:=zh l1.range;have o7:=zh l5.range;have H22:Hid (gM.length=22):=zh rfl;have HP22:Hid ((uBY (q+1)).length=22):=zh rfl;have HI1:Hid ((Tryz.prog.info? 34).map (·.size)=some gM.length):=zh bZ
 have HI5:Hid ((Tryz.prog.info? 34).map (·.size)=some (sQ (q+2)).length):=zh bZ
 have aj:=zh ak;have am:=zh an;have jx:=zh fj;have HW3:=zh ie;have HW4:=zh my;have HW5:=zh fe;have ee:=zh s1;have ig:=zh s2;have qe:=zh s3;have HQ:=zh hq;have HBT:=zh uEU;have HBP:=zh (uET (q+1));have HBN:=zh (uES (q+2));have ej:=zh two_one;have HON:=zh (neg_one (q+2));clear ak an fj ie my fe s0 s1 s2 s3 s4 z0 z1 z2 z3 z4 z5 b0 l0 l1 l2 l3 l4 l5 m3 n5 m5 hg hq;generalize gM=c2 at *;generalize uBY (q+1)=cp at *;generalize sQ (q+2)=cn at *
 go_in
 go_upto_region 2 with(first
  |(refine iZ rfl 34 #[(0,.const (vI 0)),(1,.tmp 4)] rfl c2 (by simp only[List.map_toArray,List.map_cons,List.map_nil];exact HBT.out) ?_)
  |(refine yq rfl 34 (.tmp 1) (.tmp 5) rfl w.heap.size 0 c2.toArray rfl rfl (by rw[<- HQ.out,<- aj.out];exact om.out) HI1.out ej.out ?_;change wpList _ _ _ _ _ (World.setCells _ w.heap.size 0 c2);rw[<- aj.out,<- HQ.out,<- am.out]))
 go_upto_region 3 with(first
  |(refine yr rfl 34 (.tmp 1) rfl q 0 rfl c2 _ jl.out Tryz.underlying34 rfl HI1.out ?_)
  |(refine uDI rfl (.tmp 6) (.tmp 7) rfl c2 c2 rfl rfl H22.out H22.out (q+1) ee.out _ rfl ?_;rw[<- jx.out])
  |(refine iZ rfl 34 #[(0,.const (vI 6)),(2,.const (vS #[94])),(5,.tmp 8)] rfl cp (by simp only[List.map_toArray,List.map_cons,List.map_nil];exact HBP.out) ?_)
  |(refine tX rfl (.tmp 9) rfl cp rfl HP22.out (q+2) ig.out _ rfl ?_;rw[<- HW3.out])
  |(refine iZ rfl 34 #[(0,.const (vI 5)),(2,.const (vS #[45])),(5,.tmp 10)] rfl cn (by simp only[List.map_toArray,List.map_cons,List.map_nil];exact HBN.out) ?_)
  |(refine yq rfl 34 (.tmp 2) (.tmp 11) rfl W3.heap.size 0 cn.toArray rfl rfl (by rw[<- HW4.out,qe.out];exact HT4.out) HI5.out HON.out ?_;change wpList _ _ _ _ _ (World.setCells _ W3.heap.size 0 cn);rw[<- HW4.out,qe.out,<- HW5.out]))
 clear aj am jx HW3 HW4 HW5 jl ee ig qe om HT4 HI1 H22 HP22;have CE:Hid (∀ W,Gl W->Calls Tryz.prog 26 #[.agg #[vI 1,vI 2,vI 0,vI 0,vS #[84,82,85,69],.bool false,vI 0,vI 0,vI 0,vI 0,vI 0,vS #[],.bool false,vI 0,vS #[],vI 0,vI 0,vI 0,vI 0,.bool false,.bool false,vI 0,vI 0,vI 0,vI 0,.bool false,.bool false,vI 0,.slice none 0 0],.pointer none,.pointer none] W fun e w'=>e=.returned (vS #[39,84,82,85,69])/\Below W.heap.size W w'):=zh (fun W h=>uAZ W h.tab h.pow)
 go_wp2_with (first
  |(refine yr rfl 34 (.tmp 2) rfl (q+3) 0 rfl cn _ o7.out Tryz.underlying34 rfl HI5.out ?_)
  |((with_reducible refine CF.out.mono ?_);rintro e w1 ⟨rfl,i5,hb⟩;have HG1:=zh i5;have nu:=zT bm hb;clear i5 hb)
  |((with_reducible refine(CE.out _ HG1.out).mono ?_);rintro e w2 ⟨rfl,hb⟩;have nd:=zT nu hb;clear hb))
 go_ret
 exact⟨rfl,nd.out⟩
def AxsB(W:World)(Y:List Nat):Prop:=∀ y∈Y,∃ cs,Lies W y 152 cs
theorem AxsB.lies{W:World}{Y:List Nat}{b:Nat}{t:TypeId}{cs:Array Value}(hY:AxsB W Y)(h:Lies W b t cs)(ht:t≠152):b∉Y:=fun hm=>by
 obtain⟨nx,h1⟩:=hY b hm;exact gC h h1 (fun e=>ht e.symm) rfl
theorem AxsB.own{W:World}{Y:List Nat}{b n sz:Nat}{te:TypeId}{v:Value}{xs:List Value}(hY:AxsB W Y)(h:W.ownsRow b te sz v n xs)(ht:te≠152):∀ g,v.ownBlock=some g->g∉Y:=fun g hg=>by
 rcases h.2 with⟨rfl,_⟩|⟨g1,cap,cur,rfl,_,hh,_⟩
 ·simp[Value.ownBlock]at hg
 simp[Value.ownBlock]at hg;subst hg;have h0:Lies W g1 te cur:=hh;exact hY.lies h0 ht
theorem AxF.lies{W:World}{b:Nat}{A:AxV}(h:AxF W (some b) A):∃ cs,Lies W b 152 cs:=by
 match A,h with
 |some (ids,fl),⟨_,_,_,_,.inl ⟨_,_,_,g⟩⟩=>exact⟨_,g.ax⟩
 |some (ids,fl),⟨_,_,_,_,.inr ⟨_,g⟩⟩=>
  obtain⟨_,_,_,_,_,_,h1,_⟩:=g.ex;exact⟨_,h1⟩
theorem xR{W:World}{rp cp:Option Nat}{R C:AxV}(h:AxF W rp R)(k:AxF W cp C):AxsB W (rp.toList++cp.toList):=fun y hy=>by
 rcases List.mem_append.1 hy with hy|hy
 ·obtain rfl:rp=some y:=by simpa using hy
  exact h.lies
 obtain rfl:cp=some y:=by simpa using hy
 exact k.lies
theorem AxQ.kp{W W':World}{p:Option Nat}{A:AxV}{Y:List Nat}(h:AxQ W p A)(hk:Kp Y W W')(hY:AxsB W Y):AxQ W' p A:=by
 match p,A,h with
 |none,none,_=>trivial
 |some b,some (ids,fl),⟨h1,h2,h3,h4,base,v1,v2,h5⟩=>
  exact⟨h1,h2,h3,h4,base,v1,v2,h5.kp hk (hY.lies h5.ax (by decide)) (hY.own h5.r1 (by decide)) (hY.own h5.r2 (by decide))⟩
structure Made(w:World)(R C:AxV)(rp cp p q:Option Nat)(W:World):Prop where
 r:AxF W rp R
 c:AxF W cp C
 p:AxQ W p R
 q:AxQ W q C
 ne:∀ b,rp=some b->cp≠some b
 lo:∀ b∈rp.toList++cp.toList,w.heap.size<=b/\b<W.heap.size
 b:Below w.heap.size w W
abbrev eM(ids dead:List IdR):AxV:=some (bN ids,dY (bN ids) dead)
theorem made_of{w w1 w2:World}{ids jds dead:List IdR}{m1 c1 b1 m2 c2 b2:Nat}{v1 v2 u1 u2 x1 x2 z1 z2:Value}(hn:ids.length<=300)(hm:jds.length<=300)(hf:∀ y∈ids,y.fits)(hg:∀ y∈jds,y.fits)
  (hW:∃ W0,W0.heap.size=w.heap.size+1/\Below w.heap.size w W0/\TwoAx W0 W0.heap.size m1 c1 b1 (bN ids) (dY (bN ids) dead) v1 v2 u1 u2 w1) (h2:TwoAx w1 w1.heap.size m2 c2 b2 (bN jds) (dY (bN jds) dead) x1 x2 z1 z2 w2) :
  Made w (eM ids dead) (eM jds dead) (some (w.heap.size+1)) (some w1.heap.size) (some m1) (some m2) w2:=by
 obtain⟨W0,hs,fm,h1⟩:=hW;rw[hs]at h1;have hle:∀ l:List IdR,l.length=(dY l dead).length:=fun l=>by
  have h:=rQ l dead dead.length zr;rw[List.take_length]at h;exact h.symm
 obtain⟨p1,-,p3,p4⟩:=pE ids;obtain⟨q1,-,q3,q4⟩:=pE jds;have ab:=h1.b;have hb2:=h2.b;have s0:=fm.size;have s1:=ab.size;have s2:=hb2.size;have lt1:=h1.a.ax.lt;have lt2:=h2.a.ax.lt;have e1:AxF w1 (some (w.heap.size+1)) (eM ids dead):=⟨hle _,by omega,fun y hy=>hf y (p4 y hy),p1,.inl ⟨_,_,_,h1.a⟩⟩
 have e2:AxF w2 (some w1.heap.size) (eM jds dead):=⟨hle _,by omega,fun y hy=>hg y (q4 y hy),q1,.inl ⟨_,_,_,h2.a⟩⟩
 have g1:AxQ w1 (some m1) (eM ids dead):=⟨hle _,by omega,fun y hy=>hf y (p4 y hy),p1,_,_,_,h1.r⟩
 have g2:AxQ w2 (some m2) (eM jds dead):=⟨hle _,by omega,fun y hy=>hg y (q4 y hy),q1,_,_,_,h2.r⟩
 refine⟨e1.next hb2,e2,g1.next hb2,g2,fun b hb hc=>?_,fun b hb=>?_,(fm.trans (ab.mono s0)).trans (hb2.mono (by omega))⟩
 ·injection hb with hb;injection hc with hc;omega
 simp at hb;omega
theorem made_any(A B D:Option Addr)(ca cb cd:Nat)(ids jds dead:List IdR)(w:World)(hA:eS w A ids)(hB:eS w B jds)(hD:eS w D dead)(hn:ids.length<=300)(hm:jds.length<=300)(hd:dead.length<=300)(hf:∀ y∈ids,y.fits)(hg:∀ y∈jds,y.fits) :
  Calls Tryz.prog 12 #[axesV A B D ids.length jds.length dead.length ca cb cd] w fun e w'=>∃ r c m1 m2,e=.returned (.tuple #[vP r 0,vP c 0,vP m1 0,vP m2 0])/\Made w (eM ids dead) (eM jds dead) (some r) (some c) (some m1) (some m2) w':=by
 obtain⟨W0,ak⟩:=zD (w.alloc (.cells #[.slice A ids.length ca,.slice B jds.length cb,.slice D dead.length cd] 37))
 have aj:=zh ak;have qu:Hid (W0.heap.size=w.heap.size+1):=zh (by rw[ak,World.size_alloc]);have af:=zA ak;have HL:Lies W0 w.heap.size 37 #[.slice A ids.length ca,.slice B jds.length cb,.slice D dead.length cd]:=by rw[ak];exact Lies.new w _ _
 have HC:Hid (∀ W,Below W0.heap.size W0 W->W.cell? ⟨w.heap.size,0,none⟩=some (.slice A ids.length ca)/\W.cell? ⟨w.heap.size,1,none⟩=some (.slice B jds.length cb)/\W.cell? ⟨w.heap.size,2,none⟩=some (.slice D dead.length cd)):=zh (fun W hb=>⟨(HL.next hb).cell 0,(HL.next hb).cell 1,(HL.next hb).cell 2⟩);have C1:=zh (uU A D ca cd ids dead W0 (eQ hA af.out) (eQ hD af.out) hn hd hf);have C2:Hid (∀ w1,Below W0.heap.size W0 w1->_):=zh (fun w1 (hb:Below W0.heap.size W0 w1)=>uU B D cb cd jds dead w1 (eQ hB (zU af.out hb)) (eQ hD (zU af.out hb)) hm hd hg)
 have HM:Hid (∀ (w1 w2:World) (m1 c1 b1 m2 c2 b2:Nat) (v1 v2 u1 u2 x1 x2 z1 z2:Value),TwoAx W0 W0.heap.size m1 c1 b1 (bN ids) (dY (bN ids) dead) v1 v2 u1 u2 w1->TwoAx w1 w1.heap.size m2 c2 b2 (bN jds) (dY (bN jds) dead) x1 x2 z1 z2 w2->Made w (eM ids dead) (eM jds dead) (some (w.heap.size+1)) (some w1.heap.size) (some m1) (some m2) w2) :=
  zh (fun _ _ _ _ _ _ _ _ _ _ _ _ _ _ _ _ h1 h2=>made_of hn hm hf hg ⟨W0,qu.out,af.out,h1⟩ h2)
 have X0:=HC.out W0 zB;obtain⟨x0,x1,x2⟩:=X0;clear ak hA hB hD hn hm hd hf hg HL;generalize eM ids dead=R at *;generalize eM jds dead=C at *
 go_in
 go_upto_region 1 with fail
 rw[<- aj.out];clear aj
 go_wp2_with (first
  |((with_reducible refine C1.out.mono ?_);rintro e w1 ⟨m1,c1,b1,v1,v2,u1,u2,rfl,h1⟩;have H1:=zh h1;obtain⟨y0,y1,y2⟩:=HC.out _ h1.b;clear x0 x1 x2 h1)
  |((with_reducible refine(C2.out _ H1.out.b).mono ?_);rintro e w2 ⟨m2,c2,b2,z1,z2,z3,z4,rfl,h2⟩;have H2:=zh (HM.out _ _ _ _ _ _ _ _ _ _ _ _ _ _ _ _ H1.out h2);clear h2))
 (try simp only[Exit.inBlock,Exit.then])
 refine yt (v:=.tuple #[vP W0.heap.size 0,vP w1.heap.size 0,vP m1 0,vP m2 0]) (by simp[results,Tryz.results12,go_sem]) rfl ?_;exact⟨_,_,_,_,by first|rfl |(rw[qu.out]),H2.out⟩
mutual
theorem uEG{N:Nat}:∀ {d:Nat} {t:Tree},t.ok N->fK d t=false->t.ok 300
 |0,_,_,h=>by cases h
 |d+1,.mk h l,ho,hv=>by
  rw[Tree.ok]at ho ⊢;unfold fK at hv;simp only[Tree.h,Tree.l,Bool.or_eq_false_iff]at hv;obtain⟨⟨a1,a2,a3,a4,a5,a6⟩,hl⟩:=ho;exact⟨⟨a1,a2,a3,a4,Nat.le_of_not_lt (of_decide_eq_false hv.1.2),Nat.le_of_not_lt (of_decide_eq_false hv.1.1.2)⟩,yL hl hv.2⟩
theorem yL{N:Nat}:∀ {d:Nat} {l:List Tree},okL N l->l.any (fK d)=false->okL 300 l
 |_,[],_,_=>trivial
 |d,t::r,ho,hv=>by
  rw[okL]at ho ⊢;rw[List.any_cons,Bool.or_eq_false_iff]at hv;exact⟨uEG ho.1 hv.1,yL ho.2 hv.2⟩
end
mutual
theorem Tree.ok.fine:∀ {t:Tree},t.ok 300->t.fine
 | .mk h l,ho=>by
  rw[Tree.ok]at ho;rw[Tree.fine];obtain⟨⟨a1,a2,a3,a4,a5,a6⟩,hl⟩:=ho;exact⟨⟨a1,a2,by omega,by omega⟩,yK hl⟩
theorem yK:∀ {l:List Tree},okL 300 l->uDW l
 | [],_=>trivial
 |t::r,ho=>by
  rw[okL]at ho;exact⟨Tree.ok.fine ho.1,yK ho.2⟩
end
theorem great_no{t:Tree}{N:Nat}(ho:t.ok N)(h:jR t=false):t.ok 300/\t.fine/\t.size<=400:=by
 unfold jR at h;rw[Bool.or_eq_false_iff,decide_eq_false_iff_not,Nat.not_lt]at h;have h1:=uEG ho h.1;exact⟨h1,h1.fine,h.2⟩
structure LawW(w:World)(b:Nat)(t:Tree)(Cn:List Value)(R C:AxV)(rp cp p q:Option Nat)(W:World):Prop where
 box:∃ cs,Lies W b 34 cs
 row:W.rangeAt b 0 Cn
 tree:TreeP (fun g=>g∉rp.toList++cp.toList) W t Cn.toArray
 r:AxF W rp R
 c:AxF W cp C
 p:AxQ W p R
 q:AxQ W q C
 ne:∀ b,rp=some b->cp≠some b
 lo:∀ b∈rp.toList++cp.toList,w.heap.size<=b/\b<W.heap.size/\jA b
 gl:Gl W
 bel:Below w.heap.size w W
theorem iX{W W':World}{b o:Nat}{cs:List Value}(h:W.rangeAt b o cs)(hk:W'.heap[b]?=W.heap[b]?):W'.rangeAt b o cs:=fun j v hv=>(World.cell?_of_block (w:=W) (a:=⟨b,o+j,none⟩) hk).trans (h j v hv)
theorem LawW.next{w:World}{b:Nat}{t:Tree}{Cn:List Value}{R C:AxV}{rp cp p q:Option Nat}{W W':World}(h:LawW w b t Cn R C rp cp p q W)(hb:Below W.heap.size W W'):LawW w b t Cn R C rp cp p q W':=by
 obtain⟨cs,hc⟩:=h.box;have hs:=hb.size;exact⟨⟨cs,hc.next hb⟩,iX h.row (hb.block _ hc.lt),h.tree.box hb,h.r.next hb,h.c.next hb,h.p.next hb,h.q.next hb,h.ne,fun x hx=>⟨(h.lo x hx).1,by have:=(h.lo x hx).2.1;omega,(h.lo x hx).2.2⟩,h.gl.next hb,h.bel.trans (hb.mono h.bel.size)⟩
theorem LawW.kp{w:World}{b:Nat}{t:Tree}{Cn:List Value}{R C:AxV}{rp cp p q:Option Nat}{W W':World}(h:LawW w b t Cn R C rp cp p q W)(hk:Kp (rp.toList++cp.toList) W W')(hr:AxF W' rp R)(hc:AxF W' cp C)(hg:Gl W'):LawW w b t Cn R C rp cp p q W':=by
 obtain⟨cs,hl⟩:=h.box;have hA:=xR h.r h.c;have hs:=hk.size;have hb:b∉rp.toList++cp.toList:=hA.lies hl (by decide);refine⟨⟨cs,hk.lies hl hb⟩,iX h.row (hk.block _ hl.lt hb),?_,hr,hc,h.p.kp hk hA,h.q.kp hk hA,h.ne,fun x hx=>⟨(h.lo x hx).1,by have:=(h.lo x hx).2.1;omega,(h.lo x hx).2.2⟩,hg,h.bel.trans (hk.below (fun k en=>(h.lo k en).1) h.bel.size)⟩;have h1:TreeP (fun g=>g<W.heap.size/\g∉rp.toList++cp.toList) W t Cn.toArray:=h.tree.imp (fun g h1 h2=>⟨h2,h1⟩);exact(h1.keep ⟨hs,fun g hg=>hk.block g hg.1 hg.2⟩).imp (fun g h1 _=>h1.2)
theorem LawW.of_made{w w1 W:World}{b:Nat}{t:Tree}{Cn:List Value}{R C:AxV}{rp cp p q:Option Nat}(hM:Made w1 R C rp cp p q W)(hb:Below w.heap.size w w1)(hg:Gl w1)(hl:∃ cs,Lies w1 b 34 cs)(hr:w1.rangeAt b 0 Cn)(hP:TreeP kK w1 t Cn.toArray):LawW w b t Cn R C rp cp p q W:=by
 obtain⟨cs,hc⟩:=hl;have hs:=hb.size;refine⟨⟨cs,hc.next hM.b⟩,iX hr (hM.b.block _ hc.lt),?_,hM.r,hM.c,hM.p,hM.q,hM.ne,fun x hx=>⟨by have:=(hM.lo x hx).1;omega,(hM.lo x hx).2,hg.low (hM.lo x hx).1⟩,hg.next hM.b,hb.trans (hM.b.mono hs)⟩;have h1:TreeP (fun g=>g<w1.heap.size) w1 t Cn.toArray:=hP.imp (fun g _ h2=>h2);exact(h1.keep ⟨hM.b.size,fun g hg=>hM.b.block g hg⟩).imp (fun g h1 _ hm=>by have:=(hM.lo g hm).1;omega)
theorem LawW.any{w:World}{b:Nat}{t:Tree}{Cn:List Value}{R C:AxV}{rp cp p q:Option Nat}{W:World}(h:LawW w b t Cn R C rp cp p q W):TreeP kK W t Cn.toArray:=h.tree.imp (fun _ _ _=>trivial)
abbrev strV(s:Bs):Value:=vT s
abbrev wQ(t:Tree)(n1 n2 n3:Nat):Bool:=jR t||decide (60<n1)||decide (60<n2)||decide (60<n3)
theorem uEZ{t:Tree}{N n1 n2 n3:Nat}(ho:t.ok N)(h:wQ t n1 n2 n3=false):t.ok 300/\t.fine/\t.size<=400/\n1<=60/\n2<=60/\n3<=60:=by
 simp only[wQ,Bool.or_eq_false_iff]at h;obtain⟨⟨⟨h0,h1⟩,h2⟩,h3⟩:=h;obtain⟨a,b,c⟩:=great_no ho h0;exact⟨a,b,c,Nat.le_of_not_lt (of_decide_eq_false h1),Nat.le_of_not_lt (of_decide_eq_false h2),Nat.le_of_not_lt (of_decide_eq_false h3)⟩
end Go.Proofs.YtjfihpaeglpblaaGreatDoor
namespace Go.Proofs.YtjfihpaeglpblaaGreatDoor
open Go.ChangeShapes Go.WideShapes Go.ChangeAt Go.RowKit
theorem cellsAx:Tryz.prog.cellsOf 37=3:=by kernel_rfl
theorem rN:Tryz.prog.cellsOf 35=1:=by kernel_rfl
section
variable {H:Type} {enc:TypeId×Value->H} {W:World}
theorem open_node{r:Reach}{b0:Nat}{v:Value}{d:DataW H}{p:List MemPlace}(hv:Value.okWide Tryz.prog W r b0 34 v)(h:DataW.Trod enc Tryz.prog W 0 (fun _=>true) true 34 v d p) :
  ∃ (t:Tree) (Cn:List Value),v=.agg Cn.toArray/\TreeP kK W t Cn.toArray/\t.ok (Rows.uptoBulk d)/\7*t.size<=Rows.uptoBulk d:=by
 obtain⟨cs,rfl,aq⟩:=okWide_struct Tryz.underlying34 hv;obtain⟨fuel,hf⟩:=h;have rz:DataW.trod enc Tryz.prog W 0 (fun _=>true) true fuel 34 cs.toList=some (d,p):=by simpa [Value.cells] using hf
 obtain⟨t,A,cp,h1,h2,h3,h4,h5⟩:=uGZ _ _ _ _ zr rz;refine⟨t,(aK t.h A t.l.length cp).toList,by rw[<- h1],⟨A,cp,rfl,h2,h3⟩,h4,h5⟩
theorem pN{n:Nat}{c:Value}{y:DataW H×List MemPlace}(hf:DataW.trod enc Tryz.prog W 0 (fun _=>true) true n 35 [c]=some y) :
  ∃ (A:Option Addr) (cap:Nat) (l:List IdR),c=.slice A l.length cap/\eS W A l/\∀ x∈l,x.fits:=by
 have key:∃ A len cap,c=.slice A len cap:=by
  rcases Go.Deep.open_slice Tryz.underlying35 hf with⟨fp,_⟩|⟨x,len,c',m,n,D,Pl,fp,_⟩
  ·injection fp with fp _;exact⟨_,_,_,fp⟩
  injection fp with fp _;exact⟨_,_,_,fp⟩
 obtain⟨A,len,cap,rfl⟩:=key;obtain⟨l,rfl,h1,h2⟩:=in_ids (enc:=enc) (W:=W) (d:=y.1) (p:=y.2) ⟨n,by simpa [Value.cells] using hf⟩;exact⟨A,cap,l,rfl,h1,h2⟩
theorem open_axes{r:Reach}{b0:Nat}{v:Value}{d:DataW H}{p:List MemPlace}(hv:Value.okWide Tryz.prog W r b0 37 v)(h:DataW.Trod enc Tryz.prog W 0 (fun _=>true) true 37 v d p) :
  ∃ (A B D:Option Addr) (ca cb cd:Nat) (ids jds dead:List IdR),v=axesV A B D ids.length jds.length dead.length ca cb cd/\eS W A ids/\eS W B jds/\eS W D dead/\(∀ x∈ids,x.fits)/\∀ x∈jds,x.fits:=by
 obtain⟨cs,rfl,aq⟩:=okWide_struct Tryz.underlying37 hv;obtain⟨l⟩:=cs
 match l,aq.trans cellsAx with
 | [c0,c1,c2],_=>
  obtain⟨fuel,hf⟩:=h;have rz:DataW.trod enc Tryz.prog W 0 (fun _=>true) true fuel 37 [c0,c1,c2]=some (d,p):=by simpa [Value.cells] using hf
  obtain⟨xs,n,_,hx,_,hlen,hg⟩:=DataW.trod_struct Tryz.underlying37 rz
  match xs,hlen with
  | [y0,y1,y2],_=>
   have g0:DataW.trod enc Tryz.prog W 0 (fun _=>true) true n 35 [c0]=some y0:=by have:=hg 0 _ rfl;simpa [rN] using this
   have g1:DataW.trod enc Tryz.prog W 0 (fun _=>true) true n 35 [c1]=some y1:=by have:=hg 1 _ rfl;simpa [rN] using this
   have g2:DataW.trod enc Tryz.prog W 0 (fun _=>true) true n 35 [c2]=some y2:=by have:=hg 2 _ rfl;simpa [rN] using this
   obtain⟨A,ca,ids,rfl,a1,a2⟩:=pN g0;obtain⟨B,cb,jds,rfl,b1,b2⟩:=pN g1;obtain⟨D,cd,dead,rfl,c1,c2⟩:=pN g2;exact⟨A,B,D,ca,cb,cd,ids,jds,dead,rfl,a1,b1,c1,a2,b2⟩
end
end Go.Proofs.YtjfihpaeglpblaaGreatDoor
namespace Go.Proofs.YtjfihpaeglpblaaGreatDoor
open Go.ChangeShapes Go.WideShapes Go.ChangeAt Go.RowKit
theorem cellsCe:Tryz.prog.cellsOf 49=4:=by kernel_rfl
section
variable {H:Type} {enc:TypeId×Value->H} {W:World}
theorem open_cell{r:Reach}{b0:Nat}{v:Value}{d:DataW H}{p:List MemPlace}(hv:Value.okWide Tryz.prog W r b0 49 v)(h:DataW.Trod enc Tryz.prog W 0 (fun _=>true) true 49 v d p) :
  ∃ (x y:IdR),v=.agg #[vI x.a,vI x.n,vI y.a,vI y.n]/\x.fits/\y.fits:=by
 obtain⟨cs,rfl,aq⟩:=okWide_struct Tryz.underlying49 hv;obtain⟨l⟩:=cs
 match l,aq.trans cellsCe with
 | [c0,c1,c2,c3],_=>
  obtain⟨fuel,hf⟩:=h;have rz:DataW.trod enc Tryz.prog W 0 (fun _=>true) true fuel 49 [c0,c1,c2,c3]=some (d,p):=by simpa [Value.cells] using hf
  obtain⟨xs,n,_,hx,_,hlen,hg⟩:=DataW.trod_struct Tryz.underlying49 rz
  match xs,hlen with
  | [y0,y1],_=>
   have g0:DataW.trod enc Tryz.prog W 0 (fun _=>true) true n 27 [c0,c1]=some y0:=by have:=hg 0 _ rfl;simpa [rD] using this
   have g1:DataW.trod enc Tryz.prog W 0 (fun _=>true) true n 27 [c2,c3]=some y1:=by have:=hg 1 _ rfl;simpa [rD] using this
   obtain⟨x,rfl,rfl,e2⟩:=lL g0;obtain⟨y,rfl,rfl,e4⟩:=lL g1;exact⟨x,y,rfl,e2,e4⟩
end
end Go.Proofs.YtjfihpaeglpblaaGreatDoor
