/-
  Lemmas, part 38: RsF FxC RenderFixedW RenderFixedC.
-/
import Derived.Test.YtjfihpaeglpblaaGreatDoorRf37
set_option maxHeartbeats 100000000
set_option maxRecDepth 1000000
namespace Go.Proofs.YtjfihpaeglpblaaGreatDoor
open Go.RowKit
theorem LawW.rel{w:World}{b:Nat}{t:Tree}{Cn:List Value}{R C:AxV}{rp cp p q:Option Nat}{W:World}(h:LawW w b t Cn R C rp cp p q W)(ho:t.ok 300)(ap:t.size<=400)(x y:IdR)(hx:x.fits)(hy:y.fits) :
  Calls Tryz.prog 17 #[.agg Cn.toArray,.agg #[vI x.a,vI x.n,vI y.a,vI y.n],.pointer (ptr rp),.pointer (ptr cp)] W fun e w'=>e=.returned (strV (jM R C x y t))/\LawW w b t Cn R C rp cp p q w'/\∀ g ty cs,Lies W g ty cs->ty≠152->Lies w' g ty cs :=
 (tH t 300 rp cp R C Cn x y hx hy W h.tree ho.fine ho (by omega) h.r h.c h.ne h.gl (fun x hx=>(h.lo x hx).2)).mono (fun _ _ ⟨e1,e2,e3,e4,e5⟩=>⟨e1,h.kp e5 e2 e3 e4,fun _ _ _ hl ht=>e5.lies hl ((wL h.r h.c).lies hl ht)⟩)
theorem uB{g:Nat}{t:TypeId}:∀ (vs:List Value) (o:Nat) (W:World) (cs:Array Value),Lies W g t cs->∃ l7,Lies (W.setCells g o vs) g t l7
 | [],_,_,cs,h=>⟨cs,h⟩
 |v::r,o,W,_,h=>uB r (o+1) (W.setCell ⟨g,o,none⟩ v) _ (h.put o v)
theorem oV{W:World}{Dn:List Value}(dq:Dn.length=22):World.there (W.alloc (.cells bT.toArray 34)) W.heap.size 0 Dn.toArray.size:=fun j hj=>by
 rw[yd,dq]at hj;have hl:=Lies.new W 34 bT.toArray;rw[Nat.zero_add,hl.cell j];exact⟨by rw[Array.getElem?_eq_getElem (show j<bT.toArray.size from hj)];rfl,hl.frozen j⟩
theorem nO{W:World}{Dn:List Value}:Below W.heap.size W ((W.alloc (.cells bT.toArray 34)).setCells W.heap.size 0 Dn):=gT zr _ _ _ ((Below.refl _ W).alloc zr _)
theorem LawW.fixed{w:World}{b:Nat}{t:Tree}{Cn Dn:List Value}{R C:AxV}{rp cp p q:Option Nat}{W3 W4:World}(h3:LawW w b t Cn R C rp cp p q W3)(hb:Below W3.heap.size W3 W4)(rz:TreeP (fun g=>W3.heap.size<=g) W4 (cR t) Dn.toArray)(dq:Dn.length=22):LawW w W4.heap.size (cR t) Dn R C rp cp p q ((W4.alloc (.cells bT.toArray 34)).setCells W4.heap.size 0 Dn):=by
 have hB:=nO (W:=W4) (Dn:=Dn);have h5:=(h3.next hb).next hB;have hth:=oV (W:=W4) dq;rw[yd]at hth;refine⟨uB Dn 0 _ _ (Lies.new W4 _ _),World.rangeAt_setCells_same _ _ 0 Dn hth,?_,h5.r,h5.c,h5.p,h5.q,h5.ne,h5.lo,h5.gl,h5.bel⟩;have h1:TreeP (fun g=>W3.heap.size<=g/\g<W4.heap.size) W4 (cR t) Dn.toArray:=rz.imp (fun g h1 h2=>⟨h1,h2⟩);exact(h1.keep ⟨hB.size,fun g hg=>hB.block g hg.2⟩).imp (fun g h1 _ hm=>by have:=(h3.lo g hm).2.1;omega)
theorem LawW.place_r{w:World}{b:Nat}{t:Tree}{Cn:List Value}{R C:AxV}{rp cp p q:Option Nat}{W:World}(h:LawW w b t Cn R C rp cp p q W)(x:IdR) :
  Calls Tryz.prog 20 #[.pointer (ptr p),.agg #[vI x.a,vI x.n]] W fun e w'=>e=.returned (vI (aF R x))/\LawW w b t Cn R C rp cp p q w'/\Below W.heap.size W w':=(pH p R x W h.p).mono (fun _ _ ⟨a,e⟩=>⟨a,h.next e,e⟩)
theorem LawW.place_c{w:World}{b:Nat}{t:Tree}{Cn:List Value}{R C:AxV}{rp cp p q:Option Nat}{W:World}(h:LawW w b t Cn R C rp cp p q W)(x:IdR) :
  Calls Tryz.prog 20 #[.pointer (ptr q),.agg #[vI x.a,vI x.n]] W fun e w'=>e=.returned (vI (aF C x))/\LawW w b t Cn R C rp cp p q w'/\Below W.heap.size W w':=(pH q C x W h.q).mono (fun _ _ ⟨a,e⟩=>⟨a,h.next e,e⟩)
abbrev FxR(q gA oA i gB oB k:Nat)(v1 v2:Value)(z z':IdR)(W:World):Prop:=W.cell? ⟨q+2,0,none⟩=some v1/\W.cell? ⟨q+2,1,none⟩=some v2/\W.cell? ⟨gA,oA+i*2,none⟩=some (vI z.a)/\W.cell? ⟨gA,oA+i*2+1,none⟩=some (vI z.n)/\W.cell? ⟨gB,oB+k*2,none⟩=some (vI z'.a)/\W.cell? ⟨gB,oB+k*2+1,none⟩=some (vI z'.n)
theorem fixed8_any(t:Tree)(N:Nat)(Cn:List Value)(A B D:Option Addr)(ca cb cd:Nat)(ids jds dead:List IdR)(w:World)(hg:Gl w)(hP:TreeP kV w t Cn.toArray)(ho:t.ok N)(ap:t.size<=1000000)(hA:eA w A ids)(hB:eA w B jds)(hD:eA w D dead)(hf:∀ y∈ids,y.fits)(ql:∀ y∈jds,y.fits)(x y:IdR)(hx:x.fits)(hy:y.fits) :
  Calls Tryz.prog 6 #[.agg Cn.toArray,.agg #[vI x.a,vI x.n,vI y.a,vI y.n],axesV A B D ids.length jds.length dead.length ca cb cd] w fun e w'=>e=.returned (.bool true)/\Below w.heap.size w w':=by
 obtain⟨W0,aj⟩:∃ W0,W0=((w.alloc (.cells Cn.toArray 34)).alloc (.cells #[vI x.a,vI x.n,vI y.a,vI y.n] 49)).alloc (.cells #[.slice A ids.length ca,.slice B jds.length cb,.slice D dead.length cd] 37):=⟨_,rfl⟩
 have ak:=zh aj;have aq:Hid (Below w.heap.size w W0):=zh (by rw[aj];exact(((Below.refl _ w).alloc zr _).alloc (by rw[World.size_alloc];omega) _).alloc (by rw[World.size_alloc,World.size_alloc];omega) _);have HL:Hid (Lies W0 w.heap.size 34 Cn.toArray):=zh (by rw[aj];exact((Lies.new w _ _).alloc _).alloc _);have iu:Hid (Lies W0 (w.heap.size+2) 37 #[.slice A ids.length ca,.slice B jds.length cb,.slice D dead.length cd]):=zh (by
  rw[aj];have h:=Lies.new ((w.alloc (.cells Cn.toArray 34)).alloc (.cells #[vI x.a,vI x.n,vI y.a,vI y.n] 49)) 37 #[.slice A ids.length ca,.slice B jds.length cb,.slice D dead.length cd];rw[World.size_alloc,World.size_alloc]at h;exact h)
 have jn:Hid (Lies W0 (w.heap.size+1) 49 #[vI x.a,vI x.n,vI y.a,vI y.n]):=zh (by
  rw[aj];have h:=Lies.new (w.alloc (.cells Cn.toArray 34)) 49 #[vI x.a,vI x.n,vI y.a,vI y.n];rw[World.size_alloc]at h;exact h.alloc _)
 have dq:Cn.length=22:=by
  obtain⟨A,ko,e,_⟩:=hP;exact jI e
 have bj:=zh (cN dq);have CA:=zh (lM W0 (hg.next aq.out));have HC:Hid (∀ W,Below w.heap.size w W->Below W0.heap.size W0 W->W.cell? ⟨w.heap.size+2,0,none⟩=some (.slice A ids.length ca)/\W.cell? ⟨w.heap.size+2,1,none⟩=some (.slice B jds.length cb)/\W.cell? ⟨w.heap.size+2,2,none⟩=some (.slice D dead.length cd)):=zh (fun W _ hb=>⟨(iu.out.next hb).cell 0,(iu.out.next hb).cell 1,(iu.out.next hb).cell 2⟩);have HG:=zh hg;have CG:Hid (∀ W,Below w.heap.size w W->Calls Tryz.prog 11 #[.agg Cn.toArray,axesV A B D ids.length jds.length dead.length ca cb cd] W fun e w'=>e=.returned (.bool (vL t ids.length jds.length dead.length))/\Below W.heap.size W w'):=zh (fun W (hb:Below w.heap.size w W)=>uAD t Cn A B D ids.length jds.length dead.length ca cb cd W (hP.nextA hb) ap);have HX:Hid (eA w A ids/\eA w B jds/\eA w D dead):=zh ⟨hA,hB,hD⟩;have HP:=zh hP
 have HF:=zh (And.intro hf ql);have HXY:=zh (And.intro hx hy);have qo:=zh (uEI (n1:=ids.length) (n2:=jds.length) (n3:=dead.length) ho);obtain⟨gb,mu⟩:=zD (vL t ids.length jds.length dead.length)
 rw[<- mu]at CG qo;clear hx hy;clear aj hP ap dq hg hA hB hD hf ql ho mu;cases gb
 case' true=>
  go_in
  go_upto_region 1 with fail
  rw[<- ak.out];clear ak qo HF HX
  go_wp2_with (first
   |((with_reducible refine CA.out.mono ?_);rintro e w1 ⟨rfl,hb⟩;have bf:=zT aq hb;have kv:=zh (HL.out.next hb).rangeM;obtain⟨x0,x1,x2⟩:=HC.out _ bf.out hb;clear hb)
   |(refine aI (Eq.trans (aQ rfl rfl rfl rfl) rfl) 34 (.tmp 3) rfl w.heap.size 0 rfl Cn _ kv.out Tryz.underlying34 rfl bj.out ?_)
   |((with_reducible refine(CG.out _ bf.out).mono ?_);rintro e w2 ⟨rfl,hb⟩;have ba:=zT bf hb;have CA2:=zh (lM w2 (HG.out.next ba.out));clear hb x0 x1 x2)
   |((with_reducible refine CA2.out.mono ?_);rintro e w3 ⟨rfl,hb⟩;have bi:=zT ba hb;clear hb))
  go_ret
  exact⟨rfl,bi.out⟩
 obtain⟨k1,-,k2,k3,k4,k5⟩:=qo.out rfl;have HK:=zh (And.intro k1 k2);obtain⟨P,hP⟩:=zD (ids.length*jds.length)
 have hPb:P<=3600:=by rw[hP];exact Nat.mul_le_mul k3 k4
 have hPi:(ids.length:Int)*(jds.length:Int)=(P:Int):=by rw[hP];exact(Int.natCast_mul _ _).symm
 have hwr:IntKind.i64.wrap ((ids.length:Int)*(jds.length:Int))=(P:Int):=by rw[hPi];exact IntWalk.i64_in _ (by omega)
 have HM:Hid (∀ W,Below w.heap.size w W->_):=zh (fun W (hb:Below w.heap.size w W)=>made_any A B D ca cb cd ids jds dead W (cZ HX.out.1 hb) (cZ HX.out.2.1 hb) (cZ HX.out.2.2 hb) (by omega) (by omega) (by omega) HF.out.1 HF.out.2);have gx:Hid (ids.length<=60/\jds.length<=60):=zh ⟨k3,k4⟩;clear qo k1 k2 k3 k4 k5 hP hPi;by_cases h60:60<P
 ·have hgt:(60:Int)<(P:Int):=by omega
  clear HM HF HX
  go_in
  go_upto_region 1 with fail
  rw[<- ak.out];clear ak
  go_upto_region 2 with(first
   |((with_reducible refine CA.out.mono ?_);rintro e w1 ⟨rfl,hb⟩;have bf:=zT aq hb;have ec:=zh hb;have kv:=zh (HL.out.next hb).rangeM;obtain⟨x0,x1,x2⟩:=HC.out _ bf.out hb;clear hb)
   |(refine aI (Eq.trans (aQ rfl rfl rfl rfl) rfl) 34 (.tmp 3) rfl w.heap.size 0 rfl Cn _ kv.out Tryz.underlying34 rfl bj.out ?_)
   |((with_reducible refine(CG.out _ bf.out).mono ?_);rintro e w2 ⟨rfl,hb⟩;have ba:=zT bf hb;have bu:=zT ec hb;clear x0 x1 x2;obtain⟨x0,x1,x2⟩:=HC.out _ ba.out bu.out;clear hb))
  have CA2:=zh (lM w2 (HG.out.next ba.out))
  go_wp2_with ((with_reducible refine CA2.out.mono ?_);rintro e w3 ⟨rfl,hb⟩;have bi:=zT ba hb;clear hb)
  go_ret
  exact⟨rfl,bi.out⟩
 have hgt:¬ (60:Int)<(P:Int):=by omega
 go_in
 go_upto_region 1 with fail
 rw[<- ak.out];clear ak
 go_upto_region 4 with(first
  |((with_reducible refine CA.out.mono ?_);rintro e w1 ⟨rfl,hb⟩;have bf:=zT aq hb;have ec:=zh hb;have kv:=zh (HL.out.next hb).rangeM;obtain⟨x0,x1,x2⟩:=HC.out _ bf.out hb;clear hb)
  |(refine aI (Eq.trans (aQ rfl rfl rfl rfl) rfl) 34 (.tmp 3) rfl w.heap.size 0 rfl Cn _ kv.out Tryz.underlying34 rfl bj.out ?_)
  |((with_reducible refine(CG.out _ bf.out).mono ?_);rintro e w2 ⟨rfl,hb⟩;have ba:=zT bf hb;have bu:=zT ec hb;clear x0 x1 x2;obtain⟨x0,x1,x2⟩:=HC.out _ ba.out bu.out;clear hb)
  |((with_reducible refine(HM.out _ ba.out).mono ?_);rintro e w3 ⟨r,c,m1,m2,rfl,hm⟩;have HMd:=zh hm;clear hm x0 x1 x2))
 have HS:Hid (LawW w w.heap.size t Cn (eB ids dead) (eB jds dead) (some r) (some c) (some m1) (some m2) w3):=zh (LawW.of_made HMd.out ba.out (HG.out.next ba.out) ⟨_,HL.out.next bu.out⟩ (HL.out.next bu.out).rangeM (HP.out.nextA ba.out));have HLc3:Hid (Lies w3 (w.heap.size+1) 49 #[vI x.a,vI x.n,vI y.a,vI y.n]):=zh ((jn.out.next bu.out).next HMd.out.b);have HLx3:Hid (Lies w3 (w.heap.size+2) 37 #[.slice A ids.length ca,.slice B jds.length cb,.slice D dead.length cd]):=zh ((iu.out.next bu.out).next HMd.out.b);clear HMd kv ec bu bf ba CA CG HC HM HL aq HP HG jn iu hwr hgt h60 hPb;generalize eB ids dead=R at *;generalize eB jds dead=C at *;have hfx:=uEH 1000 (by decide) t (by have:=HK.out.2;omega) Cn w3 HS.out.any;unfold FxP at hfx;have CX:=zh hfx;have j8:=zh HS.out.row;clear hfx
 go_wp2_with (first |(refine yr rfl 34 (.tmp 3) rfl w.heap.size 0 rfl Cn _ j8.out Tryz.underlying34 rfl bj.out ?_))
 refine CX.out.mono ?_;rintro e' w4 ⟨Dn,rfl,rz,ki⟩;have ui:Dn.length=22:=by
  obtain⟨A',c',e',_⟩:=rz;exact jI e'
 have HZ:Hid (LawW w w4.heap.size (cR t) Dn R C (some r) (some c) (some m1) (some m2) ((w4.alloc (.cells bT.toArray 34)).setCells w4.heap.size 0 Dn)/\Lies ((w4.alloc (.cells bT.toArray 34)).setCells w4.heap.size 0 Dn) (w.heap.size+1) 49 #[vI x.a,vI x.n,vI y.a,vI y.n]/\Lies ((w4.alloc (.cells bT.toArray 34)).setCells w4.heap.size 0 Dn) (w.heap.size+2) 37 #[.slice A ids.length ca,.slice B jds.length cb,.slice D dead.length cd]):=zh ⟨HS.out.fixed ki rz ui,(HLc3.out.next ki).next nO,(HLx3.out.next ki).next nO⟩;have HTh:Hid (World.there (w4.alloc (.cells bT.toArray 34)) w4.heap.size 0 Dn.toArray.size):=zh (oV ui);have HOn:Hid (Dn.toArray.all (·.oneCell')=true):=zh rz.one
 have r7:(Tryz.prog.info? 34).map (·.size)=some Dn.toArray.size:=by rw[yd,ui];exact bO
 have r8:=zh (cN ui);clear CX j8 HS HLc3 HLx3 rz ki ui bj;simp only[bT]at HZ
 go_upto_region 5 with(first |(refine yq rfl 34 (.tmp 11) (.tmp 44) rfl w4.heap.size 0 Dn.toArray rfl rfl HTh.out r7 HOn.out ?_;change wpList _ _ _ _ _ (World.setCells _ w4.heap.size 0 Dn);generalize World.setCells _ _ _ _=w5 at HZ ⊢))
 clear HTh HOn r7;generalize w4.heap.size=b at *;have uj:Hid ((cR t).ok 300/\(cR t).size<=400):=zh ⟨uDB HK.out.1,by rw[tT];exact HK.out.2⟩;obtain⟨S,hS⟩:∃ S:World->Prop,∀ W,S W↔(LawW w b (cR t) Dn R C (some r) (some c) (some m1) (some m2) W/\Lies W (w.heap.size+1) 49 #[vI x.a,vI x.n,vI y.a,vI y.n]/\Lies W (w.heap.size+2) 37 #[.slice A ids.length ca,.slice B jds.length cb,.slice D dead.length cd]):=⟨_,fun _=>Iff.rfl⟩
 have lk:Hid (∀ W W',S W->Below W.heap.size W W'->S W'):=zh (fun W W' h hb=>by
  obtain⟨a,e1,e2⟩:=(hS W).1 h;exact(hS W').2 ⟨a.next hb,e1.next hb,e2.next hb⟩)
 have CK:Hid (∀ W,S W->Calls Tryz.prog 16 #[.agg Dn.toArray] W fun e w'=>e=.returned (vI (cL (cR t):Nat))/\Below W.heap.size W w'):=zh (fun W h=>uBG (cR t) Dn.toArray W uj.out.1.fine (by have:=uj.out.2;omega) (((hS W).1 h).1.any.nextIn zB));have CPr:Hid (∀ W (z:IdR),S W->Calls Tryz.prog 20 #[vP m1 0,.agg #[vI z.a,vI z.n]] W fun e w'=>e=.returned (vI (aF R z))/\Below W.heap.size W w'):=zh (fun W z h=>(((hS W).1 h).1.place_r z).mono (fun _ _ ⟨a,_,d⟩=>⟨a,d⟩));have CPc:Hid (∀ W (z:IdR),S W->Calls Tryz.prog 20 #[vP m2 0,.agg #[vI z.a,vI z.n]] W fun e w'=>e=.returned (vI (aF C z))/\Below W.heap.size W w'):=zh (fun W z h=>(((hS W).1 h).1.place_c z).mono (fun _ _ ⟨a,_,d⟩=>⟨a,d⟩))
 have CRl:Hid (∀ W (z z':IdR),z.fits->z'.fits->S W->Calls Tryz.prog 17 #[.agg Dn.toArray,.agg #[vI z.a,vI z.n,vI z'.a,vI z'.n],vP r 0,vP c 0] W fun e w'=>e=.returned (strV (jM R C z z' (cR t)))/\S w'/\∀ g cs,Lies W g 49 cs->Lies w' g 49 cs):=zh (fun W z z' f1 f2 h=>by
  obtain⟨a,e1,e2⟩:=(hS W).1 h;refine(a.rel uj.out.1 uj.out.2 z z' f1 f2).mono ?_;rintro e w' ⟨rfl,k1,k2⟩;exact⟨rfl,(hS _).2 ⟨k1,k2 _ _ _ e1 (by decide),k2 _ _ _ e2 (by decide)⟩,fun g cs hl=>k2 _ _ _ hl (by decide)⟩)
 have gy:Hid (∀ W,S W->W.rangeAt b 0 Dn):=zh (fun W h=>((hS W).1 h).1.row);have ww:Hid (∀ W,S W->Below w.heap.size w W):=zh (fun W h=>((hS W).1 h).1.bel);have xx:Hid (∀ W,S W->W.cell? ⟨w.heap.size+1,0,none⟩=some (vI x.a)/\W.cell? ⟨w.heap.size+1,1,none⟩=some (vI x.n)/\W.cell? ⟨w.heap.size+1,2,none⟩=some (vI y.a)/\W.cell? ⟨w.heap.size+1,3,none⟩=some (vI y.n)):=zh (fun W h=>by
  have g:=((hS W).1 h).2.1;exact⟨g.cell 0,g.cell 1,g.cell 2,g.cell 3⟩)
 have HCx:Hid (∀ W,S W->W.cell? ⟨w.heap.size+2,0,none⟩=some (.slice A ids.length ca)/\W.cell? ⟨w.heap.size+2,1,none⟩=some (.slice B jds.length cb)):=zh (fun W h=>by
  have g:=((hS W).1 h).2.2;exact⟨g.cell 0,g.cell 1⟩)
 have lx:Hid (S w5):=zh ((hS w5).2 HZ.out);clear HZ hS HK uj;have HIx:Hid (∀ W,S W->eA W A ids/\eA W B jds):=zh (fun W h=>⟨cZ HX.out.1 (ww.out W h),cZ HX.out.2.1 (ww.out W h)⟩);clear HX;by_cases hck:cL (cR t)≠0
 ·have o4:((cL (cR t):Int) != 0)=true:=by simp;omega
  have lh:=zh (gy.out _ lx.out)
  go_wp2_with (first |(refine yr rfl 34 (.tmp 11) rfl b 0 rfl Dn _ lh.out Tryz.underlying34 rfl r8.out ?_))
  refine(CK.out _ lx.out).mono ?_;rintro e' w6 ⟨rfl,hb⟩;have qe:=zh (ww.out _ (lk.out _ _ lx.out hb))
  go_wp2_with fail
  go_ret
  exact⟨rfl,qe.out⟩
 replace hck:cL (cR t)=0:=by omega
 have CK0:=CK.out;rw[hck]at CK0;have CK1:=zh CK0;clear CK CK0;have xj:Hid (∀ z z',0<=aF R x->0<=aF C y->0<=aF R z->0<=aF C z'->jM R C z z' (cR t)=jM R C x y (cR t)):=zh (fun z z' a b c d=>zZ R C t z z' x y hck c d a b);have HNe:Hid (0<=aF R x->0<=aF C y->jM R C x y (cR t)≠[]):=zh (fun a b=>fixed_ne R C t x y hck a b);have qo:Hid (∀ z z',aF R z<0\/aF C z'<0->jM R C z z' (cR t)=[]):=zh (fun z z' h=>zX R C (cR t) z z' h);clear hck;by_cases h1:aF R x<0
 ·go_wp2_with (first
   |(refine yr rfl 34 (.tmp 11) rfl b 0 rfl Dn _ (gy.out _ lx.out) Tryz.underlying34 rfl r8.out ?_)
   |((with_reducible refine(CK1.out _ lx.out).mono ?_);rintro e w6 ⟨rfl,hb⟩;have dz:=zh (lk.out _ _ lx.out hb);obtain⟨y0,y1,y2,y3⟩:=xx.out _ dz.out;clear hb)
   |((with_reducible refine(CPr.out _ x dz.out).mono ?_);rintro e w7 ⟨rfl,hb⟩;have j7:=zh (lk.out _ _ dz.out hb);clear y0 y1 y2 y3;obtain⟨y0,y1,y2,y3⟩:=xx.out _ j7.out;clear hb))
  go_ret
  exact⟨rfl,ww.out _ j7.out⟩
 by_cases h2:aF C y<0
 ·go_wp2_with (first
   |(refine yr rfl 34 (.tmp 11) rfl b 0 rfl Dn _ (gy.out _ lx.out) Tryz.underlying34 rfl r8.out ?_)
   |((with_reducible refine(CK1.out _ lx.out).mono ?_);rintro e w6 ⟨rfl,hb⟩;have dz:=zh (lk.out _ _ lx.out hb);obtain⟨y0,y1,y2,y3⟩:=xx.out _ dz.out;clear hb)
   |((with_reducible refine(CPr.out _ x dz.out).mono ?_);rintro e w7 ⟨rfl,hb⟩;have j7:=zh (lk.out _ _ dz.out hb);clear y0 y1 y2 y3;obtain⟨y0,y1,y2,y3⟩:=xx.out _ j7.out;clear hb)
   |((with_reducible refine(CPc.out _ y j7.out).mono ?_);rintro e w8 ⟨rfl,hb⟩;have vq:=zh (lk.out _ _ j7.out hb);clear y0 y1 y2 y3;obtain⟨y0,y1,y2,y3⟩:=xx.out _ vq.out;clear hb))
  go_ret
  exact⟨rfl,ww.out _ vq.out⟩
 go_upto_region 7 with(first
  |(refine yr rfl 34 (.tmp 11) rfl b 0 rfl Dn _ (gy.out _ lx.out) Tryz.underlying34 rfl r8.out ?_)
  |((with_reducible refine(CK1.out _ lx.out).mono ?_);rintro e w6 ⟨rfl,hb⟩;have dz:=zh (lk.out _ _ lx.out hb);obtain⟨y0,y1,y2,y3⟩:=xx.out _ dz.out;clear hb)
  |((with_reducible refine(CPr.out _ x dz.out).mono ?_);rintro e w7 ⟨rfl,hb⟩;have j7:=zh (lk.out _ _ dz.out hb);clear y0 y1 y2 y3;obtain⟨y0,y1,y2,y3⟩:=xx.out _ j7.out;clear hb)
  |((with_reducible refine(CPc.out _ y j7.out).mono ?_);rintro e w8 ⟨rfl,hb⟩;have vq:=zh (lk.out _ _ j7.out hb);clear y0 y1 y2 y3;obtain⟨y0,y1,y2,y3⟩:=xx.out _ vq.out;clear hb))
 have wn:0<=aF R x:=by omega
 have h2':0<=aF C y:=by omega
 have HLx:=zh (fun z z'=>xj.out z z' wn h2');have HNx:=zh (HNe.out wn h2');clear xj HNe h1 h2 wn h2' lx CK1
 go_wp2_with (first
  |(refine yr rfl 34 (.tmp 11) rfl b 0 rfl Dn _ (gy.out _ vq.out) Tryz.underlying34 rfl r8.out ?_))
 refine(CRl.out _ x y HXY.out.1 HXY.out.2 vq.out).mono ?_;rintro e' w9 ⟨rfl,hs9,-⟩;have HS9:=zh hs9;clear hs9 y0 y1 y2 y3 dz j7 vq;generalize jM R C x y (cR t)=X at *
 go_wp2_with fail
 go_loopw [13] (fun v wr=>∃ i:Nat,i<=ids.length/\v=vI (i:Int)/\Hid (S wr)) (fun v _=>ids.length-(intOf v).toNat)
 case atStart=>exact⟨0,zm _,rfl,HS9⟩
 case round=>
  obtain⟨i,hi,rfl,HSr⟩:=hrel;obtain⟨x0,x1⟩:=HCx.out _ HSr.out;by_cases hlt:i<ids.length
  ·have hii:(i:Int)<(ids.length:Int):=by omega
   have hib:(i:Int)<=60:=by have:=gx.out;omega
   go_wp2_with fail
   go_loopw [14] (fun v wr=>∃ k:Nat,k<=jds.length/\v=vI (k:Int)/\Hid (S wr)) (fun v _=>jds.length-(intOf v).toNat)
   case atStart=>exact⟨0,zm _,rfl,HSr⟩
   case round=>
    obtain⟨k,hk,rfl,HSq⟩:=hrel;clear x0 x1;obtain⟨x0,x1⟩:=HCx.out _ HSq.out;by_cases hkt:k<jds.length
    ·have ip:(k:Int)<(jds.length:Int):=by omega
     have rg:(k:Int)<=60:=by have:=gx.out;omega
     obtain⟨gA,oA,rfl,hrA⟩:=(HIx.out _ HSq.out).1 (by omega);obtain⟨gB,oB,rfl,hrB⟩:=(HIx.out _ HSq.out).2 (by omega);obtain⟨a1,a2⟩:=hrA.2 i hlt;obtain⟨b1,b2⟩:=hrB.2 k hkt;have fz:=HF.out.1 _ (List.getElem_mem hlt);have fz':=HF.out.2 _ (List.getElem_mem hkt);have HGa:Hid (gA<wr.heap.size/\gB<wr.heap.size):=zh ⟨hrA.1,hrB.1⟩;generalize ids[i]'hlt=z at *;generalize jds[k]'hkt=z' at *;have HFz:=zh (And.intro fz fz');have tj:Hid (∀ W,Below wr.heap.size wr W->FxR w.heap.size gA oA i gB oB k (.slice (some ⟨gA,oA,none⟩) ids.length ca) (.slice (some ⟨gB,oB,none⟩) jds.length cb) z z' W):=zh (fun W hb=>⟨(HCx.out _ (lk.out _ _ HSq.out hb)).1,(HCx.out _ (lk.out _ _ HSq.out hb)).2,(hb.cell (p:=⟨gA,oA+i*2,none⟩) HGa.out.1).trans a1,(hb.cell (p:=⟨gA,oA+i*2+1,none⟩) HGa.out.1).trans a2,(hb.cell (p:=⟨gB,oB+k*2,none⟩) HGa.out.2).trans b1,(hb.cell (p:=⟨gB,oB+k*2+1,none⟩) HGa.out.2).trans b2⟩)
     clear hrA hrB a1 a2 b1 b2 fz fz'
     go_upto_region 14 with fail
     clear x0 x1;refine wp_region_held_drew (S:=fun w'=>FxR w.heap.size gA oA i gB oB k (.slice (some ⟨gA,oA,none⟩) ids.length ca) (.slice (some ⟨gB,oB,none⟩) jds.length cb) z z' w') (by kernel_rfl) (tj.out _ zB.drew) (fun af=>?_);refine TkA 0 (vP (w.heap.size+2) 0) ?_;refine TkB 1 (.slice (some ⟨gA,oA,none⟩) ids.length ca) ?_;refine TkA 2 (vI (i:Int)) ?_;refine TkC 3 (vP gA (oA+i*2)) rfl (Or.inl ⟨by rfl,fun w2 hS=>by simp[execOp,go_sem,hii]⟩) ?_;refine TkB 4 (.agg #[vI z.a,vI z.n]) ?_;refine TkA 5 (vP (w.heap.size+2) 1) ?_;refine TkB 6 (.slice (some ⟨gB,oB,none⟩) jds.length cb) ?_;refine TkA 7 (vI (k:Int)) ?_;refine TkC 8 (vP gB (oB+k*2)) rfl (Or.inl ⟨by rfl,fun w2 hS=>by simp[execOp,go_sem,ip]⟩) ?_;refine TkB 9 (.agg #[vI z'.a,vI z'.n]) ?_
     refine TkA 10 (.agg #[vI z.a,vI z.n,vI z'.a,vI z'.n]) ?_;refine TkR 11 (fun K hK=>?_)
     go_simp
     obtain⟨Va,hVa⟩:∃ Va,Va=(wr.alloc (.cells #[vI 0,vI 0,vI 0,vI 0] 49)).drew:=⟨_,rfl⟩
     rw[<- hVa];have oc:Hid (Below wr.heap.size wr Va):=zh (by rw[hVa];exact((Below.refl _ wr).alloc zr _).drew);have ec:Hid (Lies Va wr.heap.size 49 #[vI 0,vI 0,vI 0,vI 0]):=zh (by rw[hVa];exact(Lies.new wr _ _).next zB.drew);clear hVa;refine hK.out _ _ (tj.out _ oc.out) (fun aa=>?_);clear hK K af;have af:=aa;clear aa;have u0c:Va.cell? ⟨wr.heap.size,0,none⟩=some (vI 0):=ec.out.cell 0;have u0f:=ec.out.frozen 0;have u1c:Va.cell? ⟨wr.heap.size,1,none⟩=some (vI 0):=ec.out.cell 1;have u1f:=ec.out.frozen 1;have u2c:Va.cell? ⟨wr.heap.size,2,none⟩=some (vI 0):=ec.out.cell 2;have u2f:=ec.out.frozen 2;have u3c:Va.cell? ⟨wr.heap.size,3,none⟩=some (vI 0):=ec.out.cell 3;have u3f:=ec.out.frozen 3;refine TkR 12 (fun K hK=>?_)
     go_simp
     obtain⟨Vb,hVb⟩:∃ Vb,Vb=(((Va.setCell ⟨wr.heap.size,0,none⟩ (vI z.a)).setCell ⟨wr.heap.size,1,none⟩ (vI z.n)).setCell ⟨wr.heap.size,2,none⟩ (vI z'.a)).setCell ⟨wr.heap.size,3,none⟩ (vI z'.n):=⟨_,rfl⟩
     rw[<- hVb];have ig:Hid (Below wr.heap.size wr Vb):=zh (by rw[hVb];exact(((oc.out.setCell (p:=⟨_,_,none⟩) zr _).setCell (p:=⟨_,_,none⟩) zr _).setCell (p:=⟨_,_,none⟩) zr _).setCell (p:=⟨_,_,none⟩) zr _);have bu:Hid (Lies Vb wr.heap.size 49 #[vI z.a,vI z.n,vI z'.a,vI z'.n]):=zh (by
      rw[hVb];have k:=(((ec.out.put 0 (vI z.a)).put 1 (vI z.n)).put 2 (vI z'.a)).put 3 (vI z'.n);simpa using k)
     clear hVb u0c u1c u2c u3c u0f u1f u2f u3f oc ec;refine hK.out _ _ (tj.out _ ig.out) (fun aa=>?_);clear hK K af aa;refine TkD ?_
     (try simp only[Act.put,yz])
     have HSv:=zh (lk.out _ _ HSq.out ig.out);clear tj HGa ig;have v0:Vb.cell? ⟨wr.heap.size,0,none⟩=some (vI z.a):=bu.out.cell 0;have v1:Vb.cell? ⟨wr.heap.size,1,none⟩=some (vI z.n):=bu.out.cell 1;have v2:Vb.cell? ⟨wr.heap.size,2,none⟩=some (vI z'.a):=bu.out.cell 2;have v3:Vb.cell? ⟨wr.heap.size,3,none⟩=some (vI z'.n):=bu.out.cell 3
     go_wp2_with (first
      |(refine yr rfl 34 (.tmp 11) rfl b 0 rfl Dn _ (gy.out _ HSv.out) Tryz.underlying34 rfl r8.out ?_))
     refine(CRl.out _ z z' HFz.out.1 HFz.out.2 HSv.out).mono ?_;rintro e' q1 ⟨rfl,hs,hl⟩;have HSw:=zh hs;have HLq:=zh (hl _ _ bu.out);clear hs hl v0 v1 v2 v3 bu HSv;have v0:q1.cell? ⟨wr.heap.size,0,none⟩=some (vI z.a):=HLq.out.cell 0;have v1:q1.cell? ⟨wr.heap.size,1,none⟩=some (vI z.n):=HLq.out.cell 1;have v2:q1.cell? ⟨wr.heap.size,2,none⟩=some (vI z'.a):=HLq.out.cell 2;have v3:q1.cell? ⟨wr.heap.size,3,none⟩=some (vI z'.n):=HLq.out.cell 3
     go_wp2_with fail
     refine(CPr.out _ z HSw.out).mono ?_;rintro e' q2 ⟨rfl,hb⟩;have HSx:=zh (lk.out _ _ HSw.out hb);have xr:=zh (HLq.out.next hb);clear hb v0 v1 v2 v3 HLq HSw;have v0:q2.cell? ⟨wr.heap.size,0,none⟩=some (vI z.a):=xr.out.cell 0;have v1:q2.cell? ⟨wr.heap.size,1,none⟩=some (vI z.n):=xr.out.cell 1;have v2:q2.cell? ⟨wr.heap.size,2,none⟩=some (vI z'.a):=xr.out.cell 2;have v3:q2.cell? ⟨wr.heap.size,3,none⟩=some (vI z'.n):=xr.out.cell 3;by_cases p1:0<=aF R z
     ·go_wp2_with fail
      refine(CPc.out _ z' HSx.out).mono ?_;rintro e' q3 ⟨rfl,hb⟩;have HSy:=zh (lk.out _ _ HSx.out hb);clear hb v0 v1 v2 v3;by_cases p2:0<=aF C z'
      ·rw[HLx.out z z' p1 p2]
       go_wp2_with fail
       go_roundw
       case rel=>exact⟨k+1,by omega,by go_num,HSy⟩
       case measure=>simp[intOf];omega
      rw[qo.out z z' (.inr (by omega))]
      go_wp2_with fail
      go_roundw
      case rel=>exact⟨k+1,by omega,by go_num,HSy⟩
      case measure=>simp[intOf];omega
     rw[qo.out z z' (.inl (by omega))]
     go_wp2_with fail
     go_roundw
     case rel=>exact⟨k+1,by omega,by go_num,HSx⟩
     case measure=>simp[intOf];omega
    have hkn:¬ ((k:Int)<(jds.length:Int)):=by omega
    go_wp2_with fail
    go_roundw
    case rel=>exact⟨i+1,by omega,by go_num,HSq⟩
    case measure=>simp[intOf];omega
  have sq:¬ ((i:Int)<(ids.length:Int)):=by omega
  have cg:(X==([]:Bs))=false:=by rw[beq_eq_false_iff_ne];exact HNx.out
  have hbn:(X != ([]:Bs))=true:=by rw[bne,cg];rfl
  go_wp2_with fail
  go_ret
  exact⟨rfl,ww.out _ HSr.out⟩
end Go.Proofs.YtjfihpaeglpblaaGreatDoor
namespace Go.Proofs.YtjfihpaeglpblaaGreatDoor.renderFixed
open Go.ChangeShapes Go.WideShapes Go.ChangeAt Go.RowKit
open Go.ChangeMaps (open_string shut_string)
theorem contract(H:Type)(enc:TypeId×Value->H)(W:World)(base:Nat)(args:Array Value)(ds gs:List (DataW H))(before:List MemPlace)
  (hval:∀ (j:Nat) t v,Tryz.f6.params[j]?=some t->args[j]?=some v->Value.okWide Tryz.prog W .any base t v)
  (hW:DataW.Whole enc Tryz.prog Tryz.f6.params.toList Rows.renderFixedSpec.vars false W args.toList ds gs before) (hL:laidMetH Tryz.prog Rows.renderFixedUptoRow.laid W) (hSh:W.ShapedOpen Tryz.prog) (hcd:Rows.uptoSmall H (ds++gs)=true) :
  Calls Tryz.prog 6 args W fun e W'=>∃ v,e=.returned v/\Rows.renderFixedSpec.post enc Tryz.prog Tryz.f6 false true false false W args v W':=by
 have hW':=hW;obtain⟨p,q,hA0,hV,rfl,hfz,hnd⟩:=hW;have hA:DataW.TrodAll enc Tryz.prog W 0 (fun _=>true) true Tryz.f6.params.toList args.toList ds p:=hA0;rw[Tryz.params6]at hA hval;obtain⟨v0,vs0,d0,ds0,p0,q0,hargs,rfl,rfl,h0,r0⟩:=trodAll_cons hA;obtain⟨v1,vs1,d1,ds1,p1,q1,rfl,rfl,rfl,h1,r1⟩:=trodAll_cons r0;obtain⟨v2,vs2,d2,ds2,p2,q2,rfl,rfl,rfl,h2,r2⟩:=trodAll_cons r1;obtain⟨rfl,rfl,rfl⟩:=trodAll_nil r2;obtain rfl:args=#[v0,v1,v2]:=by cases args;simp_all
 obtain⟨rfl,rfl⟩:=trodVars_none hV;have hb:=of_decide_eq_true hcd;have k0:=h0;have lt0:∀ x∈p0,x.block<W.heap.size:=by obtain⟨m,hm⟩:=k0;exact DataW.trod_lt m _ _ _ hm
 obtain⟨t0,Cn0,rfl,P0,o0,z0⟩:=open_node (hval 0 34 v0 rfl rfl) h0;have b0:Rows.uptoBulk d0<=1048576:=yv (bulk_part (by simp)) hb;have k1:=h1;have lt1:∀ x∈p1,x.block<W.heap.size:=by obtain⟨m,hm⟩:=k1;exact DataW.trod_lt m _ _ _ hm
 obtain⟨x1,y1,rfl,fx1,fy1⟩:=open_cell (hval 1 49 v1 rfl rfl) h1;have k2:=h2;have lt2:∀ x∈p2,x.block<W.heap.size:=by obtain⟨m,hm⟩:=k2;exact DataW.trod_lt m _ _ _ hm
 obtain⟨A2,B2,D2,ca2,cb2,cd2,is2,js2,ks2,rfl,ha2,hb2,hd2,fa2,fb2⟩:=open_axes (hval 2 37 v2 rfl rfl) h2;have hgl:Gl W:=⟨tab_of_laid (laid:=Rows.renderFixedUptoRow.laid) hL (by first|exact List.mem_cons_self .. |(unfold faultName;simp[Rows.renderFixedUptoRow])),pow_of_laid (laid:=Rows.renderFixedUptoRow.laid) hL (by simp[Rows.renderFixedUptoRow]),max_of_shaped hSh⟩
 clear hA0 hval hcd;have walk:Calls Tryz.prog 6 #[.agg Cn0.toArray,.agg #[vI x1.a,vI x1.n,vI y1.a,vI y1.n],axesV A2 B2 D2 is2.length js2.length ks2.length ca2 cb2 cd2] W fun e w'=>e=.returned (.bool true)/\Below W.heap.size W w':=by
  exact fixed8_any t0 _ Cn0 A2 B2 D2 ca2 cb2 cd2 is2 js2 ks2 W hgl P0 o0 (by omega) ha2 hb2 hd2 fa2 fb2 x1 y1 fx1 fy1
 refine walk.mono fun e W' ⟨he,bel⟩=>?_
 subst he;exact⟨_,rfl,_,_,_,[],_,[],hW',trodAll_mk1 (shut_bool Tryz.underlying4 _),(trodAll_cons_mk (Below.trod laidOut (by kernel_rfl) (of_decide_eq_true (by kernel_rfl)) k0 bel lt0) (trodAll_cons_mk (Below.trod laidOut (by kernel_rfl) (of_decide_eq_true (by kernel_rfl)) k1 bel lt1) (trodAll_cons_mk (Below.trod laidOut (by kernel_rfl) (of_decide_eq_true (by kernel_rfl)) k2 bel lt2) trodAll_mk0))),rfl,bel.frame _,fun h=>by cases h⟩
end Go.Proofs.YtjfihpaeglpblaaGreatDoor.renderFixed
