/-
  Lemmas, part 31: RsF RenderRelativeW RenderRelativeC.
-/
import Derived.Test.YtjfihpaeglpblaaGreatDoorRv30
set_option maxHeartbeats 100000000
set_option maxRecDepth 1000000
namespace Go.Proofs.YtjfihpaeglpblaaGreatDoor
open Go.RowKit
theorem LawW.rel{w:World}{b:Nat}{t:Tree}{Cn:List Value}{R C:AxV}{rp cp p q:Option Nat}{W:World}(h:LawW w b t Cn R C rp cp p q W)(ho:t.ok 300)(aq:t.size<=400)(x y:IdR)(hx:x.fits)(hy:y.fits) :
  Calls Tryz.prog 17 #[.agg Cn.toArray,.agg #[vI x.a,vI x.n,vI y.a,vI y.n],.pointer (ptr rp),.pointer (ptr cp)] W fun e w'=>e=.returned (strV (nA R C x y t))/\LawW w b t Cn R C rp cp p q w'/\∀ g ty cs,Lies W g ty cs->ty≠152->Lies w' g ty cs :=
 (uN t 300 rp cp R C Cn x y hx hy W h.tree ho.fine ho (by omega) h.r h.c h.ne h.gl (fun x hx=>(h.lo x hx).2)).mono (fun _ _ ⟨e1,e2,e3,e4,e5⟩=>⟨e1,h.kp e5 e2 e3 e4,fun _ _ _ hl ht=>e5.lies hl ((xR h.r h.c).lies hl ht)⟩)
theorem LawW.rrel{w:World}{b:Nat}{t:Tree}{Cn:List Value}{R C:AxV}{rp cp p q:Option Nat}{W:World}(h:LawW w b t Cn R C rp cp p q W)(ho:t.ok 300)(aq:t.size<=400)(x y:IdR) :
  Calls Tryz.prog 18 #[.agg Cn.toArray,.agg #[vI x.a,vI x.n,vI y.a,vI y.n],.pointer (ptr p),.pointer (ptr q)] W fun e w'=>e=.returned (strV (nA R C x y t))/\LawW w b t Cn R C rp cp p q w'/\∀ g ty cs,Lies W g ty cs->Lies w' g ty cs :=
 (uJ t p q R C Cn x y W h.any ho.fine (by omega) h.p h.q).mono (fun _ _ ⟨e1,e5⟩=>⟨e1,h.next e5,fun _ _ _ hl=>hl.next e5⟩)
theorem relative_any(t:Tree)(N:Nat)(Cn:List Value)(A B D:Option Addr)(ca cb cd:Nat)(ids jds dead:List IdR)(w:World)(hg:Gl w)(hP:TreeP kK w t Cn.toArray)(ho:t.ok N)(aq:t.size<=1000000)(hA:eS w A ids)(hB:eS w B jds)(hD:eS w D dead)(hf:∀ y∈ids,y.fits)(rz:∀ y∈jds,y.fits)(x y:IdR)(hx:x.fits)(hy:y.fits) :
  Calls Tryz.prog 5 #[.agg Cn.toArray,.agg #[vI x.a,vI x.n,vI y.a,vI y.n],axesV A B D ids.length jds.length dead.length ca cb cd] w fun e w'=>e=.returned (.bool true)/\Below w.heap.size w w':=by
 obtain⟨W0,ak⟩:∃ W0,W0=((w.alloc (.cells Cn.toArray 34)).alloc (.cells #[vI x.a,vI x.n,vI y.a,vI y.n] 49)).alloc (.cells #[.slice A ids.length ca,.slice B jds.length cb,.slice D dead.length cd] 37):=⟨_,rfl⟩
 have aj:=zh ak;have af:Hid (Below w.heap.size w W0):=zh (by rw[ak];exact(((Below.refl _ w).alloc zr _).alloc (by rw[World.size_alloc];omega) _).alloc (by rw[World.size_alloc,World.size_alloc];omega) _);have HL:Hid (Lies W0 w.heap.size 34 Cn.toArray):=zh (by rw[ak];exact((Lies.new w _ _).alloc _).alloc _);have jc:Hid (Lies W0 (w.heap.size+2) 37 #[.slice A ids.length ca,.slice B jds.length cb,.slice D dead.length cd]):=zh (by
  rw[ak];have h:=Lies.new ((w.alloc (.cells Cn.toArray 34)).alloc (.cells #[vI x.a,vI x.n,vI y.a,vI y.n] 49)) 37 #[.slice A ids.length ca,.slice B jds.length cb,.slice D dead.length cd];rw[World.size_alloc,World.size_alloc]at h;exact h)
 have nj:Hid (Lies W0 (w.heap.size+1) 49 #[vI x.a,vI x.n,vI y.a,vI y.n]):=zh (by
  rw[ak];have h:=Lies.new (w.alloc (.cells Cn.toArray 34)) 49 #[vI x.a,vI x.n,vI y.a,vI y.n];rw[World.size_alloc]at h;exact h.alloc _)
 have fv:Cn.length=22:=by
  obtain⟨A,li,e,_⟩:=hP;exact mF e
 have bg:=zh (dE fv);have CA:=zh (rL W0 (hg.next af.out));have HC:Hid (∀ W,Below w.heap.size w W->Below W0.heap.size W0 W->W.cell? ⟨w.heap.size+2,0,none⟩=some (.slice A ids.length ca)/\W.cell? ⟨w.heap.size+2,1,none⟩=some (.slice B jds.length cb)/\W.cell? ⟨w.heap.size+2,2,none⟩=some (.slice D dead.length cd)):=zh (fun W _ hb=>⟨(jc.out.next hb).cell 0,(jc.out.next hb).cell 1,(jc.out.next hb).cell 2⟩);have HG:=zh hg;have CG:Hid (∀ W,Below w.heap.size w W->Calls Tryz.prog 11 #[.agg Cn.toArray,axesV A B D ids.length jds.length dead.length ca cb cd] W fun e w'=>e=.returned (.bool (wQ t ids.length jds.length dead.length))/\Below W.heap.size W w'):=zh (fun W (hb:Below w.heap.size w W)=>uBD t Cn A B D ids.length jds.length dead.length ca cb cd W (hP.nextA hb) aq);have HX:Hid (eS w A ids/\eS w B jds/\eS w D dead):=zh ⟨hA,hB,hD⟩;have HP:=zh hP
 have HF:=zh (And.intro hf rz);have HXY:=zh (And.intro hx hy);have uu:=zh (uEZ (n1:=ids.length) (n2:=jds.length) (n3:=dead.length) ho);obtain⟨gb,mw⟩:=zD (wQ t ids.length jds.length dead.length)
 rw[<- mw]at CG uu;clear hx hy;clear ak hP aq fv hg hA hB hD hf rz ho mw jc;cases gb
 case' true=>
  go_in
  go_upto_region 1 with fail
  rw[<- aj.out];clear aj uu HF HX
  go_wp2_with (first
   |((with_reducible refine CA.out.mono ?_);rintro e w1 ⟨rfl,hb⟩;have bi:=zT af hb;have jl:=zh (HL.out.next hb).rangeM;obtain⟨x0,x1,x2⟩:=HC.out _ bi.out hb;clear hb)
   |(refine aL (Eq.trans (aT rfl rfl rfl rfl) rfl) 34 (.tmp 3) rfl w.heap.size 0 rfl Cn _ jl.out Tryz.underlying34 rfl bg.out ?_)
   |((with_reducible refine(CG.out _ bi.out).mono ?_);rintro e w2 ⟨rfl,hb⟩;have aw:=zT bi hb;have CA2:=zh (rL w2 (HG.out.next aw.out));clear hb x0 x1 x2)
   |((with_reducible refine CA2.out.mono ?_);rintro e w3 ⟨rfl,hb⟩;have bf:=zT aw hb;clear hb))
  go_ret
  exact⟨rfl,bf.out⟩
 obtain⟨k1,-,k2,k3,k4,k5⟩:=uu.out rfl;have HK:=zh (And.intro k1 k2);have HM:Hid (∀ W,Below w.heap.size w W->_):=zh (fun W (hb:Below w.heap.size w W)=>made_any A B D ca cb cd ids jds dead W (eQ HX.out.1 hb) (eQ HX.out.2.1 hb) (eQ HX.out.2.2 hb) (by omega) (by omega) (by omega) HF.out.1 HF.out.2);clear uu HF HX k1 k2 k3 k4 k5
 go_in
 go_upto_region 1 with fail
 rw[<- aj.out];clear aj
 go_upto_region 4 with(first
  |((with_reducible refine CA.out.mono ?_);rintro e w1 ⟨rfl,hb⟩;have bi:=zT af hb;have iq:=zh hb;have jl:=zh (HL.out.next hb).rangeM;obtain⟨x0,x1,x2⟩:=HC.out _ bi.out hb;clear hb)
  |(refine aL (Eq.trans (aT rfl rfl rfl rfl) rfl) 34 (.tmp 3) rfl w.heap.size 0 rfl Cn _ jl.out Tryz.underlying34 rfl bg.out ?_)
  |((with_reducible refine(CG.out _ bi.out).mono ?_);rintro e w2 ⟨rfl,hb⟩;have aw:=zT bi hb;have cr:=zT iq hb;clear x0 x1 x2;obtain⟨x0,x1,x2⟩:=HC.out _ aw.out cr.out;clear hb)
  |((with_reducible refine(HM.out _ aw.out).mono ?_);rintro e w3 ⟨r,c,m1,m2,rfl,hm⟩;have HMd:=zh hm;clear hm x0 x1 x2))
 have HS:Hid (LawW w w.heap.size t Cn (eM ids dead) (eM jds dead) (some r) (some c) (some m1) (some m2) w3):=zh (LawW.of_made HMd.out aw.out (HG.out.next aw.out) ⟨_,HL.out.next cr.out⟩ (HL.out.next cr.out).rangeM (HP.out.nextA aw.out));have HLc3:Hid (Lies w3 (w.heap.size+1) 49 #[vI x.a,vI x.n,vI y.a,vI y.n]):=zh ((nj.out.next cr.out).next HMd.out.b);clear nj;clear HMd jl iq cr bi aw CA CG HC HM HL af HP HG;generalize eM ids dead=R at *;generalize eM jds dead=C at *;obtain⟨S,hS⟩:∃ S:World->Prop,∀ W,S W↔(LawW w w.heap.size t Cn R C (some r) (some c) (some m1) (some m2) W/\Lies W (w.heap.size+1) 49 #[vI x.a,vI x.n,vI y.a,vI y.n]):=⟨_,fun _=>Iff.rfl⟩
 have C1:Hid (∀ W,S W->Calls Tryz.prog 17 #[.agg Cn.toArray,.agg #[vI x.a,vI x.n,vI y.a,vI y.n],vP r 0,vP c 0] W fun e w'=>e=.returned (strV (nA R C x y t))/\S w'):=zh (fun W h=>(((hS W).1 h).1.rel HK.out.1 HK.out.2 x y HXY.out.1 HXY.out.2).mono (fun _ _ ⟨a,b,c⟩=>⟨a,(hS _).2 ⟨b,c _ _ _ ((hS W).1 h).2 (by decide)⟩⟩));have C2:Hid (∀ W,S W->Calls Tryz.prog 18 #[.agg Cn.toArray,.agg #[vI x.a,vI x.n,vI y.a,vI y.n],vP m1 0,vP m2 0] W fun e w'=>e=.returned (strV (nA R C x y t))/\S w'):=zh (fun W h=>(((hS W).1 h).1.rrel HK.out.1 HK.out.2 x y).mono (fun _ _ ⟨a,b,c⟩=>⟨a,(hS _).2 ⟨b,c _ _ _ ((hS W).1 h).2⟩⟩));have j6:Hid (∀ W,S W->W.rangeAt w.heap.size 0 Cn):=zh (fun W h=>((hS W).1 h).1.row)
 have HRc:Hid (∀ W,S W->W.rangeAt (w.heap.size+1) 0 [vI x.a,vI x.n,vI y.a,vI y.n]):=zh (fun W h=>((hS W).1 h).2.rangeM);have HBl:Hid (∀ W,S W->Below w.heap.size w W):=zh (fun W h=>((hS W).1 h).1.bel);have HDr:=zh ((hS _).2 ⟨HS.out.next (Below.drew zB),HLc3.out.next (Below.drew zB)⟩);have HInc:Hid ((Tryz.prog.info? 49).map (·.size)=some 4):=zh (by kernel_rfl)
 clear HS HK HLc3 hS HXY;generalize nA R C x y t=X at *;refine wp_region_held_drew (S:=S) (by kernel_rfl) HDr.out (fun ag=>?_);refine TkC 0 (.agg Cn.toArray) rfl (yieldsIf_load_mid (by rfl) 34 (.tmp 3) rfl w.heap.size 0 (by kernel_rfl) Cn _ (fun w2 h=>j6.out w2 h) Tryz.underlying34 rfl bg.out) ?_;refine TkC 1 (.agg #[vI x.a,vI x.n,vI y.a,vI y.n]) rfl (yieldsIf_load_mid (by rfl) 49 (.tmp 4) rfl (w.heap.size+1) 0 (by kernel_rfl) [vI x.a,vI x.n,vI y.a,vI y.n] _ (fun w2 h=>HRc.out w2 h) Tryz.underlying49 rfl HInc.out) ?_;refine TkA 2 (vP r 0) ?_;refine TkA 3 (vP c 0) ?_;refine TkC 5 (.agg Cn.toArray) rfl (yieldsIf_load_mid (by rfl) 34 (.tmp 3) rfl w.heap.size 0 (by kernel_rfl) Cn _ (fun w2 h=>j6.out w2 h) Tryz.underlying34 rfl bg.out) ?_
 refine TkC 6 (.agg #[vI x.a,vI x.n,vI y.a,vI y.n]) rfl (yieldsIf_load_mid (by rfl) 49 (.tmp 4) rfl (w.heap.size+1) 0 (by kernel_rfl) [vI x.a,vI x.n,vI y.a,vI y.n] _ (fun w2 h=>HRc.out w2 h) Tryz.underlying49 rfl HInc.out) ?_;refine TkA 7 (vP m1 0) ?_;refine TkA 8 (vP m2 0) ?_;refine TkR 4 (fun K hK=>?_)
 go_simp
 go_at_call 17
 refine(C1.out _ ag).mono ?_;rintro x wx1 ⟨rfl,hs⟩;have ee:=zh hs;clear hs
 go_wp2_with fail
 refine hK.out _ _ ee.out (fun hS1=>?_);clear hK K ag;refine TkR 9 (fun K hK=>?_)
 go_simp
 go_at_call 18
 refine(C2.out _ hS1).mono ?_;rintro x wx2 ⟨rfl,hs⟩;have ig:=zh hs;clear hs
 go_wp2_with fail
 refine hK.out _ _ ig.out (fun hS2=>?_);clear hK K hS1;refine TkA 10 (.bool true) ?_;refine TkA 11 (.bool true) ?_;simp only[List.getElem_toArray,List.getElem_cons_succ,List.getElem_cons_zero];simp only[Act.put,yz];refine TkD ?_
 go_wp2_with fail
 go_ret
 exact⟨rfl,HBl.out _ ig.out⟩
end Go.Proofs.YtjfihpaeglpblaaGreatDoor
namespace Go.Proofs.YtjfihpaeglpblaaGreatDoor.renderRelative
open Go.ChangeShapes Go.WideShapes Go.ChangeAt Go.RowKit
open Go.ChangeMaps (open_string shut_string)
theorem contract(H:Type)(enc:TypeId×Value->H)(W:World)(base:Nat)(args:Array Value)(ds gs:List (DataW H))(before:List MemPlace)
  (hval:∀ (j:Nat) t v,Tryz.f5.params[j]?=some t->args[j]?=some v->Value.okWide Tryz.prog W .any base t v)
  (hW:DataW.Whole enc Tryz.prog Tryz.f5.params.toList Rows.renderRelativeSpec.vars false W args.toList ds gs before) (hL:laidMetH Tryz.prog Rows.renderRelativeUptoRow.laid W) (hSh:W.ShapedOpen Tryz.prog) (hcd:Rows.uptoSmall H (ds++gs)=true) :
  Calls Tryz.prog 5 args W fun e W'=>∃ v,e=.returned v/\Rows.renderRelativeSpec.post enc Tryz.prog Tryz.f5 false true false false W args v W':=by
 have hW':=hW;obtain⟨p,q,hA0,hV,rfl,hfz,hnd⟩:=hW;have hA:DataW.TrodAll enc Tryz.prog W 0 (fun _=>true) true Tryz.f5.params.toList args.toList ds p:=hA0;rw[Tryz.params5]at hA hval;obtain⟨v0,vs0,d0,ds0,p0,q0,hargs,rfl,rfl,h0,r0⟩:=trodAll_cons hA;obtain⟨v1,vs1,d1,ds1,p1,q1,rfl,rfl,rfl,h1,r1⟩:=trodAll_cons r0;obtain⟨v2,vs2,d2,ds2,p2,q2,rfl,rfl,rfl,h2,r2⟩:=trodAll_cons r1;obtain⟨rfl,rfl,rfl⟩:=trodAll_nil r2;obtain rfl:args=#[v0,v1,v2]:=by cases args;simp_all
 obtain⟨rfl,rfl⟩:=trodVars_none hV;have hb:=of_decide_eq_true hcd;have k0:=h0;have lt0:∀ x∈p0,x.block<W.heap.size:=by obtain⟨m,hm⟩:=k0;exact DataW.trod_lt m _ _ _ hm
 obtain⟨t0,Cn0,rfl,P0,o0,z0⟩:=open_node (hval 0 34 v0 rfl rfl) h0;have b0:Rows.uptoBulk d0<=1048576:=yv (bulk_part (by simp)) hb;have k1:=h1;have lt1:∀ x∈p1,x.block<W.heap.size:=by obtain⟨m,hm⟩:=k1;exact DataW.trod_lt m _ _ _ hm
 obtain⟨x1,y1,rfl,fx1,fy1⟩:=open_cell (hval 1 49 v1 rfl rfl) h1;have k2:=h2;have lt2:∀ x∈p2,x.block<W.heap.size:=by obtain⟨m,hm⟩:=k2;exact DataW.trod_lt m _ _ _ hm
 obtain⟨A2,B2,D2,ca2,cb2,cd2,is2,js2,ks2,rfl,ha2,hb2,hd2,fa2,fb2⟩:=open_axes (hval 2 37 v2 rfl rfl) h2;have hgl:Gl W:=⟨tab_of_laid (laid:=Rows.renderRelativeUptoRow.laid) hL (by first|exact List.mem_cons_self .. |(unfold faultName;simp[Rows.renderRelativeUptoRow])),pow_of_laid (laid:=Rows.renderRelativeUptoRow.laid) hL (by simp[Rows.renderRelativeUptoRow]),max_of_shaped hSh⟩
 clear hA0 hval hcd;have walk:Calls Tryz.prog 5 #[.agg Cn0.toArray,.agg #[vI x1.a,vI x1.n,vI y1.a,vI y1.n],axesV A2 B2 D2 is2.length js2.length ks2.length ca2 cb2 cd2] W fun e w'=>e=.returned (.bool true)/\Below W.heap.size W w':=by
  exact relative_any t0 _ Cn0 A2 B2 D2 ca2 cb2 cd2 is2 js2 ks2 W hgl P0 o0 (by omega) ha2 hb2 hd2 fa2 fb2 x1 y1 fx1 fy1
 refine walk.mono fun e W' ⟨he,bel⟩=>?_
 subst he;exact⟨_,rfl,_,_,_,[],_,[],hW',trodAll_mk1 (shut_bool Tryz.underlying4 _),(trodAll_cons_mk (Below.trod laidOut (by kernel_rfl) (of_decide_eq_true (by kernel_rfl)) k0 bel lt0) (trodAll_cons_mk (Below.trod laidOut (by kernel_rfl) (of_decide_eq_true (by kernel_rfl)) k1 bel lt1) (trodAll_cons_mk (Below.trod laidOut (by kernel_rfl) (of_decide_eq_true (by kernel_rfl)) k2 bel lt2) trodAll_mk0))),rfl,bel.frame _,fun h=>by cases h⟩
end Go.Proofs.YtjfihpaeglpblaaGreatDoor.renderRelative
