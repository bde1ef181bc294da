/-
  Lemmas, part 19: RkI RmC RmD RmE RmF RkL RmG.
-/
import Derived.Test.YtjfihpaeglpblaaGreatDoorRt18
set_option maxHeartbeats 100000000
set_option maxRecDepth 1000000
namespace Go.Proofs.YtjfihpaeglpblaaGreatDoor
open Go.RowKit
theorem uDG(w:World)(t:TypeId)(xs:List Bs):TxtAt (w.alloc (.cells (xs.map fun s=>Value.string ⟨s.toArray⟩).toArray t)) w.heap.size xs:=fun j hj=>by
 rw[(Lies.new w t _).cell j];simp[hj]
theorem aG{P:Program}{ops:Array Oper}{rest:List Oper}{op:Oper}{a:Act}{w:World}{Q:Exit->Act->World->Prop}(hw:Region.wanted op (yielded ops a.tmps)=true)(ty:TypeId)(x:Operand)(ho:op.op=.load ty x)
  (b o:Nat) (hx:a.eval x=vP b o) (cs:List Value) (d:TypeDesc) (hc:w.rangeAt b o cs)
  (hu:P.underlying ty=some d) (hd:d.isRow=true) (hi:(P.info? ty).map (·.size)=some cs.length)
  (h:wpList P ops Q rest (a.put op.dst (.agg cs.toArray)) w):wpList P ops Q (op::rest) a w :=
 BigFrame.wpList_want hw fun _ hK=>wp_load_mid ty x ho b o hx cs d hc hu hd hi (hK _ _ h)
theorem Lies.putMid{b:Nat}{t:TypeId}:∀ (vs:List Value) (i:Nat) (W:World) (cs:List Value),Lies W b t cs.toArray->i+vs.length<=cs.length->Lies (W.setCells b i vs) b t (cs.take i++vs++cs.drop (i+vs.length)).toArray
 | [],i,_,cs,h,_=>by
  have:cs.take i++[]++cs.drop (i+([]:List Value).length)=cs:=by simp
  rw[this];exact h
 |v::r,i,W,cs,h,hl=>by
  have hi:i<cs.length:=by simp at hl;omega
  have h0:Lies (W.setCell ⟨b,i,none⟩ v) b t (cs.set i v).toArray:=by
   have:=h.put i v
   rwa [yz]at this
  have h1:=Lies.putMid r (i+1) _ _ h0 (by simp at hl ⊢;omega);have e:(cs.set i v).take (i+1)++r++(cs.set i v).drop (i+1+r.length)=cs.take i++(v::r)++cs.drop (i+(v::r).length):=by
   rw[yw (by simpa using hi),List.getElem_set_self,List.take_set_of_le zr,List.drop_set_of_lt (by omega)];simp[Nat.add_assoc,Nat.add_comm 1]
  rw[<- e];exact h1
theorem Lies.rangeL{w:World}{b:Nat}{t:TypeId}{C:List Value}(h:Lies w b t C.toArray):w.rangeAt b 0 C:=by
 have:=h.range
 rwa [List.toList_toArray]at this
theorem cB{C:List Value}{h:NodeH}{A:Option Addr}{n cp:Nat}(e:C.toArray=aH h A n cp):(Tryz.prog.info? 34).map (·.size)=some C.length:=by
 have h2:C.length=22:=by rw[<- yd,e];rfl
 rw[h2];exact cM
theorem cT(h h':NodeH)(l:List Tree):(Tree.mk h l).same (.mk h' l)=NodeH.same h h':=by
 have e:(NodeH.same h h&&eP l l)=true:=uEZ (.mk h l);rw[yh]at e;show (NodeH.same h h'&&eP l l)=_;rw[e.2,Bool.and_true]
theorem dC(k:Int)(A:Option Addr)(n cp:Nat)(M:NodeH)(Cn:List Value)(w:World):∃ (W1:World) (Cm Ck:List Value),Hid (w.alloc (.cells Cn.toArray 34)=W1)/\Hid (Lies W1 w.heap.size 34 Cn.toArray)/\Hid (Below w.heap.size w W1)/\Hid (W1.heap.size=w.heap.size+1)/\Hid (#[vI k,vI 0,vI 0,vI 0,vS #[],.bool false,vI 0,vS #[],vI 0,vI 0,vI 0,vI 0,.bool false,.bool false,vI 0,vI 0,vI 0,vI 0,.bool false,.bool false,vI 0,.slice A n cp]=Cm.toArray)/\Hid (Cm.toArray=aH ⟨k,aD,[],aK,aK,0⟩ A n cp)/\Hid ((W1.alloc (.cells eR.toArray 34)).there W1.heap.size 0 Cm.toArray.size)/\Hid (Cm.toArray.all (·.oneCell')=true)/\Hid ((Tryz.prog.info? 34).map (·.size)=some Cm.toArray.size)/\Hid (Lies (World.setCells (W1.alloc (.cells eR.toArray 34)) W1.heap.size 0 Cm) W1.heap.size 34 Cm.toArray)/\Hid (Lies (World.setCells (W1.alloc (.cells eR.toArray 34)) W1.heap.size 0 Cm) w.heap.size 34 Cn.toArray)/\Hid (Below w.heap.size w (World.setCells (W1.alloc (.cells eR.toArray 34)) W1.heap.size 0 Cm))/\Hid (Ck.toArray=aH M A n cp):=by
 obtain⟨W1,gm⟩:∃ W,w.alloc (.cells Cn.toArray 34)=W:=⟨_,rfl⟩
 have HL:Lies W1 w.heap.size 34 Cn.toArray:=by rw[<- gm];exact Lies.new _ _ _
 have HB:Below w.heap.size w W1:=by rw[<- gm];exact(zp _)
 obtain⟨Cm,hCm⟩:∃ C:List Value,#[vI k,vI 0,vI 0,vI 0,vS #[],.bool false,vI 0,vS #[],vI 0,vI 0,vI 0,vI 0,.bool false,.bool false,vI 0,vI 0,vI 0,vI 0,.bool false,.bool false,vI 0,.slice A n cp]=C.toArray:=⟨_,rfl⟩
 have qg:Cm.length=22:=by rw[<- yd,<- hCm];rfl
 have dt:Below W1.heap.size W1 (World.setCells (W1.alloc (.cells eR.toArray 34)) W1.heap.size 0 Cm):=kp_below (mH (.inr zr) Cm 0 ((Kp.refl _ _).alloc _));exact⟨W1,Cm,(aH M A n cp).toList,zh gm,zh HL,zh HB,zh (by rw[<- gm];simp),zh hCm,zh hCm.symm,zh (uEA qg),zh (by rw[<- hCm];exact uEJ ⟨k,aD,[],aK,aK,0⟩ A n cp),zh (by rw[yd,qg];exact cM),zh ((Lies.new W1 34 eR.toArray).putAll (by rw[qg];rfl)),zh (HL.next dt),zh (zU HB dt),zh (by simp)⟩
theorem rOwnG9(v:Val)(s:Bs)(a b:Cor)(r:Int)(l:List Tree)(A:Option Addr)(cp:Nat)(Cn:List Value)(w:World)(hk:KidsOk w [] A l)(hs:(Tree.mk ⟨9,v,s,a,b,r⟩ l).size<=1000000)(ah:Hid (Cn.toArray=aH ⟨9,v,s,a,b,r⟩ A l.length cp)) :
  Calls Tryz.prog 87 #[.agg Cn.toArray] w fun e w'=>e=.returned (.bool ((decide (l.length=0))&&NodeH.same ⟨9,aD,[],aK,aK,0⟩ ⟨9,v,s,a,b,r⟩))/\Below w.heap.size w w':=by
 obtain⟨sm,en⟩:∃ c,NodeH.same ⟨9,aD,[],aK,aK,0⟩ ⟨9,v,s,a,b,r⟩=c:=⟨_,rfl⟩
 have lc:=zh en;rw[en];clear en;have cm:=zh hs;clear hs;have HK:=zh hk;clear hk;have om:l.length<=1000000:=by have h1:=bU l;have h2:aL l+1<=1000000:=cm.out;omega
 obtain⟨W1,Cm,Ck,al,HL,HB,ej,dz,gr,HT,yo,bz,bf,bt,bj,dw⟩:=dC 9 (A) l.length cp ⟨9,aD,[],aK,aK,0⟩ Cn w;have x0:=HL.out.cell 0;have x21:=HL.out.cell 21;rw[ah.out]at x0 x21;simp only[za,zb,zf]at x0 x21
 go_in
 go_upto_region 1 with fail
 rw[al.out];clear al;generalize hQ:w.heap.size=q at *
 go_upto_region 2 with(first |(refine yq rfl 34 (.tmp 3) (.tmp 9) rfl W1.heap.size 0 Cm.toArray rfl (congrArg Value.agg dz.out) HT.out bz.out yo.out ?_;change wpList _ _ _ _ _ (World.setCells _ W1.heap.size 0 Cm)))
 generalize World.setCells _ _ _ _=W3 at bf bt bj ⊢;rw[dz.out];clear x0 x21;have cg:=ej.out;generalize W1.heap.size=q1 at *;subst cg;clear HL HB ej dz HT yo bz;rw[gr.out,<- dw.out]at bf;have x0:=bt.out.cell 0;have x21:=bt.out.cell 21;rw[ah.out]at x0 x21;simp only[za,zb,zf]at x0 x21;by_cases hl:l.length=0
 ·have dr:((l.length:Int)==0)=true:=by rw[hl];rfl
  have hd:decide (l.length=0)=true:=decide_eq_true hl;clear hl;have ld:=zh (bf.out.rangeL);have gc:=zh (bt.out.rangeL);have HI:=zh (cB ah.out);have gx:=zh (cB dw.out);have ew:=zh (cK 1000000 zr (.mk ⟨9,aD,[],aK,aK,0⟩ l) (.mk ⟨9,v,s,a,b,r⟩ l) _ _ W3 cm.out ⟨A,cp,dw.out,HK.out.kp (Kp.of_below (by rw[hQ];exact bj.out))⟩ ⟨A,cp,ah.out,HK.out.kp (Kp.of_below (by rw[hQ];exact bj.out))⟩);rw[cT,lc.out]at ew
  go_wp2_with (first |(refine aG (Eq.trans (aP rfl rfl rfl rfl) rfl) 34 (.tmp 3) rfl (q+1) 0 rfl Ck _ ld.out Tryz.underlying34 rfl gx.out ?_) |(refine aG (Eq.trans (aP rfl rfl rfl rfl) rfl) 34 (.tmp 1) rfl q 0 rfl Cn _ gc.out Tryz.underlying34 rfl HI.out ?_))
  refine ew.out.mono ?_;rintro e w9 ⟨rfl,fw⟩;have gj:=zh (bj.out.trans (fw.mono (by have:=bj.out.size;omega)));clear fw
  go_wp2_with fail
  go_ret
  exact⟨aA (by rw[hd];try simp),by first|exact gj.out |(rw[hQ];exact gj.out)⟩
 have dr:((l.length:Int)==0)=false:=by rw[beq_eq_false_iff_ne];omega
 have hd:decide (l.length=0)=false:=decide_eq_false hl;clear hl
 go_wp2_with fail
 go_ret
 exact⟨aA (by rw[hd];try simp),by first|exact bj.out |(rw[hQ];exact bj.out)⟩
theorem rOwnG5(v:Val)(s:Bs)(a b:Cor)(r:Int)(l:List Tree)(A:Option Addr)(cp:Nat)(Cn:List Value)(w:World)(hk:KidsOk w [] A l)(hs:(Tree.mk ⟨5,v,s,a,b,r⟩ l).size<=1000000)(ah:Hid (Cn.toArray=aH ⟨5,v,s,a,b,r⟩ A l.length cp)) :
  Calls Tryz.prog 87 #[.agg Cn.toArray] w fun e w'=>e=.returned (.bool ((([[45],[43],[37]]:List Bs).contains s&&decide (l.length=1))&&NodeH.same ⟨5,aD,s,aK,aK,0⟩ ⟨5,v,s,a,b,r⟩))/\Below w.heap.size w w':=by
 obtain⟨sm,en⟩:∃ c,NodeH.same ⟨5,aD,s,aK,aK,0⟩ ⟨5,v,s,a,b,r⟩=c:=⟨_,rfl⟩
 have lc:=zh en;rw[en];clear en;obtain⟨b1,hb1⟩:∃ c,([[45],[43],[37]]:List Bs).contains s=c:=⟨_,rfl⟩
 have HCT:=zh hb1;rw[hb1];clear hb1;have cm:=zh hs;clear hs;have HK:=zh hk;clear hk;have om:l.length<=1000000:=by have h1:=bU l;have h2:aL l+1<=1000000:=cm.out;omega
 obtain⟨W1,Cm,Ck,al,HL,HB,ej,dz,gr,HT,yo,bz,bf,bt,bj,dw⟩:=dC 5 (A) l.length cp ⟨5,aD,s,aK,aK,0⟩ Cn w;have x0:=HL.out.cell 0;have x21:=HL.out.cell 21;rw[ah.out]at x0 x21;simp only[za,zb,zf]at x0 x21
 go_in
 go_upto_region 1 with fail
 rw[al.out];clear al;generalize hQ:w.heap.size=q at *
 go_upto_region 2 with(first |(refine yq rfl 34 (.tmp 3) (.tmp 9) rfl W1.heap.size 0 Cm.toArray rfl (congrArg Value.agg dz.out) HT.out bz.out yo.out ?_;change wpList _ _ _ _ _ (World.setCells _ W1.heap.size 0 Cm)))
 generalize World.setCells _ _ _ _=W3 at bf bt bj ⊢;rw[dz.out];clear x0 x21;have cg:=ej.out;generalize W1.heap.size=q1 at *;subst cg;clear HL HB ej dz HT yo bz;have x0:=bt.out.cell 0;have x7:=bt.out.cell 7;rw[ah.out]at x0 x7;simp only[za,zb,zf]at x0 x7;have y7:=bf.out.cell 7;have yf7:=bf.out.frozen 7;rw[gr.out]at y7;simp only[za,zb,zf]at y7
 go_upto_region 19 with fail
 clear x0 x7;clear y7 yf7;have fd:=bf.out;rw[gr.out]at fd;have cu:Hid (Lies _ (q+1) 34 Ck.toArray):=zh (by rw[dw.out];exact(fd.put 7 (vT s)));have aj:=zh (aC bt.out (b:=q+1) (by omega) 7 (vT s));have bq:=zh (bj.out.setCell (p:=⟨q+1,7,none⟩) (Nat.le_succ q) (vT s));generalize World.setCell _ _ _=W4 at cu aj bq ⊢;clear bf bt bj fd;have x7:=aj.out.cell 7;have x21:=aj.out.cell 21;rw[ah.out]at x7 x21;simp only[za,zb,zf]at x7 x21
 go_wp2_with fail
 have fm:Below W4.heap.size W4 _:=zp (.cells (([[45],[43],[37]]:List Bs).map fun s=>Value.string ⟨s.toArray⟩).toArray 9);have HTX:=zh (uDG W4 9 [[45],[43],[37]]);change Calls _ _ _ (World.alloc W4 (.cells (([[45],[43],[37]]:List Bs).map fun s=>Value.string ⟨s.toArray⟩).toArray 9)) _;generalize World.alloc _ _=w5 at fm HTX ⊢;refine(uDA s _ _ [[45],[43],[37]] w5 HTX.out (by decide)).mono ?_;rintro e w6 ⟨rfl,rfl⟩;rw[HCT.out];clear HCT;clear x7 x21;have bg:=zh (bq.out.trans (fm.mono (by have:=bq.out.size;omega)));have kl:=zh (cu.out.next fm);have gd:=zh (aj.out.next fm);clear fm;have z21:=gd.out.cell 21;rw[ah.out]at z21;simp only[za,zb,zf]at z21;cases b1
 ·go_wp2_with fail
  go_ret
  exact⟨aA (by rfl;try simp),by first|exact bg.out |(rw[hQ];exact bg.out)⟩
 by_cases hl:l.length=1
 ·have dr:((l.length:Int)==1)=true:=by rw[hl];rfl
  have hd:decide (l.length=1)=true:=decide_eq_true hl;clear hl;have ld:=zh (kl.out.rangeL);have gc:=zh (gd.out.rangeL);have HI:=zh (cB ah.out);have gx:=zh (cB dw.out);have ew:=zh (cK 1000000 zr (.mk ⟨5,aD,s,aK,aK,0⟩ l) (.mk ⟨5,v,s,a,b,r⟩ l) _ _ w5 cm.out ⟨A,cp,dw.out,HK.out.kp (Kp.of_below (by rw[hQ];exact bg.out))⟩ ⟨A,cp,ah.out,HK.out.kp (Kp.of_below (by rw[hQ];exact bg.out))⟩);rw[cT,lc.out]at ew
  go_wp2_with (first |(refine aG (Eq.trans (aP rfl rfl rfl rfl) rfl) 34 (.tmp 3) rfl (q+1) 0 rfl Ck _ ld.out Tryz.underlying34 rfl gx.out ?_) |(refine aG (Eq.trans (aP rfl rfl rfl rfl) rfl) 34 (.tmp 1) rfl q 0 rfl Cn _ gc.out Tryz.underlying34 rfl HI.out ?_))
  refine ew.out.mono ?_;rintro e w9 ⟨rfl,fw⟩;have gj:=zh (bg.out.trans (fw.mono (by have:=bg.out.size;omega)));clear fw
  go_wp2_with fail
  go_ret
  exact⟨aA (by rw[hd];try simp),by first|exact gj.out |(rw[hQ];exact gj.out)⟩
 have dr:((l.length:Int)==1)=false:=by rw[beq_eq_false_iff_ne];omega
 have hd:decide (l.length=1)=false:=decide_eq_false hl;clear hl
 go_wp2_with fail
 go_ret
 exact⟨aA (by rw[hd];try simp),by first|exact bg.out |(rw[hQ];exact bg.out)⟩
theorem rOwnG6(v:Val)(s:Bs)(a b:Cor)(r:Int)(l:List Tree)(A:Option Addr)(cp:Nat)(Cn:List Value)(w:World)(hk:KidsOk w [] A l)(hs:(Tree.mk ⟨6,v,s,a,b,r⟩ l).size<=1000000)(ah:Hid (Cn.toArray=aH ⟨6,v,s,a,b,r⟩ A l.length cp)) :
  Calls Tryz.prog 87 #[.agg Cn.toArray] w fun e w'=>e=.returned (.bool ((([[43],[45],[42],[47],[94],[38],[61],[60,62],[60],[60,61],[62],[62,61]]:List Bs).contains s&&decide (l.length=2))&&NodeH.same ⟨6,aD,s,aK,aK,0⟩ ⟨6,v,s,a,b,r⟩))/\Below w.heap.size w w':=by
 obtain⟨sm,en⟩:∃ c,NodeH.same ⟨6,aD,s,aK,aK,0⟩ ⟨6,v,s,a,b,r⟩=c:=⟨_,rfl⟩
 have lc:=zh en;rw[en];clear en;obtain⟨b1,hb1⟩:∃ c,([[43],[45],[42],[47],[94],[38],[61],[60,62],[60],[60,61],[62],[62,61]]:List Bs).contains s=c:=⟨_,rfl⟩
 have HCT:=zh hb1;rw[hb1];clear hb1;have cm:=zh hs;clear hs;have HK:=zh hk;clear hk;have om:l.length<=1000000:=by have h1:=bU l;have h2:aL l+1<=1000000:=cm.out;omega
 obtain⟨W1,Cm,Ck,al,HL,HB,ej,dz,gr,HT,yo,bz,bf,bt,bj,dw⟩:=dC 6 (A) l.length cp ⟨6,aD,s,aK,aK,0⟩ Cn w;have x0:=HL.out.cell 0;have x21:=HL.out.cell 21;rw[ah.out]at x0 x21;simp only[za,zb,zf]at x0 x21
 go_in
 go_upto_region 1 with fail
 rw[al.out];clear al;generalize hQ:w.heap.size=q at *
 go_upto_region 2 with(first |(refine yq rfl 34 (.tmp 3) (.tmp 9) rfl W1.heap.size 0 Cm.toArray rfl (congrArg Value.agg dz.out) HT.out bz.out yo.out ?_;change wpList _ _ _ _ _ (World.setCells _ W1.heap.size 0 Cm)))
 generalize World.setCells _ _ _ _=W3 at bf bt bj ⊢;rw[dz.out];clear x0 x21;have cg:=ej.out;generalize W1.heap.size=q1 at *;subst cg;clear HL HB ej dz HT yo bz;have x0:=bt.out.cell 0;have x7:=bt.out.cell 7;rw[ah.out]at x0 x7;simp only[za,zb,zf]at x0 x7;have y7:=bf.out.cell 7;have yf7:=bf.out.frozen 7;rw[gr.out]at y7;simp only[za,zb,zf]at y7
 go_upto_region 22 with fail
 clear x0 x7;clear y7 yf7;have fd:=bf.out;rw[gr.out]at fd;have cu:Hid (Lies _ (q+1) 34 Ck.toArray):=zh (by rw[dw.out];exact(fd.put 7 (vT s)));have aj:=zh (aC bt.out (b:=q+1) (by omega) 7 (vT s));have bq:=zh (bj.out.setCell (p:=⟨q+1,7,none⟩) (Nat.le_succ q) (vT s));generalize World.setCell _ _ _=W4 at cu aj bq ⊢;clear bf bt bj fd;have x7:=aj.out.cell 7;have x21:=aj.out.cell 21;rw[ah.out]at x7 x21;simp only[za,zb,zf]at x7 x21
 go_wp2_with fail
 have fm:Below W4.heap.size W4 _:=zp (.cells (([[43],[45],[42],[47],[94],[38],[61],[60,62],[60],[60,61],[62],[62,61]]:List Bs).map fun s=>Value.string ⟨s.toArray⟩).toArray 9);have HTX:=zh (uDG W4 9 [[43],[45],[42],[47],[94],[38],[61],[60,62],[60],[60,61],[62],[62,61]]);change Calls _ _ _ (World.alloc W4 (.cells (([[43],[45],[42],[47],[94],[38],[61],[60,62],[60],[60,61],[62],[62,61]]:List Bs).map fun s=>Value.string ⟨s.toArray⟩).toArray 9)) _;generalize World.alloc _ _=w5 at fm HTX ⊢;refine(uDA s _ _ [[43],[45],[42],[47],[94],[38],[61],[60,62],[60],[60,61],[62],[62,61]] w5 HTX.out (by decide)).mono ?_;rintro e w6 ⟨rfl,rfl⟩;rw[HCT.out];clear HCT;clear x7 x21;have bg:=zh (bq.out.trans (fm.mono (by have:=bq.out.size;omega)));have kl:=zh (cu.out.next fm);have gd:=zh (aj.out.next fm);clear fm;have z21:=gd.out.cell 21
 rw[ah.out]at z21;simp only[za,zb,zf]at z21;cases b1
 ·go_wp2_with fail
  go_ret
  exact⟨aA (by rfl;try simp),by first|exact bg.out |(rw[hQ];exact bg.out)⟩
 by_cases hl:l.length=2
 ·have dr:((l.length:Int)==2)=true:=by rw[hl];rfl
  have hd:decide (l.length=2)=true:=decide_eq_true hl;clear hl;have ld:=zh (kl.out.rangeL);have gc:=zh (gd.out.rangeL);have HI:=zh (cB ah.out);have gx:=zh (cB dw.out);have ew:=zh (cK 1000000 zr (.mk ⟨6,aD,s,aK,aK,0⟩ l) (.mk ⟨6,v,s,a,b,r⟩ l) _ _ w5 cm.out ⟨A,cp,dw.out,HK.out.kp (Kp.of_below (by rw[hQ];exact bg.out))⟩ ⟨A,cp,ah.out,HK.out.kp (Kp.of_below (by rw[hQ];exact bg.out))⟩);rw[cT,lc.out]at ew
  go_wp2_with (first |(refine aG (Eq.trans (aP rfl rfl rfl rfl) rfl) 34 (.tmp 3) rfl (q+1) 0 rfl Ck _ ld.out Tryz.underlying34 rfl gx.out ?_) |(refine aG (Eq.trans (aP rfl rfl rfl rfl) rfl) 34 (.tmp 1) rfl q 0 rfl Cn _ gc.out Tryz.underlying34 rfl HI.out ?_))
  refine ew.out.mono ?_;rintro e w9 ⟨rfl,fw⟩;have gj:=zh (bg.out.trans (fw.mono (by have:=bg.out.size;omega)));clear fw
  go_wp2_with fail
  go_ret
  exact⟨aA (by rw[hd];try simp),by first|exact gj.out |(rw[hQ];exact gj.out)⟩
 have dr:((l.length:Int)==2)=false:=by rw[beq_eq_false_iff_ne];omega
 have hd:decide (l.length=2)=false:=decide_eq_false hl;clear hl
 go_wp2_with fail
 go_ret
 exact⟨aA (by rw[hd];try simp),by first|exact bg.out |(rw[hQ];exact bg.out)⟩
theorem rOwnG7(v:Val)(s:Bs)(a b:Cor)(r:Int)(l:List Tree)(A:Option Addr)(cp:Nat)(Cn:List Value)(w:World)(hk:KidsOk w [] A l)(hs:(Tree.mk ⟨7,v,s,a,b,r⟩ l).size<=1000000)(ah:Hid (Cn.toArray=aH ⟨7,v,s,a,b,r⟩ A l.length cp))(jp:s.length<=100000) :
  Calls Tryz.prog 87 #[.agg Cn.toArray] w fun e w'=>e=.returned (.bool ((bB s&&decide (l.length=0))&&NodeH.same ⟨7,aD,s,aK,aK,0⟩ ⟨7,v,s,a,b,r⟩))/\Below w.heap.size w w':=by
 obtain⟨sm,en⟩:∃ c,NodeH.same ⟨7,aD,s,aK,aK,0⟩ ⟨7,v,s,a,b,r⟩=c:=⟨_,rfl⟩
 have lc:=zh en;rw[en];clear en;have sc:=zh (fun W=>uES s W jp);generalize bB s=b1 at *;clear jp;have cm:=zh hs;clear hs;have HK:=zh hk;clear hk;have om:l.length<=1000000:=by have h1:=bU l;have h2:aL l+1<=1000000:=cm.out;omega
 obtain⟨W1,Cm,Ck,al,HL,HB,ej,dz,gr,HT,yo,bz,bf,bt,bj,dw⟩:=dC 7 (A) l.length cp ⟨7,aD,s,aK,aK,0⟩ Cn w;have x0:=HL.out.cell 0;have x21:=HL.out.cell 21;rw[ah.out]at x0 x21;simp only[za,zb,zf]at x0 x21
 go_in
 go_upto_region 1 with fail
 rw[al.out];clear al;generalize hQ:w.heap.size=q at *
 go_upto_region 2 with(first |(refine yq rfl 34 (.tmp 3) (.tmp 9) rfl W1.heap.size 0 Cm.toArray rfl (congrArg Value.agg dz.out) HT.out bz.out yo.out ?_;change wpList _ _ _ _ _ (World.setCells _ W1.heap.size 0 Cm)))
 generalize World.setCells _ _ _ _=W3 at bf bt bj ⊢;rw[dz.out];clear x0 x21;have cg:=ej.out;generalize W1.heap.size=q1 at *;subst cg;clear HL HB ej dz HT yo bz;have x0:=bt.out.cell 0;have x7:=bt.out.cell 7;rw[ah.out]at x0 x7;simp only[za,zb,zf]at x0 x7;have y7:=bf.out.cell 7;have yf7:=bf.out.frozen 7;rw[gr.out]at y7;simp only[za,zb,zf]at y7
 go_upto_region 25 with fail
 clear x0 x7;clear y7 yf7;have fd:=bf.out;rw[gr.out]at fd;have cu:Hid (Lies _ (q+1) 34 Ck.toArray):=zh (by rw[dw.out];exact(fd.put 7 (vT s)));have aj:=zh (aC bt.out (b:=q+1) (by omega) 7 (vT s));have bq:=zh (bj.out.setCell (p:=⟨q+1,7,none⟩) (Nat.le_succ q) (vT s));generalize World.setCell _ _ _=W4 at cu aj bq ⊢;clear bf bt bj fd;have x7:=aj.out.cell 7;have x21:=aj.out.cell 21;rw[ah.out]at x7 x21;simp only[za,zb,zf]at x7 x21
 go_wp2_with fail
 refine(sc.out _).mono ?_;rintro e w5 ⟨rfl,rfl⟩;clear sc;cases b1
 ·go_wp2_with fail
  go_ret
  exact⟨aA (by rfl;try simp),by first|exact bq.out |(rw[hQ];exact bq.out)⟩
 by_cases hl:l.length=0
 ·have dr:((l.length:Int)==0)=true:=by rw[hl];rfl
  have hd:decide (l.length=0)=true:=decide_eq_true hl;clear hl;have ld:=zh (cu.out.rangeL);have gc:=zh (aj.out.rangeL);have HI:=zh (cB ah.out);have gx:=zh (cB dw.out);have ew:=zh (cK 1000000 zr (.mk ⟨7,aD,s,aK,aK,0⟩ l) (.mk ⟨7,v,s,a,b,r⟩ l) _ _ W4 cm.out ⟨A,cp,dw.out,HK.out.kp (Kp.of_below (by rw[hQ];exact bq.out))⟩ ⟨A,cp,ah.out,HK.out.kp (Kp.of_below (by rw[hQ];exact bq.out))⟩);rw[cT,lc.out]at ew
  go_wp2_with (first |(refine aG (Eq.trans (aP rfl rfl rfl rfl) rfl) 34 (.tmp 3) rfl (q+1) 0 rfl Ck _ ld.out Tryz.underlying34 rfl gx.out ?_) |(refine aG (Eq.trans (aP rfl rfl rfl rfl) rfl) 34 (.tmp 1) rfl q 0 rfl Cn _ gc.out Tryz.underlying34 rfl HI.out ?_))
  refine ew.out.mono ?_;rintro e w9 ⟨rfl,fw⟩;have gj:=zh (bq.out.trans (fw.mono (by have:=bq.out.size;omega)));clear fw
  go_wp2_with fail
  go_ret
  exact⟨aA (by rw[hd];try simp),by first|exact gj.out |(rw[hQ];exact gj.out)⟩
 have dr:((l.length:Int)==0)=false:=by rw[beq_eq_false_iff_ne];omega
 have hd:decide (l.length=0)=false:=decide_eq_false hl;clear hl
 go_wp2_with fail
 go_ret
 exact⟨aA (by rw[hd];try simp),by first|exact bq.out |(rw[hQ];exact bq.out)⟩
theorem rOwnG0(v:Val)(s:Bs)(a b:Cor)(r:Int)(l:List Tree)(A:Option Addr)(cp:Nat)(Cn:List Value)(w:World)(hk:KidsOk w [] A l)(hs:(Tree.mk ⟨0,v,s,a,b,r⟩ l).size<=1000000)(ah:Hid (Cn.toArray=aH ⟨0,v,s,a,b,r⟩ A l.length cp))(hv:-9223372036854775808<=v.mant/\v.mant<=9223372036854775807/\v.text.length<=1000000) :
  Calls Tryz.prog 87 #[.agg Cn.toArray] w fun e w'=>e=.returned (.bool (((decide (v.kind≠0)&&aR v)&&decide (l.length=0))&&NodeH.same ⟨0,v,[],aK,aK,0⟩ ⟨0,v,s,a,b,r⟩))/\Below w.heap.size w w':=by
 obtain⟨sm,en⟩:∃ c,NodeH.same ⟨0,v,[],aK,aK,0⟩ ⟨0,v,s,a,b,r⟩=c:=⟨_,rfl⟩
 have lc:=zh en;rw[en];clear en;have sc:=zh (fun W=>rLit_any v W hv.1 hv.2.1 hv.2.2);generalize (decide (v.kind≠0)&&aR v)=b1 at *;clear hv;have cm:=zh hs;clear hs;have HK:=zh hk;clear hk;have om:l.length<=1000000:=by have h1:=bU l;have h2:aL l+1<=1000000:=cm.out;omega
 obtain⟨W1,Cm,Ck,al,HL,HB,ej,dz,gr,HT,yo,bz,bf,bt,bj,dw⟩:=dC 0 (A) l.length cp ⟨0,v,[],aK,aK,0⟩ Cn w;have x0:=HL.out.cell 0;have x21:=HL.out.cell 21;rw[ah.out]at x0 x21;simp only[za,zb,zf]at x0 x21
 go_in
 go_upto_region 1 with fail
 rw[al.out];clear al;generalize hQ:w.heap.size=q at *
 go_upto_region 2 with(first |(refine yq rfl 34 (.tmp 3) (.tmp 9) rfl W1.heap.size 0 Cm.toArray rfl (congrArg Value.agg dz.out) HT.out bz.out yo.out ?_;change wpList _ _ _ _ _ (World.setCells _ W1.heap.size 0 Cm)))
 generalize World.setCells _ _ _ _=W3 at bf bt bj ⊢;rw[dz.out];clear x0 x21;have cg:=ej.out;generalize W1.heap.size=q1 at *;subst cg;clear HL HB ej dz HT yo bz;have x0:=bt.out.cell 0;have x1:=bt.out.cell 1;have x2:=bt.out.cell 2;have x3:=bt.out.cell 3;have x4:=bt.out.cell 4;have x5:=bt.out.cell 5;have x6:=bt.out.cell 6;rw[ah.out]at x0 x1 x2 x3 x4 x5 x6;simp only[za,zb,zf]at x0 x1 x2 x3 x4 x5 x6;have y1:=bf.out.cell 1;have yf1:=bf.out.frozen 1;have y2:=bf.out.cell 2;have yf2:=bf.out.frozen 2;have y3:=bf.out.cell 3;have yf3:=bf.out.frozen 3;have y4:=bf.out.cell 4;have yf4:=bf.out.frozen 4;have y5:=bf.out.cell 5;have yf5:=bf.out.frozen 5;have y6:=bf.out.cell 6;have yf6:=bf.out.frozen 6;rw[gr.out]at y1 y2 y3 y4 y5 y6
 simp only[za,zb,zf]at y1 y2 y3 y4 y5 y6
 go_upto_region 6 with fail
 clear x0 x1 x2 x3 x4 x5 x6;clear y1 y2 y3 y4 y5 y6 yf1 yf2 yf3 yf4 yf5 yf6;have fd:=bf.out;rw[gr.out]at fd;have cu:Hid (Lies _ (q+1) 34 Ck.toArray):=zh (by rw[dw.out];exact((((((fd.put 1 (vI v.kind)).put 2 (vI v.mant)).put 3 (vI v.exp)).put 4 (vT v.text)).put 5 (.bool v.truth)).put 6 (vI v.fault)));have aj:=zh (aC (aC (aC (aC (aC (aC bt.out (b:=q+1) (by omega) 1 (vI v.kind)) (b:=q+1) (by omega) 2 (vI v.mant)) (b:=q+1) (by omega) 3 (vI v.exp)) (b:=q+1) (by omega) 4 (vT v.text)) (b:=q+1) (by omega) 5 (.bool v.truth)) (b:=q+1) (by omega) 6 (vI v.fault))
 have bq:=zh ((((((bj.out.setCell (p:=⟨q+1,1,none⟩) (Nat.le_succ q) (vI v.kind)).setCell (p:=⟨q+1,2,none⟩) (Nat.le_succ q) (vI v.mant)).setCell (p:=⟨q+1,3,none⟩) (Nat.le_succ q) (vI v.exp)).setCell (p:=⟨q+1,4,none⟩) (Nat.le_succ q) (vT v.text)).setCell (p:=⟨q+1,5,none⟩) (Nat.le_succ q) (.bool v.truth)).setCell (p:=⟨q+1,6,none⟩) (Nat.le_succ q) (vI v.fault));generalize World.setCell _ _ _=W4 at cu aj bq ⊢;clear bf bt bj fd;have x1:=aj.out.cell 1;have x2:=aj.out.cell 2;have x3:=aj.out.cell 3;have x4:=aj.out.cell 4;have x5:=aj.out.cell 5;have x6:=aj.out.cell 6;have x21:=aj.out.cell 21;rw[ah.out]at x1 x2 x3 x4 x5 x6 x21;simp only[za,zb,zf]at x1 x2 x3 x4 x5 x6 x21
 go_wp2_with fail
 refine(sc.out _).mono ?_;rintro e w5 ⟨rfl,fm⟩;clear sc;clear x1 x2 x3 x4 x5 x6 x21;have bg:=zh (bq.out.trans (fm.mono (by have:=bq.out.size;omega)));have kl:=zh (cu.out.next fm);have gd:=zh (aj.out.next fm);clear fm;have z21:=gd.out.cell 21;rw[ah.out]at z21;simp only[za,zb,zf]at z21;cases b1
 ·go_wp2_with fail
  go_ret
  exact⟨aA (by rfl;try simp),by first|exact bg.out |(rw[hQ];exact bg.out)⟩
 by_cases hl:l.length=0
 ·have dr:((l.length:Int)==0)=true:=by rw[hl];rfl
  have hd:decide (l.length=0)=true:=decide_eq_true hl;clear hl;have ld:=zh (kl.out.rangeL);have gc:=zh (gd.out.rangeL);have HI:=zh (cB ah.out);have gx:=zh (cB dw.out);have ew:=zh (cK 1000000 zr (.mk ⟨0,v,[],aK,aK,0⟩ l) (.mk ⟨0,v,s,a,b,r⟩ l) _ _ w5 cm.out ⟨A,cp,dw.out,HK.out.kp (Kp.of_below (by rw[hQ];exact bg.out))⟩ ⟨A,cp,ah.out,HK.out.kp (Kp.of_below (by rw[hQ];exact bg.out))⟩);rw[cT,lc.out]at ew
  go_wp2_with (first |(refine aG (Eq.trans (aP rfl rfl rfl rfl) rfl) 34 (.tmp 3) rfl (q+1) 0 rfl Ck _ ld.out Tryz.underlying34 rfl gx.out ?_) |(refine aG (Eq.trans (aP rfl rfl rfl rfl) rfl) 34 (.tmp 1) rfl q 0 rfl Cn _ gc.out Tryz.underlying34 rfl HI.out ?_))
  refine ew.out.mono ?_;rintro e w9 ⟨rfl,fw⟩;have gj:=zh (bg.out.trans (fw.mono (by have:=bg.out.size;omega)));clear fw
  go_wp2_with fail
  go_ret
  exact⟨aA (by rw[hd];try simp),by first|exact gj.out |(rw[hQ];exact gj.out)⟩
 have dr:((l.length:Int)==0)=false:=by rw[beq_eq_false_iff_ne];omega
 have hd:decide (l.length=0)=false:=decide_eq_false hl;clear hl
 go_wp2_with fail
 go_ret
 exact⟨aA (by rw[hd];try simp),by first|exact bg.out |(rw[hQ];exact bg.out)⟩
theorem rOwnG1(v:Val)(s:Bs)(a b:Cor)(r:Int)(l:List Tree)(A:Option Addr)(cp:Nat)(Cn:List Value)(w:World)(hk:KidsOk w [] A l)(hs:(Tree.mk ⟨1,v,s,a,b,r⟩ l).size<=1000000)(ah:Hid (Cn.toArray=aH ⟨1,v,s,a,b,r⟩ A l.length cp)) :
  Calls Tryz.prog 87 #[.agg Cn.toArray] w fun e w'=>e=.returned (.bool (((decide (a.row≠id0)&&decide (a.col≠id0))&&decide (l.length=0))&&NodeH.same ⟨1,aD,[],a,aK,0⟩ ⟨1,v,s,a,b,r⟩))/\Below w.heap.size w w':=by
 obtain⟨sm,en⟩:∃ c,NodeH.same ⟨1,aD,[],a,aK,0⟩ ⟨1,v,s,a,b,r⟩=c:=⟨_,rfl⟩
 have lc:=zh en;rw[en];clear en;have HO:=zh (fun W=>mO a W);generalize (decide (a.row≠id0)&&decide (a.col≠id0))=b1 at *;have cm:=zh hs;clear hs;have HK:=zh hk;clear hk;have om:l.length<=1000000:=by have h1:=bU l;have h2:aL l+1<=1000000:=cm.out;omega
 obtain⟨W1,Cm,Ck,al,HL,HB,ej,dz,gr,HT,yo,bz,bf,bt,bj,dw⟩:=dC 1 (A) l.length cp ⟨1,aD,[],a,aK,0⟩ Cn w;have x0:=HL.out.cell 0;have x21:=HL.out.cell 21;rw[ah.out]at x0 x21;simp only[za,zb,zf]at x0 x21
 go_in
 go_upto_region 1 with fail
 rw[al.out];clear al;generalize hQ:w.heap.size=q at *
 go_upto_region 2 with(first |(refine yq rfl 34 (.tmp 3) (.tmp 9) rfl W1.heap.size 0 Cm.toArray rfl (congrArg Value.agg dz.out) HT.out bz.out yo.out ?_;change wpList _ _ _ _ _ (World.setCells _ W1.heap.size 0 Cm)))
 generalize World.setCells _ _ _ _=W3 at bf bt bj ⊢;rw[dz.out];clear x0 x21;have cg:=ej.out;generalize W1.heap.size=q1 at *;subst cg;clear HL HB ej dz HT yo bz;have x0:=bt.out.cell 0;have x8:=bt.out.cell 8;have x9:=bt.out.cell 9;have x10:=bt.out.cell 10;have x11:=bt.out.cell 11;have x12:=bt.out.cell 12;have x13:=bt.out.cell 13;rw[ah.out]at x0 x8 x9 x10 x11 x12 x13;simp only[za,zb,zf]at x0 x8 x9 x10 x11 x12 x13;have y8:=bf.out.cell 8;have yf8:=bf.out.frozen 8;have y9:=bf.out.cell 9;have yf9:=bf.out.frozen 9;have y10:=bf.out.cell 10;have yf10:=bf.out.frozen 10;have y11:=bf.out.cell 11;have yf11:=bf.out.frozen 11;have y12:=bf.out.cell 12;have yf12:=bf.out.frozen 12;have y13:=bf.out.cell 13;have yf13:=bf.out.frozen 13;rw[gr.out]at y8 y9 y10 y11 y12 y13
 simp only[za,zb,zf]at y8 y9 y10 y11 y12 y13
 go_upto_region 10 with fail
 clear x0 x8 x9 x10 x11 x12 x13;clear y8 y9 y10 y11 y12 y13 yf8 yf9 yf10 yf11 yf12 yf13;have fd:=bf.out;rw[gr.out]at fd;have cu:Hid (Lies _ (q+1) 34 Ck.toArray):=zh (by rw[dw.out];exact((((((fd.put 8 (vI a.row.a)).put 9 (vI a.row.n)).put 10 (vI a.col.a)).put 11 (vI a.col.n)).put 12 (.bool a.fr)).put 13 (.bool a.fc)));have aj:=zh (aC (aC (aC (aC (aC (aC bt.out (b:=q+1) (by omega) 8 (vI a.row.a)) (b:=q+1) (by omega) 9 (vI a.row.n)) (b:=q+1) (by omega) 10 (vI a.col.a)) (b:=q+1) (by omega) 11 (vI a.col.n)) (b:=q+1) (by omega) 12 (.bool a.fr)) (b:=q+1) (by omega) 13 (.bool a.fc))
 have bq:=zh ((((((bj.out.setCell (p:=⟨q+1,8,none⟩) (Nat.le_succ q) (vI a.row.a)).setCell (p:=⟨q+1,9,none⟩) (Nat.le_succ q) (vI a.row.n)).setCell (p:=⟨q+1,10,none⟩) (Nat.le_succ q) (vI a.col.a)).setCell (p:=⟨q+1,11,none⟩) (Nat.le_succ q) (vI a.col.n)).setCell (p:=⟨q+1,12,none⟩) (Nat.le_succ q) (.bool a.fr)).setCell (p:=⟨q+1,13,none⟩) (Nat.le_succ q) (.bool a.fc));generalize World.setCell _ _ _=W4 at cu aj bq ⊢;clear bf bt bj fd;have x8:=aj.out.cell 8;have x9:=aj.out.cell 9;have x10:=aj.out.cell 10;have x11:=aj.out.cell 11;have x12:=aj.out.cell 12;have x13:=aj.out.cell 13;have x21:=aj.out.cell 21;rw[ah.out]at x8 x9 x10 x11 x12 x13 x21;simp only[za,zb,zf]at x8 x9 x10 x11 x12 x13 x21
 go_wp2_with fail
 refine(HO.out _).mono ?_;rintro e w5 ⟨rfl,fm⟩;clear x8 x9 x10 x11 x12 x13 x21;clear HO;have bg:=zh (bq.out.trans (fm.mono (by have:=bq.out.size;omega)));have kl:=zh (cu.out.next fm);have gd:=zh (aj.out.next fm);clear fm;have z21:=gd.out.cell 21;rw[ah.out]at z21;simp only[za,zb,zf]at z21;cases b1
 ·go_wp2_with fail
  go_ret
  exact⟨aA (by rfl;try simp),by first|exact bg.out |(rw[hQ];exact bg.out)⟩
 by_cases hl:l.length=0
 ·have dr:((l.length:Int)==0)=true:=by rw[hl];rfl
  have hd:decide (l.length=0)=true:=decide_eq_true hl;clear hl;have ld:=zh (kl.out.rangeL);have gc:=zh (gd.out.rangeL);have HI:=zh (cB ah.out);have gx:=zh (cB dw.out);have ew:=zh (cK 1000000 zr (.mk ⟨1,aD,[],a,aK,0⟩ l) (.mk ⟨1,v,s,a,b,r⟩ l) _ _ w5 cm.out ⟨A,cp,dw.out,HK.out.kp (Kp.of_below (by rw[hQ];exact bg.out))⟩ ⟨A,cp,ah.out,HK.out.kp (Kp.of_below (by rw[hQ];exact bg.out))⟩);rw[cT,lc.out]at ew
  go_wp2_with (first |(refine aG (Eq.trans (aP rfl rfl rfl rfl) rfl) 34 (.tmp 3) rfl (q+1) 0 rfl Ck _ ld.out Tryz.underlying34 rfl gx.out ?_) |(refine aG (Eq.trans (aP rfl rfl rfl rfl) rfl) 34 (.tmp 1) rfl q 0 rfl Cn _ gc.out Tryz.underlying34 rfl HI.out ?_))
  refine ew.out.mono ?_;rintro e w9 ⟨rfl,fw⟩;have gj:=zh (bg.out.trans (fw.mono (by have:=bg.out.size;omega)));clear fw
  go_wp2_with fail
  go_ret
  exact⟨aA (by rw[hd];try simp),by first|exact gj.out |(rw[hQ];exact gj.out)⟩
 have dr:((l.length:Int)==0)=false:=by rw[beq_eq_false_iff_ne];omega
 have hd:decide (l.length=0)=false:=decide_eq_false hl;clear hl
 go_wp2_with fail
 go_ret
 exact⟨aA (by rw[hd];try simp),by first|exact bg.out |(rw[hQ];exact bg.out)⟩
theorem rOwnG3(v:Val)(s:Bs)(a b:Cor)(r:Int)(l:List Tree)(A:Option Addr)(cp:Nat)(Cn:List Value)(w:World)(hk:KidsOk w [] A l)(hs:(Tree.mk ⟨3,v,s,a,b,r⟩ l).size<=1000000)(ah:Hid (Cn.toArray=aH ⟨3,v,s,a,b,r⟩ A l.length cp)) :
  Calls Tryz.prog 87 #[.agg Cn.toArray] w fun e w'=>e=.returned (.bool (((decide (a.row≠id0)&&decide (a.col≠id0))&&decide (l.length=0))&&NodeH.same ⟨3,aD,[],a,aK,0⟩ ⟨3,v,s,a,b,r⟩))/\Below w.heap.size w w':=by
 obtain⟨sm,en⟩:∃ c,NodeH.same ⟨3,aD,[],a,aK,0⟩ ⟨3,v,s,a,b,r⟩=c:=⟨_,rfl⟩
 have lc:=zh en;rw[en];clear en;have HO:=zh (fun W=>mO a W);generalize (decide (a.row≠id0)&&decide (a.col≠id0))=b1 at *;have cm:=zh hs;clear hs;have HK:=zh hk;clear hk;have om:l.length<=1000000:=by have h1:=bU l;have h2:aL l+1<=1000000:=cm.out;omega
 obtain⟨W1,Cm,Ck,al,HL,HB,ej,dz,gr,HT,yo,bz,bf,bt,bj,dw⟩:=dC 3 (A) l.length cp ⟨3,aD,[],a,aK,0⟩ Cn w;have x0:=HL.out.cell 0;have x21:=HL.out.cell 21;rw[ah.out]at x0 x21;simp only[za,zb,zf]at x0 x21
 go_in
 go_upto_region 1 with fail
 rw[al.out];clear al;generalize hQ:w.heap.size=q at *
 go_upto_region 2 with(first |(refine yq rfl 34 (.tmp 3) (.tmp 9) rfl W1.heap.size 0 Cm.toArray rfl (congrArg Value.agg dz.out) HT.out bz.out yo.out ?_;change wpList _ _ _ _ _ (World.setCells _ W1.heap.size 0 Cm)))
 generalize World.setCells _ _ _ _=W3 at bf bt bj ⊢;rw[dz.out];clear x0 x21;have cg:=ej.out;generalize W1.heap.size=q1 at *;subst cg;clear HL HB ej dz HT yo bz;have x0:=bt.out.cell 0;have x8:=bt.out.cell 8;have x9:=bt.out.cell 9;have x10:=bt.out.cell 10;have x11:=bt.out.cell 11;have x12:=bt.out.cell 12;have x13:=bt.out.cell 13;rw[ah.out]at x0 x8 x9 x10 x11 x12 x13;simp only[za,zb,zf]at x0 x8 x9 x10 x11 x12 x13;have y8:=bf.out.cell 8;have yf8:=bf.out.frozen 8;have y9:=bf.out.cell 9;have yf9:=bf.out.frozen 9;have y10:=bf.out.cell 10;have yf10:=bf.out.frozen 10;have y11:=bf.out.cell 11;have yf11:=bf.out.frozen 11;have y12:=bf.out.cell 12;have yf12:=bf.out.frozen 12;have y13:=bf.out.cell 13;have yf13:=bf.out.frozen 13;rw[gr.out]at y8 y9 y10 y11 y12 y13
 simp only[za,zb,zf]at y8 y9 y10 y11 y12 y13
 go_upto_region 10 with fail
 clear x0 x8 x9 x10 x11 x12 x13;clear y8 y9 y10 y11 y12 y13 yf8 yf9 yf10 yf11 yf12 yf13;have fd:=bf.out;rw[gr.out]at fd;have cu:Hid (Lies _ (q+1) 34 Ck.toArray):=zh (by rw[dw.out];exact((((((fd.put 8 (vI a.row.a)).put 9 (vI a.row.n)).put 10 (vI a.col.a)).put 11 (vI a.col.n)).put 12 (.bool a.fr)).put 13 (.bool a.fc)));have aj:=zh (aC (aC (aC (aC (aC (aC bt.out (b:=q+1) (by omega) 8 (vI a.row.a)) (b:=q+1) (by omega) 9 (vI a.row.n)) (b:=q+1) (by omega) 10 (vI a.col.a)) (b:=q+1) (by omega) 11 (vI a.col.n)) (b:=q+1) (by omega) 12 (.bool a.fr)) (b:=q+1) (by omega) 13 (.bool a.fc))
 have bq:=zh ((((((bj.out.setCell (p:=⟨q+1,8,none⟩) (Nat.le_succ q) (vI a.row.a)).setCell (p:=⟨q+1,9,none⟩) (Nat.le_succ q) (vI a.row.n)).setCell (p:=⟨q+1,10,none⟩) (Nat.le_succ q) (vI a.col.a)).setCell (p:=⟨q+1,11,none⟩) (Nat.le_succ q) (vI a.col.n)).setCell (p:=⟨q+1,12,none⟩) (Nat.le_succ q) (.bool a.fr)).setCell (p:=⟨q+1,13,none⟩) (Nat.le_succ q) (.bool a.fc));generalize World.setCell _ _ _=W4 at cu aj bq ⊢;clear bf bt bj fd;have x8:=aj.out.cell 8;have x9:=aj.out.cell 9;have x10:=aj.out.cell 10;have x11:=aj.out.cell 11;have x12:=aj.out.cell 12;have x13:=aj.out.cell 13;have x21:=aj.out.cell 21;rw[ah.out]at x8 x9 x10 x11 x12 x13 x21;simp only[za,zb,zf]at x8 x9 x10 x11 x12 x13 x21
 go_wp2_with fail
 refine(HO.out _).mono ?_;rintro e w5 ⟨rfl,fm⟩;clear x8 x9 x10 x11 x12 x13 x21;clear HO;have bg:=zh (bq.out.trans (fm.mono (by have:=bq.out.size;omega)));have kl:=zh (cu.out.next fm);have gd:=zh (aj.out.next fm);clear fm;have z21:=gd.out.cell 21;rw[ah.out]at z21;simp only[za,zb,zf]at z21;cases b1
 ·go_wp2_with fail
  go_ret
  exact⟨aA (by rfl;try simp),by first|exact bg.out |(rw[hQ];exact bg.out)⟩
 by_cases hl:l.length=0
 ·have dr:((l.length:Int)==0)=true:=by rw[hl];rfl
  have hd:decide (l.length=0)=true:=decide_eq_true hl;clear hl;have ld:=zh (kl.out.rangeL);have gc:=zh (gd.out.rangeL);have HI:=zh (cB ah.out);have gx:=zh (cB dw.out);have ew:=zh (cK 1000000 zr (.mk ⟨3,aD,[],a,aK,0⟩ l) (.mk ⟨3,v,s,a,b,r⟩ l) _ _ w5 cm.out ⟨A,cp,dw.out,HK.out.kp (Kp.of_below (by rw[hQ];exact bg.out))⟩ ⟨A,cp,ah.out,HK.out.kp (Kp.of_below (by rw[hQ];exact bg.out))⟩);rw[cT,lc.out]at ew
  go_wp2_with (first |(refine aG (Eq.trans (aP rfl rfl rfl rfl) rfl) 34 (.tmp 3) rfl (q+1) 0 rfl Ck _ ld.out Tryz.underlying34 rfl gx.out ?_) |(refine aG (Eq.trans (aP rfl rfl rfl rfl) rfl) 34 (.tmp 1) rfl q 0 rfl Cn _ gc.out Tryz.underlying34 rfl HI.out ?_))
  refine ew.out.mono ?_;rintro e w9 ⟨rfl,fw⟩;have gj:=zh (bg.out.trans (fw.mono (by have:=bg.out.size;omega)));clear fw
  go_wp2_with fail
  go_ret
  exact⟨aA (by rw[hd];try simp),by first|exact gj.out |(rw[hQ];exact gj.out)⟩
 have dr:((l.length:Int)==0)=false:=by rw[beq_eq_false_iff_ne];omega
 have hd:decide (l.length=0)=false:=decide_eq_false hl;clear hl
 go_wp2_with fail
 go_ret
 exact⟨aA (by rw[hd];try simp),by first|exact bg.out |(rw[hQ];exact bg.out)⟩
theorem rOwnG2(v:Val)(s:Bs)(a b:Cor)(r:Int)(l:List Tree)(A:Option Addr)(cp:Nat)(Cn:List Value)(w:World)(hk:KidsOk w [] A l)(hs:(Tree.mk ⟨2,v,s,a,b,r⟩ l).size<=1000000)(ah:Hid (Cn.toArray=aH ⟨2,v,s,a,b,r⟩ A l.length cp)) :
  Calls Tryz.prog 87 #[.agg Cn.toArray] w fun e w'=>e=.returned (.bool ((bV a b&&decide (l.length=0))&&NodeH.same ⟨2,aD,[],a,b,0⟩ ⟨2,v,s,a,b,r⟩))/\Below w.heap.size w w':=by
 obtain⟨sm,en⟩:∃ c,NodeH.same ⟨2,aD,[],a,b,0⟩ ⟨2,v,s,a,b,r⟩=c:=⟨_,rfl⟩
 have lc:=zh en;rw[en];clear en;have HO:=zh (fun W=>uEQ a b W);generalize bV a b=b1 at *;have cm:=zh hs;clear hs;have HK:=zh hk;clear hk;have om:l.length<=1000000:=by have h1:=bU l;have h2:aL l+1<=1000000:=cm.out;omega
 obtain⟨W1,Cm,Ck,al,HL,HB,ej,dz,gr,HT,yo,bz,bf,bt,bj,dw⟩:=dC 2 (A) l.length cp ⟨2,aD,[],a,b,0⟩ Cn w;have x0:=HL.out.cell 0;have x21:=HL.out.cell 21;rw[ah.out]at x0 x21;simp only[za,zb,zf]at x0 x21
 go_in
 go_upto_region 1 with fail
 rw[al.out];clear al;generalize hQ:w.heap.size=q at *
 go_upto_region 2 with(first |(refine yq rfl 34 (.tmp 3) (.tmp 9) rfl W1.heap.size 0 Cm.toArray rfl (congrArg Value.agg dz.out) HT.out bz.out yo.out ?_;change wpList _ _ _ _ _ (World.setCells _ W1.heap.size 0 Cm)))
 generalize World.setCells _ _ _ _=W3 at bf bt bj ⊢;rw[dz.out];clear x0 x21;have cg:=ej.out;generalize W1.heap.size=q1 at *;subst cg;clear HL HB ej dz HT yo bz;obtain⟨D,hD⟩:∃ D:List Value,[vI a.row.a,vI a.row.n,vI a.col.a,vI a.col.n,.bool a.fr,.bool a.fc,vI b.row.a,vI b.row.n,vI b.col.a,vI b.col.n,.bool b.fr,.bool b.fc]=D:=⟨_,rfl⟩
 have HDR:Hid (W3.rangeAt q (0+8) D):=zh (by have h1:=bt.out;rw[ah.out]at h1;rw[<- hD];exact NodeIn.sub (Lies.node h1) 8 _ (by simp) rfl);have HDT:Hid (W3.there (q+1) 8 D.toArray.size):=zh (by have h1:=bf.out;rw[gr.out]at h1;rw[<- hD];intro j hj;have hj:j<12:=hj;exact⟨by rw[h1.cell];have:8+j<22:=(by omega);rw[Array.getElem?_eq_getElem (by show 8+j<22;omega)];rfl,h1.frozen _⟩);have HDI:Hid ((Tryz.prog.info? 31).map (·.size)=some D.length):=zh (by rw[<- hD];exact fZ);have HDO:Hid (D.toArray.all (·.oneCell')=true):=zh (by rw[<- hD];simp[Value.oneCell']);have fd:=bf.out;rw[gr.out]at fd;have cu:Hid (Lies (World.setCells W3 (q+1) 8 D) (q+1) 34 Ck.toArray):=zh (by have h1:=Lies.putMid D 8 W3 _ fd (by rw[<- hD];simp);rw[dw.out];rw[<- hD]at h1 ⊢;exact h1);have aj:Hid (Lies (World.setCells W3 (q+1) 8 D) q 34 Cn.toArray):=zh (fA (by omega) D 8 bt.out)
 have bq:Hid (Below q w (World.setCells W3 (q+1) 8 D)):=zh (jI (Nat.le_succ q) D 8 bj.out);clear hD fd;have x0:=bt.out.cell 0;rw[ah.out]at x0;simp only[za,zb]at x0
 go_upto_region 13 with(first |(refine yr rfl 31 (.tmp 46) rfl q (0+8) rfl D _ HDR.out Tryz.underlying31 rfl HDI.out ?_) |(refine yq rfl 31 (.tmp 48) (.tmp 47) rfl (q+1) 8 D.toArray rfl rfl HDT.out (by rw[yd];exact HDI.out) HDO.out ?_;change wpList _ _ _ _ _ (World.setCells _ (q+1) 8 D)))
 clear x0;generalize World.setCells _ _ _ _=W4 at cu aj bq ⊢;clear bf bt bj HDR HDT HDI HDO;have x8:=aj.out.cell 8;have x9:=aj.out.cell 9;have x10:=aj.out.cell 10;have x11:=aj.out.cell 11;have x12:=aj.out.cell 12;have x13:=aj.out.cell 13;have x14:=aj.out.cell 14;have x15:=aj.out.cell 15;have x16:=aj.out.cell 16;have x17:=aj.out.cell 17;have x18:=aj.out.cell 18;have x19:=aj.out.cell 19;have x21:=aj.out.cell 21;rw[ah.out]at x8 x9 x10 x11 x12 x13 x14 x15 x16 x17 x18 x19 x21;simp only[za,zb,zf]at x8 x9 x10 x11 x12 x13 x14 x15 x16 x17 x18 x19 x21
 go_wp2_with fail
 refine(HO.out _).mono ?_;rintro e w5 ⟨rfl,fm⟩;clear x8 x9 x10 x11 x12 x13 x14 x15 x16 x17 x18 x19 x21;clear HO;have bg:=zh (bq.out.trans (fm.mono (by have:=bq.out.size;omega)));have kl:=zh (cu.out.next fm);have gd:=zh (aj.out.next fm);clear fm;have z21:=gd.out.cell 21;rw[ah.out]at z21;simp only[za,zb,zf]at z21;cases b1
 ·go_wp2_with fail
  go_ret
  exact⟨aA (by rfl;try simp),by first|exact bg.out |(rw[hQ];exact bg.out)⟩
 by_cases hl:l.length=0
 ·have dr:((l.length:Int)==0)=true:=by rw[hl];rfl
  have hd:decide (l.length=0)=true:=decide_eq_true hl;clear hl;have ld:=zh (kl.out.rangeL);have gc:=zh (gd.out.rangeL);have HI:=zh (cB ah.out);have gx:=zh (cB dw.out);have ew:=zh (cK 1000000 zr (.mk ⟨2,aD,[],a,b,0⟩ l) (.mk ⟨2,v,s,a,b,r⟩ l) _ _ w5 cm.out ⟨A,cp,dw.out,HK.out.kp (Kp.of_below (by rw[hQ];exact bg.out))⟩ ⟨A,cp,ah.out,HK.out.kp (Kp.of_below (by rw[hQ];exact bg.out))⟩);rw[cT,lc.out]at ew
  go_wp2_with (first |(refine aG (Eq.trans (aP rfl rfl rfl rfl) rfl) 34 (.tmp 3) rfl (q+1) 0 rfl Ck _ ld.out Tryz.underlying34 rfl gx.out ?_) |(refine aG (Eq.trans (aP rfl rfl rfl rfl) rfl) 34 (.tmp 1) rfl q 0 rfl Cn _ gc.out Tryz.underlying34 rfl HI.out ?_))
  refine ew.out.mono ?_;rintro e w9 ⟨rfl,fw⟩;have gj:=zh (bg.out.trans (fw.mono (by have:=bg.out.size;omega)));clear fw
  go_wp2_with fail
  go_ret
  exact⟨aA (by rw[hd];try simp),by first|exact gj.out |(rw[hQ];exact gj.out)⟩
 have dr:((l.length:Int)==0)=false:=by rw[beq_eq_false_iff_ne];omega
 have hd:decide (l.length=0)=false:=decide_eq_false hl;clear hl
 go_wp2_with fail
 go_ret
 exact⟨aA (by rw[hd];try simp),by first|exact bg.out |(rw[hQ];exact bg.out)⟩
theorem rOwnG8(v:Val)(s:Bs)(a b:Cor)(r:Int)(l:List Tree)(A:Option Addr)(cp:Nat)(Cn:List Value)(w:World)(hk:KidsOk w [] A l)(hs:(Tree.mk ⟨8,v,s,a,b,r⟩ l).size<=1000000)(ah:Hid (Cn.toArray=aH ⟨8,v,s,a,b,r⟩ A l.length cp)) :
  Calls Tryz.prog 87 #[.agg Cn.toArray] w fun e w'=>e=.returned (.bool ((decide (1<=r)&&decide (1<=l.length)&&decide ((l.length:Int).tmod r=0))&&NodeH.same ⟨8,aD,[],aK,aK,r⟩ ⟨8,v,s,a,b,r⟩))/\Below w.heap.size w w':=by
 obtain⟨sm,en⟩:∃ c,NodeH.same ⟨8,aD,[],aK,aK,r⟩ ⟨8,v,s,a,b,r⟩=c:=⟨_,rfl⟩
 have lc:=zh en;rw[en];clear en;have cm:=zh hs;clear hs;have HK:=zh hk;clear hk;have om:l.length<=1000000:=by have h1:=bU l;have h2:aL l+1<=1000000:=cm.out;omega
 obtain⟨W1,Cm,Ck,al,HL,HB,ej,dz,gr,HT,yo,bz,bf,bt,bj,dw⟩:=dC 8 (A) l.length cp ⟨8,aD,[],aK,aK,r⟩ Cn w;have x0:=HL.out.cell 0;have x21:=HL.out.cell 21;rw[ah.out]at x0 x21;simp only[za,zb,zf]at x0 x21
 go_in
 go_upto_region 1 with fail
 rw[al.out];clear al;generalize hQ:w.heap.size=q at *
 go_upto_region 2 with(first |(refine yq rfl 34 (.tmp 3) (.tmp 9) rfl W1.heap.size 0 Cm.toArray rfl (congrArg Value.agg dz.out) HT.out bz.out yo.out ?_;change wpList _ _ _ _ _ (World.setCells _ W1.heap.size 0 Cm)))
 generalize World.setCells _ _ _ _=W3 at bf bt bj ⊢;rw[dz.out];clear x0 x21;have cg:=ej.out;generalize W1.heap.size=q1 at *;subst cg;clear HL HB ej dz HT yo bz;have x0:=bt.out.cell 0;have x20:=bt.out.cell 20;rw[ah.out]at x0 x20;simp only[za,zb,zf]at x0 x20;have y20:=bf.out.cell 20;have yf20:=bf.out.frozen 20;rw[gr.out]at y20;simp only[za,zb,zf]at y20
 go_upto_region 28 with fail
 clear x0 x20;clear y20 yf20;have fd:=bf.out;rw[gr.out]at fd;have cu:Hid (Lies _ (q+1) 34 Ck.toArray):=zh (by rw[dw.out];exact(fd.put 20 (vI r)));have aj:=zh (aC bt.out (b:=q+1) (by omega) 20 (vI r));have bq:=zh (bj.out.setCell (p:=⟨q+1,20,none⟩) (Nat.le_succ q) (vI r));generalize World.setCell _ _ _=W4 at cu aj bq ⊢;clear bf bt bj fd;have x20:=aj.out.cell 20;have x21:=aj.out.cell 21;rw[ah.out]at x20 x21;simp only[za,zb,zf]at x20 x21;by_cases hr:1<=r
 rotate_left
 ·have hdr:=zh (decide_eq_false hr)
  go_wp2_with fail
  go_ret
  exact⟨aA (by rw[hdr.out];try simp),by first|exact bq.out |(rw[hQ];exact bq.out)⟩
 have sl:¬ r=0:=by omega
 have hdr:=zh (decide_eq_true hr);by_cases hl:1<=l.length
 rotate_left
 ·have dr:¬ (1:Int)<=(l.length:Int):=by omega
  have o9:=zh (decide_eq_false hl);clear hl
  go_wp2_with fail
  go_ret
  exact⟨aA (by rw[o9.out];try simp),by first|exact bq.out |(rw[hQ];exact bq.out)⟩
 have dr:(1:Int)<=(l.length:Int):=by omega
 have o9:=zh (decide_eq_true hl);by_cases hm:(l.length:Int).tmod r=0
 rotate_left
 ·have hdm:=zh (decide_eq_false hm);have fd:((l.length:Int) % r==0)=false:=by rw[Int.tmod_eq_emod_of_nonneg (by omega)]at hm;simpa using hm
  clear hm hl
  go_wp2_with fail
  go_ret
  exact⟨aA (by rw[hdm.out];try simp),by first|exact bq.out |(rw[hQ];exact bq.out)⟩
 have hdm:=zh (decide_eq_true hm);have fd:((l.length:Int) % r==0)=true:=by rw[Int.tmod_eq_emod_of_nonneg (by omega)]at hm;rw[hm];rfl
 clear hm hl;have ld:=zh (cu.out.rangeL);have gc:=zh (aj.out.rangeL);have HI:=zh (cB ah.out);have gx:=zh (cB dw.out);have ew:=zh (cK 1000000 zr (.mk ⟨8,aD,[],aK,aK,r⟩ l) (.mk ⟨8,v,s,a,b,r⟩ l) _ _ W4 cm.out ⟨A,cp,dw.out,HK.out.kp (Kp.of_below (by rw[hQ];exact bq.out))⟩ ⟨A,cp,ah.out,HK.out.kp (Kp.of_below (by rw[hQ];exact bq.out))⟩);rw[cT,lc.out]at ew
 go_wp2_with (first |(refine aG (Eq.trans (aP rfl rfl rfl rfl) rfl) 34 (.tmp 3) rfl (q+1) 0 rfl Ck _ ld.out Tryz.underlying34 rfl gx.out ?_) |(refine aG (Eq.trans (aP rfl rfl rfl rfl) rfl) 34 (.tmp 1) rfl q 0 rfl Cn _ gc.out Tryz.underlying34 rfl HI.out ?_))
 refine ew.out.mono ?_;rintro e w9 ⟨rfl,fw⟩;have gj:=zh (bq.out.trans (fw.mono (by have:=bq.out.size;omega)));clear fw
 go_wp2_with fail
 go_ret
 exact⟨aA (by rw[hdm.out,hdr.out,o9.out];try simp),by first|exact gj.out |(rw[hQ];exact gj.out)⟩
theorem rOwnG4a(v:Val)(s:Bs)(a b:Cor)(r:Int)(l:List Tree)(A:Option Addr)(cp:Nat)(Cn:List Value)(w:World)(hk:KidsOk w [] A l)(hs:(Tree.mk ⟨4,v,s,a,b,r⟩ l).size<=1000000)(ah:Hid (Cn.toArray=aH ⟨4,v,s,a,b,r⟩ A l.length cp))(jp:s.length<=100000)(hn:l.length≠1) :
  Calls Tryz.prog 87 #[.agg Cn.toArray] w fun e w'=>e=.returned (.bool ((bI s&&decide (l.length<=32)&&decide (l.length≠1))&&NodeH.same ⟨4,aD,s,aK,aK,0⟩ ⟨4,v,s,a,b,r⟩))/\Below w.heap.size w w':=by
 obtain⟨sm,en⟩:∃ c,NodeH.same ⟨4,aD,s,aK,aK,0⟩ ⟨4,v,s,a,b,r⟩=c:=⟨_,rfl⟩
 have lc:=zh en;rw[en];clear en;have vr:((l.length:Int) != 1)=true:=by rw[bne_iff_ne];omega
 have sc:=zh (fun W=>tP s W jp);generalize bI s=b1 at *;clear jp;have cm:=zh hs;clear hs;have HK:=zh hk;clear hk;have om:l.length<=1000000:=by have h1:=bU l;have h2:aL l+1<=1000000:=cm.out;omega
 obtain⟨W1,Cm,Ck,al,HL,HB,ej,dz,gr,HT,yo,bz,bf,bt,bj,dw⟩:=dC 4 (A) l.length cp ⟨4,aD,s,aK,aK,0⟩ Cn w;have x0:=HL.out.cell 0;have x21:=HL.out.cell 21;rw[ah.out]at x0 x21;simp only[za,zb,zf]at x0 x21
 go_in
 go_upto_region 1 with fail
 rw[al.out];clear al;generalize hQ:w.heap.size=q at *
 go_upto_region 2 with(first |(refine yq rfl 34 (.tmp 3) (.tmp 9) rfl W1.heap.size 0 Cm.toArray rfl (congrArg Value.agg dz.out) HT.out bz.out yo.out ?_;change wpList _ _ _ _ _ (World.setCells _ W1.heap.size 0 Cm)))
 generalize World.setCells _ _ _ _=W3 at bf bt bj ⊢;rw[dz.out];clear x0 x21;have cg:=ej.out;generalize W1.heap.size=q1 at *;subst cg;clear HL HB ej dz HT yo bz;have x0:=bt.out.cell 0;have x7:=bt.out.cell 7;rw[ah.out]at x0 x7;simp only[za,zb,zf]at x0 x7;have y7:=bf.out.cell 7;have yf7:=bf.out.frozen 7;rw[gr.out]at y7;simp only[za,zb,zf]at y7
 go_upto_region 16 with fail
 clear x0 x7;clear y7 yf7;have fd:=bf.out;rw[gr.out]at fd;have cu:Hid (Lies _ (q+1) 34 Ck.toArray):=zh (by rw[dw.out];exact(fd.put 7 (vT s)));have aj:=zh (aC bt.out (b:=q+1) (by omega) 7 (vT s));have bq:=zh (bj.out.setCell (p:=⟨q+1,7,none⟩) (Nat.le_succ q) (vT s));generalize World.setCell _ _ _=W4 at cu aj bq ⊢;clear bf bt bj fd;have x7:=aj.out.cell 7;have x21:=aj.out.cell 21;rw[ah.out]at x7 x21;simp only[za,zb,zf]at x7 x21
 go_wp2_with fail
 refine(sc.out _).mono ?_;rintro e w5 ⟨rfl,rfl⟩;clear sc;cases b1
 ·go_wp2_with fail
  go_ret
  exact⟨aA (by rfl;try simp),by first|exact bq.out |(rw[hQ];exact bq.out)⟩
 by_cases hl:l.length<=32
 rotate_left
 ·have dr:¬ (l.length:Int)<=32:=by omega
  have o9:=zh (decide_eq_false hl);clear hl hn
  go_wp2_with fail
  go_ret
  exact⟨aA (by rw[o9.out];try simp),by first|exact bq.out |(rw[hQ];exact bq.out)⟩
 have dr:(l.length:Int)<=32:=by omega
 have o9:=zh (decide_eq_true hl);have hdn:=zh (decide_eq_true hn);clear hl hn;have ld:=zh (cu.out.rangeL);have gc:=zh (aj.out.rangeL);have HI:=zh (cB ah.out);have gx:=zh (cB dw.out);have ew:=zh (cK 1000000 zr (.mk ⟨4,aD,s,aK,aK,0⟩ l) (.mk ⟨4,v,s,a,b,r⟩ l) _ _ W4 cm.out ⟨A,cp,dw.out,HK.out.kp (Kp.of_below (by rw[hQ];exact bq.out))⟩ ⟨A,cp,ah.out,HK.out.kp (Kp.of_below (by rw[hQ];exact bq.out))⟩);rw[cT,lc.out]at ew
 go_wp2_with (first |(refine aG (Eq.trans (aP rfl rfl rfl rfl) rfl) 34 (.tmp 3) rfl (q+1) 0 rfl Ck _ ld.out Tryz.underlying34 rfl gx.out ?_) |(refine aG (Eq.trans (aP rfl rfl rfl rfl) rfl) 34 (.tmp 1) rfl q 0 rfl Cn _ gc.out Tryz.underlying34 rfl HI.out ?_))
 refine ew.out.mono ?_;rintro e w9 ⟨rfl,fw⟩;have gj:=zh (bq.out.trans (fw.mono (by have:=bq.out.size;omega)));clear fw
 go_wp2_with fail
 go_ret
 exact⟨aA (by rw[o9.out,hdn.out];try simp),by first|exact gj.out |(rw[hQ];exact gj.out)⟩
theorem rOwnG4b(v:Val)(s:Bs)(a b:Cor)(r:Int)(g og:Nat)(kk:Int)(l:List Tree)(A:Option Addr)(cp:Nat)(Cn:List Value)(w:World)(hk:KidsOk w [] A l)(hs:(Tree.mk ⟨4,v,s,a,b,r⟩ l).size<=1000000)(ah:Hid (Cn.toArray=aH ⟨4,v,s,a,b,r⟩ A l.length cp))(jp:s.length<=100000)(hl:l.length=1)(hA:A=some ⟨g,og,none⟩)(hkd:∀ W',Below w.heap.size w W'->W'.cell? ⟨g,og,none⟩=some (vI kk)) :
  Calls Tryz.prog 87 #[.agg Cn.toArray] w fun e w'=>e=.returned (.bool ((bI s&&decide (kk≠9))&&NodeH.same ⟨4,aD,s,aK,aK,0⟩ ⟨4,v,s,a,b,r⟩))/\Below w.heap.size w w':=by
 obtain⟨sm,en⟩:∃ c,NodeH.same ⟨4,aD,s,aK,aK,0⟩ ⟨4,v,s,a,b,r⟩=c:=⟨_,rfl⟩
 have lc:=zh en;rw[en];clear en;subst hA;have sy:=zh hkd;have dr:(l.length:Int)<=32:=by omega
 have vr:((l.length:Int) != 1)=false:=by rw[hl];rfl
 have sc:=zh (fun W=>tP s W jp);generalize bI s=b1 at *;clear jp;have hlp:(0:Int)<(l.length:Int):=by omega
 clear hl hkd;have cm:=zh hs;clear hs;have HK:=zh hk;clear hk;have om:l.length<=1000000:=by have h1:=bU l;have h2:aL l+1<=1000000:=cm.out;omega
 obtain⟨W1,Cm,Ck,al,HL,HB,ej,dz,gr,HT,yo,bz,bf,bt,bj,dw⟩:=dC 4 (some ⟨g,og,none⟩) l.length cp ⟨4,aD,s,aK,aK,0⟩ Cn w;have x0:=HL.out.cell 0;have x21:=HL.out.cell 21;rw[ah.out]at x0 x21;simp only[za,zb,zf]at x0 x21
 go_in
 go_upto_region 1 with fail
 rw[al.out];clear al;generalize hQ:w.heap.size=q at *
 go_upto_region 2 with(first |(refine yq rfl 34 (.tmp 3) (.tmp 9) rfl W1.heap.size 0 Cm.toArray rfl (congrArg Value.agg dz.out) HT.out bz.out yo.out ?_;change wpList _ _ _ _ _ (World.setCells _ W1.heap.size 0 Cm)))
 generalize World.setCells _ _ _ _=W3 at bf bt bj ⊢;rw[dz.out];clear x0 x21;have cg:=ej.out;generalize W1.heap.size=q1 at *;subst cg;clear HL HB ej dz HT yo bz;have x0:=bt.out.cell 0;have x7:=bt.out.cell 7;rw[ah.out]at x0 x7;simp only[za,zb,zf]at x0 x7;have y7:=bf.out.cell 7;have yf7:=bf.out.frozen 7;rw[gr.out]at y7;simp only[za,zb,zf]at y7
 go_upto_region 16 with fail
 clear x0 x7;clear y7 yf7;have fd:=bf.out;rw[gr.out]at fd;have cu:Hid (Lies _ (q+1) 34 Ck.toArray):=zh (by rw[dw.out];exact(fd.put 7 (vT s)));have aj:=zh (aC bt.out (b:=q+1) (by omega) 7 (vT s));have bq:=zh (bj.out.setCell (p:=⟨q+1,7,none⟩) (Nat.le_succ q) (vT s));generalize World.setCell _ _ _=W4 at cu aj bq ⊢;clear bf bt bj fd;have x7:=aj.out.cell 7;have x21:=aj.out.cell 21;rw[ah.out]at x7 x21;simp only[za,zb,zf]at x7 x21;have k0:=sy.out W4 bq.out
 go_wp2_with fail
 refine(sc.out _).mono ?_;rintro e w5 ⟨rfl,rfl⟩;clear sc;cases b1
 ·go_wp2_with fail
  go_ret
  exact⟨aA (by rfl;try simp),by first|exact bq.out |(rw[hQ];exact bq.out)⟩
 by_cases hk9:kk=9
 ·have na:(kk != 9)=false:=by simpa using hk9
  have hdk:=zh (decide_eq_false (fun h:kk≠9=>h hk9));clear hk9
  go_wp2_with fail
  go_ret
  exact⟨aA (by rw[hdk.out];try simp),by first|exact bq.out |(rw[hQ];exact bq.out)⟩
 have na:(kk != 9)=true:=by simpa using hk9
 have hdk:=zh (decide_eq_true hk9);clear hk9;have ld:=zh (cu.out.rangeL);have gc:=zh (aj.out.rangeL);have HI:=zh (cB ah.out);have gx:=zh (cB dw.out);have ew:=zh (cK 1000000 zr (.mk ⟨4,aD,s,aK,aK,0⟩ l) (.mk ⟨4,v,s,a,b,r⟩ l) _ _ W4 cm.out ⟨some ⟨g,og,none⟩,cp,dw.out,HK.out.kp (Kp.of_below (by rw[hQ];exact bq.out))⟩ ⟨some ⟨g,og,none⟩,cp,ah.out,HK.out.kp (Kp.of_below (by rw[hQ];exact bq.out))⟩);rw[cT,lc.out]at ew
 go_wp2_with (first |(refine aG (Eq.trans (aP rfl rfl rfl rfl) rfl) 34 (.tmp 3) rfl (q+1) 0 rfl Ck _ ld.out Tryz.underlying34 rfl gx.out ?_) |(refine aG (Eq.trans (aP rfl rfl rfl rfl) rfl) 34 (.tmp 1) rfl q 0 rfl Cn _ gc.out Tryz.underlying34 rfl HI.out ?_))
 refine ew.out.mono ?_;rintro e w9 ⟨rfl,fw⟩;have gj:=zh (bq.out.trans (fw.mono (by have:=bq.out.size;omega)));clear fw
 go_wp2_with fail
 go_ret
 exact⟨aA (by rw[hdk.out];try simp),by first|exact gj.out |(rw[hQ];exact gj.out)⟩
theorem rOwnGx(k:Int)(v:Val)(s:Bs)(a b:Cor)(r:Int)(l:List Tree)(A:Option Addr)(cp:Nat)(Cn:List Value)(w:World)(ah:Hid (Cn.toArray=aH ⟨k,v,s,a,b,r⟩ A l.length cp))(h:∀ j:Int,0<=j->j<=9->k≠j) :
  Calls Tryz.prog 87 #[.agg Cn.toArray] w fun e w'=>e=.returned (.bool false)/\Below w.heap.size w w':=by
 have n0:((k:Int)==0)=false:=by simpa using h 0 (by decide) (by decide)
 have n1:((k:Int)==1)=false:=by simpa using h 1 (by decide) (by decide)
 have n2:((k:Int)==2)=false:=by simpa using h 2 (by decide) (by decide)
 have n3:((k:Int)==3)=false:=by simpa using h 3 (by decide) (by decide)
 have n4:((k:Int)==4)=false:=by simpa using h 4 (by decide) (by decide)
 have n5:((k:Int)==5)=false:=by simpa using h 5 (by decide) (by decide)
 have n6:((k:Int)==6)=false:=by simpa using h 6 (by decide) (by decide)
 have n7:((k:Int)==7)=false:=by simpa using h 7 (by decide) (by decide)
 have n8:((k:Int)==8)=false:=by simpa using h 8 (by decide) (by decide)
 have n9:((k:Int)==9)=false:=by simpa using h 9 (by decide) (by decide)
 clear h;obtain⟨W1,Cm,-,al,HL,HB,ej,dz,gr,HT,yo,bz,-,bt,bj,-⟩:=dC k A l.length cp head0 Cn w;have x0:=HL.out.cell 0;have x21:=HL.out.cell 21;rw[ah.out]at x0 x21;simp only[za,zb,zf]at x0 x21
 go_in
 go_upto_region 1 with fail
 rw[al.out];clear al;generalize hQ:w.heap.size=q at *
 go_upto_region 2 with(first |(refine yq rfl 34 (.tmp 3) (.tmp 9) rfl W1.heap.size 0 Cm.toArray rfl (congrArg Value.agg dz.out) HT.out bz.out yo.out ?_;change wpList _ _ _ _ _ (World.setCells _ W1.heap.size 0 Cm)))
 generalize World.setCells _ _ _ _=W3 at bt bj ⊢;rw[dz.out];clear x0 x21;have cg:=ej.out;generalize W1.heap.size=q1 at *;subst cg;clear HL HB ej dz HT yo bz gr;have x0:=bt.out.cell 0;rw[ah.out]at x0;simp only[za,zb]at x0
 go_wp2_with fail
 go_ret
 exact⟨rfl,by first|exact bj.out |(rw[hQ];exact bj.out)⟩
theorem uEY{h h':NodeH}(e:NodeH.same h h'=true):h=h':=by
 unfold NodeH.same at e;simp only[yh,decide_eq_true_eq,fU,beq_iff_eq]at e;obtain⟨⟨⟨⟨⟨e1,e2⟩,e3⟩,e4⟩,e5⟩,e6⟩:=e;cases h;cases h';simp only at e1 e2 e3 e4 e5 e6;subst e1 e2 e3 e4 e5 e6;rfl
theorem pA{t:Tree}{k:Int}(hr:t.right k=true)(h8:k≠8):¬ (t.h.kind=0/\t.h.v.kind=1/\t.h.v.mant<0):=by
 obtain⟨h,l⟩:=t;rintro⟨h0,h1,h2⟩;have h0:h.kind=0:=h0;have h2:h.v.mant<0:=h2;rw[Tree.right,yh]at hr;have g:=hr.1;unfold aV cS at g;rw[if_pos h0]at g;simp[h8]at g;omega
def uAF(h:NodeH)(n:Nat)(kids:List Int):Bool:=aV h n kids (if h.kind=9 then 4 else 8)
theorem dU(h h':NodeH):NodeH.same h h'=NodeH.same h' h:=by
 have key:∀ x y:NodeH,NodeH.same x y=true->NodeH.same y x=true:=fun x y e=>by have h:=uEY e;subst h;exact e
 cases h1:NodeH.same h h' with
 |true=>exact(key _ _ h1).symm
 |false=>
  cases h2:NodeH.same h' h with
  |false=>rfl
  |true=>rw[key _ _ h2]at h1;cases h1
theorem un_in(s:Bs):(([[45],[43],[37]]:List Bs).contains s)=unB s:=by
 unfold unB;simp only[List.contains_cons,List.contains_nil,Bool.or_false,Bool.or_assoc]
theorem bin_in(s:Bs):(([[43],[45],[42],[47],[94],[38],[61],[60,62],[60],[60,61],[62],[62,61]]:List Bs).contains s)=iM s:=by
 unfold iM;simp only[List.contains_cons,List.contains_nil,Bool.or_false,Bool.or_assoc]
theorem rOwn_any(t:Tree)(cs:Array Value)(w:World)(hs:t.size<=1000000)(hf:t.h.fine)(ht:TreeIn w t cs) :
  Calls Tryz.prog 87 #[.agg cs] w fun e w'=>e=.returned (.bool (uAF t.h t.l.length (t.l.map fun t=>t.h.kind)))/\Below w.heap.size w w':=by
 obtain⟨⟨k,v,s,a,b,r⟩,l⟩:=t;obtain⟨A,cp,hc,hk⟩:=ht;obtain⟨Cn,rfl⟩:∃ C:List Value,cs=C.toArray:=⟨cs.toList,by simp⟩
 have ll:KidsOk w [] A l:=hk;clear hk;have ah:Hid (Cn.toArray=aH ⟨k,v,s,a,b,r⟩ A l.length cp):=zh hc;have hf:NodeH.fine ⟨k,v,s,a,b,r⟩:=hf;show Calls Tryz.prog 87 #[.agg Cn.toArray] w fun e w'=>e=.returned (.bool (uAF ⟨k,v,s,a,b,r⟩ l.length (l.map fun t=>t.h.kind)))/\Below w.heap.size w w'
 obtain⟨f1,f2,f3,f4⟩:-9223372036854775808<=v.mant/\v.mant<=9223372036854775807/\v.text.length<=1000000/\s.length<=100000:=hf;unfold uAF aV;dsimp only;by_cases k0:k=0
 ·subst k0;refine(rOwnG0 v s a b r l A cp Cn w ll hs ah ⟨f1,f2,f3⟩).mono ?_;rintro e w' ⟨rfl,hb⟩;refine⟨aA ?_,hb⟩;rw[dU];simp[cS,Bool.and_assoc,Bool.and_comm]
 by_cases k1:k=1
 ·subst k1;refine(rOwnG1 v s a b r l A cp Cn w ll hs ah).mono ?_;rintro e w' ⟨rfl,hb⟩;refine⟨aA ?_,hb⟩;rw[dU];simp[Bool.and_assoc,Bool.and_comm]
 by_cases k3:k=3
 ·subst k3;refine(rOwnG3 v s a b r l A cp Cn w ll hs ah).mono ?_;rintro e w' ⟨rfl,hb⟩;refine⟨aA ?_,hb⟩;rw[dU];simp[Bool.and_assoc,Bool.and_comm]
 by_cases k2:k=2
 ·subst k2;refine(rOwnG2 v s a b r l A cp Cn w ll hs ah).mono ?_;rintro e w' ⟨rfl,hb⟩;refine⟨aA ?_,hb⟩;rw[dU];simp[Bool.and_assoc,Bool.and_comm]
 by_cases k4:k=4
 ·subst k4;rw[if_neg (by decide),if_neg (by decide),if_neg (by decide),if_pos rfl,dU];by_cases hn:l.length=1
  ·have hp:0<l.length:=by omega
   obtain⟨g,og,ci,hA,iw,dv⟩:=fR ll 0 hp;refine(rOwnG4b v s a b r g og l[0].h.kind l A cp Cn w ll hs ah f4 hn hA (fun W' hb=>by
    obtain⟨c1,A',j7,c2,_⟩:=dv W' (Kp.of_below hb);have h0:ci[0]?=some (vI l[0].h.kind):=by
     have:=congrArg (fun a=>a[0]?) c2;simpa using this
    have:=c1 0 _ h0;simpa using this)).mono ?_
   rintro e w' ⟨rfl,hb⟩;refine⟨aA ?_,hb⟩;have e9:decide (l.map (fun t=>t.h.kind)=[9])=decide (l[0].h.kind=9):=by
    rw[decide_eq_decide];cases l with
    |nil=>simp at hp
    |cons x r=>
     cases r with
     |nil=>simp
     |cons y r=>simp at hn
   rw[e9,decide_eq_true hn,decide_eq_true (show l.length<=32 by omega)];by_cases h9:l[0].h.kind=9
   ·rw[decide_eq_true h9,decide_eq_false (fun h=>h h9)];simp
   rw[decide_eq_false h9,decide_eq_true h9];simp
  refine(rOwnG4a v s a b r l A cp Cn w ll hs ah f4 hn).mono ?_;rintro e w' ⟨rfl,hb⟩;refine⟨aA ?_,hb⟩;rw[decide_eq_true hn,decide_eq_false hn];simp
 by_cases k5:k=5
 ·subst k5;refine(rOwnG5 v s a b r l A cp Cn w ll hs ah).mono ?_;rintro e w' ⟨rfl,hb⟩;refine⟨aA ?_,hb⟩;rw[dU,un_in];simp[Bool.and_assoc]
 by_cases k6:k=6
 ·subst k6;refine(rOwnG6 v s a b r l A cp Cn w ll hs ah).mono ?_;rintro e w' ⟨rfl,hb⟩;refine⟨aA ?_,hb⟩;rw[dU,bin_in];simp[Bool.and_assoc]
 by_cases k7:k=7
 ·subst k7;refine(rOwnG7 v s a b r l A cp Cn w ll hs ah f4).mono ?_;rintro e w' ⟨rfl,hb⟩;refine⟨aA ?_,hb⟩;rw[dU];simp[Bool.and_assoc,Bool.and_comm]
 by_cases k8:k=8
 ·subst k8;refine(rOwnG8 v s a b r l A cp Cn w ll hs ah).mono ?_;rintro e w' ⟨rfl,hb⟩;refine⟨aA ?_,hb⟩;rw[dU];simp[Bool.and_assoc]
 by_cases k9:k=9
 ·subst k9;refine(rOwnG9 v s a b r l A cp Cn w ll hs ah).mono ?_;rintro e w' ⟨rfl,hb⟩;refine⟨aA ?_,hb⟩;rw[dU];simp[Bool.and_comm]
 refine(rOwnGx k v s a b r l A cp Cn w ah (fun j h0 h9 e=>by omega)).mono ?_;rintro e w' ⟨rfl,hb⟩;refine⟨aA ?_,hb⟩;rw[if_neg k0,if_neg (by omega),if_neg k2,if_neg k4,if_neg k5,if_neg k6,if_neg k7,if_neg k8,if_neg k9]
def Tree.belowB(t:Tree):Bool:=decide (t.h.kind=0)&&decide (t.h.v.kind=1)&&decide (t.h.v.mant<0)
theorem nD{t:Tree}:t.belowB=true↔(t.h.kind=0/\t.h.v.kind=1/\t.h.v.mant<0):=by
 unfold Tree.belowB;simp only[yh,decide_eq_true_eq,and_assoc]
theorem uAY{h:NodeH}{n:Nat}{kids:List Int}{k:Int}(hb:k=8\/¬ (h.kind=0/\h.v.kind=1/\h.v.mant<0)):aV h n kids k=(uAF h n kids&&!(decide (h.kind=9)&&!decide (k=4))):=by
 unfold uAF;by_cases k9:h.kind=9
 ·rw[if_pos k9,decide_eq_true k9];unfold aV;simp only[k9];simp;by_cases k4:k=4
  ·simp[k4]
  simp[k4]
 rw[if_neg k9,decide_eq_false k9];simp only[Bool.false_and,Bool.not_false,Bool.and_true];by_cases k0:h.kind=0
 ·unfold aV;rw[if_pos k0,if_pos k0];have e:cS h.v (decide (k=8))=cS h.v (decide ((8:Int)=8)):=by
   rcases hb with hb|hb
   ·rw[hb]
   unfold cS;cases hr:aR h.v with
   |false=>simp
   |true=>
    have h0:0<=h.v.mant:=by
     by_cases h1:h.v.kind=1
     ·have:=hb;omega
     have j4:=hr;unfold aR at j4;simp only[yh,Bool.not_eq_true',Bool.or_eq_false_iff,Bool.and_eq_false_iff,decide_eq_false_iff_not,decide_eq_true_eq,Bool.not_eq_false']at j4;have:=j4.1.1.1.1;rcases this with g|g
     ·exact absurd h1 g
     omega
    simp[h0]
  rw[e]
 unfold aV;rw[if_neg k0,if_neg k0];simp only[k9,if_false]
theorem xC{l:List Tree}{k:Int}{i:Nat}(h:i<l.length):aQ (l.drop i) k=(((decide (k≠8)||decide (l[i].h.kind=0))&&l[i].right k)&&aQ (l.drop (i+1)) k):=by
 rw[yx h,aQ]
end Go.Proofs.YtjfihpaeglpblaaGreatDoor
