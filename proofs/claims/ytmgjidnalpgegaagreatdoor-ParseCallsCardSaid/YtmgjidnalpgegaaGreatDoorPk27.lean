/-
  Lemmas, part 27: RkI RkJ RkK.
-/
import Derived.Test.YtmgjidnalpgegaaGreatDoorPk25
import Derived.Test.YtmgjidnalpgegaaGreatDoorPk26
set_option maxHeartbeats 100000000
namespace Go.Proofs.YtmgjidnalpgegaaGreatDoor
open Go.RowKit
theorem zQ(w:World)(t:TypeId)(xs:List Bs):TxtAt (w.alloc (.cells (xs.map fun s=>Value.string ⟨s.toArray⟩).toArray t)) w.heap.size xs:=fun j hj=>by
 rw[(Lies.new w t _).cell j];simp[hj]
theorem aL{P:Program}{ops:Array Oper}{rest:List Oper}{op:Oper}{a:Act}{w:World}{Q:Exit->Act->World->Prop}(hw:Region.wanted op (yielded ops a.tmps)=true)(ty:TypeId)(x:Operand)(ho:op.op=.load ty x)
  (b o:Nat) (hx:a.eval x=.pointer (some ⟨b,o,none⟩)) (cs:List Value) (d:TypeDesc) (hc:w.rangeAt b o cs)
  (hu:P.underlying ty=some d) (hd:d.isRow=true) (hi:(P.info? ty).map (·.size)=some cs.length)
  (h:wpList P ops Q rest (a.put op.dst (.agg cs.toArray)) w):wpList P ops Q (op::rest) a w :=
 BigFrame.wpList_want hw fun _ hK=>wp_load_mid ty x ho b o hx cs d hc hu hd hi (hK _ _ h)
theorem Lies.putMid{b:Nat}{t:TypeId}:∀ (vs:List Value) (i:Nat) (W:World) (cs:List Value),Lies W b t cs.toArray->i+vs.length<=cs.length->Lies (W.setCells b i vs) b t (cs.take i++vs++cs.drop (i+vs.length)).toArray
 | [],i,_,cs,h,_=>by
  have:cs.take i++[]++cs.drop (i+([]:List Value).length)=cs:=by simp
  rw[this];exact h
 |v::r,i,W,cs,h,hl=>by
  have hi:i<cs.length:=by simp at hl;omega
  have h0:Lies (W.setCell ⟨b,i,none⟩ v) b t (cs.set i v).toArray:=by
   have:=h.put i v
   rwa [yz]at this
  have h1:=Lies.putMid r (i+1) _ _ h0 (by simp at hl ⊢;omega);have e:(cs.set i v).take (i+1)++r++(cs.set i v).drop (i+1+r.length)=cs.take i++(v::r)++cs.drop (i+(v::r).length):=by
   rw[yw (by simpa using hi),List.getElem_set_self,List.take_set_of_le zr,List.drop_set_of_lt (by omega)];simp[Nat.add_assoc,Nat.add_comm 1]
  rw[<- e];exact h1
theorem Lies.rangeL{w:World}{b:Nat}{t:TypeId}{C:List Value}(h:Lies w b t C.toArray):w.rangeAt b 0 C:=by
 have:=h.range
 rwa [List.toList_toArray]at this
theorem dW{C:List Value}{h:NodeH}{A:Option Addr}{n cp:Nat}(e:C.toArray=bC h A n cp):(Tryz.prog.info? 41).map (·.size)=some C.length:=by
 have h2:C.length=22:=by rw[<- yd,e];rfl
 rw[h2];exact aE
set_option maxRecDepth 1000000 in
theorem rOwn9(l:List Tree)(A:Option Addr)(cp:Nat)(Cn:List Value)(w:World)(hk:KidsOk w [] A l)(hs:(Tree.mk ⟨9,aC,[],aG,aG,0⟩ l).size<=1000000)(be:Hid (Cn.toArray=bC ⟨9,aC,[],aG,aG,0⟩ A l.length cp))(hl:l.length=0) :
  Calls Tryz.prog 39 #[.agg Cn.toArray] w fun e w'=>e=.returned (.bool true)/\Below w.heap.size w w':=by
 have qp:((l.length:Int)==0)=true:=by rw[hl];rfl
 clear hl;have du:=zh hs;clear hs;have HK:=zh hk;clear hk;have uw:l.length<=1000000:=by have h1:=dK l;have h2:bH l+1<=1000000:=du.out;omega
 generalize b9:(w.alloc (.cells Cn.toArray 41))=W1;have HL:Hid (Lies W1 w.heap.size 41 Cn.toArray):=zh (by rw[<- b9];exact Lies.new _ _ _);have HB:Hid (Below w.heap.size w W1):=zh (by rw[<- b9];exact zp _);have cr:Hid (W1.heap.size=w.heap.size+1):=zh (by rw[<- b9];simp);have cy:=zh b9;clear b9;obtain⟨Cm,en⟩:∃ C:List Value,#[.int .i64 9,.int .i64 0,.int .i64 0,.int .i64 0,.string ⟨#[]⟩,.bool false,.int .i64 0,.string ⟨#[]⟩,.int .i64 0,.int .i64 0,.int .i64 0,.int .i64 0,.bool false,.bool false,.int .i64 0,.int .i64 0,.int .i64 0,.int .i64 0,.bool false,.bool false,.int .i64 0,.slice (A) l.length cp]=C.toArray:=⟨_,rfl⟩
 have gh:Hid (Cm.toArray=bC ⟨9,aC,[],aG,aG,0⟩ (A) l.length cp):=zh en.symm;have ai:Cm.length=22:=by rw[<- yd,<- en];rfl
 have HT:=zh (cH (W':=W1) ai);have yo:Hid (Cm.toArray.all (·.oneCell')=true):=zh (by rw[gh.out];exact dG _ _ _ _);have c7:Hid ((Tryz.prog.info? 41).map (·.size)=some Cm.toArray.size):=zh (by rw[yd,ai];exact aE);have bz:Hid (Lies (World.setCells (W1.alloc (.cells aA.toArray 41)) W1.heap.size 0 Cm) W1.heap.size 41 Cm.toArray):=zh ((Lies.new W1 41 aA.toArray).putAll (by rw[ai];rfl));have bu:Below W1.heap.size W1 (World.setCells (W1.alloc (.cells aA.toArray 41)) W1.heap.size 0 Cm):=cU (aQ (.inr zr) Cm 0 ((Kp.refl _ _).alloc _));have b6:=zh (HL.out.next bu);have au:=zh (HB.out.trans (bu.mono HB.out.size));clear bu;have fh:=zh en;clear en;have x0:=HL.out.cell 0;have x21:=HL.out.cell 21;rw[be.out]at x0 x21;simp only[za,zb,zf]at x0 x21
 go_enter Tryz.func39,Tryz.ntmps39
 go_upto_region 1 with fail
 rw[cy.out];clear cy;generalize hQ:w.heap.size=q at *
 go_upto_region 2 with(first |(refine yq rfl 41 (.tmp 3) (.tmp 9) rfl W1.heap.size 0 Cm.toArray rfl (congrArg Value.agg fh.out) HT.out c7.out yo.out ?_;change wpList _ _ _ _ _ (World.setCells _ W1.heap.size 0 Cm)))
 generalize World.setCells _ _ _ _=W3 at bz b6 au ⊢;rw[fh.out];clear x0 x21;have dt:=cr.out;generalize W1.heap.size=q1 at *;subst dt;clear HL HB cr fh HT yo c7 ai;rw[gh.out,<- be.out]at bz;have x0:=b6.out.cell 0;have x21:=b6.out.cell 21;rw[be.out]at x0 x21;simp only[za,zb,zf]at x0 x21;have lk:=zh (bz.out.rangeL);have ja:=zh (b6.out.rangeL);have HI:=zh (dW be.out);have bo:=zh (dI 1000000 zr (.mk ⟨9,aC,[],aG,aG,0⟩ l) (.mk ⟨9,aC,[],aG,aG,0⟩ l) _ _ W3 du.out ⟨A,cp,be.out,HK.out.kp (Kp.of_below (by rw[hQ];exact au.out))⟩ ⟨A,cp,be.out,HK.out.kp (Kp.of_below (by rw[hQ];exact au.out))⟩);rw[eB]at bo
 go_wp2_with (first |(refine aL (Eq.trans (aH rfl rfl rfl rfl) rfl) 41 (.tmp 3) rfl (q+1) 0 rfl Cn _ lk.out Tryz.underlying41 rfl HI.out ?_) |(refine aL (Eq.trans (aH rfl rfl rfl rfl) rfl) 41 (.tmp 1) rfl q 0 rfl Cn _ ja.out Tryz.underlying41 rfl HI.out ?_))
 refine bo.out.mono ?_;rintro e w9 ⟨rfl,fe⟩;have fw:=zh (au.out.trans (fe.mono (by have:=au.out.size;omega)));clear fe
 go_wp2_with fail
 go_ret
 exact⟨rfl,by first|exact fw.out |(rw[hQ];exact fw.out)⟩
set_option maxRecDepth 1000000 in
theorem rOwn5(s:Bs)(l:List Tree)(A:Option Addr)(cp:Nat)(Cn:List Value)(w:World)(hk:KidsOk w [] A l)(hs:(Tree.mk ⟨5,aC,s,aG,aG,0⟩ l).size<=1000000)(be:Hid (Cn.toArray=bC ⟨5,aC,s,aG,aG,0⟩ A l.length cp))(hb:s∈([[45],[43],[37]]:List Bs))(hl:l.length=1) :
  Calls Tryz.prog 39 #[.agg Cn.toArray] w fun e w'=>e=.returned (.bool true)/\Below w.heap.size w w':=by
 have HMEM:=zh hb;clear hb;have qp:((l.length:Int)==1)=true:=by rw[hl];rfl
 clear hl;have du:=zh hs;clear hs;have HK:=zh hk;clear hk;have uw:l.length<=1000000:=by have h1:=dK l;have h2:bH l+1<=1000000:=du.out;omega
 generalize b9:(w.alloc (.cells Cn.toArray 41))=W1;have HL:Hid (Lies W1 w.heap.size 41 Cn.toArray):=zh (by rw[<- b9];exact Lies.new _ _ _);have HB:Hid (Below w.heap.size w W1):=zh (by rw[<- b9];exact zp _);have cr:Hid (W1.heap.size=w.heap.size+1):=zh (by rw[<- b9];simp);have cy:=zh b9;clear b9;obtain⟨Cm,en⟩:∃ C:List Value,#[.int .i64 5,.int .i64 0,.int .i64 0,.int .i64 0,.string ⟨#[]⟩,.bool false,.int .i64 0,.string ⟨#[]⟩,.int .i64 0,.int .i64 0,.int .i64 0,.int .i64 0,.bool false,.bool false,.int .i64 0,.int .i64 0,.int .i64 0,.int .i64 0,.bool false,.bool false,.int .i64 0,.slice (A) l.length cp]=C.toArray:=⟨_,rfl⟩
 have gh:Hid (Cm.toArray=bC ⟨5,aC,[],aG,aG,0⟩ (A) l.length cp):=zh en.symm;have ai:Cm.length=22:=by rw[<- yd,<- en];rfl
 have HT:=zh (cH (W':=W1) ai);have yo:Hid (Cm.toArray.all (·.oneCell')=true):=zh (by rw[gh.out];exact dG _ _ _ _);have c7:Hid ((Tryz.prog.info? 41).map (·.size)=some Cm.toArray.size):=zh (by rw[yd,ai];exact aE);have bz:Hid (Lies (World.setCells (W1.alloc (.cells aA.toArray 41)) W1.heap.size 0 Cm) W1.heap.size 41 Cm.toArray):=zh ((Lies.new W1 41 aA.toArray).putAll (by rw[ai];rfl));have bu:Below W1.heap.size W1 (World.setCells (W1.alloc (.cells aA.toArray 41)) W1.heap.size 0 Cm):=cU (aQ (.inr zr) Cm 0 ((Kp.refl _ _).alloc _));have b6:=zh (HL.out.next bu);have au:=zh (HB.out.trans (bu.mono HB.out.size));clear bu;have fh:=zh en;clear en;have x0:=HL.out.cell 0;have x21:=HL.out.cell 21;rw[be.out]at x0 x21;simp only[za,zb,zf]at x0 x21
 go_enter Tryz.func39,Tryz.ntmps39
 go_upto_region 1 with fail
 rw[cy.out];clear cy;generalize hQ:w.heap.size=q at *
 go_upto_region 2 with(first |(refine yq rfl 41 (.tmp 3) (.tmp 9) rfl W1.heap.size 0 Cm.toArray rfl (congrArg Value.agg fh.out) HT.out c7.out yo.out ?_;change wpList _ _ _ _ _ (World.setCells _ W1.heap.size 0 Cm)))
 generalize World.setCells _ _ _ _=W3 at bz b6 au ⊢;rw[fh.out];clear x0 x21;have dt:=cr.out;generalize W1.heap.size=q1 at *;subst dt;clear HL HB cr fh HT yo c7 ai;have x0:=b6.out.cell 0;have x7:=b6.out.cell 7;rw[be.out]at x0 x7;simp only[za,zb,zf]at x0 x7;have y7:=bz.out.cell 7;have yf7:=bz.out.frozen 7;rw[gh.out]at y7;simp only[za,zb,zf]at y7
 go_upto_region 19 with fail
 clear x0 x7;clear y7 yf7;have gc:=bz.out;rw[gh.out]at gc;have ei:Hid (Lies _ (q+1) 41 Cn.toArray):=zh (by rw[be.out];exact(gc.put 7 (.string ⟨s.toArray⟩)));have an:=zh (aK b6.out (b:=q+1) (by omega) 7 (.string ⟨s.toArray⟩));have cg:=zh (au.out.setCell (p:=⟨q+1,7,none⟩) (Nat.le_succ q) (.string ⟨s.toArray⟩));generalize World.setCell _ _ _=W4 at ei an cg ⊢;clear bz b6 au gc;have x7:=an.out.cell 7;have x21:=an.out.cell 21;rw[be.out]at x7 x21;simp only[za,zb,zf]at x7 x21
 go_wp2_with fail
 have ip:Below W4.heap.size W4 _:=zp (.cells (([[45],[43],[37]]:List Bs).map fun s=>Value.string ⟨s.toArray⟩).toArray 9);have u9:=zh (zQ W4 9 [[45],[43],[37]]);change Calls _ _ _ (World.alloc W4 (.cells (([[45],[43],[37]]:List Bs).map fun s=>Value.string ⟨s.toArray⟩).toArray 9)) _;generalize World.alloc _ _=w5 at ip u9 ⊢;refine(rIn_ok s _ _ [[45],[43],[37]] w5 u9.out HMEM.out (by decide)).mono ?_;rintro e w6 ⟨rfl,rfl⟩;clear x7 x21;have di:=zh (cg.out.trans (ip.mono (by have:=cg.out.size;omega)));have l8:=zh (ei.out.next ip);have jb:=zh (an.out.next ip);clear ip;have z21:=jb.out.cell 21;rw[be.out]at z21;simp only[za,zb,zf]at z21;have lk:=zh (l8.out.rangeL);have ja:=zh (jb.out.rangeL);have HI:=zh (dW be.out)
 have bo:=zh (dI 1000000 zr (.mk ⟨5,aC,s,aG,aG,0⟩ l) (.mk ⟨5,aC,s,aG,aG,0⟩ l) _ _ w5 du.out ⟨A,cp,be.out,HK.out.kp (Kp.of_below (by rw[hQ];exact di.out))⟩ ⟨A,cp,be.out,HK.out.kp (Kp.of_below (by rw[hQ];exact di.out))⟩);rw[eB]at bo
 go_wp2_with (first |(refine aL (Eq.trans (aH rfl rfl rfl rfl) rfl) 41 (.tmp 3) rfl (q+1) 0 rfl Cn _ lk.out Tryz.underlying41 rfl HI.out ?_) |(refine aL (Eq.trans (aH rfl rfl rfl rfl) rfl) 41 (.tmp 1) rfl q 0 rfl Cn _ ja.out Tryz.underlying41 rfl HI.out ?_))
 refine bo.out.mono ?_;rintro e w9 ⟨rfl,fe⟩;have fw:=zh (di.out.trans (fe.mono (by have:=di.out.size;omega)));clear fe
 go_wp2_with fail
 go_ret
 exact⟨rfl,by first|exact fw.out |(rw[hQ];exact fw.out)⟩
set_option maxRecDepth 1000000 in
theorem rOwn6(s:Bs)(l:List Tree)(A:Option Addr)(cp:Nat)(Cn:List Value)(w:World)(hk:KidsOk w [] A l)(hs:(Tree.mk ⟨6,aC,s,aG,aG,0⟩ l).size<=1000000)(be:Hid (Cn.toArray=bC ⟨6,aC,s,aG,aG,0⟩ A l.length cp))(hb:s∈([[43],[45],[42],[47],[94],[38],[61],[60,62],[60],[60,61],[62],[62,61]]:List Bs))(hl:l.length=2) :
  Calls Tryz.prog 39 #[.agg Cn.toArray] w fun e w'=>e=.returned (.bool true)/\Below w.heap.size w w':=by
 have HMEM:=zh hb;clear hb;have qp:((l.length:Int)==2)=true:=by rw[hl];rfl
 clear hl;have du:=zh hs;clear hs;have HK:=zh hk;clear hk;have uw:l.length<=1000000:=by have h1:=dK l;have h2:bH l+1<=1000000:=du.out;omega
 generalize b9:(w.alloc (.cells Cn.toArray 41))=W1;have HL:Hid (Lies W1 w.heap.size 41 Cn.toArray):=zh (by rw[<- b9];exact Lies.new _ _ _);have HB:Hid (Below w.heap.size w W1):=zh (by rw[<- b9];exact zp _);have cr:Hid (W1.heap.size=w.heap.size+1):=zh (by rw[<- b9];simp);have cy:=zh b9;clear b9;obtain⟨Cm,en⟩:∃ C:List Value,#[.int .i64 6,.int .i64 0,.int .i64 0,.int .i64 0,.string ⟨#[]⟩,.bool false,.int .i64 0,.string ⟨#[]⟩,.int .i64 0,.int .i64 0,.int .i64 0,.int .i64 0,.bool false,.bool false,.int .i64 0,.int .i64 0,.int .i64 0,.int .i64 0,.bool false,.bool false,.int .i64 0,.slice (A) l.length cp]=C.toArray:=⟨_,rfl⟩
 have gh:Hid (Cm.toArray=bC ⟨6,aC,[],aG,aG,0⟩ (A) l.length cp):=zh en.symm;have ai:Cm.length=22:=by rw[<- yd,<- en];rfl
 have HT:=zh (cH (W':=W1) ai);have yo:Hid (Cm.toArray.all (·.oneCell')=true):=zh (by rw[gh.out];exact dG _ _ _ _);have c7:Hid ((Tryz.prog.info? 41).map (·.size)=some Cm.toArray.size):=zh (by rw[yd,ai];exact aE);have bz:Hid (Lies (World.setCells (W1.alloc (.cells aA.toArray 41)) W1.heap.size 0 Cm) W1.heap.size 41 Cm.toArray):=zh ((Lies.new W1 41 aA.toArray).putAll (by rw[ai];rfl));have bu:Below W1.heap.size W1 (World.setCells (W1.alloc (.cells aA.toArray 41)) W1.heap.size 0 Cm):=cU (aQ (.inr zr) Cm 0 ((Kp.refl _ _).alloc _));have b6:=zh (HL.out.next bu);have au:=zh (HB.out.trans (bu.mono HB.out.size));clear bu;have fh:=zh en;clear en;have x0:=HL.out.cell 0;have x21:=HL.out.cell 21;rw[be.out]at x0 x21;simp only[za,zb,zf]at x0 x21
 go_enter Tryz.func39,Tryz.ntmps39
 go_upto_region 1 with fail
 rw[cy.out];clear cy;generalize hQ:w.heap.size=q at *
 go_upto_region 2 with(first |(refine yq rfl 41 (.tmp 3) (.tmp 9) rfl W1.heap.size 0 Cm.toArray rfl (congrArg Value.agg fh.out) HT.out c7.out yo.out ?_;change wpList _ _ _ _ _ (World.setCells _ W1.heap.size 0 Cm)))
 generalize World.setCells _ _ _ _=W3 at bz b6 au ⊢;rw[fh.out];clear x0 x21;have dt:=cr.out;generalize W1.heap.size=q1 at *;subst dt;clear HL HB cr fh HT yo c7 ai;have x0:=b6.out.cell 0;have x7:=b6.out.cell 7;rw[be.out]at x0 x7;simp only[za,zb,zf]at x0 x7;have y7:=bz.out.cell 7;have yf7:=bz.out.frozen 7;rw[gh.out]at y7;simp only[za,zb,zf]at y7
 go_upto_region 22 with fail
 clear x0 x7;clear y7 yf7;have gc:=bz.out;rw[gh.out]at gc;have ei:Hid (Lies _ (q+1) 41 Cn.toArray):=zh (by rw[be.out];exact(gc.put 7 (.string ⟨s.toArray⟩)));have an:=zh (aK b6.out (b:=q+1) (by omega) 7 (.string ⟨s.toArray⟩));have cg:=zh (au.out.setCell (p:=⟨q+1,7,none⟩) (Nat.le_succ q) (.string ⟨s.toArray⟩));generalize World.setCell _ _ _=W4 at ei an cg ⊢;clear bz b6 au gc;have x7:=an.out.cell 7;have x21:=an.out.cell 21;rw[be.out]at x7 x21;simp only[za,zb,zf]at x7 x21
 go_wp2_with fail
 have ip:Below W4.heap.size W4 _:=zp (.cells (([[43],[45],[42],[47],[94],[38],[61],[60,62],[60],[60,61],[62],[62,61]]:List Bs).map fun s=>Value.string ⟨s.toArray⟩).toArray 9);have u9:=zh (zQ W4 9 [[43],[45],[42],[47],[94],[38],[61],[60,62],[60],[60,61],[62],[62,61]]);change Calls _ _ _ (World.alloc W4 (.cells (([[43],[45],[42],[47],[94],[38],[61],[60,62],[60],[60,61],[62],[62,61]]:List Bs).map fun s=>Value.string ⟨s.toArray⟩).toArray 9)) _;generalize World.alloc _ _=w5 at ip u9 ⊢;refine(rIn_ok s _ _ [[43],[45],[42],[47],[94],[38],[61],[60,62],[60],[60,61],[62],[62,61]] w5 u9.out HMEM.out (by decide)).mono ?_;rintro e w6 ⟨rfl,rfl⟩;clear x7 x21;have di:=zh (cg.out.trans (ip.mono (by have:=cg.out.size;omega)));have l8:=zh (ei.out.next ip);have jb:=zh (an.out.next ip);clear ip;have z21:=jb.out.cell 21;rw[be.out]at z21
 simp only[za,zb,zf]at z21;have lk:=zh (l8.out.rangeL);have ja:=zh (jb.out.rangeL);have HI:=zh (dW be.out);have bo:=zh (dI 1000000 zr (.mk ⟨6,aC,s,aG,aG,0⟩ l) (.mk ⟨6,aC,s,aG,aG,0⟩ l) _ _ w5 du.out ⟨A,cp,be.out,HK.out.kp (Kp.of_below (by rw[hQ];exact di.out))⟩ ⟨A,cp,be.out,HK.out.kp (Kp.of_below (by rw[hQ];exact di.out))⟩);rw[eB]at bo
 go_wp2_with (first |(refine aL (Eq.trans (aH rfl rfl rfl rfl) rfl) 41 (.tmp 3) rfl (q+1) 0 rfl Cn _ lk.out Tryz.underlying41 rfl HI.out ?_) |(refine aL (Eq.trans (aH rfl rfl rfl rfl) rfl) 41 (.tmp 1) rfl q 0 rfl Cn _ ja.out Tryz.underlying41 rfl HI.out ?_))
 refine bo.out.mono ?_;rintro e w9 ⟨rfl,fe⟩;have fw:=zh (di.out.trans (fe.mono (by have:=di.out.size;omega)));clear fe
 go_wp2_with fail
 go_ret
 exact⟨rfl,by first|exact fw.out |(rw[hQ];exact fw.out)⟩
set_option maxRecDepth 1000000 in
theorem rOwn7(s:Bs)(l:List Tree)(A:Option Addr)(cp:Nat)(Cn:List Value)(w:World)(hk:KidsOk w [] A l)(hs:(Tree.mk ⟨7,aC,s,aG,aG,0⟩ l).size<=1000000)(be:Hid (Cn.toArray=bC ⟨7,aC,s,aG,aG,0⟩ A l.length cp))(hb:bS s=true)(hl:l.length=0) :
  Calls Tryz.prog 39 #[.agg Cn.toArray] w fun e w'=>e=.returned (.bool true)/\Below w.heap.size w w':=by
 have uj:=zh hb;clear hb;have qp:((l.length:Int)==0)=true:=by rw[hl];rfl
 clear hl;have du:=zh hs;clear hs;have HK:=zh hk;clear hk;have uw:l.length<=1000000:=by have h1:=dK l;have h2:bH l+1<=1000000:=du.out;omega
 generalize b9:(w.alloc (.cells Cn.toArray 41))=W1;have HL:Hid (Lies W1 w.heap.size 41 Cn.toArray):=zh (by rw[<- b9];exact Lies.new _ _ _);have HB:Hid (Below w.heap.size w W1):=zh (by rw[<- b9];exact zp _);have cr:Hid (W1.heap.size=w.heap.size+1):=zh (by rw[<- b9];simp);have cy:=zh b9;clear b9;obtain⟨Cm,en⟩:∃ C:List Value,#[.int .i64 7,.int .i64 0,.int .i64 0,.int .i64 0,.string ⟨#[]⟩,.bool false,.int .i64 0,.string ⟨#[]⟩,.int .i64 0,.int .i64 0,.int .i64 0,.int .i64 0,.bool false,.bool false,.int .i64 0,.int .i64 0,.int .i64 0,.int .i64 0,.bool false,.bool false,.int .i64 0,.slice (A) l.length cp]=C.toArray:=⟨_,rfl⟩
 have gh:Hid (Cm.toArray=bC ⟨7,aC,[],aG,aG,0⟩ (A) l.length cp):=zh en.symm;have ai:Cm.length=22:=by rw[<- yd,<- en];rfl
 have HT:=zh (cH (W':=W1) ai);have yo:Hid (Cm.toArray.all (·.oneCell')=true):=zh (by rw[gh.out];exact dG _ _ _ _);have c7:Hid ((Tryz.prog.info? 41).map (·.size)=some Cm.toArray.size):=zh (by rw[yd,ai];exact aE);have bz:Hid (Lies (World.setCells (W1.alloc (.cells aA.toArray 41)) W1.heap.size 0 Cm) W1.heap.size 41 Cm.toArray):=zh ((Lies.new W1 41 aA.toArray).putAll (by rw[ai];rfl));have bu:Below W1.heap.size W1 (World.setCells (W1.alloc (.cells aA.toArray 41)) W1.heap.size 0 Cm):=cU (aQ (.inr zr) Cm 0 ((Kp.refl _ _).alloc _));have b6:=zh (HL.out.next bu);have au:=zh (HB.out.trans (bu.mono HB.out.size));clear bu;have fh:=zh en;clear en;have x0:=HL.out.cell 0;have x21:=HL.out.cell 21;rw[be.out]at x0 x21;simp only[za,zb,zf]at x0 x21
 go_enter Tryz.func39,Tryz.ntmps39
 go_upto_region 1 with fail
 rw[cy.out];clear cy;generalize hQ:w.heap.size=q at *
 go_upto_region 2 with(first |(refine yq rfl 41 (.tmp 3) (.tmp 9) rfl W1.heap.size 0 Cm.toArray rfl (congrArg Value.agg fh.out) HT.out c7.out yo.out ?_;change wpList _ _ _ _ _ (World.setCells _ W1.heap.size 0 Cm)))
 generalize World.setCells _ _ _ _=W3 at bz b6 au ⊢;rw[fh.out];clear x0 x21;have dt:=cr.out;generalize W1.heap.size=q1 at *;subst dt;clear HL HB cr fh HT yo c7 ai;have x0:=b6.out.cell 0;have x7:=b6.out.cell 7;rw[be.out]at x0 x7;simp only[za,zb,zf]at x0 x7;have y7:=bz.out.cell 7;have yf7:=bz.out.frozen 7;rw[gh.out]at y7;simp only[za,zb,zf]at y7
 go_upto_region 25 with fail
 clear x0 x7;clear y7 yf7;have gc:=bz.out;rw[gh.out]at gc;have ei:Hid (Lies _ (q+1) 41 Cn.toArray):=zh (by rw[be.out];exact(gc.put 7 (.string ⟨s.toArray⟩)));have an:=zh (aK b6.out (b:=q+1) (by omega) 7 (.string ⟨s.toArray⟩));have cg:=zh (au.out.setCell (p:=⟨q+1,7,none⟩) (Nat.le_succ q) (.string ⟨s.toArray⟩));generalize World.setCell _ _ _=W4 at ei an cg ⊢;clear bz b6 au gc;have x7:=an.out.cell 7;have x21:=an.out.cell 21;rw[be.out]at x7 x21;simp only[za,zb,zf]at x7 x21
 go_wp2_with fail
 refine(rName_ok s _ uj.out).mono ?_;rintro e w5 ⟨rfl,rfl⟩;have lk:=zh (ei.out.rangeL);have ja:=zh (an.out.rangeL);have HI:=zh (dW be.out);have bo:=zh (dI 1000000 zr (.mk ⟨7,aC,s,aG,aG,0⟩ l) (.mk ⟨7,aC,s,aG,aG,0⟩ l) _ _ W4 du.out ⟨A,cp,be.out,HK.out.kp (Kp.of_below (by rw[hQ];exact cg.out))⟩ ⟨A,cp,be.out,HK.out.kp (Kp.of_below (by rw[hQ];exact cg.out))⟩);rw[eB]at bo
 go_wp2_with (first |(refine aL (Eq.trans (aH rfl rfl rfl rfl) rfl) 41 (.tmp 3) rfl (q+1) 0 rfl Cn _ lk.out Tryz.underlying41 rfl HI.out ?_) |(refine aL (Eq.trans (aH rfl rfl rfl rfl) rfl) 41 (.tmp 1) rfl q 0 rfl Cn _ ja.out Tryz.underlying41 rfl HI.out ?_))
 refine bo.out.mono ?_;rintro e w9 ⟨rfl,fe⟩;have fw:=zh (cg.out.trans (fe.mono (by have:=cg.out.size;omega)));clear fe
 go_wp2_with fail
 go_ret
 exact⟨rfl,by first|exact fw.out |(rw[hQ];exact fw.out)⟩
set_option maxRecDepth 1000000 in
theorem rOwn0(v:Val)(l:List Tree)(A:Option Addr)(cp:Nat)(Cn:List Value)(w:World)(hk:KidsOk w [] A l)(hs:(Tree.mk ⟨0,v,[],aG,aG,0⟩ l).size<=1000000)(be:Hid (Cn.toArray=bC ⟨0,v,[],aG,aG,0⟩ A l.length cp))(hv:v.kind≠0/\cC v=true)(hl:l.length=0) :
  Calls Tryz.prog 39 #[.agg Cn.toArray] w fun e w'=>e=.returned (.bool true)/\Below w.heap.size w w':=by
 have HV:=zh hv;clear hv;have qp:((l.length:Int)==0)=true:=by rw[hl];rfl
 clear hl;have du:=zh hs;clear hs;have HK:=zh hk;clear hk;have uw:l.length<=1000000:=by have h1:=dK l;have h2:bH l+1<=1000000:=du.out;omega
 generalize b9:(w.alloc (.cells Cn.toArray 41))=W1;have HL:Hid (Lies W1 w.heap.size 41 Cn.toArray):=zh (by rw[<- b9];exact Lies.new _ _ _);have HB:Hid (Below w.heap.size w W1):=zh (by rw[<- b9];exact zp _);have cr:Hid (W1.heap.size=w.heap.size+1):=zh (by rw[<- b9];simp);have cy:=zh b9;clear b9;obtain⟨Cm,en⟩:∃ C:List Value,#[.int .i64 0,.int .i64 0,.int .i64 0,.int .i64 0,.string ⟨#[]⟩,.bool false,.int .i64 0,.string ⟨#[]⟩,.int .i64 0,.int .i64 0,.int .i64 0,.int .i64 0,.bool false,.bool false,.int .i64 0,.int .i64 0,.int .i64 0,.int .i64 0,.bool false,.bool false,.int .i64 0,.slice (A) l.length cp]=C.toArray:=⟨_,rfl⟩
 have gh:Hid (Cm.toArray=bC ⟨0,aC,[],aG,aG,0⟩ (A) l.length cp):=zh en.symm;have ai:Cm.length=22:=by rw[<- yd,<- en];rfl
 have HT:=zh (cH (W':=W1) ai);have yo:Hid (Cm.toArray.all (·.oneCell')=true):=zh (by rw[gh.out];exact dG _ _ _ _);have c7:Hid ((Tryz.prog.info? 41).map (·.size)=some Cm.toArray.size):=zh (by rw[yd,ai];exact aE);have bz:Hid (Lies (World.setCells (W1.alloc (.cells aA.toArray 41)) W1.heap.size 0 Cm) W1.heap.size 41 Cm.toArray):=zh ((Lies.new W1 41 aA.toArray).putAll (by rw[ai];rfl));have bu:Below W1.heap.size W1 (World.setCells (W1.alloc (.cells aA.toArray 41)) W1.heap.size 0 Cm):=cU (aQ (.inr zr) Cm 0 ((Kp.refl _ _).alloc _));have b6:=zh (HL.out.next bu);have au:=zh (HB.out.trans (bu.mono HB.out.size));clear bu;have fh:=zh en;clear en;have x0:=HL.out.cell 0;have x21:=HL.out.cell 21;rw[be.out]at x0 x21;simp only[za,zb,zf]at x0 x21
 go_enter Tryz.func39,Tryz.ntmps39
 go_upto_region 1 with fail
 rw[cy.out];clear cy;generalize hQ:w.heap.size=q at *
 go_upto_region 2 with(first |(refine yq rfl 41 (.tmp 3) (.tmp 9) rfl W1.heap.size 0 Cm.toArray rfl (congrArg Value.agg fh.out) HT.out c7.out yo.out ?_;change wpList _ _ _ _ _ (World.setCells _ W1.heap.size 0 Cm)))
 generalize World.setCells _ _ _ _=W3 at bz b6 au ⊢;rw[fh.out];clear x0 x21;have dt:=cr.out;generalize W1.heap.size=q1 at *;subst dt;clear HL HB cr fh HT yo c7 ai;have x0:=b6.out.cell 0;have x1:=b6.out.cell 1;have x2:=b6.out.cell 2;have x3:=b6.out.cell 3;have x4:=b6.out.cell 4;have x5:=b6.out.cell 5;have x6:=b6.out.cell 6;rw[be.out]at x0 x1 x2 x3 x4 x5 x6;simp only[za,zb,zf]at x0 x1 x2 x3 x4 x5 x6;have y1:=bz.out.cell 1;have yf1:=bz.out.frozen 1;have y2:=bz.out.cell 2;have yf2:=bz.out.frozen 2;have y3:=bz.out.cell 3;have yf3:=bz.out.frozen 3;have y4:=bz.out.cell 4;have yf4:=bz.out.frozen 4;have y5:=bz.out.cell 5;have yf5:=bz.out.frozen 5;have y6:=bz.out.cell 6;have yf6:=bz.out.frozen 6;rw[gh.out]at y1 y2 y3 y4 y5 y6
 simp only[za,zb,zf]at y1 y2 y3 y4 y5 y6
 go_upto_region 6 with fail
 clear x0 x1 x2 x3 x4 x5 x6;clear y1 y2 y3 y4 y5 y6 yf1 yf2 yf3 yf4 yf5 yf6;have gc:=bz.out;rw[gh.out]at gc;have ei:Hid (Lies _ (q+1) 41 Cn.toArray):=zh (by rw[be.out];exact((((((gc.put 1 (.int .i64 v.kind)).put 2 (.int .i64 v.mant)).put 3 (.int .i64 v.exp)).put 4 (.string ⟨v.text.toArray⟩)).put 5 (.bool v.truth)).put 6 (.int .i64 v.fault)));have an:=zh (aK (aK (aK (aK (aK (aK b6.out (b:=q+1) (by omega) 1 (.int .i64 v.kind)) (b:=q+1) (by omega) 2 (.int .i64 v.mant)) (b:=q+1) (by omega) 3 (.int .i64 v.exp)) (b:=q+1) (by omega) 4 (.string ⟨v.text.toArray⟩)) (b:=q+1) (by omega) 5 (.bool v.truth)) (b:=q+1) (by omega) 6 (.int .i64 v.fault))
 have cg:=zh ((((((au.out.setCell (p:=⟨q+1,1,none⟩) (Nat.le_succ q) (.int .i64 v.kind)).setCell (p:=⟨q+1,2,none⟩) (Nat.le_succ q) (.int .i64 v.mant)).setCell (p:=⟨q+1,3,none⟩) (Nat.le_succ q) (.int .i64 v.exp)).setCell (p:=⟨q+1,4,none⟩) (Nat.le_succ q) (.string ⟨v.text.toArray⟩)).setCell (p:=⟨q+1,5,none⟩) (Nat.le_succ q) (.bool v.truth)).setCell (p:=⟨q+1,6,none⟩) (Nat.le_succ q) (.int .i64 v.fault));generalize World.setCell _ _ _=W4 at ei an cg ⊢;clear bz b6 au gc;have x1:=an.out.cell 1;have x2:=an.out.cell 2;have x3:=an.out.cell 3;have x4:=an.out.cell 4;have x5:=an.out.cell 5;have x6:=an.out.cell 6;have x21:=an.out.cell 21;rw[be.out]at x1 x2 x3 x4 x5 x6 x21;simp only[za,zb,zf]at x1 x2 x3 x4 x5 x6 x21
 go_wp2_with fail
 refine(rLit_ok v _ HV.out.1 HV.out.2).mono ?_;rintro e w5 ⟨rfl,ip⟩;clear x1 x2 x3 x4 x5 x6 x21;have di:=zh (cg.out.trans (ip.mono (by have:=cg.out.size;omega)));have l8:=zh (ei.out.next ip);have jb:=zh (an.out.next ip);clear ip;have z21:=jb.out.cell 21;rw[be.out]at z21;simp only[za,zb,zf]at z21;have lk:=zh (l8.out.rangeL);have ja:=zh (jb.out.rangeL);have HI:=zh (dW be.out);have bo:=zh (dI 1000000 zr (.mk ⟨0,v,[],aG,aG,0⟩ l) (.mk ⟨0,v,[],aG,aG,0⟩ l) _ _ w5 du.out ⟨A,cp,be.out,HK.out.kp (Kp.of_below (by rw[hQ];exact di.out))⟩ ⟨A,cp,be.out,HK.out.kp (Kp.of_below (by rw[hQ];exact di.out))⟩);rw[eB]at bo
 go_wp2_with (first |(refine aL (Eq.trans (aH rfl rfl rfl rfl) rfl) 41 (.tmp 3) rfl (q+1) 0 rfl Cn _ lk.out Tryz.underlying41 rfl HI.out ?_) |(refine aL (Eq.trans (aH rfl rfl rfl rfl) rfl) 41 (.tmp 1) rfl q 0 rfl Cn _ ja.out Tryz.underlying41 rfl HI.out ?_))
 refine bo.out.mono ?_;rintro e w9 ⟨rfl,fe⟩;have fw:=zh (di.out.trans (fe.mono (by have:=di.out.size;omega)));clear fe
 go_wp2_with fail
 go_ret
 exact⟨rfl,by first|exact fw.out |(rw[hQ];exact fw.out)⟩
set_option maxRecDepth 1000000 in
theorem rOwn1(a:Cor)(l:List Tree)(A:Option Addr)(cp:Nat)(Cn:List Value)(w:World)(hk:KidsOk w [] A l)(hs:(Tree.mk ⟨1,aC,[],a,aG,0⟩ l).size<=1000000)(be:Hid (Cn.toArray=bC ⟨1,aC,[],a,aG,0⟩ A l.length cp))(hv:a.row≠id0/\a.col≠id0)(hl:l.length=0) :
  Calls Tryz.prog 39 #[.agg Cn.toArray] w fun e w'=>e=.returned (.bool true)/\Below w.heap.size w w':=by
 have HV:=zh hv;clear hv;have qp:((l.length:Int)==0)=true:=by rw[hl];rfl
 clear hl;have du:=zh hs;clear hs;have HK:=zh hk;clear hk;have uw:l.length<=1000000:=by have h1:=dK l;have h2:bH l+1<=1000000:=du.out;omega
 generalize b9:(w.alloc (.cells Cn.toArray 41))=W1;have HL:Hid (Lies W1 w.heap.size 41 Cn.toArray):=zh (by rw[<- b9];exact Lies.new _ _ _);have HB:Hid (Below w.heap.size w W1):=zh (by rw[<- b9];exact zp _);have cr:Hid (W1.heap.size=w.heap.size+1):=zh (by rw[<- b9];simp);have cy:=zh b9;clear b9;obtain⟨Cm,en⟩:∃ C:List Value,#[.int .i64 1,.int .i64 0,.int .i64 0,.int .i64 0,.string ⟨#[]⟩,.bool false,.int .i64 0,.string ⟨#[]⟩,.int .i64 0,.int .i64 0,.int .i64 0,.int .i64 0,.bool false,.bool false,.int .i64 0,.int .i64 0,.int .i64 0,.int .i64 0,.bool false,.bool false,.int .i64 0,.slice (A) l.length cp]=C.toArray:=⟨_,rfl⟩
 have gh:Hid (Cm.toArray=bC ⟨1,aC,[],aG,aG,0⟩ (A) l.length cp):=zh en.symm;have ai:Cm.length=22:=by rw[<- yd,<- en];rfl
 have HT:=zh (cH (W':=W1) ai);have yo:Hid (Cm.toArray.all (·.oneCell')=true):=zh (by rw[gh.out];exact dG _ _ _ _);have c7:Hid ((Tryz.prog.info? 41).map (·.size)=some Cm.toArray.size):=zh (by rw[yd,ai];exact aE);have bz:Hid (Lies (World.setCells (W1.alloc (.cells aA.toArray 41)) W1.heap.size 0 Cm) W1.heap.size 41 Cm.toArray):=zh ((Lies.new W1 41 aA.toArray).putAll (by rw[ai];rfl));have bu:Below W1.heap.size W1 (World.setCells (W1.alloc (.cells aA.toArray 41)) W1.heap.size 0 Cm):=cU (aQ (.inr zr) Cm 0 ((Kp.refl _ _).alloc _));have b6:=zh (HL.out.next bu);have au:=zh (HB.out.trans (bu.mono HB.out.size));clear bu;have fh:=zh en;clear en;have x0:=HL.out.cell 0;have x21:=HL.out.cell 21;rw[be.out]at x0 x21;simp only[za,zb,zf]at x0 x21
 go_enter Tryz.func39,Tryz.ntmps39
 go_upto_region 1 with fail
 rw[cy.out];clear cy;generalize hQ:w.heap.size=q at *
 go_upto_region 2 with(first |(refine yq rfl 41 (.tmp 3) (.tmp 9) rfl W1.heap.size 0 Cm.toArray rfl (congrArg Value.agg fh.out) HT.out c7.out yo.out ?_;change wpList _ _ _ _ _ (World.setCells _ W1.heap.size 0 Cm)))
 generalize World.setCells _ _ _ _=W3 at bz b6 au ⊢;rw[fh.out];clear x0 x21;have dt:=cr.out;generalize W1.heap.size=q1 at *;subst dt;clear HL HB cr fh HT yo c7 ai;have x0:=b6.out.cell 0;have x8:=b6.out.cell 8;have x9:=b6.out.cell 9;have x10:=b6.out.cell 10;have x11:=b6.out.cell 11;have x12:=b6.out.cell 12;have x13:=b6.out.cell 13;rw[be.out]at x0 x8 x9 x10 x11 x12 x13;simp only[za,zb,zf]at x0 x8 x9 x10 x11 x12 x13;have y8:=bz.out.cell 8;have yf8:=bz.out.frozen 8;have y9:=bz.out.cell 9;have yf9:=bz.out.frozen 9;have y10:=bz.out.cell 10;have yf10:=bz.out.frozen 10;have y11:=bz.out.cell 11;have yf11:=bz.out.frozen 11;have y12:=bz.out.cell 12;have yf12:=bz.out.frozen 12;have y13:=bz.out.cell 13;have yf13:=bz.out.frozen 13;rw[gh.out]at y8 y9 y10 y11 y12 y13
 simp only[za,zb,zf]at y8 y9 y10 y11 y12 y13
 go_upto_region 10 with fail
 clear x0 x8 x9 x10 x11 x12 x13;clear y8 y9 y10 y11 y12 y13 yf8 yf9 yf10 yf11 yf12 yf13;have gc:=bz.out;rw[gh.out]at gc;have ei:Hid (Lies _ (q+1) 41 Cn.toArray):=zh (by rw[be.out];exact((((((gc.put 8 (.int .i64 a.row.a)).put 9 (.int .i64 a.row.n)).put 10 (.int .i64 a.col.a)).put 11 (.int .i64 a.col.n)).put 12 (.bool a.fr)).put 13 (.bool a.fc)));have an:=zh (aK (aK (aK (aK (aK (aK b6.out (b:=q+1) (by omega) 8 (.int .i64 a.row.a)) (b:=q+1) (by omega) 9 (.int .i64 a.row.n)) (b:=q+1) (by omega) 10 (.int .i64 a.col.a)) (b:=q+1) (by omega) 11 (.int .i64 a.col.n)) (b:=q+1) (by omega) 12 (.bool a.fr)) (b:=q+1) (by omega) 13 (.bool a.fc))
 have cg:=zh ((((((au.out.setCell (p:=⟨q+1,8,none⟩) (Nat.le_succ q) (.int .i64 a.row.a)).setCell (p:=⟨q+1,9,none⟩) (Nat.le_succ q) (.int .i64 a.row.n)).setCell (p:=⟨q+1,10,none⟩) (Nat.le_succ q) (.int .i64 a.col.a)).setCell (p:=⟨q+1,11,none⟩) (Nat.le_succ q) (.int .i64 a.col.n)).setCell (p:=⟨q+1,12,none⟩) (Nat.le_succ q) (.bool a.fr)).setCell (p:=⟨q+1,13,none⟩) (Nat.le_succ q) (.bool a.fc));generalize World.setCell _ _ _=W4 at ei an cg ⊢;clear bz b6 au gc;have x8:=an.out.cell 8;have x9:=an.out.cell 9;have x10:=an.out.cell 10;have x11:=an.out.cell 11;have x12:=an.out.cell 12;have x13:=an.out.cell 13;have x21:=an.out.cell 21;rw[be.out]at x8 x9 x10 x11 x12 x13 x21;simp only[za,zb,zf]at x8 x9 x10 x11 x12 x13 x21;have HO:=zh (qG a W4);rw[decide_eq_true HV.out.1,decide_eq_true HV.out.2]at HO
 go_wp2_with fail
 refine HO.out.mono ?_;rintro e w5 ⟨rfl,ip⟩;clear x8 x9 x10 x11 x12 x13 x21;clear HO;have di:=zh (cg.out.trans (ip.mono (by have:=cg.out.size;omega)));have l8:=zh (ei.out.next ip);have jb:=zh (an.out.next ip);clear ip;have z21:=jb.out.cell 21;rw[be.out]at z21;simp only[za,zb,zf]at z21;have lk:=zh (l8.out.rangeL);have ja:=zh (jb.out.rangeL);have HI:=zh (dW be.out);have bo:=zh (dI 1000000 zr (.mk ⟨1,aC,[],a,aG,0⟩ l) (.mk ⟨1,aC,[],a,aG,0⟩ l) _ _ w5 du.out ⟨A,cp,be.out,HK.out.kp (Kp.of_below (by rw[hQ];exact di.out))⟩ ⟨A,cp,be.out,HK.out.kp (Kp.of_below (by rw[hQ];exact di.out))⟩);rw[eB]at bo
 go_wp2_with (first |(refine aL (Eq.trans (aH rfl rfl rfl rfl) rfl) 41 (.tmp 3) rfl (q+1) 0 rfl Cn _ lk.out Tryz.underlying41 rfl HI.out ?_) |(refine aL (Eq.trans (aH rfl rfl rfl rfl) rfl) 41 (.tmp 1) rfl q 0 rfl Cn _ ja.out Tryz.underlying41 rfl HI.out ?_))
 refine bo.out.mono ?_;rintro e w9 ⟨rfl,fe⟩;have fw:=zh (di.out.trans (fe.mono (by have:=di.out.size;omega)));clear fe
 go_wp2_with fail
 go_ret
 exact⟨rfl,by first|exact fw.out |(rw[hQ];exact fw.out)⟩
set_option maxRecDepth 1000000 in
theorem rOwn3(a:Cor)(l:List Tree)(A:Option Addr)(cp:Nat)(Cn:List Value)(w:World)(hk:KidsOk w [] A l)(hs:(Tree.mk ⟨3,aC,[],a,aG,0⟩ l).size<=1000000)(be:Hid (Cn.toArray=bC ⟨3,aC,[],a,aG,0⟩ A l.length cp))(hv:a.row≠id0/\a.col≠id0)(hl:l.length=0) :
  Calls Tryz.prog 39 #[.agg Cn.toArray] w fun e w'=>e=.returned (.bool true)/\Below w.heap.size w w':=by
 have HV:=zh hv;clear hv;have qp:((l.length:Int)==0)=true:=by rw[hl];rfl
 clear hl;have du:=zh hs;clear hs;have HK:=zh hk;clear hk;have uw:l.length<=1000000:=by have h1:=dK l;have h2:bH l+1<=1000000:=du.out;omega
 generalize b9:(w.alloc (.cells Cn.toArray 41))=W1;have HL:Hid (Lies W1 w.heap.size 41 Cn.toArray):=zh (by rw[<- b9];exact Lies.new _ _ _);have HB:Hid (Below w.heap.size w W1):=zh (by rw[<- b9];exact zp _);have cr:Hid (W1.heap.size=w.heap.size+1):=zh (by rw[<- b9];simp);have cy:=zh b9;clear b9;obtain⟨Cm,en⟩:∃ C:List Value,#[.int .i64 3,.int .i64 0,.int .i64 0,.int .i64 0,.string ⟨#[]⟩,.bool false,.int .i64 0,.string ⟨#[]⟩,.int .i64 0,.int .i64 0,.int .i64 0,.int .i64 0,.bool false,.bool false,.int .i64 0,.int .i64 0,.int .i64 0,.int .i64 0,.bool false,.bool false,.int .i64 0,.slice (A) l.length cp]=C.toArray:=⟨_,rfl⟩
 have gh:Hid (Cm.toArray=bC ⟨3,aC,[],aG,aG,0⟩ (A) l.length cp):=zh en.symm;have ai:Cm.length=22:=by rw[<- yd,<- en];rfl
 have HT:=zh (cH (W':=W1) ai);have yo:Hid (Cm.toArray.all (·.oneCell')=true):=zh (by rw[gh.out];exact dG _ _ _ _);have c7:Hid ((Tryz.prog.info? 41).map (·.size)=some Cm.toArray.size):=zh (by rw[yd,ai];exact aE);have bz:Hid (Lies (World.setCells (W1.alloc (.cells aA.toArray 41)) W1.heap.size 0 Cm) W1.heap.size 41 Cm.toArray):=zh ((Lies.new W1 41 aA.toArray).putAll (by rw[ai];rfl));have bu:Below W1.heap.size W1 (World.setCells (W1.alloc (.cells aA.toArray 41)) W1.heap.size 0 Cm):=cU (aQ (.inr zr) Cm 0 ((Kp.refl _ _).alloc _));have b6:=zh (HL.out.next bu);have au:=zh (HB.out.trans (bu.mono HB.out.size));clear bu;have fh:=zh en;clear en;have x0:=HL.out.cell 0;have x21:=HL.out.cell 21;rw[be.out]at x0 x21;simp only[za,zb,zf]at x0 x21
 go_enter Tryz.func39,Tryz.ntmps39
 go_upto_region 1 with fail
 rw[cy.out];clear cy;generalize hQ:w.heap.size=q at *
 go_upto_region 2 with(first |(refine yq rfl 41 (.tmp 3) (.tmp 9) rfl W1.heap.size 0 Cm.toArray rfl (congrArg Value.agg fh.out) HT.out c7.out yo.out ?_;change wpList _ _ _ _ _ (World.setCells _ W1.heap.size 0 Cm)))
 generalize World.setCells _ _ _ _=W3 at bz b6 au ⊢;rw[fh.out];clear x0 x21;have dt:=cr.out;generalize W1.heap.size=q1 at *;subst dt;clear HL HB cr fh HT yo c7 ai;have x0:=b6.out.cell 0;have x8:=b6.out.cell 8;have x9:=b6.out.cell 9;have x10:=b6.out.cell 10;have x11:=b6.out.cell 11;have x12:=b6.out.cell 12;have x13:=b6.out.cell 13;rw[be.out]at x0 x8 x9 x10 x11 x12 x13;simp only[za,zb,zf]at x0 x8 x9 x10 x11 x12 x13;have y8:=bz.out.cell 8;have yf8:=bz.out.frozen 8;have y9:=bz.out.cell 9;have yf9:=bz.out.frozen 9;have y10:=bz.out.cell 10;have yf10:=bz.out.frozen 10;have y11:=bz.out.cell 11;have yf11:=bz.out.frozen 11;have y12:=bz.out.cell 12;have yf12:=bz.out.frozen 12;have y13:=bz.out.cell 13;have yf13:=bz.out.frozen 13;rw[gh.out]at y8 y9 y10 y11 y12 y13
 simp only[za,zb,zf]at y8 y9 y10 y11 y12 y13
 go_upto_region 10 with fail
 clear x0 x8 x9 x10 x11 x12 x13;clear y8 y9 y10 y11 y12 y13 yf8 yf9 yf10 yf11 yf12 yf13;have gc:=bz.out;rw[gh.out]at gc;have ei:Hid (Lies _ (q+1) 41 Cn.toArray):=zh (by rw[be.out];exact((((((gc.put 8 (.int .i64 a.row.a)).put 9 (.int .i64 a.row.n)).put 10 (.int .i64 a.col.a)).put 11 (.int .i64 a.col.n)).put 12 (.bool a.fr)).put 13 (.bool a.fc)));have an:=zh (aK (aK (aK (aK (aK (aK b6.out (b:=q+1) (by omega) 8 (.int .i64 a.row.a)) (b:=q+1) (by omega) 9 (.int .i64 a.row.n)) (b:=q+1) (by omega) 10 (.int .i64 a.col.a)) (b:=q+1) (by omega) 11 (.int .i64 a.col.n)) (b:=q+1) (by omega) 12 (.bool a.fr)) (b:=q+1) (by omega) 13 (.bool a.fc))
 have cg:=zh ((((((au.out.setCell (p:=⟨q+1,8,none⟩) (Nat.le_succ q) (.int .i64 a.row.a)).setCell (p:=⟨q+1,9,none⟩) (Nat.le_succ q) (.int .i64 a.row.n)).setCell (p:=⟨q+1,10,none⟩) (Nat.le_succ q) (.int .i64 a.col.a)).setCell (p:=⟨q+1,11,none⟩) (Nat.le_succ q) (.int .i64 a.col.n)).setCell (p:=⟨q+1,12,none⟩) (Nat.le_succ q) (.bool a.fr)).setCell (p:=⟨q+1,13,none⟩) (Nat.le_succ q) (.bool a.fc));generalize World.setCell _ _ _=W4 at ei an cg ⊢;clear bz b6 au gc;have x8:=an.out.cell 8;have x9:=an.out.cell 9;have x10:=an.out.cell 10;have x11:=an.out.cell 11;have x12:=an.out.cell 12;have x13:=an.out.cell 13;have x21:=an.out.cell 21;rw[be.out]at x8 x9 x10 x11 x12 x13 x21;simp only[za,zb,zf]at x8 x9 x10 x11 x12 x13 x21;have HO:=zh (qG a W4);rw[decide_eq_true HV.out.1,decide_eq_true HV.out.2]at HO
 go_wp2_with fail
 refine HO.out.mono ?_;rintro e w5 ⟨rfl,ip⟩;clear x8 x9 x10 x11 x12 x13 x21;clear HO;have di:=zh (cg.out.trans (ip.mono (by have:=cg.out.size;omega)));have l8:=zh (ei.out.next ip);have jb:=zh (an.out.next ip);clear ip;have z21:=jb.out.cell 21;rw[be.out]at z21;simp only[za,zb,zf]at z21;have lk:=zh (l8.out.rangeL);have ja:=zh (jb.out.rangeL);have HI:=zh (dW be.out);have bo:=zh (dI 1000000 zr (.mk ⟨3,aC,[],a,aG,0⟩ l) (.mk ⟨3,aC,[],a,aG,0⟩ l) _ _ w5 du.out ⟨A,cp,be.out,HK.out.kp (Kp.of_below (by rw[hQ];exact di.out))⟩ ⟨A,cp,be.out,HK.out.kp (Kp.of_below (by rw[hQ];exact di.out))⟩);rw[eB]at bo
 go_wp2_with (first |(refine aL (Eq.trans (aH rfl rfl rfl rfl) rfl) 41 (.tmp 3) rfl (q+1) 0 rfl Cn _ lk.out Tryz.underlying41 rfl HI.out ?_) |(refine aL (Eq.trans (aH rfl rfl rfl rfl) rfl) 41 (.tmp 1) rfl q 0 rfl Cn _ ja.out Tryz.underlying41 rfl HI.out ?_))
 refine bo.out.mono ?_;rintro e w9 ⟨rfl,fe⟩;have fw:=zh (di.out.trans (fe.mono (by have:=di.out.size;omega)));clear fe
 go_wp2_with fail
 go_ret
 exact⟨rfl,by first|exact fw.out |(rw[hQ];exact fw.out)⟩
set_option maxRecDepth 1000000 in
theorem rOwn2(a b:Cor)(l:List Tree)(A:Option Addr)(cp:Nat)(Cn:List Value)(w:World)(hk:KidsOk w [] A l)(hs:(Tree.mk ⟨2,aC,[],a,b,0⟩ l).size<=1000000)(be:Hid (Cn.toArray=bC ⟨2,aC,[],a,b,0⟩ A l.length cp))(hv:dL a b=true)(hl:l.length=0) :
  Calls Tryz.prog 39 #[.agg Cn.toArray] w fun e w'=>e=.returned (.bool true)/\Below w.heap.size w w':=by
 have HV:=zh hv;clear hv;have qp:((l.length:Int)==0)=true:=by rw[hl];rfl
 clear hl;have du:=zh hs;clear hs;have HK:=zh hk;clear hk;have uw:l.length<=1000000:=by have h1:=dK l;have h2:bH l+1<=1000000:=du.out;omega
 generalize b9:(w.alloc (.cells Cn.toArray 41))=W1;have HL:Hid (Lies W1 w.heap.size 41 Cn.toArray):=zh (by rw[<- b9];exact Lies.new _ _ _);have HB:Hid (Below w.heap.size w W1):=zh (by rw[<- b9];exact zp _);have cr:Hid (W1.heap.size=w.heap.size+1):=zh (by rw[<- b9];simp);have cy:=zh b9;clear b9;obtain⟨Cm,en⟩:∃ C:List Value,#[.int .i64 2,.int .i64 0,.int .i64 0,.int .i64 0,.string ⟨#[]⟩,.bool false,.int .i64 0,.string ⟨#[]⟩,.int .i64 0,.int .i64 0,.int .i64 0,.int .i64 0,.bool false,.bool false,.int .i64 0,.int .i64 0,.int .i64 0,.int .i64 0,.bool false,.bool false,.int .i64 0,.slice (A) l.length cp]=C.toArray:=⟨_,rfl⟩
 have gh:Hid (Cm.toArray=bC ⟨2,aC,[],aG,aG,0⟩ (A) l.length cp):=zh en.symm;have ai:Cm.length=22:=by rw[<- yd,<- en];rfl
 have HT:=zh (cH (W':=W1) ai);have yo:Hid (Cm.toArray.all (·.oneCell')=true):=zh (by rw[gh.out];exact dG _ _ _ _);have c7:Hid ((Tryz.prog.info? 41).map (·.size)=some Cm.toArray.size):=zh (by rw[yd,ai];exact aE);have bz:Hid (Lies (World.setCells (W1.alloc (.cells aA.toArray 41)) W1.heap.size 0 Cm) W1.heap.size 41 Cm.toArray):=zh ((Lies.new W1 41 aA.toArray).putAll (by rw[ai];rfl));have bu:Below W1.heap.size W1 (World.setCells (W1.alloc (.cells aA.toArray 41)) W1.heap.size 0 Cm):=cU (aQ (.inr zr) Cm 0 ((Kp.refl _ _).alloc _));have b6:=zh (HL.out.next bu);have au:=zh (HB.out.trans (bu.mono HB.out.size));clear bu;have fh:=zh en;clear en;have x0:=HL.out.cell 0;have x21:=HL.out.cell 21;rw[be.out]at x0 x21;simp only[za,zb,zf]at x0 x21
 go_enter Tryz.func39,Tryz.ntmps39
 go_upto_region 1 with fail
 rw[cy.out];clear cy;generalize hQ:w.heap.size=q at *
 go_upto_region 2 with(first |(refine yq rfl 41 (.tmp 3) (.tmp 9) rfl W1.heap.size 0 Cm.toArray rfl (congrArg Value.agg fh.out) HT.out c7.out yo.out ?_;change wpList _ _ _ _ _ (World.setCells _ W1.heap.size 0 Cm)))
 generalize World.setCells _ _ _ _=W3 at bz b6 au ⊢;rw[fh.out];clear x0 x21;have dt:=cr.out;generalize W1.heap.size=q1 at *;subst dt;clear HL HB cr fh HT yo c7 ai;obtain⟨D,hD⟩:∃ D:List Value,[.int .i64 a.row.a,.int .i64 a.row.n,.int .i64 a.col.a,.int .i64 a.col.n,.bool a.fr,.bool a.fc,.int .i64 b.row.a,.int .i64 b.row.n,.int .i64 b.col.a,.int .i64 b.col.n,.bool b.fr,.bool b.fc]=D:=⟨_,rfl⟩
 have HDR:Hid (W3.rangeAt q (0+8) D):=zh (by have h1:=b6.out;rw[be.out]at h1;rw[<- hD];exact NodeIn.sub (Lies.node h1) 8 _ (by simp) rfl);have HDT:Hid (W3.there (q+1) 8 D.toArray.size):=zh (by have h1:=bz.out;rw[gh.out]at h1;rw[<- hD];intro j hj;have hj:j<12:=hj;exact⟨by rw[h1.cell];have:8+j<22:=(by omega);rw[Array.getElem?_eq_getElem (by show 8+j<22;omega)];rfl,h1.frozen _⟩);have HDI:Hid ((Tryz.prog.info? 38).map (·.size)=some D.length):=zh (by rw[<- hD];exact jW);have HDO:Hid (D.toArray.all (·.oneCell')=true):=zh (by rw[<- hD];simp[Value.oneCell']);have gc:=bz.out;rw[gh.out]at gc;have ei:Hid (Lies (World.setCells W3 (q+1) 8 D) (q+1) 41 Cn.toArray):=zh (by have h1:=Lies.putMid D 8 W3 _ gc (by rw[<- hD];simp);rw[be.out];rw[<- hD]at h1 ⊢;exact h1);have an:Hid (Lies (World.setCells W3 (q+1) 8 D) q 41 Cn.toArray):=zh (fK (by omega) D 8 b6.out)
 have cg:Hid (Below q w (World.setCells W3 (q+1) 8 D)):=zh (eV (Nat.le_succ q) D 8 au.out);clear hD gc;have x0:=b6.out.cell 0;rw[be.out]at x0;simp only[za,zb]at x0
 go_upto_region 13 with(first |(refine yr rfl 38 (.tmp 46) rfl q (0+8) rfl D _ HDR.out Tryz.underlying38 rfl HDI.out ?_) |(refine yq rfl 38 (.tmp 48) (.tmp 47) rfl (q+1) 8 D.toArray rfl rfl HDT.out (by rw[yd];exact HDI.out) HDO.out ?_;change wpList _ _ _ _ _ (World.setCells _ (q+1) 8 D)))
 clear x0;generalize World.setCells _ _ _ _=W4 at ei an cg ⊢;clear bz b6 au HDR HDT HDI HDO;have x8:=an.out.cell 8;have x9:=an.out.cell 9;have x10:=an.out.cell 10;have x11:=an.out.cell 11;have x12:=an.out.cell 12;have x13:=an.out.cell 13;have x14:=an.out.cell 14;have x15:=an.out.cell 15;have x16:=an.out.cell 16;have x17:=an.out.cell 17;have x18:=an.out.cell 18;have x19:=an.out.cell 19;have x21:=an.out.cell 21;rw[be.out]at x8 x9 x10 x11 x12 x13 x14 x15 x16 x17 x18 x19 x21;simp only[za,zb,zf]at x8 x9 x10 x11 x12 x13 x14 x15 x16 x17 x18 x19 x21
 go_wp2_with fail
 refine(rArea_ok a b _ HV.out).mono ?_;rintro e w5 ⟨rfl,ip⟩;clear x8 x9 x10 x11 x12 x13 x14 x15 x16 x17 x18 x19 x21;have di:=zh (cg.out.trans (ip.mono (by have:=cg.out.size;omega)));have l8:=zh (ei.out.next ip);have jb:=zh (an.out.next ip);clear ip;have z21:=jb.out.cell 21;rw[be.out]at z21;simp only[za,zb,zf]at z21;have lk:=zh (l8.out.rangeL);have ja:=zh (jb.out.rangeL);have HI:=zh (dW be.out);have bo:=zh (dI 1000000 zr (.mk ⟨2,aC,[],a,b,0⟩ l) (.mk ⟨2,aC,[],a,b,0⟩ l) _ _ w5 du.out ⟨A,cp,be.out,HK.out.kp (Kp.of_below (by rw[hQ];exact di.out))⟩ ⟨A,cp,be.out,HK.out.kp (Kp.of_below (by rw[hQ];exact di.out))⟩);rw[eB]at bo
 go_wp2_with (first |(refine aL (Eq.trans (aH rfl rfl rfl rfl) rfl) 41 (.tmp 3) rfl (q+1) 0 rfl Cn _ lk.out Tryz.underlying41 rfl HI.out ?_) |(refine aL (Eq.trans (aH rfl rfl rfl rfl) rfl) 41 (.tmp 1) rfl q 0 rfl Cn _ ja.out Tryz.underlying41 rfl HI.out ?_))
 refine bo.out.mono ?_;rintro e w9 ⟨rfl,fe⟩;have fw:=zh (di.out.trans (fe.mono (by have:=di.out.size;omega)));clear fe
 go_wp2_with fail
 go_ret
 exact⟨rfl,by first|exact fw.out |(rw[hQ];exact fw.out)⟩
set_option maxRecDepth 1000000 in
theorem rOwn8(r:Int)(l:List Tree)(A:Option Addr)(cp:Nat)(Cn:List Value)(w:World)(hk:KidsOk w [] A l)(hs:(Tree.mk ⟨8,aC,[],aG,aG,r⟩ l).size<=1000000)(be:Hid (Cn.toArray=bC ⟨8,aC,[],aG,aG,r⟩ A l.length cp))(hr:1<=r)(hl:1<=l.length)(hm:(l.length:Int).tmod r=0) :
  Calls Tryz.prog 39 #[.agg Cn.toArray] w fun e w'=>e=.returned (.bool true)/\Below w.heap.size w w':=by
 have qp:(1:Int)<=(l.length:Int):=by omega
 have gc:((l.length:Int) % r==0)=true:=by rw[Int.tmod_eq_emod_of_nonneg (by omega)]at hm;rw[hm];rfl
 have hr0:¬ r=0:=by omega
 clear hm hl;have du:=zh hs;clear hs;have HK:=zh hk;clear hk;have uw:l.length<=1000000:=by have h1:=dK l;have h2:bH l+1<=1000000:=du.out;omega
 generalize b9:(w.alloc (.cells Cn.toArray 41))=W1;have HL:Hid (Lies W1 w.heap.size 41 Cn.toArray):=zh (by rw[<- b9];exact Lies.new _ _ _);have HB:Hid (Below w.heap.size w W1):=zh (by rw[<- b9];exact zp _);have cr:Hid (W1.heap.size=w.heap.size+1):=zh (by rw[<- b9];simp);have cy:=zh b9;clear b9;obtain⟨Cm,en⟩:∃ C:List Value,#[.int .i64 8,.int .i64 0,.int .i64 0,.int .i64 0,.string ⟨#[]⟩,.bool false,.int .i64 0,.string ⟨#[]⟩,.int .i64 0,.int .i64 0,.int .i64 0,.int .i64 0,.bool false,.bool false,.int .i64 0,.int .i64 0,.int .i64 0,.int .i64 0,.bool false,.bool false,.int .i64 0,.slice (A) l.length cp]=C.toArray:=⟨_,rfl⟩
 have gh:Hid (Cm.toArray=bC ⟨8,aC,[],aG,aG,0⟩ (A) l.length cp):=zh en.symm;have ai:Cm.length=22:=by rw[<- yd,<- en];rfl
 have HT:=zh (cH (W':=W1) ai);have yo:Hid (Cm.toArray.all (·.oneCell')=true):=zh (by rw[gh.out];exact dG _ _ _ _);have c7:Hid ((Tryz.prog.info? 41).map (·.size)=some Cm.toArray.size):=zh (by rw[yd,ai];exact aE);have bz:Hid (Lies (World.setCells (W1.alloc (.cells aA.toArray 41)) W1.heap.size 0 Cm) W1.heap.size 41 Cm.toArray):=zh ((Lies.new W1 41 aA.toArray).putAll (by rw[ai];rfl));have bu:Below W1.heap.size W1 (World.setCells (W1.alloc (.cells aA.toArray 41)) W1.heap.size 0 Cm):=cU (aQ (.inr zr) Cm 0 ((Kp.refl _ _).alloc _));have b6:=zh (HL.out.next bu);have au:=zh (HB.out.trans (bu.mono HB.out.size));clear bu;have fh:=zh en;clear en;have x0:=HL.out.cell 0;have x21:=HL.out.cell 21;rw[be.out]at x0 x21;simp only[za,zb,zf]at x0 x21
 go_enter Tryz.func39,Tryz.ntmps39
 go_upto_region 1 with fail
 rw[cy.out];clear cy;generalize hQ:w.heap.size=q at *
 go_upto_region 2 with(first |(refine yq rfl 41 (.tmp 3) (.tmp 9) rfl W1.heap.size 0 Cm.toArray rfl (congrArg Value.agg fh.out) HT.out c7.out yo.out ?_;change wpList _ _ _ _ _ (World.setCells _ W1.heap.size 0 Cm)))
 generalize World.setCells _ _ _ _=W3 at bz b6 au ⊢;rw[fh.out];clear x0 x21;have dt:=cr.out;generalize W1.heap.size=q1 at *;subst dt;clear HL HB cr fh HT yo c7 ai;have x0:=b6.out.cell 0;have x20:=b6.out.cell 20;rw[be.out]at x0 x20;simp only[za,zb,zf]at x0 x20;have y20:=bz.out.cell 20;have yf20:=bz.out.frozen 20;rw[gh.out]at y20;simp only[za,zb,zf]at y20
 go_upto_region 28 with fail
 clear x0 x20;clear y20 yf20;have gc:=bz.out;rw[gh.out]at gc;have ei:Hid (Lies _ (q+1) 41 Cn.toArray):=zh (by rw[be.out];exact(gc.put 20 (.int .i64 r)));have an:=zh (aK b6.out (b:=q+1) (by omega) 20 (.int .i64 r));have cg:=zh (au.out.setCell (p:=⟨q+1,20,none⟩) (Nat.le_succ q) (.int .i64 r));generalize World.setCell _ _ _=W4 at ei an cg ⊢;clear bz b6 au gc;have x20:=an.out.cell 20;have x21:=an.out.cell 21;rw[be.out]at x20 x21;simp only[za,zb,zf]at x20 x21;have lk:=zh (ei.out.rangeL);have ja:=zh (an.out.rangeL);have HI:=zh (dW be.out)
 have bo:=zh (dI 1000000 zr (.mk ⟨8,aC,[],aG,aG,r⟩ l) (.mk ⟨8,aC,[],aG,aG,r⟩ l) _ _ W4 du.out ⟨A,cp,be.out,HK.out.kp (Kp.of_below (by rw[hQ];exact cg.out))⟩ ⟨A,cp,be.out,HK.out.kp (Kp.of_below (by rw[hQ];exact cg.out))⟩);rw[eB]at bo
 go_wp2_with (first |(refine aL (Eq.trans (aH rfl rfl rfl rfl) rfl) 41 (.tmp 3) rfl (q+1) 0 rfl Cn _ lk.out Tryz.underlying41 rfl HI.out ?_) |(refine aL (Eq.trans (aH rfl rfl rfl rfl) rfl) 41 (.tmp 1) rfl q 0 rfl Cn _ ja.out Tryz.underlying41 rfl HI.out ?_))
 refine bo.out.mono ?_;rintro e w9 ⟨rfl,fe⟩;have fw:=zh (cg.out.trans (fe.mono (by have:=cg.out.size;omega)));clear fe
 go_wp2_with fail
 go_ret
 exact⟨rfl,by first|exact fw.out |(rw[hQ];exact fw.out)⟩
set_option maxRecDepth 1000000 in
theorem rOwn4a(s:Bs)(l:List Tree)(A:Option Addr)(cp:Nat)(Cn:List Value)(w:World)(hk:KidsOk w [] A l)(hs:(Tree.mk ⟨4,aC,s,aG,aG,0⟩ l).size<=1000000)(be:Hid (Cn.toArray=bC ⟨4,aC,s,aG,aG,0⟩ A l.length cp))(hb:bR s=true)(hl:l.length<=32)(hn:l.length≠1) :
  Calls Tryz.prog 39 #[.agg Cn.toArray] w fun e w'=>e=.returned (.bool true)/\Below w.heap.size w w':=by
 have uj:=zh hb;have qp:(l.length:Int)<=32:=by omega
 have hn0:¬ (l.length:Int)=1:=by omega
 clear hb hl hn;have du:=zh hs;clear hs;have HK:=zh hk;clear hk;have uw:l.length<=1000000:=by have h1:=dK l;have h2:bH l+1<=1000000:=du.out;omega
 generalize b9:(w.alloc (.cells Cn.toArray 41))=W1;have HL:Hid (Lies W1 w.heap.size 41 Cn.toArray):=zh (by rw[<- b9];exact Lies.new _ _ _);have HB:Hid (Below w.heap.size w W1):=zh (by rw[<- b9];exact zp _);have cr:Hid (W1.heap.size=w.heap.size+1):=zh (by rw[<- b9];simp);have cy:=zh b9;clear b9;obtain⟨Cm,en⟩:∃ C:List Value,#[.int .i64 4,.int .i64 0,.int .i64 0,.int .i64 0,.string ⟨#[]⟩,.bool false,.int .i64 0,.string ⟨#[]⟩,.int .i64 0,.int .i64 0,.int .i64 0,.int .i64 0,.bool false,.bool false,.int .i64 0,.int .i64 0,.int .i64 0,.int .i64 0,.bool false,.bool false,.int .i64 0,.slice (A) l.length cp]=C.toArray:=⟨_,rfl⟩
 have gh:Hid (Cm.toArray=bC ⟨4,aC,[],aG,aG,0⟩ (A) l.length cp):=zh en.symm;have ai:Cm.length=22:=by rw[<- yd,<- en];rfl
 have HT:=zh (cH (W':=W1) ai);have yo:Hid (Cm.toArray.all (·.oneCell')=true):=zh (by rw[gh.out];exact dG _ _ _ _);have c7:Hid ((Tryz.prog.info? 41).map (·.size)=some Cm.toArray.size):=zh (by rw[yd,ai];exact aE);have bz:Hid (Lies (World.setCells (W1.alloc (.cells aA.toArray 41)) W1.heap.size 0 Cm) W1.heap.size 41 Cm.toArray):=zh ((Lies.new W1 41 aA.toArray).putAll (by rw[ai];rfl));have bu:Below W1.heap.size W1 (World.setCells (W1.alloc (.cells aA.toArray 41)) W1.heap.size 0 Cm):=cU (aQ (.inr zr) Cm 0 ((Kp.refl _ _).alloc _));have b6:=zh (HL.out.next bu);have au:=zh (HB.out.trans (bu.mono HB.out.size));clear bu;have fh:=zh en;clear en;have x0:=HL.out.cell 0;have x21:=HL.out.cell 21;rw[be.out]at x0 x21;simp only[za,zb,zf]at x0 x21
 go_enter Tryz.func39,Tryz.ntmps39
 go_upto_region 1 with fail
 rw[cy.out];clear cy;generalize hQ:w.heap.size=q at *
 go_upto_region 2 with(first |(refine yq rfl 41 (.tmp 3) (.tmp 9) rfl W1.heap.size 0 Cm.toArray rfl (congrArg Value.agg fh.out) HT.out c7.out yo.out ?_;change wpList _ _ _ _ _ (World.setCells _ W1.heap.size 0 Cm)))
 generalize World.setCells _ _ _ _=W3 at bz b6 au ⊢;rw[fh.out];clear x0 x21;have dt:=cr.out;generalize W1.heap.size=q1 at *;subst dt;clear HL HB cr fh HT yo c7 ai;have x0:=b6.out.cell 0;have x7:=b6.out.cell 7;rw[be.out]at x0 x7;simp only[za,zb,zf]at x0 x7;have y7:=bz.out.cell 7;have yf7:=bz.out.frozen 7;rw[gh.out]at y7;simp only[za,zb,zf]at y7
 go_upto_region 16 with fail
 clear x0 x7;clear y7 yf7;have gc:=bz.out;rw[gh.out]at gc;have ei:Hid (Lies _ (q+1) 41 Cn.toArray):=zh (by rw[be.out];exact(gc.put 7 (.string ⟨s.toArray⟩)));have an:=zh (aK b6.out (b:=q+1) (by omega) 7 (.string ⟨s.toArray⟩));have cg:=zh (au.out.setCell (p:=⟨q+1,7,none⟩) (Nat.le_succ q) (.string ⟨s.toArray⟩));generalize World.setCell _ _ _=W4 at ei an cg ⊢;clear bz b6 au gc;have x7:=an.out.cell 7;have x21:=an.out.cell 21;rw[be.out]at x7 x21;simp only[za,zb,zf]at x7 x21
 go_wp2_with fail
 refine(uCP s _ uj.out).mono ?_;rintro e w5 ⟨rfl,rfl⟩;have lk:=zh (ei.out.rangeL);have ja:=zh (an.out.rangeL);have HI:=zh (dW be.out);have bo:=zh (dI 1000000 zr (.mk ⟨4,aC,s,aG,aG,0⟩ l) (.mk ⟨4,aC,s,aG,aG,0⟩ l) _ _ W4 du.out ⟨A,cp,be.out,HK.out.kp (Kp.of_below (by rw[hQ];exact cg.out))⟩ ⟨A,cp,be.out,HK.out.kp (Kp.of_below (by rw[hQ];exact cg.out))⟩);rw[eB]at bo
 go_wp2_with (first |(refine aL (Eq.trans (aH rfl rfl rfl rfl) rfl) 41 (.tmp 3) rfl (q+1) 0 rfl Cn _ lk.out Tryz.underlying41 rfl HI.out ?_) |(refine aL (Eq.trans (aH rfl rfl rfl rfl) rfl) 41 (.tmp 1) rfl q 0 rfl Cn _ ja.out Tryz.underlying41 rfl HI.out ?_))
 refine bo.out.mono ?_;rintro e w9 ⟨rfl,fe⟩;have fw:=zh (cg.out.trans (fe.mono (by have:=cg.out.size;omega)));clear fe
 go_wp2_with fail
 go_ret
 exact⟨rfl,by first|exact fw.out |(rw[hQ];exact fw.out)⟩
set_option maxRecDepth 1000000 in
theorem rOwn4b(s:Bs)(g:Nat)(kk:Int)(l:List Tree)(A:Option Addr)(cp:Nat)(Cn:List Value)(w:World)(hk:KidsOk w [] A l)(hs:(Tree.mk ⟨4,aC,s,aG,aG,0⟩ l).size<=1000000)(be:Hid (Cn.toArray=bC ⟨4,aC,s,aG,aG,0⟩ A l.length cp))(hb:bR s=true)(hl:l.length=1)(hA:A=some ⟨g,0,none⟩)(hkd:∀ W',Below w.heap.size w W'->W'.cell? ⟨g,0,none⟩=some (.int .i64 kk))(hk9:kk≠9) :
  Calls Tryz.prog 39 #[.agg Cn.toArray] w fun e w'=>e=.returned (.bool true)/\Below w.heap.size w w':=by
 subst hA;have uj:=zh hb;have yy:=zh hkd;have qp:(l.length:Int)<=32:=by omega
 have hn0:(l.length:Int)=1:=by omega
 have hk0:(kk != 9)=true:=by simpa using hk9
 have hlp:(0:Int)<(l.length:Int):=by omega
 clear hb hl hkd hk9;have du:=zh hs;clear hs;have HK:=zh hk;clear hk;have uw:l.length<=1000000:=by have h1:=dK l;have h2:bH l+1<=1000000:=du.out;omega
 generalize b9:(w.alloc (.cells Cn.toArray 41))=W1;have HL:Hid (Lies W1 w.heap.size 41 Cn.toArray):=zh (by rw[<- b9];exact Lies.new _ _ _);have HB:Hid (Below w.heap.size w W1):=zh (by rw[<- b9];exact zp _);have cr:Hid (W1.heap.size=w.heap.size+1):=zh (by rw[<- b9];simp);have cy:=zh b9;clear b9;obtain⟨Cm,en⟩:∃ C:List Value,#[.int .i64 4,.int .i64 0,.int .i64 0,.int .i64 0,.string ⟨#[]⟩,.bool false,.int .i64 0,.string ⟨#[]⟩,.int .i64 0,.int .i64 0,.int .i64 0,.int .i64 0,.bool false,.bool false,.int .i64 0,.int .i64 0,.int .i64 0,.int .i64 0,.bool false,.bool false,.int .i64 0,.slice (some ⟨g,0,none⟩) l.length cp]=C.toArray:=⟨_,rfl⟩
 have gh:Hid (Cm.toArray=bC ⟨4,aC,[],aG,aG,0⟩ (some ⟨g,0,none⟩) l.length cp):=zh en.symm;have ai:Cm.length=22:=by rw[<- yd,<- en];rfl
 have HT:=zh (cH (W':=W1) ai);have yo:Hid (Cm.toArray.all (·.oneCell')=true):=zh (by rw[gh.out];exact dG _ _ _ _);have c7:Hid ((Tryz.prog.info? 41).map (·.size)=some Cm.toArray.size):=zh (by rw[yd,ai];exact aE);have bz:Hid (Lies (World.setCells (W1.alloc (.cells aA.toArray 41)) W1.heap.size 0 Cm) W1.heap.size 41 Cm.toArray):=zh ((Lies.new W1 41 aA.toArray).putAll (by rw[ai];rfl));have bu:Below W1.heap.size W1 (World.setCells (W1.alloc (.cells aA.toArray 41)) W1.heap.size 0 Cm):=cU (aQ (.inr zr) Cm 0 ((Kp.refl _ _).alloc _));have b6:=zh (HL.out.next bu);have au:=zh (HB.out.trans (bu.mono HB.out.size));clear bu;have fh:=zh en;clear en;have x0:=HL.out.cell 0;have x21:=HL.out.cell 21;rw[be.out]at x0 x21;simp only[za,zb,zf]at x0 x21
 go_enter Tryz.func39,Tryz.ntmps39
 go_upto_region 1 with fail
 rw[cy.out];clear cy;generalize hQ:w.heap.size=q at *
 go_upto_region 2 with(first |(refine yq rfl 41 (.tmp 3) (.tmp 9) rfl W1.heap.size 0 Cm.toArray rfl (congrArg Value.agg fh.out) HT.out c7.out yo.out ?_;change wpList _ _ _ _ _ (World.setCells _ W1.heap.size 0 Cm)))
 generalize World.setCells _ _ _ _=W3 at bz b6 au ⊢;rw[fh.out];clear x0 x21;have dt:=cr.out;generalize W1.heap.size=q1 at *;subst dt;clear HL HB cr fh HT yo c7 ai;have x0:=b6.out.cell 0;have x7:=b6.out.cell 7;rw[be.out]at x0 x7;simp only[za,zb,zf]at x0 x7;have y7:=bz.out.cell 7;have yf7:=bz.out.frozen 7;rw[gh.out]at y7;simp only[za,zb,zf]at y7
 go_upto_region 16 with fail
 clear x0 x7;clear y7 yf7;have gc:=bz.out;rw[gh.out]at gc;have ei:Hid (Lies _ (q+1) 41 Cn.toArray):=zh (by rw[be.out];exact(gc.put 7 (.string ⟨s.toArray⟩)));have an:=zh (aK b6.out (b:=q+1) (by omega) 7 (.string ⟨s.toArray⟩));have cg:=zh (au.out.setCell (p:=⟨q+1,7,none⟩) (Nat.le_succ q) (.string ⟨s.toArray⟩));generalize World.setCell _ _ _=W4 at ei an cg ⊢;clear bz b6 au gc;have x7:=an.out.cell 7;have x21:=an.out.cell 21;rw[be.out]at x7 x21;simp only[za,zb,zf]at x7 x21;have k0:=yy.out W4 cg.out
 go_wp2_with fail
 refine(uCP s _ uj.out).mono ?_;rintro e w5 ⟨rfl,rfl⟩;have lk:=zh (ei.out.rangeL);have ja:=zh (an.out.rangeL);have HI:=zh (dW be.out);have bo:=zh (dI 1000000 zr (.mk ⟨4,aC,s,aG,aG,0⟩ l) (.mk ⟨4,aC,s,aG,aG,0⟩ l) _ _ W4 du.out ⟨some ⟨g,0,none⟩,cp,be.out,HK.out.kp (Kp.of_below (by rw[hQ];exact cg.out))⟩ ⟨some ⟨g,0,none⟩,cp,be.out,HK.out.kp (Kp.of_below (by rw[hQ];exact cg.out))⟩);rw[eB]at bo
 go_wp2_with (first |(refine aL (Eq.trans (aH rfl rfl rfl rfl) rfl) 41 (.tmp 3) rfl (q+1) 0 rfl Cn _ lk.out Tryz.underlying41 rfl HI.out ?_) |(refine aL (Eq.trans (aH rfl rfl rfl rfl) rfl) 41 (.tmp 1) rfl q 0 rfl Cn _ ja.out Tryz.underlying41 rfl HI.out ?_))
 refine bo.out.mono ?_;rintro e w9 ⟨rfl,fe⟩;have fw:=zh (cg.out.trans (fe.mono (by have:=cg.out.size;omega)));clear fe
 go_wp2_with fail
 go_ret
 exact⟨rfl,by first|exact fw.out |(rw[hQ];exact fw.out)⟩
end Go.Proofs.YtmgjidnalpgegaaGreatDoor
