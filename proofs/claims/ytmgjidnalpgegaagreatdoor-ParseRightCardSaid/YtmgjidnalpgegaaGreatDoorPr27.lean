/-
  Lemmas, part 27: RkJ RkK RkL RkM RkN.
-/
import Derived.Test.YtmgjidnalpgegaaGreatDoorPr26
set_option maxHeartbeats 100000000
namespace Go.Proofs.YtmgjidnalpgegaaGreatDoor
open Go.RowKit
set_option maxRecDepth 1000000 in
theorem rOwn0(v:Val)(l:List Tree)(A:Option Addr)(cp:Nat)(Cn:List Value)(w:World)(hk:KidsOk w [] A l)(hs:(Tree.mk ⟨0,v,[],aG,aG,0⟩ l).size<=1000000)(be:Hid (Cn.toArray=aY ⟨0,v,[],aG,aG,0⟩ A l.length cp))(hv:v.kind≠0/\bV v=true)(hl:l.length=0) :
  Calls Tryz.prog 39 #[.agg Cn.toArray] w fun e w'=>e=.returned (.bool true)/\Below w.heap.size w w':=by
 have HV:=zh hv;clear hv;have qu:((l.length:Int)==0)=true:=by rw[hl];rfl
 clear hl;have dv:=zh hs;clear hs;have HK:=zh hk;clear hk;have ui:l.length<=1000000:=by have h1:=cV l;have h2:bB l+1<=1000000:=dv.out;omega
 generalize cf:(w.alloc (.cells Cn.toArray 41))=W1;have HL:Hid (Lies W1 w.heap.size 41 Cn.toArray):=zh (by rw[<- cf];exact Lies.new _ _ _);have HB:Hid (Below w.heap.size w W1):=zh (by rw[<- cf];exact zp _);have c8:Hid (W1.heap.size=w.heap.size+1):=zh (by rw[<- cf];simp);have bu:=zh cf;clear cf;obtain⟨Cm,eo⟩:∃ C:List Value,#[.int .i64 0,.int .i64 0,.int .i64 0,.int .i64 0,.string ⟨#[]⟩,.bool false,.int .i64 0,.string ⟨#[]⟩,.int .i64 0,.int .i64 0,.int .i64 0,.int .i64 0,.bool false,.bool false,.int .i64 0,.int .i64 0,.int .i64 0,.int .i64 0,.bool false,.bool false,.int .i64 0,.slice (A) l.length cp]=C.toArray:=⟨_,rfl⟩
 have fw:Hid (Cm.toArray=aY ⟨0,aD,[],aG,aG,0⟩ (A) l.length cp):=zh eo.symm;have ah:Cm.length=22:=by rw[<- yd,<- eo];rfl
 have HT:=zh (dR (W':=W1) ah);have yo:Hid (Cm.toArray.all (·.oneCell')=true):=zh (by rw[fw.out];exact cZ _ _ _ _);have dw:Hid ((Tryz.prog.info? 41).map (·.size)=some Cm.toArray.size):=zh (by rw[yd,ah];exact aF);have ce:Hid (Lies (World.setCells (W1.alloc (.cells aA.toArray 41)) W1.heap.size 0 Cm) W1.heap.size 41 Cm.toArray):=zh ((Lies.new W1 41 aA.toArray).putAll (by rw[ah];rfl));have b9:Below W1.heap.size W1 (World.setCells (W1.alloc (.cells aA.toArray 41)) W1.heap.size 0 Cm):=dI (aT (.inr zr) Cm 0 ((Kp.refl _ _).alloc _));have b6:=zh (HL.out.next b9);have aq:=zh (HB.out.trans (b9.mono HB.out.size));clear b9;have fi:=zh eo;clear eo;have x0:=HL.out.cell 0;have x21:=HL.out.cell 21;rw[be.out]at x0 x21;simp only[za,zb,zf]at x0 x21
 go_enter Tryz.func39,Tryz.ntmps39
 go_upto_region 1 with fail
 rw[bu.out];clear bu;generalize hQ:w.heap.size=q at *
 go_upto_region 2 with(first |(refine yq rfl 41 (.tmp 3) (.tmp 9) rfl W1.heap.size 0 Cm.toArray rfl (congrArg Value.agg fi.out) HT.out dw.out yo.out ?_;change wpList _ _ _ _ _ (World.setCells _ W1.heap.size 0 Cm)))
 generalize World.setCells _ _ _ _=W3 at ce b6 aq ⊢;rw[fi.out];clear x0 x21;have dt:=c8.out;generalize W1.heap.size=q1 at *;subst dt;clear HL HB c8 fi HT yo dw ah;have x0:=b6.out.cell 0;have x1:=b6.out.cell 1;have x2:=b6.out.cell 2;have x3:=b6.out.cell 3;have x4:=b6.out.cell 4;have x5:=b6.out.cell 5;have x6:=b6.out.cell 6;rw[be.out]at x0 x1 x2 x3 x4 x5 x6;simp only[za,zb,zf]at x0 x1 x2 x3 x4 x5 x6;have y1:=ce.out.cell 1;have yf1:=ce.out.frozen 1;have y2:=ce.out.cell 2;have yf2:=ce.out.frozen 2;have y3:=ce.out.cell 3;have yf3:=ce.out.frozen 3;have y4:=ce.out.cell 4;have yf4:=ce.out.frozen 4;have y5:=ce.out.cell 5;have yf5:=ce.out.frozen 5;have y6:=ce.out.cell 6;have yf6:=ce.out.frozen 6;rw[fw.out]at y1 y2 y3 y4 y5 y6
 simp only[za,zb,zf]at y1 y2 y3 y4 y5 y6
 go_upto_region 6 with fail
 clear x0 x1 x2 x3 x4 x5 x6;clear y1 y2 y3 y4 y5 y6 yf1 yf2 yf3 yf4 yf5 yf6;have ft:=ce.out;rw[fw.out]at ft;have ei:Hid (Lies _ (q+1) 41 Cn.toArray):=zh (by rw[be.out];exact((((((ft.put 1 (.int .i64 v.kind)).put 2 (.int .i64 v.mant)).put 3 (.int .i64 v.exp)).put 4 (.string ⟨v.text.toArray⟩)).put 5 (.bool v.truth)).put 6 (.int .i64 v.fault)));have an:=zh (aK (aK (aK (aK (aK (aK b6.out (b:=q+1) (by omega) 1 (.int .i64 v.kind)) (b:=q+1) (by omega) 2 (.int .i64 v.mant)) (b:=q+1) (by omega) 3 (.int .i64 v.exp)) (b:=q+1) (by omega) 4 (.string ⟨v.text.toArray⟩)) (b:=q+1) (by omega) 5 (.bool v.truth)) (b:=q+1) (by omega) 6 (.int .i64 v.fault))
 have cn:=zh ((((((aq.out.setCell (p:=⟨q+1,1,none⟩) (Nat.le_succ q) (.int .i64 v.kind)).setCell (p:=⟨q+1,2,none⟩) (Nat.le_succ q) (.int .i64 v.mant)).setCell (p:=⟨q+1,3,none⟩) (Nat.le_succ q) (.int .i64 v.exp)).setCell (p:=⟨q+1,4,none⟩) (Nat.le_succ q) (.string ⟨v.text.toArray⟩)).setCell (p:=⟨q+1,5,none⟩) (Nat.le_succ q) (.bool v.truth)).setCell (p:=⟨q+1,6,none⟩) (Nat.le_succ q) (.int .i64 v.fault));generalize World.setCell _ _ _=W4 at ei an cn ⊢;clear ce b6 aq ft;have x1:=an.out.cell 1;have x2:=an.out.cell 2;have x3:=an.out.cell 3;have x4:=an.out.cell 4;have x5:=an.out.cell 5;have x6:=an.out.cell 6;have x21:=an.out.cell 21;rw[be.out]at x1 x2 x3 x4 x5 x6 x21;simp only[za,zb,zf]at x1 x2 x3 x4 x5 x6 x21
 go_wp2_with fail
 refine(rLit_ok v _ HV.out.1 HV.out.2).mono ?_;rintro e w5 ⟨rfl,ij⟩;clear x1 x2 x3 x4 x5 x6 x21;have de:=zh (cn.out.trans (ij.mono (by have:=cn.out.size;omega)));have me:=zh (ei.out.next ij);have jf:=zh (an.out.next ij);clear ij;have z21:=jf.out.cell 21;rw[be.out]at z21;simp only[za,zb,zf]at z21;have my:=zh (me.out.rangeL);have je:=zh (jf.out.rangeL);have HI:=zh (gR be.out);have bo:=zh (dF 1000000 zr (.mk ⟨0,v,[],aG,aG,0⟩ l) (.mk ⟨0,v,[],aG,aG,0⟩ l) _ _ w5 dv.out ⟨A,cp,be.out,HK.out.kp (Kp.of_below (by rw[hQ];exact de.out))⟩ ⟨A,cp,be.out,HK.out.kp (Kp.of_below (by rw[hQ];exact de.out))⟩);rw[dS]at bo
 go_wp2_with (first |(refine aR (Eq.trans (aH rfl rfl rfl rfl) rfl) 41 (.tmp 3) rfl (q+1) 0 rfl Cn _ my.out Tryz.underlying41 rfl HI.out ?_) |(refine aR (Eq.trans (aH rfl rfl rfl rfl) rfl) 41 (.tmp 1) rfl q 0 rfl Cn _ je.out Tryz.underlying41 rfl HI.out ?_))
 refine bo.out.mono ?_;rintro e w9 ⟨rfl,fs⟩;have fv:=zh (de.out.trans (fs.mono (by have:=de.out.size;omega)));clear fs
 go_wp2_with fail
 go_ret
 exact⟨rfl,by first|exact fv.out |(rw[hQ];exact fv.out)⟩
set_option maxRecDepth 1000000 in
theorem rOwn1(a:Cor)(l:List Tree)(A:Option Addr)(cp:Nat)(Cn:List Value)(w:World)(hk:KidsOk w [] A l)(hs:(Tree.mk ⟨1,aD,[],a,aG,0⟩ l).size<=1000000)(be:Hid (Cn.toArray=aY ⟨1,aD,[],a,aG,0⟩ A l.length cp))(hv:a.row≠id0/\a.col≠id0)(hl:l.length=0) :
  Calls Tryz.prog 39 #[.agg Cn.toArray] w fun e w'=>e=.returned (.bool true)/\Below w.heap.size w w':=by
 have HV:=zh hv;clear hv;have qu:((l.length:Int)==0)=true:=by rw[hl];rfl
 clear hl;have dv:=zh hs;clear hs;have HK:=zh hk;clear hk;have ui:l.length<=1000000:=by have h1:=cV l;have h2:bB l+1<=1000000:=dv.out;omega
 generalize cf:(w.alloc (.cells Cn.toArray 41))=W1;have HL:Hid (Lies W1 w.heap.size 41 Cn.toArray):=zh (by rw[<- cf];exact Lies.new _ _ _);have HB:Hid (Below w.heap.size w W1):=zh (by rw[<- cf];exact zp _);have c8:Hid (W1.heap.size=w.heap.size+1):=zh (by rw[<- cf];simp);have bu:=zh cf;clear cf;obtain⟨Cm,eo⟩:∃ C:List Value,#[.int .i64 1,.int .i64 0,.int .i64 0,.int .i64 0,.string ⟨#[]⟩,.bool false,.int .i64 0,.string ⟨#[]⟩,.int .i64 0,.int .i64 0,.int .i64 0,.int .i64 0,.bool false,.bool false,.int .i64 0,.int .i64 0,.int .i64 0,.int .i64 0,.bool false,.bool false,.int .i64 0,.slice (A) l.length cp]=C.toArray:=⟨_,rfl⟩
 have fw:Hid (Cm.toArray=aY ⟨1,aD,[],aG,aG,0⟩ (A) l.length cp):=zh eo.symm;have ah:Cm.length=22:=by rw[<- yd,<- eo];rfl
 have HT:=zh (dR (W':=W1) ah);have yo:Hid (Cm.toArray.all (·.oneCell')=true):=zh (by rw[fw.out];exact cZ _ _ _ _);have dw:Hid ((Tryz.prog.info? 41).map (·.size)=some Cm.toArray.size):=zh (by rw[yd,ah];exact aF);have ce:Hid (Lies (World.setCells (W1.alloc (.cells aA.toArray 41)) W1.heap.size 0 Cm) W1.heap.size 41 Cm.toArray):=zh ((Lies.new W1 41 aA.toArray).putAll (by rw[ah];rfl));have b9:Below W1.heap.size W1 (World.setCells (W1.alloc (.cells aA.toArray 41)) W1.heap.size 0 Cm):=dI (aT (.inr zr) Cm 0 ((Kp.refl _ _).alloc _));have b6:=zh (HL.out.next b9);have aq:=zh (HB.out.trans (b9.mono HB.out.size));clear b9;have fi:=zh eo;clear eo;have x0:=HL.out.cell 0;have x21:=HL.out.cell 21;rw[be.out]at x0 x21;simp only[za,zb,zf]at x0 x21
 go_enter Tryz.func39,Tryz.ntmps39
 go_upto_region 1 with fail
 rw[bu.out];clear bu;generalize hQ:w.heap.size=q at *
 go_upto_region 2 with(first |(refine yq rfl 41 (.tmp 3) (.tmp 9) rfl W1.heap.size 0 Cm.toArray rfl (congrArg Value.agg fi.out) HT.out dw.out yo.out ?_;change wpList _ _ _ _ _ (World.setCells _ W1.heap.size 0 Cm)))
 generalize World.setCells _ _ _ _=W3 at ce b6 aq ⊢;rw[fi.out];clear x0 x21;have dt:=c8.out;generalize W1.heap.size=q1 at *;subst dt;clear HL HB c8 fi HT yo dw ah;have x0:=b6.out.cell 0;have x8:=b6.out.cell 8;have x9:=b6.out.cell 9;have x10:=b6.out.cell 10;have x11:=b6.out.cell 11;have x12:=b6.out.cell 12;have x13:=b6.out.cell 13;rw[be.out]at x0 x8 x9 x10 x11 x12 x13;simp only[za,zb,zf]at x0 x8 x9 x10 x11 x12 x13;have y8:=ce.out.cell 8;have yf8:=ce.out.frozen 8;have y9:=ce.out.cell 9;have yf9:=ce.out.frozen 9;have y10:=ce.out.cell 10;have yf10:=ce.out.frozen 10;have y11:=ce.out.cell 11;have yf11:=ce.out.frozen 11;have y12:=ce.out.cell 12;have yf12:=ce.out.frozen 12;have y13:=ce.out.cell 13;have yf13:=ce.out.frozen 13;rw[fw.out]at y8 y9 y10 y11 y12 y13
 simp only[za,zb,zf]at y8 y9 y10 y11 y12 y13
 go_upto_region 10 with fail
 clear x0 x8 x9 x10 x11 x12 x13;clear y8 y9 y10 y11 y12 y13 yf8 yf9 yf10 yf11 yf12 yf13;have ft:=ce.out;rw[fw.out]at ft;have ei:Hid (Lies _ (q+1) 41 Cn.toArray):=zh (by rw[be.out];exact((((((ft.put 8 (.int .i64 a.row.a)).put 9 (.int .i64 a.row.n)).put 10 (.int .i64 a.col.a)).put 11 (.int .i64 a.col.n)).put 12 (.bool a.fr)).put 13 (.bool a.fc)));have an:=zh (aK (aK (aK (aK (aK (aK b6.out (b:=q+1) (by omega) 8 (.int .i64 a.row.a)) (b:=q+1) (by omega) 9 (.int .i64 a.row.n)) (b:=q+1) (by omega) 10 (.int .i64 a.col.a)) (b:=q+1) (by omega) 11 (.int .i64 a.col.n)) (b:=q+1) (by omega) 12 (.bool a.fr)) (b:=q+1) (by omega) 13 (.bool a.fc))
 have cn:=zh ((((((aq.out.setCell (p:=⟨q+1,8,none⟩) (Nat.le_succ q) (.int .i64 a.row.a)).setCell (p:=⟨q+1,9,none⟩) (Nat.le_succ q) (.int .i64 a.row.n)).setCell (p:=⟨q+1,10,none⟩) (Nat.le_succ q) (.int .i64 a.col.a)).setCell (p:=⟨q+1,11,none⟩) (Nat.le_succ q) (.int .i64 a.col.n)).setCell (p:=⟨q+1,12,none⟩) (Nat.le_succ q) (.bool a.fr)).setCell (p:=⟨q+1,13,none⟩) (Nat.le_succ q) (.bool a.fc));generalize World.setCell _ _ _=W4 at ei an cn ⊢;clear ce b6 aq ft;have x8:=an.out.cell 8;have x9:=an.out.cell 9;have x10:=an.out.cell 10;have x11:=an.out.cell 11;have x12:=an.out.cell 12;have x13:=an.out.cell 13;have x21:=an.out.cell 21;rw[be.out]at x8 x9 x10 x11 x12 x13 x21;simp only[za,zb,zf]at x8 x9 x10 x11 x12 x13 x21;have HO:=zh (pB a W4);rw[decide_eq_true HV.out.1,decide_eq_true HV.out.2]at HO
 go_wp2_with fail
 refine HO.out.mono ?_;rintro e w5 ⟨rfl,ij⟩;clear x8 x9 x10 x11 x12 x13 x21;clear HO;have de:=zh (cn.out.trans (ij.mono (by have:=cn.out.size;omega)));have me:=zh (ei.out.next ij);have jf:=zh (an.out.next ij);clear ij;have z21:=jf.out.cell 21;rw[be.out]at z21;simp only[za,zb,zf]at z21;have my:=zh (me.out.rangeL);have je:=zh (jf.out.rangeL);have HI:=zh (gR be.out);have bo:=zh (dF 1000000 zr (.mk ⟨1,aD,[],a,aG,0⟩ l) (.mk ⟨1,aD,[],a,aG,0⟩ l) _ _ w5 dv.out ⟨A,cp,be.out,HK.out.kp (Kp.of_below (by rw[hQ];exact de.out))⟩ ⟨A,cp,be.out,HK.out.kp (Kp.of_below (by rw[hQ];exact de.out))⟩);rw[dS]at bo
 go_wp2_with (first |(refine aR (Eq.trans (aH rfl rfl rfl rfl) rfl) 41 (.tmp 3) rfl (q+1) 0 rfl Cn _ my.out Tryz.underlying41 rfl HI.out ?_) |(refine aR (Eq.trans (aH rfl rfl rfl rfl) rfl) 41 (.tmp 1) rfl q 0 rfl Cn _ je.out Tryz.underlying41 rfl HI.out ?_))
 refine bo.out.mono ?_;rintro e w9 ⟨rfl,fs⟩;have fv:=zh (de.out.trans (fs.mono (by have:=de.out.size;omega)));clear fs
 go_wp2_with fail
 go_ret
 exact⟨rfl,by first|exact fv.out |(rw[hQ];exact fv.out)⟩
set_option maxRecDepth 1000000 in
theorem rOwn3(a:Cor)(l:List Tree)(A:Option Addr)(cp:Nat)(Cn:List Value)(w:World)(hk:KidsOk w [] A l)(hs:(Tree.mk ⟨3,aD,[],a,aG,0⟩ l).size<=1000000)(be:Hid (Cn.toArray=aY ⟨3,aD,[],a,aG,0⟩ A l.length cp))(hv:a.row≠id0/\a.col≠id0)(hl:l.length=0) :
  Calls Tryz.prog 39 #[.agg Cn.toArray] w fun e w'=>e=.returned (.bool true)/\Below w.heap.size w w':=by
 have HV:=zh hv;clear hv;have qu:((l.length:Int)==0)=true:=by rw[hl];rfl
 clear hl;have dv:=zh hs;clear hs;have HK:=zh hk;clear hk;have ui:l.length<=1000000:=by have h1:=cV l;have h2:bB l+1<=1000000:=dv.out;omega
 generalize cf:(w.alloc (.cells Cn.toArray 41))=W1;have HL:Hid (Lies W1 w.heap.size 41 Cn.toArray):=zh (by rw[<- cf];exact Lies.new _ _ _);have HB:Hid (Below w.heap.size w W1):=zh (by rw[<- cf];exact zp _);have c8:Hid (W1.heap.size=w.heap.size+1):=zh (by rw[<- cf];simp);have bu:=zh cf;clear cf;obtain⟨Cm,eo⟩:∃ C:List Value,#[.int .i64 3,.int .i64 0,.int .i64 0,.int .i64 0,.string ⟨#[]⟩,.bool false,.int .i64 0,.string ⟨#[]⟩,.int .i64 0,.int .i64 0,.int .i64 0,.int .i64 0,.bool false,.bool false,.int .i64 0,.int .i64 0,.int .i64 0,.int .i64 0,.bool false,.bool false,.int .i64 0,.slice (A) l.length cp]=C.toArray:=⟨_,rfl⟩
 have fw:Hid (Cm.toArray=aY ⟨3,aD,[],aG,aG,0⟩ (A) l.length cp):=zh eo.symm;have ah:Cm.length=22:=by rw[<- yd,<- eo];rfl
 have HT:=zh (dR (W':=W1) ah);have yo:Hid (Cm.toArray.all (·.oneCell')=true):=zh (by rw[fw.out];exact cZ _ _ _ _);have dw:Hid ((Tryz.prog.info? 41).map (·.size)=some Cm.toArray.size):=zh (by rw[yd,ah];exact aF);have ce:Hid (Lies (World.setCells (W1.alloc (.cells aA.toArray 41)) W1.heap.size 0 Cm) W1.heap.size 41 Cm.toArray):=zh ((Lies.new W1 41 aA.toArray).putAll (by rw[ah];rfl));have b9:Below W1.heap.size W1 (World.setCells (W1.alloc (.cells aA.toArray 41)) W1.heap.size 0 Cm):=dI (aT (.inr zr) Cm 0 ((Kp.refl _ _).alloc _));have b6:=zh (HL.out.next b9);have aq:=zh (HB.out.trans (b9.mono HB.out.size));clear b9;have fi:=zh eo;clear eo;have x0:=HL.out.cell 0;have x21:=HL.out.cell 21;rw[be.out]at x0 x21;simp only[za,zb,zf]at x0 x21
 go_enter Tryz.func39,Tryz.ntmps39
 go_upto_region 1 with fail
 rw[bu.out];clear bu;generalize hQ:w.heap.size=q at *
 go_upto_region 2 with(first |(refine yq rfl 41 (.tmp 3) (.tmp 9) rfl W1.heap.size 0 Cm.toArray rfl (congrArg Value.agg fi.out) HT.out dw.out yo.out ?_;change wpList _ _ _ _ _ (World.setCells _ W1.heap.size 0 Cm)))
 generalize World.setCells _ _ _ _=W3 at ce b6 aq ⊢;rw[fi.out];clear x0 x21;have dt:=c8.out;generalize W1.heap.size=q1 at *;subst dt;clear HL HB c8 fi HT yo dw ah;have x0:=b6.out.cell 0;have x8:=b6.out.cell 8;have x9:=b6.out.cell 9;have x10:=b6.out.cell 10;have x11:=b6.out.cell 11;have x12:=b6.out.cell 12;have x13:=b6.out.cell 13;rw[be.out]at x0 x8 x9 x10 x11 x12 x13;simp only[za,zb,zf]at x0 x8 x9 x10 x11 x12 x13;have y8:=ce.out.cell 8;have yf8:=ce.out.frozen 8;have y9:=ce.out.cell 9;have yf9:=ce.out.frozen 9;have y10:=ce.out.cell 10;have yf10:=ce.out.frozen 10;have y11:=ce.out.cell 11;have yf11:=ce.out.frozen 11;have y12:=ce.out.cell 12;have yf12:=ce.out.frozen 12;have y13:=ce.out.cell 13;have yf13:=ce.out.frozen 13;rw[fw.out]at y8 y9 y10 y11 y12 y13
 simp only[za,zb,zf]at y8 y9 y10 y11 y12 y13
 go_upto_region 10 with fail
 clear x0 x8 x9 x10 x11 x12 x13;clear y8 y9 y10 y11 y12 y13 yf8 yf9 yf10 yf11 yf12 yf13;have ft:=ce.out;rw[fw.out]at ft;have ei:Hid (Lies _ (q+1) 41 Cn.toArray):=zh (by rw[be.out];exact((((((ft.put 8 (.int .i64 a.row.a)).put 9 (.int .i64 a.row.n)).put 10 (.int .i64 a.col.a)).put 11 (.int .i64 a.col.n)).put 12 (.bool a.fr)).put 13 (.bool a.fc)));have an:=zh (aK (aK (aK (aK (aK (aK b6.out (b:=q+1) (by omega) 8 (.int .i64 a.row.a)) (b:=q+1) (by omega) 9 (.int .i64 a.row.n)) (b:=q+1) (by omega) 10 (.int .i64 a.col.a)) (b:=q+1) (by omega) 11 (.int .i64 a.col.n)) (b:=q+1) (by omega) 12 (.bool a.fr)) (b:=q+1) (by omega) 13 (.bool a.fc))
 have cn:=zh ((((((aq.out.setCell (p:=⟨q+1,8,none⟩) (Nat.le_succ q) (.int .i64 a.row.a)).setCell (p:=⟨q+1,9,none⟩) (Nat.le_succ q) (.int .i64 a.row.n)).setCell (p:=⟨q+1,10,none⟩) (Nat.le_succ q) (.int .i64 a.col.a)).setCell (p:=⟨q+1,11,none⟩) (Nat.le_succ q) (.int .i64 a.col.n)).setCell (p:=⟨q+1,12,none⟩) (Nat.le_succ q) (.bool a.fr)).setCell (p:=⟨q+1,13,none⟩) (Nat.le_succ q) (.bool a.fc));generalize World.setCell _ _ _=W4 at ei an cn ⊢;clear ce b6 aq ft;have x8:=an.out.cell 8;have x9:=an.out.cell 9;have x10:=an.out.cell 10;have x11:=an.out.cell 11;have x12:=an.out.cell 12;have x13:=an.out.cell 13;have x21:=an.out.cell 21;rw[be.out]at x8 x9 x10 x11 x12 x13 x21;simp only[za,zb,zf]at x8 x9 x10 x11 x12 x13 x21;have HO:=zh (pB a W4);rw[decide_eq_true HV.out.1,decide_eq_true HV.out.2]at HO
 go_wp2_with fail
 refine HO.out.mono ?_;rintro e w5 ⟨rfl,ij⟩;clear x8 x9 x10 x11 x12 x13 x21;clear HO;have de:=zh (cn.out.trans (ij.mono (by have:=cn.out.size;omega)));have me:=zh (ei.out.next ij);have jf:=zh (an.out.next ij);clear ij;have z21:=jf.out.cell 21;rw[be.out]at z21;simp only[za,zb,zf]at z21;have my:=zh (me.out.rangeL);have je:=zh (jf.out.rangeL);have HI:=zh (gR be.out);have bo:=zh (dF 1000000 zr (.mk ⟨3,aD,[],a,aG,0⟩ l) (.mk ⟨3,aD,[],a,aG,0⟩ l) _ _ w5 dv.out ⟨A,cp,be.out,HK.out.kp (Kp.of_below (by rw[hQ];exact de.out))⟩ ⟨A,cp,be.out,HK.out.kp (Kp.of_below (by rw[hQ];exact de.out))⟩);rw[dS]at bo
 go_wp2_with (first |(refine aR (Eq.trans (aH rfl rfl rfl rfl) rfl) 41 (.tmp 3) rfl (q+1) 0 rfl Cn _ my.out Tryz.underlying41 rfl HI.out ?_) |(refine aR (Eq.trans (aH rfl rfl rfl rfl) rfl) 41 (.tmp 1) rfl q 0 rfl Cn _ je.out Tryz.underlying41 rfl HI.out ?_))
 refine bo.out.mono ?_;rintro e w9 ⟨rfl,fs⟩;have fv:=zh (de.out.trans (fs.mono (by have:=de.out.size;omega)));clear fs
 go_wp2_with fail
 go_ret
 exact⟨rfl,by first|exact fv.out |(rw[hQ];exact fv.out)⟩
set_option maxRecDepth 1000000 in
theorem rOwn2(a b:Cor)(l:List Tree)(A:Option Addr)(cp:Nat)(Cn:List Value)(w:World)(hk:KidsOk w [] A l)(hs:(Tree.mk ⟨2,aD,[],a,b,0⟩ l).size<=1000000)(be:Hid (Cn.toArray=aY ⟨2,aD,[],a,b,0⟩ A l.length cp))(hv:cY a b=true)(hl:l.length=0) :
  Calls Tryz.prog 39 #[.agg Cn.toArray] w fun e w'=>e=.returned (.bool true)/\Below w.heap.size w w':=by
 have HV:=zh hv;clear hv;have qu:((l.length:Int)==0)=true:=by rw[hl];rfl
 clear hl;have dv:=zh hs;clear hs;have HK:=zh hk;clear hk;have ui:l.length<=1000000:=by have h1:=cV l;have h2:bB l+1<=1000000:=dv.out;omega
 generalize cf:(w.alloc (.cells Cn.toArray 41))=W1;have HL:Hid (Lies W1 w.heap.size 41 Cn.toArray):=zh (by rw[<- cf];exact Lies.new _ _ _);have HB:Hid (Below w.heap.size w W1):=zh (by rw[<- cf];exact zp _);have c8:Hid (W1.heap.size=w.heap.size+1):=zh (by rw[<- cf];simp);have bu:=zh cf;clear cf;obtain⟨Cm,eo⟩:∃ C:List Value,#[.int .i64 2,.int .i64 0,.int .i64 0,.int .i64 0,.string ⟨#[]⟩,.bool false,.int .i64 0,.string ⟨#[]⟩,.int .i64 0,.int .i64 0,.int .i64 0,.int .i64 0,.bool false,.bool false,.int .i64 0,.int .i64 0,.int .i64 0,.int .i64 0,.bool false,.bool false,.int .i64 0,.slice (A) l.length cp]=C.toArray:=⟨_,rfl⟩
 have fw:Hid (Cm.toArray=aY ⟨2,aD,[],aG,aG,0⟩ (A) l.length cp):=zh eo.symm;have ah:Cm.length=22:=by rw[<- yd,<- eo];rfl
 have HT:=zh (dR (W':=W1) ah);have yo:Hid (Cm.toArray.all (·.oneCell')=true):=zh (by rw[fw.out];exact cZ _ _ _ _);have dw:Hid ((Tryz.prog.info? 41).map (·.size)=some Cm.toArray.size):=zh (by rw[yd,ah];exact aF);have ce:Hid (Lies (World.setCells (W1.alloc (.cells aA.toArray 41)) W1.heap.size 0 Cm) W1.heap.size 41 Cm.toArray):=zh ((Lies.new W1 41 aA.toArray).putAll (by rw[ah];rfl));have b9:Below W1.heap.size W1 (World.setCells (W1.alloc (.cells aA.toArray 41)) W1.heap.size 0 Cm):=dI (aT (.inr zr) Cm 0 ((Kp.refl _ _).alloc _));have b6:=zh (HL.out.next b9);have aq:=zh (HB.out.trans (b9.mono HB.out.size));clear b9;have fi:=zh eo;clear eo;have x0:=HL.out.cell 0;have x21:=HL.out.cell 21;rw[be.out]at x0 x21;simp only[za,zb,zf]at x0 x21
 go_enter Tryz.func39,Tryz.ntmps39
 go_upto_region 1 with fail
 rw[bu.out];clear bu;generalize hQ:w.heap.size=q at *
 go_upto_region 2 with(first |(refine yq rfl 41 (.tmp 3) (.tmp 9) rfl W1.heap.size 0 Cm.toArray rfl (congrArg Value.agg fi.out) HT.out dw.out yo.out ?_;change wpList _ _ _ _ _ (World.setCells _ W1.heap.size 0 Cm)))
 generalize World.setCells _ _ _ _=W3 at ce b6 aq ⊢;rw[fi.out];clear x0 x21;have dt:=c8.out;generalize W1.heap.size=q1 at *;subst dt;clear HL HB c8 fi HT yo dw ah;obtain⟨D,hD⟩:∃ D:List Value,[.int .i64 a.row.a,.int .i64 a.row.n,.int .i64 a.col.a,.int .i64 a.col.n,.bool a.fr,.bool a.fc,.int .i64 b.row.a,.int .i64 b.row.n,.int .i64 b.col.a,.int .i64 b.col.n,.bool b.fr,.bool b.fc]=D:=⟨_,rfl⟩
 have HDR:Hid (W3.rangeAt q (0+8) D):=zh (by have h1:=b6.out;rw[be.out]at h1;rw[<- hD];exact NodeIn.sub (Lies.node h1) 8 _ (by simp) rfl);have HDT:Hid (W3.there (q+1) 8 D.toArray.size):=zh (by have h1:=ce.out;rw[fw.out]at h1;rw[<- hD];intro j hj;have hj:j<12:=hj;exact⟨by rw[h1.cell];have:8+j<22:=(by omega);rw[Array.getElem?_eq_getElem (by show 8+j<22;omega)];rfl,h1.frozen _⟩);have HDI:Hid ((Tryz.prog.info? 38).map (·.size)=some D.length):=zh (by rw[<- hD];exact jA);have HDO:Hid (D.toArray.all (·.oneCell')=true):=zh (by rw[<- hD];simp[Value.oneCell']);have ft:=ce.out;rw[fw.out]at ft;have ei:Hid (Lies (World.setCells W3 (q+1) 8 D) (q+1) 41 Cn.toArray):=zh (by have h1:=Lies.putMid D 8 W3 _ ft (by rw[<- hD];simp);rw[be.out];rw[<- hD]at h1 ⊢;exact h1);have an:Hid (Lies (World.setCells W3 (q+1) 8 D) q 41 Cn.toArray):=zh (eV (by omega) D 8 b6.out)
 have cn:Hid (Below q w (World.setCells W3 (q+1) 8 D)):=zh (eH (Nat.le_succ q) D 8 aq.out);clear hD ft;have x0:=b6.out.cell 0;rw[be.out]at x0;simp only[za,zb]at x0
 go_upto_region 13 with(first |(refine yr rfl 38 (.tmp 46) rfl q (0+8) rfl D _ HDR.out Tryz.underlying38 rfl HDI.out ?_) |(refine yq rfl 38 (.tmp 48) (.tmp 47) rfl (q+1) 8 D.toArray rfl rfl HDT.out (by rw[yd];exact HDI.out) HDO.out ?_;change wpList _ _ _ _ _ (World.setCells _ (q+1) 8 D)))
 clear x0;generalize World.setCells _ _ _ _=W4 at ei an cn ⊢;clear ce b6 aq HDR HDT HDI HDO;have x8:=an.out.cell 8;have x9:=an.out.cell 9;have x10:=an.out.cell 10;have x11:=an.out.cell 11;have x12:=an.out.cell 12;have x13:=an.out.cell 13;have x14:=an.out.cell 14;have x15:=an.out.cell 15;have x16:=an.out.cell 16;have x17:=an.out.cell 17;have x18:=an.out.cell 18;have x19:=an.out.cell 19;have x21:=an.out.cell 21;rw[be.out]at x8 x9 x10 x11 x12 x13 x14 x15 x16 x17 x18 x19 x21;simp only[za,zb,zf]at x8 x9 x10 x11 x12 x13 x14 x15 x16 x17 x18 x19 x21
 go_wp2_with fail
 refine(rArea_ok a b _ HV.out).mono ?_;rintro e w5 ⟨rfl,ij⟩;clear x8 x9 x10 x11 x12 x13 x14 x15 x16 x17 x18 x19 x21;have de:=zh (cn.out.trans (ij.mono (by have:=cn.out.size;omega)));have me:=zh (ei.out.next ij);have jf:=zh (an.out.next ij);clear ij;have z21:=jf.out.cell 21;rw[be.out]at z21;simp only[za,zb,zf]at z21;have my:=zh (me.out.rangeL);have je:=zh (jf.out.rangeL);have HI:=zh (gR be.out);have bo:=zh (dF 1000000 zr (.mk ⟨2,aD,[],a,b,0⟩ l) (.mk ⟨2,aD,[],a,b,0⟩ l) _ _ w5 dv.out ⟨A,cp,be.out,HK.out.kp (Kp.of_below (by rw[hQ];exact de.out))⟩ ⟨A,cp,be.out,HK.out.kp (Kp.of_below (by rw[hQ];exact de.out))⟩);rw[dS]at bo
 go_wp2_with (first |(refine aR (Eq.trans (aH rfl rfl rfl rfl) rfl) 41 (.tmp 3) rfl (q+1) 0 rfl Cn _ my.out Tryz.underlying41 rfl HI.out ?_) |(refine aR (Eq.trans (aH rfl rfl rfl rfl) rfl) 41 (.tmp 1) rfl q 0 rfl Cn _ je.out Tryz.underlying41 rfl HI.out ?_))
 refine bo.out.mono ?_;rintro e w9 ⟨rfl,fs⟩;have fv:=zh (de.out.trans (fs.mono (by have:=de.out.size;omega)));clear fs
 go_wp2_with fail
 go_ret
 exact⟨rfl,by first|exact fv.out |(rw[hQ];exact fv.out)⟩
set_option maxRecDepth 1000000 in
theorem rOwn8(r:Int)(l:List Tree)(A:Option Addr)(cp:Nat)(Cn:List Value)(w:World)(hk:KidsOk w [] A l)(hs:(Tree.mk ⟨8,aD,[],aG,aG,r⟩ l).size<=1000000)(be:Hid (Cn.toArray=aY ⟨8,aD,[],aG,aG,r⟩ A l.length cp))(hr:1<=r)(hl:1<=l.length)(hm:(l.length:Int).tmod r=0) :
  Calls Tryz.prog 39 #[.agg Cn.toArray] w fun e w'=>e=.returned (.bool true)/\Below w.heap.size w w':=by
 have qu:(1:Int)<=(l.length:Int):=by omega
 have ft:((l.length:Int) % r==0)=true:=by rw[Int.tmod_eq_emod_of_nonneg (by omega)]at hm;rw[hm];rfl
 have hr0:¬ r=0:=by omega
 clear hm hl;have dv:=zh hs;clear hs;have HK:=zh hk;clear hk;have ui:l.length<=1000000:=by have h1:=cV l;have h2:bB l+1<=1000000:=dv.out;omega
 generalize cf:(w.alloc (.cells Cn.toArray 41))=W1;have HL:Hid (Lies W1 w.heap.size 41 Cn.toArray):=zh (by rw[<- cf];exact Lies.new _ _ _);have HB:Hid (Below w.heap.size w W1):=zh (by rw[<- cf];exact zp _);have c8:Hid (W1.heap.size=w.heap.size+1):=zh (by rw[<- cf];simp);have bu:=zh cf;clear cf;obtain⟨Cm,eo⟩:∃ C:List Value,#[.int .i64 8,.int .i64 0,.int .i64 0,.int .i64 0,.string ⟨#[]⟩,.bool false,.int .i64 0,.string ⟨#[]⟩,.int .i64 0,.int .i64 0,.int .i64 0,.int .i64 0,.bool false,.bool false,.int .i64 0,.int .i64 0,.int .i64 0,.int .i64 0,.bool false,.bool false,.int .i64 0,.slice (A) l.length cp]=C.toArray:=⟨_,rfl⟩
 have fw:Hid (Cm.toArray=aY ⟨8,aD,[],aG,aG,0⟩ (A) l.length cp):=zh eo.symm;have ah:Cm.length=22:=by rw[<- yd,<- eo];rfl
 have HT:=zh (dR (W':=W1) ah);have yo:Hid (Cm.toArray.all (·.oneCell')=true):=zh (by rw[fw.out];exact cZ _ _ _ _);have dw:Hid ((Tryz.prog.info? 41).map (·.size)=some Cm.toArray.size):=zh (by rw[yd,ah];exact aF);have ce:Hid (Lies (World.setCells (W1.alloc (.cells aA.toArray 41)) W1.heap.size 0 Cm) W1.heap.size 41 Cm.toArray):=zh ((Lies.new W1 41 aA.toArray).putAll (by rw[ah];rfl));have b9:Below W1.heap.size W1 (World.setCells (W1.alloc (.cells aA.toArray 41)) W1.heap.size 0 Cm):=dI (aT (.inr zr) Cm 0 ((Kp.refl _ _).alloc _));have b6:=zh (HL.out.next b9);have aq:=zh (HB.out.trans (b9.mono HB.out.size));clear b9;have fi:=zh eo;clear eo;have x0:=HL.out.cell 0;have x21:=HL.out.cell 21;rw[be.out]at x0 x21;simp only[za,zb,zf]at x0 x21
 go_enter Tryz.func39,Tryz.ntmps39
 go_upto_region 1 with fail
 rw[bu.out];clear bu;generalize hQ:w.heap.size=q at *
 go_upto_region 2 with(first |(refine yq rfl 41 (.tmp 3) (.tmp 9) rfl W1.heap.size 0 Cm.toArray rfl (congrArg Value.agg fi.out) HT.out dw.out yo.out ?_;change wpList _ _ _ _ _ (World.setCells _ W1.heap.size 0 Cm)))
 generalize World.setCells _ _ _ _=W3 at ce b6 aq ⊢;rw[fi.out];clear x0 x21;have dt:=c8.out;generalize W1.heap.size=q1 at *;subst dt;clear HL HB c8 fi HT yo dw ah;have x0:=b6.out.cell 0;have x20:=b6.out.cell 20;rw[be.out]at x0 x20;simp only[za,zb,zf]at x0 x20;have y20:=ce.out.cell 20;have yf20:=ce.out.frozen 20;rw[fw.out]at y20;simp only[za,zb,zf]at y20
 go_upto_region 28 with fail
 clear x0 x20;clear y20 yf20;have ft:=ce.out;rw[fw.out]at ft;have ei:Hid (Lies _ (q+1) 41 Cn.toArray):=zh (by rw[be.out];exact(ft.put 20 (.int .i64 r)));have an:=zh (aK b6.out (b:=q+1) (by omega) 20 (.int .i64 r));have cn:=zh (aq.out.setCell (p:=⟨q+1,20,none⟩) (Nat.le_succ q) (.int .i64 r));generalize World.setCell _ _ _=W4 at ei an cn ⊢;clear ce b6 aq ft;have x20:=an.out.cell 20;have x21:=an.out.cell 21;rw[be.out]at x20 x21;simp only[za,zb,zf]at x20 x21;have my:=zh (ei.out.rangeL);have je:=zh (an.out.rangeL);have HI:=zh (gR be.out)
 have bo:=zh (dF 1000000 zr (.mk ⟨8,aD,[],aG,aG,r⟩ l) (.mk ⟨8,aD,[],aG,aG,r⟩ l) _ _ W4 dv.out ⟨A,cp,be.out,HK.out.kp (Kp.of_below (by rw[hQ];exact cn.out))⟩ ⟨A,cp,be.out,HK.out.kp (Kp.of_below (by rw[hQ];exact cn.out))⟩);rw[dS]at bo
 go_wp2_with (first |(refine aR (Eq.trans (aH rfl rfl rfl rfl) rfl) 41 (.tmp 3) rfl (q+1) 0 rfl Cn _ my.out Tryz.underlying41 rfl HI.out ?_) |(refine aR (Eq.trans (aH rfl rfl rfl rfl) rfl) 41 (.tmp 1) rfl q 0 rfl Cn _ je.out Tryz.underlying41 rfl HI.out ?_))
 refine bo.out.mono ?_;rintro e w9 ⟨rfl,fs⟩;have fv:=zh (cn.out.trans (fs.mono (by have:=cn.out.size;omega)));clear fs
 go_wp2_with fail
 go_ret
 exact⟨rfl,by first|exact fv.out |(rw[hQ];exact fv.out)⟩
set_option maxRecDepth 1000000 in
theorem rOwn4a(s:Bs)(l:List Tree)(A:Option Addr)(cp:Nat)(Cn:List Value)(w:World)(hk:KidsOk w [] A l)(hs:(Tree.mk ⟨4,aD,s,aG,aG,0⟩ l).size<=1000000)(be:Hid (Cn.toArray=aY ⟨4,aD,s,aG,aG,0⟩ A l.length cp))(hb:bN s=true)(hl:l.length<=32)(hn:l.length≠1) :
  Calls Tryz.prog 39 #[.agg Cn.toArray] w fun e w'=>e=.returned (.bool true)/\Below w.heap.size w w':=by
 have HNM:=zh hb;have qu:(l.length:Int)<=32:=by omega
 have hn0:¬ (l.length:Int)=1:=by omega
 clear hb hl hn;have dv:=zh hs;clear hs;have HK:=zh hk;clear hk;have ui:l.length<=1000000:=by have h1:=cV l;have h2:bB l+1<=1000000:=dv.out;omega
 generalize cf:(w.alloc (.cells Cn.toArray 41))=W1;have HL:Hid (Lies W1 w.heap.size 41 Cn.toArray):=zh (by rw[<- cf];exact Lies.new _ _ _);have HB:Hid (Below w.heap.size w W1):=zh (by rw[<- cf];exact zp _);have c8:Hid (W1.heap.size=w.heap.size+1):=zh (by rw[<- cf];simp);have bu:=zh cf;clear cf;obtain⟨Cm,eo⟩:∃ C:List Value,#[.int .i64 4,.int .i64 0,.int .i64 0,.int .i64 0,.string ⟨#[]⟩,.bool false,.int .i64 0,.string ⟨#[]⟩,.int .i64 0,.int .i64 0,.int .i64 0,.int .i64 0,.bool false,.bool false,.int .i64 0,.int .i64 0,.int .i64 0,.int .i64 0,.bool false,.bool false,.int .i64 0,.slice (A) l.length cp]=C.toArray:=⟨_,rfl⟩
 have fw:Hid (Cm.toArray=aY ⟨4,aD,[],aG,aG,0⟩ (A) l.length cp):=zh eo.symm;have ah:Cm.length=22:=by rw[<- yd,<- eo];rfl
 have HT:=zh (dR (W':=W1) ah);have yo:Hid (Cm.toArray.all (·.oneCell')=true):=zh (by rw[fw.out];exact cZ _ _ _ _);have dw:Hid ((Tryz.prog.info? 41).map (·.size)=some Cm.toArray.size):=zh (by rw[yd,ah];exact aF);have ce:Hid (Lies (World.setCells (W1.alloc (.cells aA.toArray 41)) W1.heap.size 0 Cm) W1.heap.size 41 Cm.toArray):=zh ((Lies.new W1 41 aA.toArray).putAll (by rw[ah];rfl));have b9:Below W1.heap.size W1 (World.setCells (W1.alloc (.cells aA.toArray 41)) W1.heap.size 0 Cm):=dI (aT (.inr zr) Cm 0 ((Kp.refl _ _).alloc _));have b6:=zh (HL.out.next b9);have aq:=zh (HB.out.trans (b9.mono HB.out.size));clear b9;have fi:=zh eo;clear eo;have x0:=HL.out.cell 0;have x21:=HL.out.cell 21;rw[be.out]at x0 x21;simp only[za,zb,zf]at x0 x21
 go_enter Tryz.func39,Tryz.ntmps39
 go_upto_region 1 with fail
 rw[bu.out];clear bu;generalize hQ:w.heap.size=q at *
 go_upto_region 2 with(first |(refine yq rfl 41 (.tmp 3) (.tmp 9) rfl W1.heap.size 0 Cm.toArray rfl (congrArg Value.agg fi.out) HT.out dw.out yo.out ?_;change wpList _ _ _ _ _ (World.setCells _ W1.heap.size 0 Cm)))
 generalize World.setCells _ _ _ _=W3 at ce b6 aq ⊢;rw[fi.out];clear x0 x21;have dt:=c8.out;generalize W1.heap.size=q1 at *;subst dt;clear HL HB c8 fi HT yo dw ah;have x0:=b6.out.cell 0;have x7:=b6.out.cell 7;rw[be.out]at x0 x7;simp only[za,zb,zf]at x0 x7;have y7:=ce.out.cell 7;have yf7:=ce.out.frozen 7;rw[fw.out]at y7;simp only[za,zb,zf]at y7
 go_upto_region 16 with fail
 clear x0 x7;clear y7 yf7;have ft:=ce.out;rw[fw.out]at ft;have ei:Hid (Lies _ (q+1) 41 Cn.toArray):=zh (by rw[be.out];exact(ft.put 7 (.string ⟨s.toArray⟩)));have an:=zh (aK b6.out (b:=q+1) (by omega) 7 (.string ⟨s.toArray⟩));have cn:=zh (aq.out.setCell (p:=⟨q+1,7,none⟩) (Nat.le_succ q) (.string ⟨s.toArray⟩));generalize World.setCell _ _ _=W4 at ei an cn ⊢;clear ce b6 aq ft;have x7:=an.out.cell 7;have x21:=an.out.cell 21;rw[be.out]at x7 x21;simp only[za,zb,zf]at x7 x21
 go_wp2_with fail
 refine(uAY s _ HNM.out).mono ?_;rintro e w5 ⟨rfl,rfl⟩;have my:=zh (ei.out.rangeL);have je:=zh (an.out.rangeL);have HI:=zh (gR be.out);have bo:=zh (dF 1000000 zr (.mk ⟨4,aD,s,aG,aG,0⟩ l) (.mk ⟨4,aD,s,aG,aG,0⟩ l) _ _ W4 dv.out ⟨A,cp,be.out,HK.out.kp (Kp.of_below (by rw[hQ];exact cn.out))⟩ ⟨A,cp,be.out,HK.out.kp (Kp.of_below (by rw[hQ];exact cn.out))⟩);rw[dS]at bo
 go_wp2_with (first |(refine aR (Eq.trans (aH rfl rfl rfl rfl) rfl) 41 (.tmp 3) rfl (q+1) 0 rfl Cn _ my.out Tryz.underlying41 rfl HI.out ?_) |(refine aR (Eq.trans (aH rfl rfl rfl rfl) rfl) 41 (.tmp 1) rfl q 0 rfl Cn _ je.out Tryz.underlying41 rfl HI.out ?_))
 refine bo.out.mono ?_;rintro e w9 ⟨rfl,fs⟩;have fv:=zh (cn.out.trans (fs.mono (by have:=cn.out.size;omega)));clear fs
 go_wp2_with fail
 go_ret
 exact⟨rfl,by first|exact fv.out |(rw[hQ];exact fv.out)⟩
set_option maxRecDepth 1000000 in
theorem rOwn4b(s:Bs)(g:Nat)(kk:Int)(l:List Tree)(A:Option Addr)(cp:Nat)(Cn:List Value)(w:World)(hk:KidsOk w [] A l)(hs:(Tree.mk ⟨4,aD,s,aG,aG,0⟩ l).size<=1000000)(be:Hid (Cn.toArray=aY ⟨4,aD,s,aG,aG,0⟩ A l.length cp))(hb:bN s=true)(hl:l.length=1)(hA:A=some ⟨g,0,none⟩)(hkd:∀ W',Below w.heap.size w W'->W'.cell? ⟨g,0,none⟩=some (.int .i64 kk))(hk9:kk≠9) :
  Calls Tryz.prog 39 #[.agg Cn.toArray] w fun e w'=>e=.returned (.bool true)/\Below w.heap.size w w':=by
 subst hA;have HNM:=zh hb;have xi:=zh hkd;have qu:(l.length:Int)<=32:=by omega
 have hn0:(l.length:Int)=1:=by omega
 have hk0:(kk != 9)=true:=by simpa using hk9
 have hlp:(0:Int)<(l.length:Int):=by omega
 clear hb hl hkd hk9;have dv:=zh hs;clear hs;have HK:=zh hk;clear hk;have ui:l.length<=1000000:=by have h1:=cV l;have h2:bB l+1<=1000000:=dv.out;omega
 generalize cf:(w.alloc (.cells Cn.toArray 41))=W1;have HL:Hid (Lies W1 w.heap.size 41 Cn.toArray):=zh (by rw[<- cf];exact Lies.new _ _ _);have HB:Hid (Below w.heap.size w W1):=zh (by rw[<- cf];exact zp _);have c8:Hid (W1.heap.size=w.heap.size+1):=zh (by rw[<- cf];simp);have bu:=zh cf;clear cf;obtain⟨Cm,eo⟩:∃ C:List Value,#[.int .i64 4,.int .i64 0,.int .i64 0,.int .i64 0,.string ⟨#[]⟩,.bool false,.int .i64 0,.string ⟨#[]⟩,.int .i64 0,.int .i64 0,.int .i64 0,.int .i64 0,.bool false,.bool false,.int .i64 0,.int .i64 0,.int .i64 0,.int .i64 0,.bool false,.bool false,.int .i64 0,.slice (some ⟨g,0,none⟩) l.length cp]=C.toArray:=⟨_,rfl⟩
 have fw:Hid (Cm.toArray=aY ⟨4,aD,[],aG,aG,0⟩ (some ⟨g,0,none⟩) l.length cp):=zh eo.symm;have ah:Cm.length=22:=by rw[<- yd,<- eo];rfl
 have HT:=zh (dR (W':=W1) ah);have yo:Hid (Cm.toArray.all (·.oneCell')=true):=zh (by rw[fw.out];exact cZ _ _ _ _);have dw:Hid ((Tryz.prog.info? 41).map (·.size)=some Cm.toArray.size):=zh (by rw[yd,ah];exact aF);have ce:Hid (Lies (World.setCells (W1.alloc (.cells aA.toArray 41)) W1.heap.size 0 Cm) W1.heap.size 41 Cm.toArray):=zh ((Lies.new W1 41 aA.toArray).putAll (by rw[ah];rfl));have b9:Below W1.heap.size W1 (World.setCells (W1.alloc (.cells aA.toArray 41)) W1.heap.size 0 Cm):=dI (aT (.inr zr) Cm 0 ((Kp.refl _ _).alloc _));have b6:=zh (HL.out.next b9);have aq:=zh (HB.out.trans (b9.mono HB.out.size));clear b9;have fi:=zh eo;clear eo;have x0:=HL.out.cell 0;have x21:=HL.out.cell 21;rw[be.out]at x0 x21;simp only[za,zb,zf]at x0 x21
 go_enter Tryz.func39,Tryz.ntmps39
 go_upto_region 1 with fail
 rw[bu.out];clear bu;generalize hQ:w.heap.size=q at *
 go_upto_region 2 with(first |(refine yq rfl 41 (.tmp 3) (.tmp 9) rfl W1.heap.size 0 Cm.toArray rfl (congrArg Value.agg fi.out) HT.out dw.out yo.out ?_;change wpList _ _ _ _ _ (World.setCells _ W1.heap.size 0 Cm)))
 generalize World.setCells _ _ _ _=W3 at ce b6 aq ⊢;rw[fi.out];clear x0 x21;have dt:=c8.out;generalize W1.heap.size=q1 at *;subst dt;clear HL HB c8 fi HT yo dw ah;have x0:=b6.out.cell 0;have x7:=b6.out.cell 7;rw[be.out]at x0 x7;simp only[za,zb,zf]at x0 x7;have y7:=ce.out.cell 7;have yf7:=ce.out.frozen 7;rw[fw.out]at y7;simp only[za,zb,zf]at y7
 go_upto_region 16 with fail
 clear x0 x7;clear y7 yf7;have ft:=ce.out;rw[fw.out]at ft;have ei:Hid (Lies _ (q+1) 41 Cn.toArray):=zh (by rw[be.out];exact(ft.put 7 (.string ⟨s.toArray⟩)));have an:=zh (aK b6.out (b:=q+1) (by omega) 7 (.string ⟨s.toArray⟩));have cn:=zh (aq.out.setCell (p:=⟨q+1,7,none⟩) (Nat.le_succ q) (.string ⟨s.toArray⟩));generalize World.setCell _ _ _=W4 at ei an cn ⊢;clear ce b6 aq ft;have x7:=an.out.cell 7;have x21:=an.out.cell 21;rw[be.out]at x7 x21;simp only[za,zb,zf]at x7 x21;have k0:=xi.out W4 cn.out
 go_wp2_with fail
 refine(uAY s _ HNM.out).mono ?_;rintro e w5 ⟨rfl,rfl⟩;have my:=zh (ei.out.rangeL);have je:=zh (an.out.rangeL);have HI:=zh (gR be.out);have bo:=zh (dF 1000000 zr (.mk ⟨4,aD,s,aG,aG,0⟩ l) (.mk ⟨4,aD,s,aG,aG,0⟩ l) _ _ W4 dv.out ⟨some ⟨g,0,none⟩,cp,be.out,HK.out.kp (Kp.of_below (by rw[hQ];exact cn.out))⟩ ⟨some ⟨g,0,none⟩,cp,be.out,HK.out.kp (Kp.of_below (by rw[hQ];exact cn.out))⟩);rw[dS]at bo
 go_wp2_with (first |(refine aR (Eq.trans (aH rfl rfl rfl rfl) rfl) 41 (.tmp 3) rfl (q+1) 0 rfl Cn _ my.out Tryz.underlying41 rfl HI.out ?_) |(refine aR (Eq.trans (aH rfl rfl rfl rfl) rfl) 41 (.tmp 1) rfl q 0 rfl Cn _ je.out Tryz.underlying41 rfl HI.out ?_))
 refine bo.out.mono ?_;rintro e w9 ⟨rfl,fs⟩;have fv:=zh (cn.out.trans (fs.mono (by have:=cn.out.size;omega)));clear fs
 go_wp2_with fail
 go_ret
 exact⟨rfl,by first|exact fv.out |(rw[hQ];exact fv.out)⟩
theorem eX{h h':NodeH}(e:NodeH.same h h'=true):h=h':=by
 unfold NodeH.same at e;simp only[yh,decide_eq_true_eq,gY,beq_iff_eq]at e;obtain⟨⟨⟨⟨⟨e1,e2⟩,e3⟩,e4⟩,e5⟩,e6⟩:=e;cases h;cases h';simp only at e1 e2 e3 e4 e5 e6;subst e1 e2 e3 e4 e5 e6;rfl
theorem rOwn_ok(t:Tree)(k:Int)(cs:Array Value)(w:World)(hr:t.right k=true)(hs:t.size<=1000000)(ht:TreeIn w t cs) :
  Calls Tryz.prog 39 #[.agg cs] w fun e w'=>e=.returned (.bool true)/\Below w.heap.size w w':=by
 obtain⟨h,l⟩:=t;obtain⟨A,cp,hc,hk⟩:=ht;obtain⟨Cn,rfl⟩:∃ C:List Value,cs=C.toArray:=⟨cs.toList,by simp⟩
 have hk:KidsOk w [] A l:=hk;have be:Hid (Cn.toArray=aY h A l.length cp):=zh hc;have hs:bB l+1<=1000000:=hs;rw[Tree.right,yh]at hr;have h1:=hr.1;unfold bE at h1
 split at h1
 ·simp only[yh,decide_eq_true_eq]at h1;obtain⟨⟨a1,a2⟩,a3⟩:=h1;rw[eX a2]at be;unfold cA at a1;simp only[yh,decide_eq_true_eq]at a1;exact rOwn0 h.v l A cp Cn w hk hs be a1.1 a3
 split at h1
 ·rename_i k1
  simp only[yh,decide_eq_true_eq]at h1;obtain⟨⟨⟨a1,a2⟩,a3⟩,a4⟩:=h1;rcases k1 with k1|k1
  ·rw[k1]at a3;rw[eX a3]at be;exact rOwn1 h.a l A cp Cn w hk hs be ⟨a1,a2⟩ a4
  rw[k1]at a3;rw[eX a3]at be;exact rOwn3 h.a l A cp Cn w hk hs be ⟨a1,a2⟩ a4
 split at h1
 ·simp only[yh,decide_eq_true_eq]at h1;obtain⟨⟨a1,a2⟩,a3⟩:=h1;rw[eX a2]at be;exact rOwn2 h.a h.b l A cp Cn w hk hs be a1 a3
 split at h1
 ·simp only[yh,decide_eq_true_eq,Bool.not_eq_true',Bool.and_eq_false_iff,decide_eq_false_iff_not]at h1;obtain⟨⟨⟨a1,a2⟩,a3⟩,a4⟩:=h1;rw[eX a4]at be;by_cases hn:l.length=1
  ·have hp:0<l.length:=by omega
   obtain⟨g,ci,hA,fz,m9⟩:=iT hk 0 hp;have h9:l[0].h.kind≠9:=by
    rcases a3 with a3|a3
    ·exact absurd hn a3
    intro e9;apply a3;cases l with
    |nil=>simp at hp
    |cons x r=>
     cases r with
     |nil=>rw[List.map_cons,List.map_nil];rw[show x.h.kind=9 from e9]
     |cons y r=>simp at hn
   exact rOwn4b h.name g l[0].h.kind l A cp Cn w hk hs be a1 hn hA (fun W' hb=>by
    obtain⟨c1,A',rg,c2,_⟩:=m9 W' (Kp.of_below hb);have h0:ci[0]?=some (.int .i64 l[0].h.kind):=by
     have:=congrArg (fun a=>a[0]?) c2;simpa using this
    have:=c1 0 _ h0;simpa using this) h9
  exact rOwn4a h.name l A cp Cn w hk hs be a1 a2 hn
 split at h1
 ·simp only[yh,decide_eq_true_eq]at h1;obtain⟨⟨a1,a2⟩,a3⟩:=h1;rw[eX a3]at be;exact rOwn5 h.name l A cp Cn w hk hs be (by unfold unB at a1;simpa [or_assoc] using a1) a2
 split at h1
 ·simp only[yh,decide_eq_true_eq]at h1;obtain⟨⟨a1,a2⟩,a3⟩:=h1;rw[eX a3]at be;exact rOwn6 h.name l A cp Cn w hk hs be (by unfold lS at a1;simpa [or_assoc] using a1) a2
 split at h1
 ·simp only[yh,decide_eq_true_eq]at h1;obtain⟨⟨a1,a2⟩,a3⟩:=h1;rw[eX a2]at be;exact rOwn7 h.name l A cp Cn w hk hs be a1 a3
 split at h1
 ·simp only[yh,decide_eq_true_eq]at h1;obtain⟨⟨⟨a1,a2⟩,a3⟩,a4⟩:=h1;rw[eX a4]at be;exact rOwn8 h.rows l A cp Cn w hk hs be a1 a2 a3
 split at h1
 ·simp only[yh,decide_eq_true_eq]at h1;obtain⟨⟨a1,a2⟩,a3⟩:=h1;rw[eX a2]at be;exact rOwn9 l A cp Cn w hk hs be a3
 cases h1
theorem uIQ{h:NodeH}{l:List Tree}{k:Int}(hr:(Tree.mk h l).right k=true)(i:Nat)(hi:i<l.length):l[i].right h.kind=true/\(h.kind=8->l[i].h.kind=0):=by
 rw[Tree.right,yh]at hr;have key:∀ (l:List Tree) (k:Int),bK l k=true->∀ i (hi:i<l.length),l[i].right k=true/\(k=8->l[i].h.kind=0):=by
  intro l
  induction l with
  |nil=>intro k _ i hi;simp at hi
  |cons t r ih=>
   intro k hl i hi;rw[bK]at hl;simp only[yh,Bool.or_eq_true,decide_eq_true_eq]at hl;cases i with
   |zero=>exact⟨hl.1.2,fun hk=>hl.1.1.elim (fun h=>absurd hk h) id⟩
   |succ i=>exact ih k hl.2 i (by simpa using hi)
 exact key l h.kind hr.2 i hi
theorem uEN{t:Tree}{k:Int}(hr:t.right k=true)(h9:t.h.kind=9):k=4:=by
 obtain⟨h,l⟩:=t;have h9:h.kind=9:=h9;rw[Tree.right,yh]at hr;have h1:=hr.1;unfold bE at h1;rw[h9]at h1;simp at h1;exact h1.1.1
theorem rA{t:Tree}{k:Int}(hr:t.right k=true)(h8:k≠8):¬ (t.h.kind=0/\t.h.v.kind=1/\t.h.v.mant<0):=by
 obtain⟨h,l⟩:=t;rintro⟨h0,h1,h2⟩;have h0:h.kind=0:=h0;have h2:h.v.mant<0:=h2;rw[Tree.right,yh]at hr;have g:=hr.1;unfold bE cA at g;rw[if_pos h0]at g;simp[h8]at g;omega
set_option maxRecDepth 1000000 in
theorem uIN:∀ (n:Nat),n<=1000000->∀ (t:Tree) (k:Int) (b:Bool) (cs:Array Value) (w:World),t.size<=n->t.right k=true->(b=true\/t.h.kind≠9)->TreeIn w t cs->Calls Tryz.prog 30 #[.agg cs,.bool b] w fun e w'=>e=.returned (.bool true)/\Below w.heap.size w w':=by
 intro n
 induction n with
 |zero=>intro _ t _ _ _ _ hs;cases t;simp[Tree.size]at hs
 |succ n ih=>
 intro au;rintro⟨h,l⟩ k b cs w hs hr hb ht;have hKD:=fun(i:Nat) (hi:i<l.length)=>uIQ hr i hi
 have IH:=zh (fun(i:Nat) (hi:i<l.length) (b:Bool) cs W h1 h2=>ih (by omega) (l[i]'hi) h.kind b cs W (by have h9:(l[i]'hi).size<(Tree.mk h l).size:=gN (t:=.mk h l) (i:=i) hi;omega) (hKD i hi).1 h1 h2);have xi:=zh hKD;have HOWN:=zh (fun W (hb:Below w.heap.size w W)=>rOwn_ok (.mk h l) k cs W hr (by omega) (ht.kp (Kp.of_below hb)));have fs:b=true\/h.kind≠9:=hb;clear hKD hb;obtain⟨A,cp,hc,hk⟩:=ht;obtain⟨Cn,rfl⟩:∃ C:List Value,cs=C.toArray:=⟨cs.toList,by simp⟩
 have iq:Hid (l.length<=1000000):=zh (by have h1:=cV l;have h2:bB l+1<=n+1:=hs;omega);clear ih hs;dsimp only[Tree.h,Tree.l]at hk hc;have HK:=zh hk;have be:Hid (Cn.toArray=aY h A l.length cp):=zh hc;clear hk hc;generalize cf:(w.alloc (.cells Cn.toArray 41))=W1;have HL:Hid (Lies W1 w.heap.size 41 Cn.toArray):=zh (by rw[<- cf];exact Lies.new _ _ _);have HB:Hid (Below w.heap.size w W1):=zh (by rw[<- cf];exact zp _);have bu:=zh cf;clear cf;have HO:=zh (HOWN.out W1 HB.out);have HI:=zh (gR be.out);have je:=zh (HL.out.rangeL)
 go_enter Tryz.func30,Tryz.ntmps30
 go_upto_region 1 with fail
 rw[bu.out];clear bu;generalize hQ:w.heap.size=q at *
 go_cut [17] (fun v wx=>v=.bool false/\Hid (Below W1.heap.size W1 wx))
 case first=>
  go_wp2_with (first |(refine yr rfl 41 (.tmp 2) rfl q 0 rfl Cn _ je.out Tryz.underlying41 rfl HI.out ?_))
  refine HO.out.mono ?_;rintro e w2 ⟨rfl,ay⟩;have x0:=(HL.out.next ay).cell 0;rw[be.out]at x0;simp only[za,zb]at x0;rcases fs with rfl|h9
  ·go_wp2_with fail
   all_goals go_meet
   all_goals exact⟨rfl,zh ay⟩
  have h9b:(h.kind==9)=false:=by simpa using h9
  go_wp2_with fail
  go_meet
  exact⟨rfl,zh ay⟩
 case rest=>
 obtain⟨rfl,hcut⟩:=hcut;have cq:=zh (HB.out.trans (hcut.out.mono (by have:=HB.out.size;omega)));have ol:Hid (∀ W',Below wc.heap.size wc W'->W'.cell? ⟨q,0,none⟩=some (.int .i64 h.kind)/\W'.cell? ⟨q,21,none⟩=some (.slice A l.length cp)):=zh (fun W' hb=>by
  have h0:=((HL.out.next hcut.out).next hb).cell 0;have h1:=((HL.out.next hcut.out).next hb).cell 21;rw[be.out]at h0 h1;exact⟨h0,h1⟩)
 clear hcut HO je HOWN HL HB fs
 go_wp2_with fail
 go_loopw [5] (fun v wr=>∃ i:Nat,i<=l.length/\v=.int .i64 (i:Int)/\Hid (Below wc.heap.size wc wr)) (fun v _=>l.length-(intOf v).toNat)
 case atStart=>exact⟨0,zm _,rfl,zh (Below.refl _ _)⟩
 case round=>
  obtain⟨i,hi,rfl,i6⟩:=hrel;obtain⟨x0,hx⟩:=ol.out wr i6.out;by_cases hlt:i<l.length
  ·obtain⟨g,ci,rfl,si,m9⟩:=iT HK.out i hlt;have uo:=zh hlt;have hib:(i:Int)<=1000000:=by have:=iq.out;omega
   have rt:(i:Int)<(l.length:Int):=by omega
   have zi:(Tryz.prog.info? 41).map (·.size)=some ci.length:=by rw[si];exact aF
   obtain⟨b8,xv⟩:∃ x,(h.kind==8)=x:=⟨_,rfl⟩
   obtain⟨b4,lx⟩:∃ x,(h.kind==4)=x:=⟨_,rfl⟩
   have hn8:(h.kind != 8)=!b8:=by rw[<- xv];rfl
   obtain⟨kk,hkk⟩:∃ kk,l[i].h.kind=kk:=⟨_,rfl⟩
   have hk8:b8=true->kk=0:=fun e=>by rw[<- hkk];exact(xi.out i hlt).2 (by rw[e]at xv;simpa using xv)
   have hkr:l[i].right h.kind=true:=(xi.out i hlt).1;have ux:Hid (∀ W',Below wr.heap.size wr W'->W'.rangeAt g (i*22) ci/\W'.cell? ⟨g,i*22,none⟩=some (.int .i64 kk)/\Calls Tryz.prog 30 #[.agg ci.toArray,.bool b4] W' (fun e w'=>e=.returned (.bool true)/\Below W'.heap.size W' w')/\(b8=false->Calls Tryz.prog 29 #[.agg ci.toArray] W' (fun e w'=>e=.returned (.bool false)/\Below W'.heap.size W' w'))):=zh (fun W' hb=>by
    obtain⟨c1,c2⟩:=m9 W' (Kp.of_below (by rw[hQ];exact cq.out.trans ((i6.out.trans (hb.mono i6.out.size)).mono (by have:=cq.out.size;omega))));refine⟨c1,?_,?_,?_⟩
    ·obtain⟨A',rg,c3,_⟩:=c2;have h0:ci[0]?=some (.int .i64 kk):=by
      have e1:ci.toArray[0]?=_:=congrArg (fun a:Array Value=>a[0]?) c3;rw[za]at e1;rw[<- hkk,e1];rfl
     have:=c1 0 _ h0;simpa using this
    ·refine IH.out i hlt b4 ci.toArray W' ?_ c2;by_cases h9:l[i].h.kind=9
     ·left
      rw[<- lx,uEN hkr h9];rfl
     exact .inr h9
    intro e8;obtain⟨A',rg,c3,_⟩:=c2;rw[c3];exact wI _ _ _ _ _ (rA hkr (by intro e;rw[e]at xv;rw[<- xv]at e8;cases e8)))
   have HS:=zh (And.intro hn8 (And.intro lx (And.intro xv hk8)));clear m9 hkr hkk hk8 hn8
   go_upto_region 6 with fail
   clear x0 hx
   go_cut [61] (fun v wx=>v=.bool false/\Hid (Below wr.heap.size wr wx))
   case first=>
    obtain⟨TT,ae⟩:∃ TT:List (Nat×Nat×Value),TT=((0,25,.pointer (some ⟨q,0,none⟩))::(1,26,.int .i64 h.kind)::(2,27,.bool b8)::(3,28,.bool b8)::(4,29,(bif b8 then .pointer (some ⟨q,21,none⟩) else undef))::(5,30,(bif b8 then .slice (some ⟨g,0,none⟩) l.length cp else undef))::(6,31,(bif b8 then .int .i64 (i:Int) else undef))::(7,32,(bif b8 then .pointer (some ⟨g,i*22,none⟩) else undef))::(8,33,(bif b8 then .pointer (some ⟨g,i*22,none⟩) else undef))::(9,34,(bif b8 then .int .i64 0 else undef))::(10,35,(bif b8 then .bool false else undef))::(11,36,.bool false)::(12,37,.bool false)::(13,38,.pointer (some ⟨q,0,none⟩))::(14,39,.int .i64 h.kind)::(15,40,.bool (!b8))::(16,41,.bool (!b8))::(17,42,(bif b8 then undef else .pointer (some ⟨q,21,none⟩)))::(18,43,(bif b8 then undef else .slice (some ⟨g,0,none⟩) l.length cp))::(19,44,(bif b8 then undef else .int .i64 (i:Int)))::(20,45,(bif b8 then undef else .pointer (some ⟨g,i*22,none⟩)))::(21,46,(bif b8 then undef else .agg ci.toArray))::(22,47,(bif b8 then undef else .bool false))::(23,48,.bool false)::(24,49,.bool false)::(25,50,.bool false)::(26,51,.pointer (some ⟨q,21,none⟩))::(27,52,.slice (some ⟨g,0,none⟩) l.length cp)::(28,53,.int .i64 (i:Int))::(29,54,.pointer (some ⟨g,i*22,none⟩))::(30,55,.agg ci.toArray)::(31,56,.pointer (some ⟨q,0,none⟩))::(32,57,.int .i64 h.kind)::(33,58,.bool b4)::(34,59,.bool true)::(35,60,.bool false)::(36,61,.bool false)::[]):=⟨_,rfl⟩
    have am:=zh ae;clear ae;refine bC (fun a0=>62<=a0.tmps.size/\a0.eval (.tmp 2)=.pointer (some ⟨q,0,none⟩)/\a0.eval (.tmp 5)=.int .i64 (i:Int)) (25::26::27::28::29::30::31::32::33::34::35::36::37::38::39::40::41::42::43::44::45::46::47::48::49::50::51::52::53::54::55::56::57::58::59::60::61::[]) TT [] (fun w'=>Below wr.heap.size wr w') (by kernel_rfl) (by kernel_rfl) ⟨by simp,rfl,rfl⟩ ((Below.refl _ _).drew) ?_ ?_
    ·rintro a0 ⟨hs,ls,qo⟩ zl a1 w1 zj o bg hI aa ho zd;have af:Below wr.heap.size wr w1:=hI.st;have ae:=am.out;have hk:okU (TT.map fun e=>(e.1,e.2.1)) (25::26::27::28::29::30::31::32::33::34::35::36::37::38::39::40::41::42::43::44::45::46::47::48::49::50::51::52::53::54::55::56::57::58::59::60::61::[]) 62=true:=by rw[ae];rfl
     subst ae;have e2x:=aE ((hI.off.eval (by decide)).trans ls);have e5x:=aE ((hI.off.eval (by decide)).trans qo);have hj:=Up.of_false aa;have hj12:zj<37:=by rw[bg]at hj;exact hj
     have G:RG _ _ _ _ _ _ _ _ _ _ _:=⟨hk,hI,hs,aa,ho,zd⟩
     (iterate 36 rcases zq hj12 with hj12|rfl);obtain rfl:=cz hj12;all_goals obtain rfl:=oi ho
     ·exact G.nl 0 rfl (by simp[execOp,go_sem,e2x])
     ·have xq:w1.cell? ⟨q,0,none⟩=some (.int .i64 h.kind):=(ol.out _ (i6.out.trans (af.mono i6.out.size))).1;exact G.nl 1 rfl (by simp[execOp,go_sem,G.t 0 rfl,xq])
     ·exact G.nl 2 rfl (by simp[execOp,go_sem,G.t 1 rfl,HS.out.2.2.1])
     ·exact G.nl 3 rfl (by simp[execOp,go_sem,G.t 2 rfl])
     ·refine G.gv 3 4 rfl rfl rfl ?_;rintro rfl;simp[execOp,go_sem,e2x]
     ·refine G.gv 3 5 rfl rfl rfl ?_;rintro rfl;have xq:w1.cell? ⟨q,21,none⟩=some (.slice (some ⟨g,0,none⟩) l.length cp):=(ol.out _ (i6.out.trans (af.mono i6.out.size))).2;simp[execOp,go_sem,G.t 4 rfl,xq]
     ·refine G.gv 3 6 rfl rfl rfl ?_;rintro rfl;simp[execOp,go_sem,e5x]
     ·refine G.gv 3 7 rfl rfl rfl ?_;rintro rfl;simp[execOp,go_sem,G.t 5 rfl,G.t 6 rfl,rt]
     ·refine G.gv 3 8 rfl rfl rfl ?_;rintro rfl;simp[execOp,go_sem,G.t 7 rfl]
     ·have pg:=G.g 3 rfl;cases b8
      ·exact G.sk 9 rfl pg rfl
      have xq:w1.cell? ⟨g,i*22,none⟩=some (.int .i64 0):=by have h1:=(ux.out _ af).2.1;rw[HS.out.2.2.2 rfl]at h1;exact h1
      exact G.vl 9 rfl pg rfl (by simp[execOp,go_sem,G.t 8 rfl,xq])
     ·refine G.gv 3 10 rfl rfl rfl ?_;rintro rfl;simp[execOp,go_sem,G.t 9 rfl]
     ·cases b8
      all_goals have p3:=G.d 3 rfl
      all_goals have p10:=G.d 10 rfl
      all_goals exact G.nl 11 rfl (by simp[execOp,go_sem,aE p3,aE p10])
     ·exact G.nl 12 rfl (by simp[execOp,go_sem,G.t 11 rfl])
     ·have pg:=G.g 12 rfl;exact G.vl 13 rfl pg rfl (by simp[execOp,go_sem,e2x])
     ·have pg:=G.g 12 rfl;have xq:w1.cell? ⟨q,0,none⟩=some (.int .i64 h.kind):=(ol.out _ (i6.out.trans (af.mono i6.out.size))).1;exact G.vl 14 rfl pg rfl (by simp[execOp,go_sem,G.t 13 rfl,xq])
     ·have pg:=G.g 12 rfl;exact G.vl 15 rfl pg rfl (by simp[execOp,go_sem,G.t 14 rfl,HS.out.1])
     ·have pg:=G.g 12 rfl;exact G.vl 16 rfl pg rfl (by simp[execOp,go_sem,G.t 15 rfl])
     ·refine G.gz 16 17 rfl rfl rfl ?_;rintro rfl;simp[execOp,go_sem,e2x]
     ·refine G.gz 16 18 rfl rfl rfl ?_;rintro rfl;have xq:w1.cell? ⟨q,21,none⟩=some (.slice (some ⟨g,0,none⟩) l.length cp):=(ol.out _ (i6.out.trans (af.mono i6.out.size))).2;simp[execOp,go_sem,G.t 17 rfl,xq]
     ·refine G.gz 16 19 rfl rfl rfl ?_;rintro rfl;simp[execOp,go_sem,e5x]
     ·refine G.gz 16 20 rfl rfl rfl ?_;rintro rfl;simp[execOp,go_sem,G.t 18 rfl,G.t 19 rfl,rt]
     ·refine G.gz 16 21 rfl rfl rfl ?_;rintro rfl;have p20:=G.d 20 rfl;exact aL 41 (.tmp 45) rfl _ _ p20 _ _ (ux.out _ af).1 Tryz.underlying41 rfl zi
     ·have pg:=G.g 16 rfl;cases b8
      ·refine cR (inT 22 rfl) hk hI hs aa ho zd (Eq.trans (aH rfl rfl rfl pg) rfl) rfl 29 #[.agg ci.toArray] (by simp[go_sem,G.t 21 rfl]) ?_;refine((ux.out _ af).2.2.2 rfl).mono ?_;rintro e w2 ⟨rfl,hb⟩;exact⟨rfl,af.trans (hb.mono af.size)⟩
      exact G.sk 22 rfl pg rfl
     ·cases b8
      all_goals have pg:=G.g 12 rfl
      all_goals have p16:=G.d 16 rfl
      all_goals have p22:=G.d 22 rfl
      all_goals exact G.vl 23 rfl pg rfl (by simp[execOp,go_sem,aE p16,aE p22])
     ·exact G.nl 24 rfl (by simp[execOp,go_sem,G.t 12 rfl,G.t 23 rfl])
     ·exact G.nl 25 rfl (by simp[execOp,go_sem,G.t 24 rfl])
     ·have pg:=G.g 25 rfl;exact G.vl 26 rfl pg rfl (by simp[execOp,go_sem,e2x])
     ·have pg:=G.g 25 rfl;have xq:w1.cell? ⟨q,21,none⟩=some (.slice (some ⟨g,0,none⟩) l.length cp):=(ol.out _ (i6.out.trans (af.mono i6.out.size))).2;exact G.vl 27 rfl pg rfl (by simp[execOp,go_sem,G.t 26 rfl,xq])
     ·have pg:=G.g 25 rfl;exact G.vl 28 rfl pg rfl (by simp[execOp,go_sem,e5x])
     ·have pg:=G.g 25 rfl;exact G.vl 29 rfl pg rfl (by simp[execOp,go_sem,G.t 27 rfl,G.t 28 rfl,rt])
     ·have pg:=G.g 25 rfl;have p29:=G.d 29 rfl;exact G.vl 30 rfl pg rfl (aL 41 (.tmp 54) rfl _ _ p29 _ _ (ux.out _ af).1 Tryz.underlying41 rfl zi)
     ·have pg:=G.g 25 rfl;exact G.vl 31 rfl pg rfl (by simp[execOp,go_sem,e2x])
     ·have pg:=G.g 25 rfl;have xq:w1.cell? ⟨q,0,none⟩=some (.int .i64 h.kind):=(ol.out _ (i6.out.trans (af.mono i6.out.size))).1;exact G.vl 32 rfl pg rfl (by simp[execOp,go_sem,G.t 31 rfl,xq])
     ·have pg:=G.g 25 rfl;exact G.vl 33 rfl pg rfl (by simp[execOp,go_sem,G.t 32 rfl,HS.out.2.1])
     ·have pg:=G.g 25 rfl;refine cR (inT 34 rfl) hk hI hs aa ho zd (Eq.trans (aH rfl rfl rfl pg) rfl) rfl 30 #[.agg ci.toArray,.bool b4] (by simp[go_sem,G.t 30 rfl,G.t 33 rfl]) ?_;refine(ux.out _ af).2.2.1.mono ?_;rintro e w2 ⟨rfl,hb⟩;exact⟨rfl,af.trans (hb.mono af.size)⟩
     ·have pg:=G.g 25 rfl;exact G.vl 35 rfl pg rfl (by simp[execOp,go_sem,G.t 34 rfl])
     exact G.nl 36 rfl (by simp[execOp,go_sem,G.t 25 rfl,G.t 35 rfl])
    intro zl a1 w1 hI ap;have af:Below wr.heap.size wr w1:=hI.st;have ae:=am.out;subst ae;have z61:=hI.ptk 36 rfl (ap 36 (by decide));obtain⟨ff,rfl,hf⟩:=hI.off.forms;rw[<- hf 61]at z61;clear hI;simp only[List.foldl,Act.put,yz,List.set];rw[z61];simp only[Exit.then]
    go_step
    go_meet
    exact⟨rfl,zh af⟩
   case rest=>
    obtain⟨rfl,hcut⟩:=hcut;have ri:=zh (i6.out.trans (hcut.out.mono i6.out.size));clear hcut ux HS
    go_wp2_with fail
    go_roundw
    case rel=>exact⟨i+1,by have:=uo.out;omega,by go_num,ri⟩
    case measure=>have:=uo.out;simp[intOf];omega
  have zz:¬ ((i:Int)<(l.length:Int)):=by omega
  go_wp2_with fail
  go_ret
  have h2:Below q w wr:=cq.out.trans (i6.out.mono (by have:=cq.out.size;omega));exact⟨rfl,by first|exact h2 |(rw[hQ];exact h2)⟩
theorem xS{t:Tree}(hr:t.right 6=true):dE t=if 256<t.size then 5 else if 32<t.depth then 8 else 0:=by
 unfold dE;rw[hr,if_pos rfl]
set_option maxRecDepth 1000000 in
theorem uIL(t:Tree)(cs:Array Value)(w:World)(hr:t.right 6=true)(hs:t.size<=1000000)(ht:TreeIn w t cs) :
  Calls Tryz.prog 13 #[.agg cs] w fun e w'=>e=.returned (.int .i64 (dE t:Nat))/\Below w.heap.size w w':=by
 rw[xS hr];have HTI:=zh (fun W (hb:Below w.heap.size w W)=>ht.kp (Kp.of_below hb));have c8:=zh hs;have HR:=zh hr;have HDB:=zh (nP t);have HBL:Hid (∀ A n c W,Calls Tryz.prog 29 #[dA t.h A n c] W fun e w'=>e=.returned (.bool false)/\Below W.heap.size W w'):=zh (fun A n c W=>wI _ _ _ _ _ (rA hr (by decide)));have mj:Hid (t.h.kind≠9):=zh (tX hr);obtain⟨A,cp,hc,hk⟩:=ht;obtain⟨Cn,rfl⟩:∃ C:List Value,cs=C.toArray:=⟨cs.toList,by simp⟩
 have be:Hid (Cn.toArray=aY t.h A t.l.length cp):=zh hc;clear hk hc hs hr;generalize cf:(w.alloc (.cells Cn.toArray 41))=W1;have HL:Hid (Lies W1 w.heap.size 41 Cn.toArray):=zh (by rw[<- cf];exact Lies.new _ _ _);have HB:Hid (Below w.heap.size w W1):=zh (by rw[<- cf];exact zp _);have bu:=zh cf;clear cf;have HI:=zh (gR be.out);have je:=zh (HL.out.rangeL);have fa:=zh (tV 1000000 zr t Cn.toArray W1 c8.out (HTI.out W1 HB.out));have HSB:Hid ((t.size:Int)<=1000000):=zh (by have:=c8.out;omega)
 go_enter Tryz.func13,Tryz.ntmps13
 go_upto_region 1 with fail
 rw[bu.out];clear bu;generalize hQ:w.heap.size=q at *
 go_wp2_with (first |(refine yr rfl 41 (.tmp 1) rfl q 0 rfl Cn _ je.out Tryz.underlying41 rfl HI.out ?_))
 refine fa.out.mono ?_;rintro e w2 ⟨A2,c2,xs,rfl,ho2,sy,ay⟩;have cq:=zh (HB.out.trans (ay.mono (by have:=HB.out.size;omega)));have jt:=zh (HL.out.next ay);clear ay fa je HL HB ho2 sy;have je:=zh (jt.out.rangeL);have HC2:=zh (uEG 1000000 zr t Cn.toArray w2 c8.out (HTI.out w2 cq.out));by_cases sj:256<t.size
 ·have h1:(256:Int)<(t.size:Int):=by omega
  go_wp2_with fail
  go_ret
  try rw[if_pos sj]
  exact⟨rfl,by first|exact cq.out |(rw[hQ];exact cq.out)⟩
 have h1:¬ (256:Int)<(t.size:Int):=by omega
 go_wp2_with (first |(refine yr rfl 41 (.tmp 1) rfl q 0 rfl Cn _ je.out Tryz.underlying41 rfl HI.out ?_))
 refine HC2.out.mono ?_;rintro e w3 ⟨rfl,b9⟩;have aq:=zh (cq.out.trans (b9.mono (by have:=cq.out.size;omega)));have tw:=zh (jt.out.next b9);clear b9 HC2 je jt cq;have je:=zh (tw.out.rangeL);have HC3:=zh (HBL.out A t.l.length cp w3);rw[show dA t.h A t.l.length cp=.agg Cn.toArray by rw[be.out]]at HC3;by_cases ub:32<t.depth
 ·have h2:(32:Int)<(t.depth:Int):=by omega
  go_wp2_with fail
  go_ret
  try rw[if_neg sj,if_pos ub]
  exact⟨rfl,by first|exact aq.out |(rw[hQ];exact aq.out)⟩
 have h2:¬ (32:Int)<(t.depth:Int):=by omega
 go_wp2_with (first |(refine yr rfl 41 (.tmp 1) rfl q 0 rfl Cn _ je.out Tryz.underlying41 rfl HI.out ?_))
 refine HC3.out.mono ?_;rintro e w4 ⟨rfl,lx⟩;have cn:=zh (aq.out.trans (lx.mono (by have:=aq.out.size;omega)));have HL4:=zh (tw.out.next lx);clear lx HC3 je tw aq;have je:=zh (HL4.out.rangeL);have HC4:=zh (uIN 1000000 zr t 6 false Cn.toArray w4 c8.out HR.out (.inr mj.out) (HTI.out w4 cn.out))
 go_wp2_with (first |(refine aR (Eq.trans (aH rfl rfl rfl rfl) rfl) 41 (.tmp 1) rfl q 0 rfl Cn _ je.out Tryz.underlying41 rfl HI.out ?_))
 refine HC4.out.mono ?_;rintro e w5 ⟨rfl,ij⟩;have de:=zh (cn.out.trans (ij.mono (by have:=cn.out.size;omega)));clear ij
 go_wp2_with fail
 go_ret
 try rw[if_neg sj,if_neg ub]
 exact⟨rfl,by first|exact de.out |(rw[hQ];exact de.out)⟩
end Go.Proofs.YtmgjidnalpgegaaGreatDoor
