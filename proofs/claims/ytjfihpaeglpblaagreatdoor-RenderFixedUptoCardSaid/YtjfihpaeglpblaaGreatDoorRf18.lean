/-
  Lemmas, part 18: RmE RmF RkL RmG.
-/
import Derived.Test.YtjfihpaeglpblaaGreatDoorRf17
set_option maxHeartbeats 100000000
set_option maxRecDepth 1000000
namespace Go.Proofs.YtjfihpaeglpblaaGreatDoor
open Go.RowKit
theorem rOwnG0(v:Val)(s:Bs)(a b:Cor)(r:Int)(l:List Tree)(A:Option Addr)(cp:Nat)(Cn:List Value)(w:World)(hk:KidsOk w [] A l)(hs:(Tree.mk ⟨0,v,s,a,b,r⟩ l).size<=1000000)(ai:Hid (Cn.toArray=aH ⟨0,v,s,a,b,r⟩ A l.length cp))(hv:-9223372036854775808<=v.mant/\v.mant<=9223372036854775807/\v.text.length<=1000000) :
  Calls Tryz.prog 87 #[.agg Cn.toArray] w fun e w'=>e=.returned (.bool (((decide (v.kind≠0)&&aR v)&&decide (l.length=0))&&NodeH.same ⟨0,v,[],aN,aN,0⟩ ⟨0,v,s,a,b,r⟩))/\Below w.heap.size w w':=by
 obtain⟨sm,fh⟩:∃ c,NodeH.same ⟨0,v,[],aN,aN,0⟩ ⟨0,v,s,a,b,r⟩=c:=⟨_,rfl⟩
 have me:=zh fh;rw[fh];clear fh;have uc:=zh (fun W=>rLit_any v W hv.1 hv.2.1 hv.2.2);generalize (decide (v.kind≠0)&&aR v)=b1 at *;clear hv;have ct:=zh hs;clear hs;have HK:=zh hk;clear hk;have pz:l.length<=1000000:=by have h1:=bS l;have h2:aM l+1<=1000000:=ct.out;omega
 obtain⟨W1,Cm,Ck,al,HL,HB,ew,el,iw,HT,yo,co,bm,bv,bi,eh⟩:=dD 0 (A) l.length cp ⟨0,v,[],aN,aN,0⟩ Cn w;have x0:=HL.out.cell 0;have x21:=HL.out.cell 21;rw[ai.out]at x0 x21;simp only[za,zb,zf]at x0 x21
 go_in
 go_upto_region 1 with fail
 rw[al.out];clear al;generalize hQ:w.heap.size=q at *
 go_upto_region 2 with(first |(refine yq rfl 34 (.tmp 3) (.tmp 9) rfl W1.heap.size 0 Cm.toArray rfl (congrArg Value.agg el.out) HT.out co.out yo.out ?_;change wpList _ _ _ _ _ (World.setCells _ W1.heap.size 0 Cm)))
 generalize World.setCells _ _ _ _=W3 at bm bv bi ⊢;rw[el.out];clear x0 x21;have cr:=ew.out;generalize W1.heap.size=q1 at *;subst cr;clear HL HB ew el HT yo co;have x0:=bv.out.cell 0;have x1:=bv.out.cell 1;have x2:=bv.out.cell 2;have x3:=bv.out.cell 3;have x4:=bv.out.cell 4;have x5:=bv.out.cell 5;have x6:=bv.out.cell 6;rw[ai.out]at x0 x1 x2 x3 x4 x5 x6;simp only[za,zb,zf]at x0 x1 x2 x3 x4 x5 x6;have y1:=bm.out.cell 1;have yf1:=bm.out.frozen 1;have y2:=bm.out.cell 2;have yf2:=bm.out.frozen 2;have y3:=bm.out.cell 3;have yf3:=bm.out.frozen 3;have y4:=bm.out.cell 4;have yf4:=bm.out.frozen 4;have y5:=bm.out.cell 5;have yf5:=bm.out.frozen 5;have y6:=bm.out.cell 6;have yf6:=bm.out.frozen 6;rw[iw.out]at y1 y2 y3 y4 y5 y6
 simp only[za,zb,zf]at y1 y2 y3 y4 y5 y6
 go_upto_region 6 with fail
 clear x0 x1 x2 x3 x4 x5 x6;clear y1 y2 y3 y4 y5 y6 yf1 yf2 yf3 yf4 yf5 yf6;have fq:=bm.out;rw[iw.out]at fq;have db:Hid (Lies _ (q+1) 34 Ck.toArray):=zh (by rw[eh.out];exact((((((fq.put 1 (vI v.kind)).put 2 (vI v.mant)).put 3 (vI v.exp)).put 4 (vT v.text)).put 5 (.bool v.truth)).put 6 (vI v.fault)));have an:=zh (aB (aB (aB (aB (aB (aB bv.out (b:=q+1) (by omega) 1 (vI v.kind)) (b:=q+1) (by omega) 2 (vI v.mant)) (b:=q+1) (by omega) 3 (vI v.exp)) (b:=q+1) (by omega) 4 (vT v.text)) (b:=q+1) (by omega) 5 (.bool v.truth)) (b:=q+1) (by omega) 6 (vI v.fault))
 have bt:=zh ((((((bi.out.setCell (p:=⟨q+1,1,none⟩) (Nat.le_succ q) (vI v.kind)).setCell (p:=⟨q+1,2,none⟩) (Nat.le_succ q) (vI v.mant)).setCell (p:=⟨q+1,3,none⟩) (Nat.le_succ q) (vI v.exp)).setCell (p:=⟨q+1,4,none⟩) (Nat.le_succ q) (vT v.text)).setCell (p:=⟨q+1,5,none⟩) (Nat.le_succ q) (.bool v.truth)).setCell (p:=⟨q+1,6,none⟩) (Nat.le_succ q) (vI v.fault));generalize World.setCell _ _ _=W4 at db an bt ⊢;clear bm bv bi fq;have x1:=an.out.cell 1;have x2:=an.out.cell 2;have x3:=an.out.cell 3;have x4:=an.out.cell 4;have x5:=an.out.cell 5;have x6:=an.out.cell 6;have x21:=an.out.cell 21;rw[ai.out]at x1 x2 x3 x4 x5 x6 x21;simp only[za,zb,zf]at x1 x2 x3 x4 x5 x6 x21
 go_wp2_with fail
 refine(uc.out _).mono ?_;rintro e w5 ⟨rfl,f8⟩;clear uc;clear x1 x2 x3 x4 x5 x6 x21;have bk:=zh (bt.out.trans (f8.mono (by have:=bt.out.size;omega)));have ls:=zh (db.out.next f8);have ik:=zh (an.out.next f8);clear f8;have z21:=ik.out.cell 21;rw[ai.out]at z21;simp only[za,zb,zf]at z21;cases b1
 ·go_wp2_with fail
  go_ret
  exact⟨aA (by rfl;try simp),by first|exact bk.out |(rw[hQ];exact bk.out)⟩
 by_cases hl:l.length=0
 ·have ed:((l.length:Int)==0)=true:=by rw[hl];rfl
  have hd:decide (l.length=0)=true:=decide_eq_true hl;clear hl;have mf:=zh (ls.out.rangeL);have ij:=zh (ik.out.rangeL);have HI:=zh (cA ai.out);have i5:=zh (cA eh.out);have eu:=zh (cG 1000000 zr (.mk ⟨0,v,[],aN,aN,0⟩ l) (.mk ⟨0,v,s,a,b,r⟩ l) _ _ w5 ct.out ⟨A,cp,eh.out,HK.out.kp (Kp.of_below (by rw[hQ];exact bk.out))⟩ ⟨A,cp,ai.out,HK.out.kp (Kp.of_below (by rw[hQ];exact bk.out))⟩);rw[cT,me.out]at eu
  go_wp2_with (first |(refine aI (Eq.trans (aQ rfl rfl rfl rfl) rfl) 34 (.tmp 3) rfl (q+1) 0 rfl Ck _ mf.out Tryz.underlying34 rfl i5.out ?_) |(refine aI (Eq.trans (aQ rfl rfl rfl rfl) rfl) 34 (.tmp 1) rfl q 0 rfl Cn _ ij.out Tryz.underlying34 rfl HI.out ?_))
  refine eu.out.mono ?_;rintro e w9 ⟨rfl,gr⟩;have iq:=zh (bk.out.trans (gr.mono (by have:=bk.out.size;omega)));clear gr
  go_wp2_with fail
  go_ret
  exact⟨aA (by rw[hd];try simp),by first|exact iq.out |(rw[hQ];exact iq.out)⟩
 have ed:((l.length:Int)==0)=false:=by rw[beq_eq_false_iff_ne];omega
 have hd:decide (l.length=0)=false:=decide_eq_false hl;clear hl
 go_wp2_with fail
 go_ret
 exact⟨aA (by rw[hd];try simp),by first|exact bk.out |(rw[hQ];exact bk.out)⟩
theorem rOwnG1(v:Val)(s:Bs)(a b:Cor)(r:Int)(l:List Tree)(A:Option Addr)(cp:Nat)(Cn:List Value)(w:World)(hk:KidsOk w [] A l)(hs:(Tree.mk ⟨1,v,s,a,b,r⟩ l).size<=1000000)(ai:Hid (Cn.toArray=aH ⟨1,v,s,a,b,r⟩ A l.length cp)) :
  Calls Tryz.prog 87 #[.agg Cn.toArray] w fun e w'=>e=.returned (.bool (((decide (a.row≠id0)&&decide (a.col≠id0))&&decide (l.length=0))&&NodeH.same ⟨1,aD,[],a,aN,0⟩ ⟨1,v,s,a,b,r⟩))/\Below w.heap.size w w':=by
 obtain⟨sm,fh⟩:∃ c,NodeH.same ⟨1,aD,[],a,aN,0⟩ ⟨1,v,s,a,b,r⟩=c:=⟨_,rfl⟩
 have me:=zh fh;rw[fh];clear fh;have HO:=zh (fun W=>mT a W);generalize (decide (a.row≠id0)&&decide (a.col≠id0))=b1 at *;have ct:=zh hs;clear hs;have HK:=zh hk;clear hk;have pz:l.length<=1000000:=by have h1:=bS l;have h2:aM l+1<=1000000:=ct.out;omega
 obtain⟨W1,Cm,Ck,al,HL,HB,ew,el,iw,HT,yo,co,bm,bv,bi,eh⟩:=dD 1 (A) l.length cp ⟨1,aD,[],a,aN,0⟩ Cn w;have x0:=HL.out.cell 0;have x21:=HL.out.cell 21;rw[ai.out]at x0 x21;simp only[za,zb,zf]at x0 x21
 go_in
 go_upto_region 1 with fail
 rw[al.out];clear al;generalize hQ:w.heap.size=q at *
 go_upto_region 2 with(first |(refine yq rfl 34 (.tmp 3) (.tmp 9) rfl W1.heap.size 0 Cm.toArray rfl (congrArg Value.agg el.out) HT.out co.out yo.out ?_;change wpList _ _ _ _ _ (World.setCells _ W1.heap.size 0 Cm)))
 generalize World.setCells _ _ _ _=W3 at bm bv bi ⊢;rw[el.out];clear x0 x21;have cr:=ew.out;generalize W1.heap.size=q1 at *;subst cr;clear HL HB ew el HT yo co;have x0:=bv.out.cell 0;have x8:=bv.out.cell 8;have x9:=bv.out.cell 9;have x10:=bv.out.cell 10;have x11:=bv.out.cell 11;have x12:=bv.out.cell 12;have x13:=bv.out.cell 13;rw[ai.out]at x0 x8 x9 x10 x11 x12 x13;simp only[za,zb,zf]at x0 x8 x9 x10 x11 x12 x13;have y8:=bm.out.cell 8;have yf8:=bm.out.frozen 8;have y9:=bm.out.cell 9;have yf9:=bm.out.frozen 9;have y10:=bm.out.cell 10;have yf10:=bm.out.frozen 10;have y11:=bm.out.cell 11;have yf11:=bm.out.frozen 11;have y12:=bm.out.cell 12;have yf12:=bm.out.frozen 12;have y13:=bm.out.cell 13;have yf13:=bm.out.frozen 13;rw[iw.out]at y8 y9 y10 y11 y12 y13
 simp only[za,zb,zf]at y8 y9 y10 y11 y12 y13
 go_upto_region 10 with fail
 clear x0 x8 x9 x10 x11 x12 x13;clear y8 y9 y10 y11 y12 y13 yf8 yf9 yf10 yf11 yf12 yf13;have fq:=bm.out;rw[iw.out]at fq;have db:Hid (Lies _ (q+1) 34 Ck.toArray):=zh (by rw[eh.out];exact((((((fq.put 8 (vI a.row.a)).put 9 (vI a.row.n)).put 10 (vI a.col.a)).put 11 (vI a.col.n)).put 12 (.bool a.fr)).put 13 (.bool a.fc)));have an:=zh (aB (aB (aB (aB (aB (aB bv.out (b:=q+1) (by omega) 8 (vI a.row.a)) (b:=q+1) (by omega) 9 (vI a.row.n)) (b:=q+1) (by omega) 10 (vI a.col.a)) (b:=q+1) (by omega) 11 (vI a.col.n)) (b:=q+1) (by omega) 12 (.bool a.fr)) (b:=q+1) (by omega) 13 (.bool a.fc))
 have bt:=zh ((((((bi.out.setCell (p:=⟨q+1,8,none⟩) (Nat.le_succ q) (vI a.row.a)).setCell (p:=⟨q+1,9,none⟩) (Nat.le_succ q) (vI a.row.n)).setCell (p:=⟨q+1,10,none⟩) (Nat.le_succ q) (vI a.col.a)).setCell (p:=⟨q+1,11,none⟩) (Nat.le_succ q) (vI a.col.n)).setCell (p:=⟨q+1,12,none⟩) (Nat.le_succ q) (.bool a.fr)).setCell (p:=⟨q+1,13,none⟩) (Nat.le_succ q) (.bool a.fc));generalize World.setCell _ _ _=W4 at db an bt ⊢;clear bm bv bi fq;have x8:=an.out.cell 8;have x9:=an.out.cell 9;have x10:=an.out.cell 10;have x11:=an.out.cell 11;have x12:=an.out.cell 12;have x13:=an.out.cell 13;have x21:=an.out.cell 21;rw[ai.out]at x8 x9 x10 x11 x12 x13 x21;simp only[za,zb,zf]at x8 x9 x10 x11 x12 x13 x21
 go_wp2_with fail
 refine(HO.out _).mono ?_;rintro e w5 ⟨rfl,f8⟩;clear x8 x9 x10 x11 x12 x13 x21;clear HO;have bk:=zh (bt.out.trans (f8.mono (by have:=bt.out.size;omega)));have ls:=zh (db.out.next f8);have ik:=zh (an.out.next f8);clear f8;have z21:=ik.out.cell 21;rw[ai.out]at z21;simp only[za,zb,zf]at z21;cases b1
 ·go_wp2_with fail
  go_ret
  exact⟨aA (by rfl;try simp),by first|exact bk.out |(rw[hQ];exact bk.out)⟩
 by_cases hl:l.length=0
 ·have ed:((l.length:Int)==0)=true:=by rw[hl];rfl
  have hd:decide (l.length=0)=true:=decide_eq_true hl;clear hl;have mf:=zh (ls.out.rangeL);have ij:=zh (ik.out.rangeL);have HI:=zh (cA ai.out);have i5:=zh (cA eh.out);have eu:=zh (cG 1000000 zr (.mk ⟨1,aD,[],a,aN,0⟩ l) (.mk ⟨1,v,s,a,b,r⟩ l) _ _ w5 ct.out ⟨A,cp,eh.out,HK.out.kp (Kp.of_below (by rw[hQ];exact bk.out))⟩ ⟨A,cp,ai.out,HK.out.kp (Kp.of_below (by rw[hQ];exact bk.out))⟩);rw[cT,me.out]at eu
  go_wp2_with (first |(refine aI (Eq.trans (aQ rfl rfl rfl rfl) rfl) 34 (.tmp 3) rfl (q+1) 0 rfl Ck _ mf.out Tryz.underlying34 rfl i5.out ?_) |(refine aI (Eq.trans (aQ rfl rfl rfl rfl) rfl) 34 (.tmp 1) rfl q 0 rfl Cn _ ij.out Tryz.underlying34 rfl HI.out ?_))
  refine eu.out.mono ?_;rintro e w9 ⟨rfl,gr⟩;have iq:=zh (bk.out.trans (gr.mono (by have:=bk.out.size;omega)));clear gr
  go_wp2_with fail
  go_ret
  exact⟨aA (by rw[hd];try simp),by first|exact iq.out |(rw[hQ];exact iq.out)⟩
 have ed:((l.length:Int)==0)=false:=by rw[beq_eq_false_iff_ne];omega
 have hd:decide (l.length=0)=false:=decide_eq_false hl;clear hl
 go_wp2_with fail
 go_ret
 exact⟨aA (by rw[hd];try simp),by first|exact bk.out |(rw[hQ];exact bk.out)⟩
theorem rOwnG3(v:Val)(s:Bs)(a b:Cor)(r:Int)(l:List Tree)(A:Option Addr)(cp:Nat)(Cn:List Value)(w:World)(hk:KidsOk w [] A l)(hs:(Tree.mk ⟨3,v,s,a,b,r⟩ l).size<=1000000)(ai:Hid (Cn.toArray=aH ⟨3,v,s,a,b,r⟩ A l.length cp)) :
  Calls Tryz.prog 87 #[.agg Cn.toArray] w fun e w'=>e=.returned (.bool (((decide (a.row≠id0)&&decide (a.col≠id0))&&decide (l.length=0))&&NodeH.same ⟨3,aD,[],a,aN,0⟩ ⟨3,v,s,a,b,r⟩))/\Below w.heap.size w w':=by
 obtain⟨sm,fh⟩:∃ c,NodeH.same ⟨3,aD,[],a,aN,0⟩ ⟨3,v,s,a,b,r⟩=c:=⟨_,rfl⟩
 have me:=zh fh;rw[fh];clear fh;have HO:=zh (fun W=>mT a W);generalize (decide (a.row≠id0)&&decide (a.col≠id0))=b1 at *;have ct:=zh hs;clear hs;have HK:=zh hk;clear hk;have pz:l.length<=1000000:=by have h1:=bS l;have h2:aM l+1<=1000000:=ct.out;omega
 obtain⟨W1,Cm,Ck,al,HL,HB,ew,el,iw,HT,yo,co,bm,bv,bi,eh⟩:=dD 3 (A) l.length cp ⟨3,aD,[],a,aN,0⟩ Cn w;have x0:=HL.out.cell 0;have x21:=HL.out.cell 21;rw[ai.out]at x0 x21;simp only[za,zb,zf]at x0 x21
 go_in
 go_upto_region 1 with fail
 rw[al.out];clear al;generalize hQ:w.heap.size=q at *
 go_upto_region 2 with(first |(refine yq rfl 34 (.tmp 3) (.tmp 9) rfl W1.heap.size 0 Cm.toArray rfl (congrArg Value.agg el.out) HT.out co.out yo.out ?_;change wpList _ _ _ _ _ (World.setCells _ W1.heap.size 0 Cm)))
 generalize World.setCells _ _ _ _=W3 at bm bv bi ⊢;rw[el.out];clear x0 x21;have cr:=ew.out;generalize W1.heap.size=q1 at *;subst cr;clear HL HB ew el HT yo co;have x0:=bv.out.cell 0;have x8:=bv.out.cell 8;have x9:=bv.out.cell 9;have x10:=bv.out.cell 10;have x11:=bv.out.cell 11;have x12:=bv.out.cell 12;have x13:=bv.out.cell 13;rw[ai.out]at x0 x8 x9 x10 x11 x12 x13;simp only[za,zb,zf]at x0 x8 x9 x10 x11 x12 x13;have y8:=bm.out.cell 8;have yf8:=bm.out.frozen 8;have y9:=bm.out.cell 9;have yf9:=bm.out.frozen 9;have y10:=bm.out.cell 10;have yf10:=bm.out.frozen 10;have y11:=bm.out.cell 11;have yf11:=bm.out.frozen 11;have y12:=bm.out.cell 12;have yf12:=bm.out.frozen 12;have y13:=bm.out.cell 13;have yf13:=bm.out.frozen 13;rw[iw.out]at y8 y9 y10 y11 y12 y13
 simp only[za,zb,zf]at y8 y9 y10 y11 y12 y13
 go_upto_region 10 with fail
 clear x0 x8 x9 x10 x11 x12 x13;clear y8 y9 y10 y11 y12 y13 yf8 yf9 yf10 yf11 yf12 yf13;have fq:=bm.out;rw[iw.out]at fq;have db:Hid (Lies _ (q+1) 34 Ck.toArray):=zh (by rw[eh.out];exact((((((fq.put 8 (vI a.row.a)).put 9 (vI a.row.n)).put 10 (vI a.col.a)).put 11 (vI a.col.n)).put 12 (.bool a.fr)).put 13 (.bool a.fc)));have an:=zh (aB (aB (aB (aB (aB (aB bv.out (b:=q+1) (by omega) 8 (vI a.row.a)) (b:=q+1) (by omega) 9 (vI a.row.n)) (b:=q+1) (by omega) 10 (vI a.col.a)) (b:=q+1) (by omega) 11 (vI a.col.n)) (b:=q+1) (by omega) 12 (.bool a.fr)) (b:=q+1) (by omega) 13 (.bool a.fc))
 have bt:=zh ((((((bi.out.setCell (p:=⟨q+1,8,none⟩) (Nat.le_succ q) (vI a.row.a)).setCell (p:=⟨q+1,9,none⟩) (Nat.le_succ q) (vI a.row.n)).setCell (p:=⟨q+1,10,none⟩) (Nat.le_succ q) (vI a.col.a)).setCell (p:=⟨q+1,11,none⟩) (Nat.le_succ q) (vI a.col.n)).setCell (p:=⟨q+1,12,none⟩) (Nat.le_succ q) (.bool a.fr)).setCell (p:=⟨q+1,13,none⟩) (Nat.le_succ q) (.bool a.fc));generalize World.setCell _ _ _=W4 at db an bt ⊢;clear bm bv bi fq;have x8:=an.out.cell 8;have x9:=an.out.cell 9;have x10:=an.out.cell 10;have x11:=an.out.cell 11;have x12:=an.out.cell 12;have x13:=an.out.cell 13;have x21:=an.out.cell 21;rw[ai.out]at x8 x9 x10 x11 x12 x13 x21;simp only[za,zb,zf]at x8 x9 x10 x11 x12 x13 x21
 go_wp2_with fail
 refine(HO.out _).mono ?_;rintro e w5 ⟨rfl,f8⟩;clear x8 x9 x10 x11 x12 x13 x21;clear HO;have bk:=zh (bt.out.trans (f8.mono (by have:=bt.out.size;omega)));have ls:=zh (db.out.next f8);have ik:=zh (an.out.next f8);clear f8;have z21:=ik.out.cell 21;rw[ai.out]at z21;simp only[za,zb,zf]at z21;cases b1
 ·go_wp2_with fail
  go_ret
  exact⟨aA (by rfl;try simp),by first|exact bk.out |(rw[hQ];exact bk.out)⟩
 by_cases hl:l.length=0
 ·have ed:((l.length:Int)==0)=true:=by rw[hl];rfl
  have hd:decide (l.length=0)=true:=decide_eq_true hl;clear hl;have mf:=zh (ls.out.rangeL);have ij:=zh (ik.out.rangeL);have HI:=zh (cA ai.out);have i5:=zh (cA eh.out);have eu:=zh (cG 1000000 zr (.mk ⟨3,aD,[],a,aN,0⟩ l) (.mk ⟨3,v,s,a,b,r⟩ l) _ _ w5 ct.out ⟨A,cp,eh.out,HK.out.kp (Kp.of_below (by rw[hQ];exact bk.out))⟩ ⟨A,cp,ai.out,HK.out.kp (Kp.of_below (by rw[hQ];exact bk.out))⟩);rw[cT,me.out]at eu
  go_wp2_with (first |(refine aI (Eq.trans (aQ rfl rfl rfl rfl) rfl) 34 (.tmp 3) rfl (q+1) 0 rfl Ck _ mf.out Tryz.underlying34 rfl i5.out ?_) |(refine aI (Eq.trans (aQ rfl rfl rfl rfl) rfl) 34 (.tmp 1) rfl q 0 rfl Cn _ ij.out Tryz.underlying34 rfl HI.out ?_))
  refine eu.out.mono ?_;rintro e w9 ⟨rfl,gr⟩;have iq:=zh (bk.out.trans (gr.mono (by have:=bk.out.size;omega)));clear gr
  go_wp2_with fail
  go_ret
  exact⟨aA (by rw[hd];try simp),by first|exact iq.out |(rw[hQ];exact iq.out)⟩
 have ed:((l.length:Int)==0)=false:=by rw[beq_eq_false_iff_ne];omega
 have hd:decide (l.length=0)=false:=decide_eq_false hl;clear hl
 go_wp2_with fail
 go_ret
 exact⟨aA (by rw[hd];try simp),by first|exact bk.out |(rw[hQ];exact bk.out)⟩
theorem rOwnG2(v:Val)(s:Bs)(a b:Cor)(r:Int)(l:List Tree)(A:Option Addr)(cp:Nat)(Cn:List Value)(w:World)(hk:KidsOk w [] A l)(hs:(Tree.mk ⟨2,v,s,a,b,r⟩ l).size<=1000000)(ai:Hid (Cn.toArray=aH ⟨2,v,s,a,b,r⟩ A l.length cp)) :
  Calls Tryz.prog 87 #[.agg Cn.toArray] w fun e w'=>e=.returned (.bool ((bM a b&&decide (l.length=0))&&NodeH.same ⟨2,aD,[],a,b,0⟩ ⟨2,v,s,a,b,r⟩))/\Below w.heap.size w w':=by
 obtain⟨sm,fh⟩:∃ c,NodeH.same ⟨2,aD,[],a,b,0⟩ ⟨2,v,s,a,b,r⟩=c:=⟨_,rfl⟩
 have me:=zh fh;rw[fh];clear fh;have HO:=zh (fun W=>uFB a b W);generalize bM a b=b1 at *;have ct:=zh hs;clear hs;have HK:=zh hk;clear hk;have pz:l.length<=1000000:=by have h1:=bS l;have h2:aM l+1<=1000000:=ct.out;omega
 obtain⟨W1,Cm,Ck,al,HL,HB,ew,el,iw,HT,yo,co,bm,bv,bi,eh⟩:=dD 2 (A) l.length cp ⟨2,aD,[],a,b,0⟩ Cn w;have x0:=HL.out.cell 0;have x21:=HL.out.cell 21;rw[ai.out]at x0 x21;simp only[za,zb,zf]at x0 x21
 go_in
 go_upto_region 1 with fail
 rw[al.out];clear al;generalize hQ:w.heap.size=q at *
 go_upto_region 2 with(first |(refine yq rfl 34 (.tmp 3) (.tmp 9) rfl W1.heap.size 0 Cm.toArray rfl (congrArg Value.agg el.out) HT.out co.out yo.out ?_;change wpList _ _ _ _ _ (World.setCells _ W1.heap.size 0 Cm)))
 generalize World.setCells _ _ _ _=W3 at bm bv bi ⊢;rw[el.out];clear x0 x21;have cr:=ew.out;generalize W1.heap.size=q1 at *;subst cr;clear HL HB ew el HT yo co;obtain⟨D,hD⟩:∃ D:List Value,[vI a.row.a,vI a.row.n,vI a.col.a,vI a.col.n,.bool a.fr,.bool a.fc,vI b.row.a,vI b.row.n,vI b.col.a,vI b.col.n,.bool b.fr,.bool b.fc]=D:=⟨_,rfl⟩
 have HDR:Hid (W3.rangeAt q (0+8) D):=zh (by have h1:=bv.out;rw[ai.out]at h1;rw[<- hD];exact NodeIn.sub (Lies.node h1) 8 _ (by simp) rfl);have HDT:Hid (W3.there (q+1) 8 D.toArray.size):=zh (by have h1:=bm.out;rw[iw.out]at h1;rw[<- hD];intro j hj;have hj:j<12:=hj;exact⟨by rw[h1.cell];have:8+j<22:=(by omega);rw[Array.getElem?_eq_getElem (by show 8+j<22;omega)];rfl,h1.frozen _⟩);have HDI:Hid ((Tryz.prog.info? 31).map (·.size)=some D.length):=zh (by rw[<- hD];exact gH)
 have HDO:Hid (D.toArray.all (·.oneCell')=true):=zh (by rw[<- hD];simp[Value.oneCell'])
 have fq:=bm.out;rw[iw.out]at fq;have db:Hid (Lies (World.setCells W3 (q+1) 8 D) (q+1) 34 Ck.toArray):=zh (by have h1:=Lies.putMid D 8 W3 _ fq (by rw[<- hD];simp);rw[eh.out];rw[<- hD]at h1 ⊢;exact h1);have an:Hid (Lies (World.setCells W3 (q+1) 8 D) q 34 Cn.toArray):=zh (fH (by omega) D 8 bv.out);have bt:Hid (Below q w (World.setCells W3 (q+1) 8 D)):=zh (jP (Nat.le_succ q) D 8 bi.out);clear hD fq;have x0:=bv.out.cell 0;rw[ai.out]at x0;simp only[za,zb]at x0
 go_upto_region 13 with(first |(refine yr rfl 31 (.tmp 46) rfl q (0+8) rfl D _ HDR.out Tryz.underlying31 rfl HDI.out ?_) |(refine yq rfl 31 (.tmp 48) (.tmp 47) rfl (q+1) 8 D.toArray rfl rfl HDT.out (by rw[yd];exact HDI.out) HDO.out ?_;change wpList _ _ _ _ _ (World.setCells _ (q+1) 8 D)))
 clear x0;generalize World.setCells _ _ _ _=W4 at db an bt ⊢;clear bm bv bi HDR HDT HDI HDO;have x8:=an.out.cell 8;have x9:=an.out.cell 9;have x10:=an.out.cell 10;have x11:=an.out.cell 11;have x12:=an.out.cell 12;have x13:=an.out.cell 13;have x14:=an.out.cell 14;have x15:=an.out.cell 15;have x16:=an.out.cell 16;have x17:=an.out.cell 17;have x18:=an.out.cell 18;have x19:=an.out.cell 19;have x21:=an.out.cell 21;rw[ai.out]at x8 x9 x10 x11 x12 x13 x14 x15 x16 x17 x18 x19 x21;simp only[za,zb,zf]at x8 x9 x10 x11 x12 x13 x14 x15 x16 x17 x18 x19 x21
 go_wp2_with fail
 refine(HO.out _).mono ?_;rintro e w5 ⟨rfl,f8⟩;clear x8 x9 x10 x11 x12 x13 x14 x15 x16 x17 x18 x19 x21;clear HO;have bk:=zh (bt.out.trans (f8.mono (by have:=bt.out.size;omega)));have ls:=zh (db.out.next f8);have ik:=zh (an.out.next f8);clear f8;have z21:=ik.out.cell 21;rw[ai.out]at z21;simp only[za,zb,zf]at z21;cases b1
 ·go_wp2_with fail
  go_ret
  exact⟨aA (by rfl;try simp),by first|exact bk.out |(rw[hQ];exact bk.out)⟩
 by_cases hl:l.length=0
 ·have ed:((l.length:Int)==0)=true:=by rw[hl];rfl
  have hd:decide (l.length=0)=true:=decide_eq_true hl;clear hl;have mf:=zh (ls.out.rangeL);have ij:=zh (ik.out.rangeL);have HI:=zh (cA ai.out);have i5:=zh (cA eh.out);have eu:=zh (cG 1000000 zr (.mk ⟨2,aD,[],a,b,0⟩ l) (.mk ⟨2,v,s,a,b,r⟩ l) _ _ w5 ct.out ⟨A,cp,eh.out,HK.out.kp (Kp.of_below (by rw[hQ];exact bk.out))⟩ ⟨A,cp,ai.out,HK.out.kp (Kp.of_below (by rw[hQ];exact bk.out))⟩);rw[cT,me.out]at eu
  go_wp2_with (first |(refine aI (Eq.trans (aQ rfl rfl rfl rfl) rfl) 34 (.tmp 3) rfl (q+1) 0 rfl Ck _ mf.out Tryz.underlying34 rfl i5.out ?_) |(refine aI (Eq.trans (aQ rfl rfl rfl rfl) rfl) 34 (.tmp 1) rfl q 0 rfl Cn _ ij.out Tryz.underlying34 rfl HI.out ?_))
  refine eu.out.mono ?_;rintro e w9 ⟨rfl,gr⟩;have iq:=zh (bk.out.trans (gr.mono (by have:=bk.out.size;omega)));clear gr
  go_wp2_with fail
  go_ret
  exact⟨aA (by rw[hd];try simp),by first|exact iq.out |(rw[hQ];exact iq.out)⟩
 have ed:((l.length:Int)==0)=false:=by rw[beq_eq_false_iff_ne];omega
 have hd:decide (l.length=0)=false:=decide_eq_false hl;clear hl
 go_wp2_with fail
 go_ret
 exact⟨aA (by rw[hd];try simp),by first|exact bk.out |(rw[hQ];exact bk.out)⟩
theorem rOwnG8(v:Val)(s:Bs)(a b:Cor)(r:Int)(l:List Tree)(A:Option Addr)(cp:Nat)(Cn:List Value)(w:World)(hk:KidsOk w [] A l)(hs:(Tree.mk ⟨8,v,s,a,b,r⟩ l).size<=1000000)(ai:Hid (Cn.toArray=aH ⟨8,v,s,a,b,r⟩ A l.length cp)) :
  Calls Tryz.prog 87 #[.agg Cn.toArray] w fun e w'=>e=.returned (.bool ((decide (1<=r)&&decide (1<=l.length)&&decide ((l.length:Int).tmod r=0))&&NodeH.same ⟨8,aD,[],aN,aN,r⟩ ⟨8,v,s,a,b,r⟩))/\Below w.heap.size w w':=by
 obtain⟨sm,fh⟩:∃ c,NodeH.same ⟨8,aD,[],aN,aN,r⟩ ⟨8,v,s,a,b,r⟩=c:=⟨_,rfl⟩
 have me:=zh fh;rw[fh];clear fh;have ct:=zh hs;clear hs;have HK:=zh hk;clear hk;have pz:l.length<=1000000:=by have h1:=bS l;have h2:aM l+1<=1000000:=ct.out;omega
 obtain⟨W1,Cm,Ck,al,HL,HB,ew,el,iw,HT,yo,co,bm,bv,bi,eh⟩:=dD 8 (A) l.length cp ⟨8,aD,[],aN,aN,r⟩ Cn w;have x0:=HL.out.cell 0;have x21:=HL.out.cell 21;rw[ai.out]at x0 x21;simp only[za,zb,zf]at x0 x21
 go_in
 go_upto_region 1 with fail
 rw[al.out];clear al;generalize hQ:w.heap.size=q at *
 go_upto_region 2 with(first |(refine yq rfl 34 (.tmp 3) (.tmp 9) rfl W1.heap.size 0 Cm.toArray rfl (congrArg Value.agg el.out) HT.out co.out yo.out ?_;change wpList _ _ _ _ _ (World.setCells _ W1.heap.size 0 Cm)))
 generalize World.setCells _ _ _ _=W3 at bm bv bi ⊢;rw[el.out];clear x0 x21;have cr:=ew.out;generalize W1.heap.size=q1 at *;subst cr;clear HL HB ew el HT yo co;have x0:=bv.out.cell 0;have x20:=bv.out.cell 20;rw[ai.out]at x0 x20;simp only[za,zb,zf]at x0 x20;have y20:=bm.out.cell 20;have yf20:=bm.out.frozen 20;rw[iw.out]at y20;simp only[za,zb,zf]at y20
 go_upto_region 28 with fail
 clear x0 x20;clear y20 yf20;have fq:=bm.out;rw[iw.out]at fq;have db:Hid (Lies _ (q+1) 34 Ck.toArray):=zh (by rw[eh.out];exact(fq.put 20 (vI r)));have an:=zh (aB bv.out (b:=q+1) (by omega) 20 (vI r));have bt:=zh (bi.out.setCell (p:=⟨q+1,20,none⟩) (Nat.le_succ q) (vI r));generalize World.setCell _ _ _=W4 at db an bt ⊢;clear bm bv bi fq;have x20:=an.out.cell 20;have x21:=an.out.cell 21;rw[ai.out]at x20 x21;simp only[za,zb,zf]at x20 x21;by_cases hr:1<=r
 rotate_left
 ·have hdr:=zh (decide_eq_false hr)
  go_wp2_with fail
  go_ret
  exact⟨aA (by rw[hdr.out];try simp),by first|exact bt.out |(rw[hQ];exact bt.out)⟩
 have kn:¬ r=0:=by omega
 have hdr:=zh (decide_eq_true hr);by_cases hl:1<=l.length
 rotate_left
 ·have ed:¬ (1:Int)<=(l.length:Int):=by omega
  have qy:=zh (decide_eq_false hl);clear hl
  go_wp2_with fail
  go_ret
  exact⟨aA (by rw[qy.out];try simp),by first|exact bt.out |(rw[hQ];exact bt.out)⟩
 have ed:(1:Int)<=(l.length:Int):=by omega
 have qy:=zh (decide_eq_true hl);by_cases hm:(l.length:Int).tmod r=0
 rotate_left
 ·have hdm:=zh (decide_eq_false hm);have fq:((l.length:Int) % r==0)=false:=by rw[Int.tmod_eq_emod_of_nonneg (by omega)]at hm;simpa using hm
  clear hm hl
  go_wp2_with fail
  go_ret
  exact⟨aA (by rw[hdm.out];try simp),by first|exact bt.out |(rw[hQ];exact bt.out)⟩
 have hdm:=zh (decide_eq_true hm);have fq:((l.length:Int) % r==0)=true:=by rw[Int.tmod_eq_emod_of_nonneg (by omega)]at hm;rw[hm];rfl
 clear hm hl;have mf:=zh (db.out.rangeL);have ij:=zh (an.out.rangeL);have HI:=zh (cA ai.out);have i5:=zh (cA eh.out);have eu:=zh (cG 1000000 zr (.mk ⟨8,aD,[],aN,aN,r⟩ l) (.mk ⟨8,v,s,a,b,r⟩ l) _ _ W4 ct.out ⟨A,cp,eh.out,HK.out.kp (Kp.of_below (by rw[hQ];exact bt.out))⟩ ⟨A,cp,ai.out,HK.out.kp (Kp.of_below (by rw[hQ];exact bt.out))⟩);rw[cT,me.out]at eu
 go_wp2_with (first |(refine aI (Eq.trans (aQ rfl rfl rfl rfl) rfl) 34 (.tmp 3) rfl (q+1) 0 rfl Ck _ mf.out Tryz.underlying34 rfl i5.out ?_) |(refine aI (Eq.trans (aQ rfl rfl rfl rfl) rfl) 34 (.tmp 1) rfl q 0 rfl Cn _ ij.out Tryz.underlying34 rfl HI.out ?_))
 refine eu.out.mono ?_;rintro e w9 ⟨rfl,gr⟩;have iq:=zh (bt.out.trans (gr.mono (by have:=bt.out.size;omega)));clear gr
 go_wp2_with fail
 go_ret
 exact⟨aA (by rw[hdm.out,hdr.out,qy.out];try simp),by first|exact iq.out |(rw[hQ];exact iq.out)⟩
theorem rOwnG4a(v:Val)(s:Bs)(a b:Cor)(r:Int)(l:List Tree)(A:Option Addr)(cp:Nat)(Cn:List Value)(w:World)(hk:KidsOk w [] A l)(hs:(Tree.mk ⟨4,v,s,a,b,r⟩ l).size<=1000000)(ai:Hid (Cn.toArray=aH ⟨4,v,s,a,b,r⟩ A l.length cp))(j6:s.length<=100000)(hn:l.length≠1) :
  Calls Tryz.prog 87 #[.agg Cn.toArray] w fun e w'=>e=.returned (.bool ((bN s&&decide (l.length<=32)&&decide (l.length≠1))&&NodeH.same ⟨4,aD,s,aN,aN,0⟩ ⟨4,v,s,a,b,r⟩))/\Below w.heap.size w w':=by
 obtain⟨sm,fh⟩:∃ c,NodeH.same ⟨4,aD,s,aN,aN,0⟩ ⟨4,v,s,a,b,r⟩=c:=⟨_,rfl⟩
 have me:=zh fh;rw[fh];clear fh;have xz:((l.length:Int) != 1)=true:=by rw[bne_iff_ne];omega
 have uc:=zh (fun W=>uL s W j6);generalize bN s=b1 at *;clear j6;have ct:=zh hs;clear hs;have HK:=zh hk;clear hk;have pz:l.length<=1000000:=by have h1:=bS l;have h2:aM l+1<=1000000:=ct.out;omega
 obtain⟨W1,Cm,Ck,al,HL,HB,ew,el,iw,HT,yo,co,bm,bv,bi,eh⟩:=dD 4 (A) l.length cp ⟨4,aD,s,aN,aN,0⟩ Cn w;have x0:=HL.out.cell 0;have x21:=HL.out.cell 21;rw[ai.out]at x0 x21;simp only[za,zb,zf]at x0 x21
 go_in
 go_upto_region 1 with fail
 rw[al.out];clear al;generalize hQ:w.heap.size=q at *
 go_upto_region 2 with(first |(refine yq rfl 34 (.tmp 3) (.tmp 9) rfl W1.heap.size 0 Cm.toArray rfl (congrArg Value.agg el.out) HT.out co.out yo.out ?_;change wpList _ _ _ _ _ (World.setCells _ W1.heap.size 0 Cm)))
 generalize World.setCells _ _ _ _=W3 at bm bv bi ⊢;rw[el.out];clear x0 x21;have cr:=ew.out;generalize W1.heap.size=q1 at *;subst cr;clear HL HB ew el HT yo co;have x0:=bv.out.cell 0;have x7:=bv.out.cell 7;rw[ai.out]at x0 x7;simp only[za,zb,zf]at x0 x7;have y7:=bm.out.cell 7;have yf7:=bm.out.frozen 7;rw[iw.out]at y7;simp only[za,zb,zf]at y7
 go_upto_region 16 with fail
 clear x0 x7;clear y7 yf7;have fq:=bm.out;rw[iw.out]at fq;have db:Hid (Lies _ (q+1) 34 Ck.toArray):=zh (by rw[eh.out];exact(fq.put 7 (vT s)));have an:=zh (aB bv.out (b:=q+1) (by omega) 7 (vT s));have bt:=zh (bi.out.setCell (p:=⟨q+1,7,none⟩) (Nat.le_succ q) (vT s));generalize World.setCell _ _ _=W4 at db an bt ⊢;clear bm bv bi fq;have x7:=an.out.cell 7;have x21:=an.out.cell 21;rw[ai.out]at x7 x21;simp only[za,zb,zf]at x7 x21
 go_wp2_with fail
 refine(uc.out _).mono ?_;rintro e w5 ⟨rfl,rfl⟩;clear uc;cases b1
 ·go_wp2_with fail
  go_ret
  exact⟨aA (by rfl;try simp),by first|exact bt.out |(rw[hQ];exact bt.out)⟩
 by_cases hl:l.length<=32
 rotate_left
 ·have ed:¬ (l.length:Int)<=32:=by omega
  have qy:=zh (decide_eq_false hl);clear hl hn
  go_wp2_with fail
  go_ret
  exact⟨aA (by rw[qy.out];try simp),by first|exact bt.out |(rw[hQ];exact bt.out)⟩
 have ed:(l.length:Int)<=32:=by omega
 have qy:=zh (decide_eq_true hl);have hdn:=zh (decide_eq_true hn);clear hl hn;have mf:=zh (db.out.rangeL);have ij:=zh (an.out.rangeL);have HI:=zh (cA ai.out);have i5:=zh (cA eh.out);have eu:=zh (cG 1000000 zr (.mk ⟨4,aD,s,aN,aN,0⟩ l) (.mk ⟨4,v,s,a,b,r⟩ l) _ _ W4 ct.out ⟨A,cp,eh.out,HK.out.kp (Kp.of_below (by rw[hQ];exact bt.out))⟩ ⟨A,cp,ai.out,HK.out.kp (Kp.of_below (by rw[hQ];exact bt.out))⟩);rw[cT,me.out]at eu
 go_wp2_with (first |(refine aI (Eq.trans (aQ rfl rfl rfl rfl) rfl) 34 (.tmp 3) rfl (q+1) 0 rfl Ck _ mf.out Tryz.underlying34 rfl i5.out ?_) |(refine aI (Eq.trans (aQ rfl rfl rfl rfl) rfl) 34 (.tmp 1) rfl q 0 rfl Cn _ ij.out Tryz.underlying34 rfl HI.out ?_))
 refine eu.out.mono ?_;rintro e w9 ⟨rfl,gr⟩;have iq:=zh (bt.out.trans (gr.mono (by have:=bt.out.size;omega)));clear gr
 go_wp2_with fail
 go_ret
 exact⟨aA (by rw[qy.out,hdn.out];try simp),by first|exact iq.out |(rw[hQ];exact iq.out)⟩
theorem rOwnG4b(v:Val)(s:Bs)(a b:Cor)(r:Int)(g og:Nat)(kk:Int)(l:List Tree)(A:Option Addr)(cp:Nat)(Cn:List Value)(w:World)(hk:KidsOk w [] A l)(hs:(Tree.mk ⟨4,v,s,a,b,r⟩ l).size<=1000000)(ai:Hid (Cn.toArray=aH ⟨4,v,s,a,b,r⟩ A l.length cp))(j6:s.length<=100000)(hl:l.length=1)(hA:A=some ⟨g,og,none⟩)(hkd:∀ W',Below w.heap.size w W'->W'.cell? ⟨g,og,none⟩=some (vI kk)) :
  Calls Tryz.prog 87 #[.agg Cn.toArray] w fun e w'=>e=.returned (.bool ((bN s&&decide (kk≠9))&&NodeH.same ⟨4,aD,s,aN,aN,0⟩ ⟨4,v,s,a,b,r⟩))/\Below w.heap.size w w':=by
 obtain⟨sm,fh⟩:∃ c,NodeH.same ⟨4,aD,s,aN,aN,0⟩ ⟨4,v,s,a,b,r⟩=c:=⟨_,rfl⟩
 have me:=zh fh;rw[fh];clear fh;subst hA;have uw:=zh hkd;have ed:(l.length:Int)<=32:=by omega
 have xz:((l.length:Int) != 1)=false:=by rw[hl];rfl
 have uc:=zh (fun W=>uL s W j6);generalize bN s=b1 at *;clear j6;have hlp:(0:Int)<(l.length:Int):=by omega
 clear hl hkd;have ct:=zh hs;clear hs;have HK:=zh hk;clear hk;have pz:l.length<=1000000:=by have h1:=bS l;have h2:aM l+1<=1000000:=ct.out;omega
 obtain⟨W1,Cm,Ck,al,HL,HB,ew,el,iw,HT,yo,co,bm,bv,bi,eh⟩:=dD 4 (some ⟨g,og,none⟩) l.length cp ⟨4,aD,s,aN,aN,0⟩ Cn w;have x0:=HL.out.cell 0;have x21:=HL.out.cell 21;rw[ai.out]at x0 x21;simp only[za,zb,zf]at x0 x21
 go_in
 go_upto_region 1 with fail
 rw[al.out];clear al;generalize hQ:w.heap.size=q at *
 go_upto_region 2 with(first |(refine yq rfl 34 (.tmp 3) (.tmp 9) rfl W1.heap.size 0 Cm.toArray rfl (congrArg Value.agg el.out) HT.out co.out yo.out ?_;change wpList _ _ _ _ _ (World.setCells _ W1.heap.size 0 Cm)))
 generalize World.setCells _ _ _ _=W3 at bm bv bi ⊢;rw[el.out];clear x0 x21;have cr:=ew.out;generalize W1.heap.size=q1 at *;subst cr;clear HL HB ew el HT yo co;have x0:=bv.out.cell 0;have x7:=bv.out.cell 7;rw[ai.out]at x0 x7;simp only[za,zb,zf]at x0 x7;have y7:=bm.out.cell 7;have yf7:=bm.out.frozen 7;rw[iw.out]at y7;simp only[za,zb,zf]at y7
 go_upto_region 16 with fail
 clear x0 x7;clear y7 yf7;have fq:=bm.out;rw[iw.out]at fq;have db:Hid (Lies _ (q+1) 34 Ck.toArray):=zh (by rw[eh.out];exact(fq.put 7 (vT s)));have an:=zh (aB bv.out (b:=q+1) (by omega) 7 (vT s));have bt:=zh (bi.out.setCell (p:=⟨q+1,7,none⟩) (Nat.le_succ q) (vT s));generalize World.setCell _ _ _=W4 at db an bt ⊢;clear bm bv bi fq;have x7:=an.out.cell 7;have x21:=an.out.cell 21;rw[ai.out]at x7 x21;simp only[za,zb,zf]at x7 x21;have k0:=uw.out W4 bt.out
 go_wp2_with fail
 refine(uc.out _).mono ?_;rintro e w5 ⟨rfl,rfl⟩;clear uc;cases b1
 ·go_wp2_with fail
  go_ret
  exact⟨aA (by rfl;try simp),by first|exact bt.out |(rw[hQ];exact bt.out)⟩
 by_cases hk9:kk=9
 ·have oq:(kk != 9)=false:=by simpa using hk9
  have hdk:=zh (decide_eq_false (fun h:kk≠9=>h hk9));clear hk9
  go_wp2_with fail
  go_ret
  exact⟨aA (by rw[hdk.out];try simp),by first|exact bt.out |(rw[hQ];exact bt.out)⟩
 have oq:(kk != 9)=true:=by simpa using hk9
 have hdk:=zh (decide_eq_true hk9);clear hk9;have mf:=zh (db.out.rangeL);have ij:=zh (an.out.rangeL);have HI:=zh (cA ai.out);have i5:=zh (cA eh.out);have eu:=zh (cG 1000000 zr (.mk ⟨4,aD,s,aN,aN,0⟩ l) (.mk ⟨4,v,s,a,b,r⟩ l) _ _ W4 ct.out ⟨some ⟨g,og,none⟩,cp,eh.out,HK.out.kp (Kp.of_below (by rw[hQ];exact bt.out))⟩ ⟨some ⟨g,og,none⟩,cp,ai.out,HK.out.kp (Kp.of_below (by rw[hQ];exact bt.out))⟩);rw[cT,me.out]at eu
 go_wp2_with (first |(refine aI (Eq.trans (aQ rfl rfl rfl rfl) rfl) 34 (.tmp 3) rfl (q+1) 0 rfl Ck _ mf.out Tryz.underlying34 rfl i5.out ?_) |(refine aI (Eq.trans (aQ rfl rfl rfl rfl) rfl) 34 (.tmp 1) rfl q 0 rfl Cn _ ij.out Tryz.underlying34 rfl HI.out ?_))
 refine eu.out.mono ?_;rintro e w9 ⟨rfl,gr⟩;have iq:=zh (bt.out.trans (gr.mono (by have:=bt.out.size;omega)));clear gr
 go_wp2_with fail
 go_ret
 exact⟨aA (by rw[hdk.out];try simp),by first|exact iq.out |(rw[hQ];exact iq.out)⟩
theorem rOwnGx(k:Int)(v:Val)(s:Bs)(a b:Cor)(r:Int)(l:List Tree)(A:Option Addr)(cp:Nat)(Cn:List Value)(w:World)(ai:Hid (Cn.toArray=aH ⟨k,v,s,a,b,r⟩ A l.length cp))(h:∀ j:Int,0<=j->j<=9->k≠j) :
  Calls Tryz.prog 87 #[.agg Cn.toArray] w fun e w'=>e=.returned (.bool false)/\Below w.heap.size w w':=by
 have n0:((k:Int)==0)=false:=by simpa using h 0 (by decide) (by decide)
 have n1:((k:Int)==1)=false:=by simpa using h 1 (by decide) (by decide)
 have n2:((k:Int)==2)=false:=by simpa using h 2 (by decide) (by decide)
 have n3:((k:Int)==3)=false:=by simpa using h 3 (by decide) (by decide)
 have n4:((k:Int)==4)=false:=by simpa using h 4 (by decide) (by decide)
 have n5:((k:Int)==5)=false:=by simpa using h 5 (by decide) (by decide)
 have n6:((k:Int)==6)=false:=by simpa using h 6 (by decide) (by decide)
 have n7:((k:Int)==7)=false:=by simpa using h 7 (by decide) (by decide)
 have n8:((k:Int)==8)=false:=by simpa using h 8 (by decide) (by decide)
 have n9:((k:Int)==9)=false:=by simpa using h 9 (by decide) (by decide)
 clear h;obtain⟨W1,Cm,-,al,HL,HB,ew,el,iw,HT,yo,co,-,bv,bi,-⟩:=dD k A l.length cp head0 Cn w;have x0:=HL.out.cell 0;have x21:=HL.out.cell 21;rw[ai.out]at x0 x21;simp only[za,zb,zf]at x0 x21
 go_in
 go_upto_region 1 with fail
 rw[al.out];clear al;generalize hQ:w.heap.size=q at *
 go_upto_region 2 with(first |(refine yq rfl 34 (.tmp 3) (.tmp 9) rfl W1.heap.size 0 Cm.toArray rfl (congrArg Value.agg el.out) HT.out co.out yo.out ?_;change wpList _ _ _ _ _ (World.setCells _ W1.heap.size 0 Cm)))
 generalize World.setCells _ _ _ _=W3 at bv bi ⊢;rw[el.out];clear x0 x21;have cr:=ew.out;generalize W1.heap.size=q1 at *;subst cr;clear HL HB ew el HT yo co iw;have x0:=bv.out.cell 0;rw[ai.out]at x0;simp only[za,zb]at x0
 go_wp2_with fail
 go_ret
 exact⟨rfl,by first|exact bi.out |(rw[hQ];exact bi.out)⟩
theorem uFK{h h':NodeH}(e:NodeH.same h h'=true):h=h':=by
 unfold NodeH.same at e;simp only[yh,decide_eq_true_eq,fY,beq_iff_eq]at e;obtain⟨⟨⟨⟨⟨e1,e2⟩,e3⟩,e4⟩,e5⟩,e6⟩:=e;cases h;cases h';simp only at e1 e2 e3 e4 e5 e6;subst e1 e2 e3 e4 e5 e6;rfl
theorem pK{t:Tree}{k:Int}(hr:t.right k=true)(h8:k≠8):¬ (t.h.kind=0/\t.h.v.kind=1/\t.h.v.mant<0):=by
 obtain⟨h,l⟩:=t;rintro⟨h0,h1,h2⟩;have h0:h.kind=0:=h0;have h2:h.v.mant<0:=h2;rw[Tree.right,yh]at hr;have g:=hr.1;unfold aV cS at g;rw[if_pos h0]at g;simp[h8]at g;omega
def uAR(h:NodeH)(n:Nat)(kids:List Int):Bool:=aV h n kids (if h.kind=9 then 4 else 8)
theorem eE(h h':NodeH):NodeH.same h h'=NodeH.same h' h:=by
 have key:∀ x y:NodeH,NodeH.same x y=true->NodeH.same y x=true:=fun x y e=>by have h:=uFK e;subst h;exact e
 cases h1:NodeH.same h h' with
 |true=>exact(key _ _ h1).symm
 |false=>
  cases h2:NodeH.same h' h with
  |false=>rfl
  |true=>rw[key _ _ h2]at h1;cases h1
theorem un_in(s:Bs):(([[45],[43],[37]]:List Bs).contains s)=unB s:=by
 unfold unB;simp only[List.contains_cons,List.contains_nil,Bool.or_false,Bool.or_assoc]
theorem bin_in(s:Bs):(([[43],[45],[42],[47],[94],[38],[61],[60,62],[60],[60,61],[62],[62,61]]:List Bs).contains s)=lO s:=by
 unfold lO;simp only[List.contains_cons,List.contains_nil,Bool.or_false,Bool.or_assoc]
theorem rOwn_any(t:Tree)(cs:Array Value)(w:World)(hs:t.size<=1000000)(hf:t.h.fine)(ht:TreeIn w t cs) :
  Calls Tryz.prog 87 #[.agg cs] w fun e w'=>e=.returned (.bool (uAR t.h t.l.length (t.l.map fun t=>t.h.kind)))/\Below w.heap.size w w':=by
 obtain⟨⟨k,v,s,a,b,r⟩,l⟩:=t;obtain⟨A,cp,hc,hk⟩:=ht;obtain⟨Cn,rfl⟩:∃ C:List Value,cs=C.toArray:=⟨cs.toList,by simp⟩
 have mr:KidsOk w [] A l:=hk;clear hk;have ai:Hid (Cn.toArray=aH ⟨k,v,s,a,b,r⟩ A l.length cp):=zh hc;have hf:NodeH.fine ⟨k,v,s,a,b,r⟩:=hf;show Calls Tryz.prog 87 #[.agg Cn.toArray] w fun e w'=>e=.returned (.bool (uAR ⟨k,v,s,a,b,r⟩ l.length (l.map fun t=>t.h.kind)))/\Below w.heap.size w w'
 obtain⟨f1,f2,f3,f4⟩:-9223372036854775808<=v.mant/\v.mant<=9223372036854775807/\v.text.length<=1000000/\s.length<=100000:=hf;unfold uAR aV;dsimp only;by_cases k0:k=0
 ·subst k0;refine(rOwnG0 v s a b r l A cp Cn w mr hs ai ⟨f1,f2,f3⟩).mono ?_;rintro e w' ⟨rfl,hb⟩;refine⟨aA ?_,hb⟩;rw[eE];simp[cS,Bool.and_assoc,Bool.and_comm]
 by_cases k1:k=1
 ·subst k1;refine(rOwnG1 v s a b r l A cp Cn w mr hs ai).mono ?_;rintro e w' ⟨rfl,hb⟩;refine⟨aA ?_,hb⟩;rw[eE];simp[Bool.and_assoc,Bool.and_comm]
 by_cases k3:k=3
 ·subst k3;refine(rOwnG3 v s a b r l A cp Cn w mr hs ai).mono ?_;rintro e w' ⟨rfl,hb⟩;refine⟨aA ?_,hb⟩;rw[eE];simp[Bool.and_assoc,Bool.and_comm]
 by_cases k2:k=2
 ·subst k2;refine(rOwnG2 v s a b r l A cp Cn w mr hs ai).mono ?_;rintro e w' ⟨rfl,hb⟩;refine⟨aA ?_,hb⟩;rw[eE];simp[Bool.and_assoc,Bool.and_comm]
 by_cases k4:k=4
 ·subst k4;rw[if_neg (by decide),if_neg (by decide),if_neg (by decide),if_pos rfl,eE];by_cases hn:l.length=1
  ·have hp:0<l.length:=by omega
   obtain⟨g,og,ci,hA,dq,dy⟩:=fU mr 0 hp;refine(rOwnG4b v s a b r g og l[0].h.kind l A cp Cn w mr hs ai f4 hn hA (fun W' hb=>by
    obtain⟨c1,A',ko,c2,_⟩:=dy W' (Kp.of_below hb);have h0:ci[0]?=some (vI l[0].h.kind):=by
     have:=congrArg (fun a=>a[0]?) c2;simpa using this
    have:=c1 0 _ h0;simpa using this)).mono ?_
   rintro e w' ⟨rfl,hb⟩;refine⟨aA ?_,hb⟩;have e9:decide (l.map (fun t=>t.h.kind)=[9])=decide (l[0].h.kind=9):=by
    rw[decide_eq_decide];cases l with
    |nil=>simp at hp
    |cons x r=>
     cases r with
     |nil=>simp
     |cons y r=>simp at hn
   rw[e9,decide_eq_true hn,decide_eq_true (show l.length<=32 by omega)];by_cases h9:l[0].h.kind=9
   ·rw[decide_eq_true h9,decide_eq_false (fun h=>h h9)];simp
   rw[decide_eq_false h9,decide_eq_true h9];simp
  refine(rOwnG4a v s a b r l A cp Cn w mr hs ai f4 hn).mono ?_;rintro e w' ⟨rfl,hb⟩;refine⟨aA ?_,hb⟩;rw[decide_eq_true hn,decide_eq_false hn];simp
 by_cases k5:k=5
 ·subst k5;refine(rOwnG5 v s a b r l A cp Cn w mr hs ai).mono ?_;rintro e w' ⟨rfl,hb⟩;refine⟨aA ?_,hb⟩;rw[eE,un_in];simp[Bool.and_assoc]
 by_cases k6:k=6
 ·subst k6;refine(rOwnG6 v s a b r l A cp Cn w mr hs ai).mono ?_;rintro e w' ⟨rfl,hb⟩;refine⟨aA ?_,hb⟩;rw[eE,bin_in];simp[Bool.and_assoc]
 by_cases k7:k=7
 ·subst k7;refine(rOwnG7 v s a b r l A cp Cn w mr hs ai f4).mono ?_;rintro e w' ⟨rfl,hb⟩;refine⟨aA ?_,hb⟩;rw[eE];simp[Bool.and_assoc,Bool.and_comm]
 by_cases k8:k=8
 ·subst k8;refine(rOwnG8 v s a b r l A cp Cn w mr hs ai).mono ?_;rintro e w' ⟨rfl,hb⟩;refine⟨aA ?_,hb⟩;rw[eE];simp[Bool.and_assoc]
 by_cases k9:k=9
 ·subst k9;refine(rOwnG9 v s a b r l A cp Cn w mr hs ai).mono ?_;rintro e w' ⟨rfl,hb⟩;refine⟨aA ?_,hb⟩;rw[eE];simp[Bool.and_comm]
 refine(rOwnGx k v s a b r l A cp Cn w ai (fun j h0 h9 e=>by omega)).mono ?_;rintro e w' ⟨rfl,hb⟩;refine⟨aA ?_,hb⟩;rw[if_neg k0,if_neg (by omega),if_neg k2,if_neg k4,if_neg k5,if_neg k6,if_neg k7,if_neg k8,if_neg k9]
def Tree.belowB(t:Tree):Bool:=decide (t.h.kind=0)&&decide (t.h.v.kind=1)&&decide (t.h.v.mant<0)
theorem nJ{t:Tree}:t.belowB=true↔(t.h.kind=0/\t.h.v.kind=1/\t.h.v.mant<0):=by
 unfold Tree.belowB;simp only[yh,decide_eq_true_eq,and_assoc]
theorem uBK{h:NodeH}{n:Nat}{kids:List Int}{k:Int}(hb:k=8\/¬ (h.kind=0/\h.v.kind=1/\h.v.mant<0)):aV h n kids k=(uAR h n kids&&!(decide (h.kind=9)&&!decide (k=4))):=by
 unfold uAR;by_cases k9:h.kind=9
 ·rw[if_pos k9,decide_eq_true k9];unfold aV;simp only[k9];simp;by_cases k4:k=4
  ·simp[k4]
  simp[k4]
 rw[if_neg k9,decide_eq_false k9];simp only[Bool.false_and,Bool.not_false,Bool.and_true];by_cases k0:h.kind=0
 ·unfold aV;rw[if_pos k0,if_pos k0];have e:cS h.v (decide (k=8))=cS h.v (decide ((8:Int)=8)):=by
   rcases hb with hb|hb
   ·rw[hb]
   unfold cS;cases hr:aR h.v with
   |false=>simp
   |true=>
    have h0:0<=h.v.mant:=by
     by_cases h1:h.v.kind=1
     ·have:=hb;omega
     have la:=hr;unfold aR at la;simp only[yh,Bool.not_eq_true',Bool.or_eq_false_iff,Bool.and_eq_false_iff,decide_eq_false_iff_not,decide_eq_true_eq,Bool.not_eq_false']at la;have:=la.1.1.1.1;rcases this with g|g
     ·exact absurd h1 g
     omega
    simp[h0]
  rw[e]
 unfold aV;rw[if_neg k0,if_neg k0];simp only[k9,if_false]
theorem xR{l:List Tree}{k:Int}{i:Nat}(h:i<l.length):aT (l.drop i) k=(((decide (k≠8)||decide (l[i].h.kind=0))&&l[i].right k)&&aT (l.drop (i+1)) k):=by
 rw[yx h,aT]
end Go.Proofs.YtjfihpaeglpblaaGreatDoor
