/-
  Lemmas, part 15: RkH RmB PaY PaZ RkI RmC RmD RmE.
-/
import Derived.Test.YtjfihpaeglpblaaGreatDoorRv12
import Derived.Test.YtjfihpaeglpblaaGreatDoorRv14
set_option maxHeartbeats 100000000
set_option maxRecDepth 1000000
namespace Go.Proofs.YtjfihpaeglpblaaGreatDoor
open Go.RowKit
theorem uFZ(m e:Int)(w:World)(h1:-9223372036854775808<=m)(h2:m<=9223372036854775807) :
  Calls Tryz.prog 201 #[wX m e] w fun x w'=>x=.returned (.bool (bI m e))/\Below w.heap.size w w':=by
 have HC:=zh (fun W=>tF m e W h1 h2);have HB:Hid (Below w.heap.size w (w.alloc (.cells #[vI m,vI e] 23))):=zh ((Below.refl _ w).alloc zr _)
 go_in
 go_wp2_with fail
 refine(HC.out _).mono ?_;rintro x w2 ⟨rfl,hb⟩;have aw:=zT HB hb;clear hb HB
 go_wp2_with fail
 go_ret
 exact⟨rfl,aw.out⟩
theorem uFS(a b:Cor)(w:World) :
  Calls Tryz.prog 150 #[corV a,corV b] w fun e w'=>e=.returned (.bool (cG a b))/\Below w.heap.size w w':=by
 have HOA:=zh (fun W=>oC a W);have HOB:=zh (fun W=>oC b W);obtain⟨W1,an⟩:=zD (w.alloc (.cells (kL a) 29))
 obtain⟨W2,fj⟩:=zD (W1.alloc (.cells (kL b) 29))
 have iq:=zL an;have td:W1.heap.size=w.heap.size+1:=by rw[an];simp
 have vx:=zA an;have fz:Hid (Lies W2 (w.heap.size+1) 29 (kL b)):=zh (by rw[fj,<- td];exact Lies.new _ _ _);have ln:=zA fj;have ki:=zh (iq.out.next ln.out);have aw:Hid (Below w.heap.size w W2):=zh (zU vx.out ln.out);have am:=zh an;have jx:=zh fj;clear an fj td iq vx ln;obtain⟨rb,xj⟩:=zE (cG a b)
 obtain⟨r1,fh⟩:∃ b,decide (a.row≠id0)=b:=⟨_,rfl⟩
 obtain⟨k1,eh⟩:∃ b,decide (a.col≠id0)=b:=⟨_,rfl⟩
 obtain⟨r2,lu⟩:∃ x,decide (b.row≠id0)=x:=⟨_,rfl⟩
 obtain⟨k2,fi⟩:∃ x,decide (b.col≠id0)=x:=⟨_,rfl⟩
 have flip:∀ (x:IdR) (y:Bool),decide (x≠id0)=y->decide (x=id0)=!y:=fun x y e=>by rw[<- e];by_cases hx:x=id0 <;> simp[hx]
 have N1:∀ w:World,(binOp .neq 27 (idV a.row) (idV id0)).run Tryz.prog w=.ok (.bool r1) w:=fun w=>by rw[fQ,fh]
 have N2:∀ w:World,(binOp .neq 27 (idV a.col) (idV id0)).run Tryz.prog w=.ok (.bool k1) w:=fun w=>by rw[fQ,eh]
 have N3:∀ w:World,(binOp .neq 27 (idV b.row) (idV id0)).run Tryz.prog w=.ok (.bool r2) w:=fun w=>by rw[fQ,lu]
 have N4:∀ w:World,(binOp .neq 27 (idV b.col) (idV id0)).run Tryz.prog w=.ok (.bool k2) w:=fun w=>by rw[fQ,fi]
 have E1:∀ w:World,(binOp .eql 27 (idV a.row) (idV id0)).run Tryz.prog w=.ok (.bool (!r1)) w:=fun w=>by rw[dG,flip _ _ fh]
 have E2:∀ w:World,(binOp .eql 27 (idV a.col) (idV id0)).run Tryz.prog w=.ok (.bool (!k1)) w:=fun w=>by rw[dG,flip _ _ eh]
 have E3:∀ w:World,(binOp .eql 27 (idV b.row) (idV id0)).run Tryz.prog w=.ok (.bool (!r2)) w:=fun w=>by rw[dG,flip _ _ lu]
 have E4:∀ w:World,(binOp .eql 27 (idV b.col) (idV id0)).run Tryz.prog w=.ok (.bool (!k2)) w:=fun w=>by rw[dG,flip _ _ fi]
 rw[fh,eh]at HOA;rw[lu,fi]at HOB;have HR:Hid (rb=((r1==r2)&&(k1==k2)&&(r1||k1)&&(r1||(!a.fr&&!b.fr))&&(k1||(!a.fc&&!b.fc)))):=zh (by rw[<- xj];unfold cG;dsimp only;rw[fh,eh,lu,fi]);rw[xj];clear fh eh lu fi xj flip;obtain⟨ar,ac,afr,afc⟩:=a;obtain⟨br,bc,bfr,bfc⟩:=b;dsimp only at HR N1 N2 N3 N4 E1 E2 E3 E4 HOA HOB ki fz ⊢;cases r1 <;> cases k1 <;> cases r2 <;> cases k2
 all_goals first
  |skip
   have x0:=ki.out.cell 0;have x1:=ki.out.cell 1;have x2:=ki.out.cell 2;have x3:=ki.out.cell 3;have x4:=ki.out.cell 4;have x5:=ki.out.cell 5;have y0:=fz.out.cell 0;have y1:=fz.out.cell 1;have y2:=fz.out.cell 2;have y3:=fz.out.cell 3;have y4:=fz.out.cell 4;have y5:=fz.out.cell 5;simp only[za,zb,zf]at x0 x1 x2 x3 x4 x5;simp only[za,zb,zf]at y0 y1 y2 y3 y4 y5
   go_in
   go_upto_region 1 with fail
   rw[<- am.out,<- jx.out];generalize hq:w.heap.size=q at *
   go_wp2_with fail
   refine(HOA.out _).mono ?_;rintro e w3 ⟨rfl,hb⟩;have bf:=zh (aw.out.trans (hb.mono (by have:=aw.out.size;omega)));have dq:=zh (ki.out.next hb);have dr:=zh (fz.out.next hb);clear x0 x1 x2 x3 x4 x5;clear y0 y1 y2 y3 y4 y5;clear hb;have x0:=dq.out.cell 0;have x1:=dq.out.cell 1;have x2:=dq.out.cell 2;have x3:=dq.out.cell 3;have x4:=dq.out.cell 4;have x5:=dq.out.cell 5;have y0:=dr.out.cell 0;have y1:=dr.out.cell 1;have y2:=dr.out.cell 2;have y3:=dr.out.cell 3;have y4:=dr.out.cell 4;have y5:=dr.out.cell 5;simp only[za,zb,zf]at x0 x1 x2 x3 x4 x5;simp only[za,zb,zf]at y0 y1 y2 y3 y4 y5
   go_wp2_with fail
   go_ret
   exact⟨aA (by rw[HR.out];rfl),by first|exact bf.out |(rw[hq];exact bf.out)⟩
  |skip
   cases afr <;> cases bfr
   all_goals (have x0:=ki.out.cell 0;have x1:=ki.out.cell 1;have x2:=ki.out.cell 2;have x3:=ki.out.cell 3;have x4:=ki.out.cell 4;have x5:=ki.out.cell 5;have y0:=fz.out.cell 0;have y1:=fz.out.cell 1;have y2:=fz.out.cell 2;have y3:=fz.out.cell 3;have y4:=fz.out.cell 4;have y5:=fz.out.cell 5;simp only[za,zb,zf]at x0 x1 x2 x3 x4 x5;simp only[za,zb,zf]at y0 y1 y2 y3 y4 y5;go_in;go_upto_region 1 with fail;rw[<- am.out,<- jx.out];generalize hq:w.heap.size=q at *;go_wp2_with fail;refine(HOA.out _).mono ?_;rintro e w3 ⟨rfl,hb⟩;have bf:=zh (aw.out.trans (hb.mono (by have:=aw.out.size;omega)));have dq:=zh (ki.out.next hb);have dr:=zh (fz.out.next hb);clear x0 x1 x2 x3 x4 x5;clear y0 y1 y2 y3 y4 y5;clear hb;have x0:=dq.out.cell 0;have x1:=dq.out.cell 1;have x2:=dq.out.cell 2;have x3:=dq.out.cell 3;have x4:=dq.out.cell 4;have x5:=dq.out.cell 5;have y0:=dr.out.cell 0;have y1:=dr.out.cell 1;have y2:=dr.out.cell 2;have y3:=dr.out.cell 3;have y4:=dr.out.cell 4;have y5:=dr.out.cell 5;simp only[za,zb,zf]at x0 x1 x2 x3 x4 x5;simp only[za,zb,zf]at y0 y1 y2 y3 y4 y5;go_wp2_with fail;go_ret;exact⟨aA (by rw[HR.out];rfl),by first|exact bf.out |(rw[hq];exact bf.out)⟩)
  |skip
   cases afc <;> cases bfc
   all_goals (have x0:=ki.out.cell 0;have x1:=ki.out.cell 1;have x2:=ki.out.cell 2;have x3:=ki.out.cell 3;have x4:=ki.out.cell 4;have x5:=ki.out.cell 5;have y0:=fz.out.cell 0;have y1:=fz.out.cell 1;have y2:=fz.out.cell 2;have y3:=fz.out.cell 3;have y4:=fz.out.cell 4;have y5:=fz.out.cell 5;simp only[za,zb,zf]at x0 x1 x2 x3 x4 x5;simp only[za,zb,zf]at y0 y1 y2 y3 y4 y5;go_in;go_upto_region 1 with fail;rw[<- am.out,<- jx.out];generalize hq:w.heap.size=q at *;go_wp2_with fail;refine(HOA.out _).mono ?_;rintro e w3 ⟨rfl,hb⟩;have bf:=zh (aw.out.trans (hb.mono (by have:=aw.out.size;omega)));have dq:=zh (ki.out.next hb);have dr:=zh (fz.out.next hb);clear x0 x1 x2 x3 x4 x5;clear y0 y1 y2 y3 y4 y5;clear hb;have x0:=dq.out.cell 0;have x1:=dq.out.cell 1;have x2:=dq.out.cell 2;have x3:=dq.out.cell 3;have x4:=dq.out.cell 4;have x5:=dq.out.cell 5;have y0:=dr.out.cell 0;have y1:=dr.out.cell 1;have y2:=dr.out.cell 2;have y3:=dr.out.cell 3;have y4:=dr.out.cell 4;have y5:=dr.out.cell 5;simp only[za,zb,zf]at x0 x1 x2 x3 x4 x5;simp only[za,zb,zf]at y0 y1 y2 y3 y4 y5;go_wp2_with fail;go_ret;exact⟨aA (by rw[HR.out];rfl),by first|exact bf.out |(rw[hq];exact bf.out)⟩)
  |skip
   have x0:=ki.out.cell 0;have x1:=ki.out.cell 1;have x2:=ki.out.cell 2;have x3:=ki.out.cell 3;have x4:=ki.out.cell 4;have x5:=ki.out.cell 5;have y0:=fz.out.cell 0;have y1:=fz.out.cell 1;have y2:=fz.out.cell 2;have y3:=fz.out.cell 3;have y4:=fz.out.cell 4;have y5:=fz.out.cell 5;simp only[za,zb,zf]at x0 x1 x2 x3 x4 x5;simp only[za,zb,zf]at y0 y1 y2 y3 y4 y5
   go_in
   go_upto_region 1 with fail
   rw[<- am.out,<- jx.out];generalize hq:w.heap.size=q at *
   go_wp2_with fail
   refine(HOA.out _).mono ?_;rintro e w3 ⟨rfl,hb⟩;have bf:=zh (aw.out.trans (hb.mono (by have:=aw.out.size;omega)));have dq:=zh (ki.out.next hb);have dr:=zh (fz.out.next hb);clear x0 x1 x2 x3 x4 x5;clear y0 y1 y2 y3 y4 y5;clear hb;have x0:=dq.out.cell 0;have x1:=dq.out.cell 1;have x2:=dq.out.cell 2;have x3:=dq.out.cell 3;have x4:=dq.out.cell 4;have x5:=dq.out.cell 5;have y0:=dr.out.cell 0;have y1:=dr.out.cell 1;have y2:=dr.out.cell 2;have y3:=dr.out.cell 3;have y4:=dr.out.cell 4;have y5:=dr.out.cell 5;simp only[za,zb,zf]at x0 x1 x2 x3 x4 x5;simp only[za,zb,zf]at y0 y1 y2 y3 y4 y5
   go_wp2_with fail
   refine(HOB.out _).mono ?_;rintro e w4 ⟨rfl,hb⟩;have bt:=zh (bf.out.trans (hb.mono (by have:=bf.out.size;omega)));have tf:=zh (dq.out.next hb);have tg:=zh (dr.out.next hb);clear x0 x1 x2 x3 x4 x5;clear y0 y1 y2 y3 y4 y5;clear hb;have x0:=tf.out.cell 0;have x1:=tf.out.cell 1;have x2:=tf.out.cell 2;have x3:=tf.out.cell 3;have x4:=tf.out.cell 4;have x5:=tf.out.cell 5;have y0:=tg.out.cell 0;have y1:=tg.out.cell 1;have y2:=tg.out.cell 2;have y3:=tg.out.cell 3;have y4:=tg.out.cell 4;have y5:=tg.out.cell 5;simp only[za,zb,zf]at x0 x1 x2 x3 x4 x5;simp only[za,zb,zf]at y0 y1 y2 y3 y4 y5
   go_wp2_with fail
   go_ret
   exact⟨aA (by rw[HR.out];rfl),by first|exact bt.out |(rw[hq];exact bt.out)⟩
theorem tD(h:NodeH)(A:Option Addr)(n c:Nat)(w:World) :
  Calls Tryz.prog 38 #[cR h A n c] w fun e w'=>e=.returned (.bool (decide (h.kind=0)&&decide (h.v.kind=1)&&decide (h.v.mant<0)))/\Below w.heap.size w w':=by
 obtain⟨W1,an⟩:=zD (w.alloc (.cells (aK h A n c) 34))
 have am:=zh an;have HL:=zL an;have HB:=zA an;clear an;have x0:=HL.out.cell 0;have x1:=HL.out.cell 1;have x2:=HL.out.cell 2;simp only[za,zb,zf]at x0 x1 x2;by_cases h0:h.kind=0
 ·by_cases h1:h.v.kind=1
  ·by_cases h2:h.v.mant<0
   all_goals rw[decide_eq_true h0,decide_eq_true h1]
   all_goals rw[h0]at x0
   all_goals rw[h1]at x1
   all_goals go_in
   all_goals go_upto_region 1 with fail
   all_goals rw[<- am.out]
   all_goals generalize hq:w.heap.size=q at *
   all_goals go_wp2_with fail
   all_goals go_ret
   all_goals exact⟨aA (by simp[h2]),by first|exact HB.out |(rw[hq];exact HB.out)⟩
  rw[h0]at x0;have n1:((h.v.kind:Int)==1)=false:=by simpa using h1
  go_in
  go_upto_region 1 with fail
  rw[<- am.out];generalize hq:w.heap.size=q at *
  go_wp2_with fail
  go_ret
  exact⟨aA (by rw[decide_eq_false h1];simp),by first|exact HB.out |(rw[hq];exact HB.out)⟩
 have n0:((h.kind:Int)==0)=false:=by simpa using h0
 go_in
 go_upto_region 1 with fail
 rw[<- am.out];generalize hq:w.heap.size=q at *
 go_wp2_with fail
 go_ret
 exact⟨aA (by rw[decide_eq_false h0];simp),by first|exact HB.out |(rw[hq];exact HB.out)⟩
theorem fE{x:Int}(h:¬ x=0):¬ 0=x:=fun e=>h e.symm
theorem uCX(m e:Int)(t:Bs)(tr:Bool)(f:Int):aW ⟨1,m,e,t,tr,f⟩=(bD ⟨1,m,e,[],false,0⟩ ⟨1,m,e,t,tr,f⟩&&bI m e):=by
 by_cases hf:f=0
 ·subst hf;cases tr <;> cases t <;> simp[aW,bD]
 have h2:=fE hf;cases tr <;> cases t <;> simp_all [aW,bD]
theorem uCY(m e:Int)(t:Bs)(tr:Bool)(f:Int):aW ⟨2,m,e,t,tr,f⟩=(bD ⟨2,0,0,t,false,0⟩ ⟨2,m,e,t,tr,f⟩&&decide (t.length<=255)):=by
 by_cases hf:f=0
 ·subst hf;by_cases hm:m=0
  ·subst hm;by_cases he:e=0
   ·subst he;cases tr <;> simp[aW,bD]
   have h2:=fE he;cases tr <;> simp_all [aW,bD]
  have h2:=fE hm;cases tr <;> simp_all [aW,bD]
 have h2:=fE hf;cases tr <;> simp_all [aW,bD]
theorem xK(m e:Int)(t:Bs)(tr:Bool)(f:Int):aW ⟨3,m,e,t,tr,f⟩=bD ⟨3,0,0,[],tr,0⟩ ⟨3,m,e,t,tr,f⟩:=by
 by_cases hf:f=0
 ·subst hf;by_cases hm:m=0
  ·subst hm;by_cases he:e=0
   ·subst he;cases t <;> simp[aW,bD]
   have h2:=fE he;cases t <;> simp_all [aW,bD]
  have h2:=fE hm;cases t <;> simp_all [aW,bD]
 have h2:=fE hf;cases t <;> (simp_all [aW,bD];try omega)
theorem zW(m e:Int)(t:Bs)(tr:Bool)(f:Int):aW ⟨4,m,e,t,tr,f⟩=(bD ⟨4,0,0,[],false,f⟩ ⟨4,m,e,t,tr,f⟩&&decide (1<=f)&&decide (f<=9)):=by
 by_cases hm:m=0
 ·subst hm;by_cases he:e=0
  ·subst he;cases tr <;> cases t <;> simp[aW,bD]
  have h2:=fE he;cases tr <;> cases t <;> simp_all [aW,bD]
 have h2:=fE hm;cases tr <;> cases t <;> simp_all [aW,bD]
theorem zV(v:Val)(h0:v.kind≠0)(h1:v.kind≠1)(h2:v.kind≠2)(h3:v.kind≠3)(h4:v.kind≠4):aW v=false:=by
 simp[aW,h0,h1,h2,h3,h4]
theorem rLit_any(v:Val)(w:World)(h1:-9223372036854775808<=v.mant)(h2:v.mant<=9223372036854775807)(hl:v.text.length<=1000000) :
  Calls Tryz.prog 148 #[iK v] w fun x w'=>x=.returned (.bool (decide (v.kind≠0)&&aW v))/\Below w.heap.size w w':=by
 obtain⟨k,m,e,t,tr,f⟩:=v;dsimp only at h1 h2 hl;have HC:=zh (fun W=>uFZ m e W h1 h2);clear h1 h2;have HB:Hid (∀ W1,W1=w.alloc (.cells (lN ⟨k,m,e,t,tr,f⟩) 25)->∀ cs,Below w.heap.size w (W1.alloc (.cells cs 25))):=zh (fun W1 h cs=>by rw[h];exact((Below.refl _ w).alloc zr _).alloc (by simp) _);have hti:(t.length:Int)<=1000000:=by omega
 clear hl;by_cases k1:k=1
 ·subst k1;have E:=eI 1 m e [] false 0 1 m e t tr f;rw[uCX];obtain⟨c,hc⟩:=zE (bD ⟨1,m,e,[],false,0⟩ ⟨1,m,e,t,tr,f⟩)
  rw[hc]at E ⊢;clear hc
  go_in
  cases c
  ·clear HC
   go_wp2_with fail
   go_ret
   exact⟨aA (by simp),HB.out _ rfl _⟩
  go_wp2_with fail
  refine(HC.out _).mono ?_;rintro x w2 ⟨rfl,hb⟩;have aw:=zh ((HB.out _ rfl _).trans (hb.mono (by simp;omega)));clear hb HB
  go_wp2_with fail
  go_ret
  exact⟨aA (by simp),aw.out⟩
 clear HC;by_cases k2:k=2
 ·subst k2;have E:=eI 2 0 0 t false 0 2 m e t tr f;rw[uCY];obtain⟨c,hc⟩:=zE (bD ⟨2,0,0,t,false,0⟩ ⟨2,m,e,t,tr,f⟩)
  rw[hc]at E ⊢;clear hc;by_cases h255:t.length<=255
  all_goals go_in
  ·have hti2:(t.length:Int)<=255:=by omega
   cases c
   all_goals go_wp2_with fail
   all_goals go_ret
   all_goals exact⟨aA (by simp_all),HB.out _ rfl _⟩
  have hti2:¬ (t.length:Int)<=255:=by omega
  cases c
  all_goals go_wp2_with fail
  all_goals go_ret
  all_goals exact⟨aA (by simp_all),HB.out _ rfl _⟩
 by_cases k3:k=3
 ·subst k3;have E:=eI 3 0 0 [] tr 0 3 m e t tr f;rw[xK];obtain⟨c,hc⟩:=zE (bD ⟨3,0,0,[],tr,0⟩ ⟨3,m,e,t,tr,f⟩)
  rw[hc]at E ⊢;clear hc
  go_in
  go_wp2_with fail
  go_ret
  exact⟨aA (by simp),HB.out _ rfl _⟩
 by_cases k4:k=4
 ·subst k4;have E:=eI 4 0 0 [] false f 4 m e t tr f;rw[zW];obtain⟨c,hc⟩:=zE (bD ⟨4,0,0,[],false,f⟩ ⟨4,m,e,t,tr,f⟩)
  rw[hc]at E ⊢;clear hc
  go_in
  by_cases f1:1<=f
  ·by_cases f9:f<=9
   all_goals cases c
   all_goals go_wp2_with fail
   all_goals go_ret
   all_goals exact⟨aA (by first |(simp_all;done) |(rw[ze];simp;omega)),HB.out _ rfl _⟩
  cases c
  all_goals go_wp2_with fail
  all_goals go_ret
  all_goals exact⟨aA (by first |(simp_all;done) |(rw[ze];simp;omega)),HB.out _ rfl _⟩
 have hr:(decide (k≠0)&&aW ⟨k,m,e,t,tr,f⟩)=false:=by
  by_cases k0:k=0
  ·simp[k0]
  rw[zV _ k0 k1 k2 k3 k4,Bool.and_false]
 dsimp only at hr ⊢;rw[hr];have n1:((k:Int)==1)=false:=by simpa using k1
 have n2:((k:Int)==2)=false:=by simpa using k2
 have n3:((k:Int)==3)=false:=by simpa using k3
 have n4:((k:Int)==4)=false:=by simpa using k4
 clear hr
 go_in
 go_wp2_with fail
 go_ret
 exact⟨rfl,HB.out _ rfl _⟩
theorem uGP:∀ (t:Tree),t.same t=true:=by
 have key:∀ n (t:Tree),t.size<=n->t.same t=true:=by
  intro n
  induction n with
  |zero=>intro t h;have:=tN t;omega
  |succ n ih=>
   rintro⟨h,l⟩ hs;unfold Tree.same;rw[headSame,Bool.true_and];refine(lW rfl).2 (fun i h1 _=>ih _ ?_);have:=fG (t:=.mk h l) (i:=i) h1;show l[i].size<=n;have h9:(l[i]'h1).size<(Tree.mk h l).size:=this;omega
 exact fun t=>key _ t zr
theorem uFN(h:NodeH)(A:Option Addr)(n c:Nat):(aK h A n c).all (·.oneCell')=true:=by simp[aK,Value.oneCell']
theorem uFE{W':World}{C:List Value}(hC:C.length=22):World.there (W'.alloc (.cells fM.toArray 34)) W'.heap.size 0 C.toArray.size:=by
 have:=(Lies.new W' 34 fM.toArray).thereA;have h0:C.toArray.size=22:=by rw[yd,hC]
 rw[h0];exact this
theorem eQ{w w':World}{A:Option Addr}{ids:List IdR}(h:eS w A ids)(hb:Below w.heap.size w w'):eS w' A ids:=fun h0=>by
 obtain⟨g,o,e,hr⟩:=h h0;exact⟨g,o,e,hr.at hb.size (hb.block g hr.1)⟩
theorem uEK(w:World)(t:TypeId)(xs:List Bs):TxtAt (w.alloc (.cells (xs.map fun s=>Value.string ⟨s.toArray⟩).toArray t)) w.heap.size xs:=fun j hj=>by
 rw[(Lies.new w t _).cell j];simp[hj]
theorem aL{P:Program}{ops:Array Oper}{rest:List Oper}{op:Oper}{a:Act}{w:World}{Q:Exit->Act->World->Prop}(hw:Region.wanted op (yielded ops a.tmps)=true)(ty:TypeId)(x:Operand)(ho:op.op=.load ty x)
  (b o:Nat) (hx:a.eval x=vP b o) (cs:List Value) (d:TypeDesc) (hc:w.rangeAt b o cs)
  (hu:P.underlying ty=some d) (hd:d.isRow=true) (hi:(P.info? ty).map (·.size)=some cs.length)
  (h:wpList P ops Q rest (a.put op.dst (.agg cs.toArray)) w):wpList P ops Q (op::rest) a w :=
 BigFrame.wpList_want hw fun _ hK=>wp_load_mid ty x ho b o hx cs d hc hu hd hi (hK _ _ h)
theorem Lies.putMid{b:Nat}{t:TypeId}:∀ (vs:List Value) (i:Nat) (W:World) (cs:List Value),Lies W b t cs.toArray->i+vs.length<=cs.length->Lies (W.setCells b i vs) b t (cs.take i++vs++cs.drop (i+vs.length)).toArray
 | [],i,_,cs,h,_=>by
  have:cs.take i++[]++cs.drop (i+([]:List Value).length)=cs:=by simp
  rw[this];exact h
 |v::r,i,W,cs,h,hl=>by
  have hi:i<cs.length:=by simp at hl;omega
  have h0:Lies (W.setCell ⟨b,i,none⟩ v) b t (cs.set i v).toArray:=by
   have:=h.put i v
   rwa [yz]at this
  have h1:=Lies.putMid r (i+1) _ _ h0 (by simp at hl ⊢;omega);have e:(cs.set i v).take (i+1)++r++(cs.set i v).drop (i+1+r.length)=cs.take i++(v::r)++cs.drop (i+(v::r).length):=by
   rw[yw (by simpa using hi),List.getElem_set_self,List.take_set_of_le zr,List.drop_set_of_lt (by omega)];simp[Nat.add_assoc,Nat.add_comm 1]
  rw[<- e];exact h1
theorem Lies.rangeL{w:World}{b:Nat}{t:TypeId}{C:List Value}(h:Lies w b t C.toArray):w.rangeAt b 0 C:=by
 have:=h.range
 rwa [List.toList_toArray]at this
theorem cP{C:List Value}{h:NodeH}{A:Option Addr}{n cp:Nat}(e:C.toArray=aK h A n cp):(Tryz.prog.info? 34).map (·.size)=some C.length:=by
 have h2:C.length=22:=by rw[<- yd,e];rfl
 rw[h2];exact bZ
theorem dI(h h':NodeH)(l:List Tree):(Tree.mk h l).same (.mk h' l)=NodeH.same h h':=by
 have e:(NodeH.same h h&&fL l l)=true:=uGP (.mk h l);rw[yh]at e;show (NodeH.same h h'&&fL l l)=_;rw[e.2,Bool.and_true]
theorem dU(k:Int)(A:Option Addr)(n cp:Nat)(M:NodeH)(Cn:List Value)(w:World):∃ (W1:World) (Cm Ck:List Value),Hid (w.alloc (.cells Cn.toArray 34)=W1)/\Hid (Lies W1 w.heap.size 34 Cn.toArray)/\Hid (Below w.heap.size w W1)/\Hid (W1.heap.size=w.heap.size+1)/\Hid (#[vI k,vI 0,vI 0,vI 0,vS #[],.bool false,vI 0,vS #[],vI 0,vI 0,vI 0,vI 0,.bool false,.bool false,vI 0,vI 0,vI 0,vI 0,.bool false,.bool false,vI 0,.slice A n cp]=Cm.toArray)/\Hid (Cm.toArray=aK ⟨k,aE,[],aQ,aQ,0⟩ A n cp)/\Hid ((W1.alloc (.cells fM.toArray 34)).there W1.heap.size 0 Cm.toArray.size)/\Hid (Cm.toArray.all (·.oneCell')=true)/\Hid ((Tryz.prog.info? 34).map (·.size)=some Cm.toArray.size)/\Hid (Lies (World.setCells (W1.alloc (.cells fM.toArray 34)) W1.heap.size 0 Cm) W1.heap.size 34 Cm.toArray)/\Hid (Lies (World.setCells (W1.alloc (.cells fM.toArray 34)) W1.heap.size 0 Cm) w.heap.size 34 Cn.toArray)/\Hid (Below w.heap.size w (World.setCells (W1.alloc (.cells fM.toArray 34)) W1.heap.size 0 Cm))/\Hid (Ck.toArray=aK M A n cp):=by
 obtain⟨W1,iz⟩:∃ W,w.alloc (.cells Cn.toArray 34)=W:=⟨_,rfl⟩
 have HL:Lies W1 w.heap.size 34 Cn.toArray:=by rw[<- iz];exact Lies.new _ _ _
 have HB:Below w.heap.size w W1:=by rw[<- iz];exact(zp _)
 obtain⟨Cm,hCm⟩:∃ C:List Value,#[vI k,vI 0,vI 0,vI 0,vS #[],.bool false,vI 0,vS #[],vI 0,vI 0,vI 0,vI 0,.bool false,.bool false,vI 0,vI 0,vI 0,vI 0,.bool false,.bool false,vI 0,.slice A n cp]=C.toArray:=⟨_,rfl⟩
 have ti:Cm.length=22:=by rw[<- yd,<- hCm];rfl
 have bv:Below W1.heap.size W1 (World.setCells (W1.alloc (.cells fM.toArray 34)) W1.heap.size 0 Cm):=kp_below (nW (.inr zr) Cm 0 ((Kp.refl _ _).alloc _));exact⟨W1,Cm,(aK M A n cp).toList,zh iz,zh HL,zh HB,zh (by rw[<- iz];simp),zh hCm,zh hCm.symm,zh (uFE ti),zh (by rw[<- hCm];exact uFN ⟨k,aE,[],aQ,aQ,0⟩ A n cp),zh (by rw[yd,ti];exact bZ),zh ((Lies.new W1 34 fM.toArray).putAll (by rw[ti];rfl)),zh (HL.next bv),zh (zU HB bv),zh (by simp)⟩
theorem rOwnG9(v:Val)(s:Bs)(a b:Cor)(r:Int)(l:List Tree)(A:Option Addr)(cp:Nat)(Cn:List Value)(w:World)(hk:KidsOk w [] A l)(hs:(Tree.mk ⟨9,v,s,a,b,r⟩ l).size<=1000000)(ah:Hid (Cn.toArray=aK ⟨9,v,s,a,b,r⟩ A l.length cp)) :
  Calls Tryz.prog 87 #[.agg Cn.toArray] w fun e w'=>e=.returned (.bool ((decide (l.length=0))&&NodeH.same ⟨9,aE,[],aQ,aQ,0⟩ ⟨9,v,s,a,b,r⟩))/\Below w.heap.size w w':=by
 obtain⟨sm,ft⟩:∃ c,NodeH.same ⟨9,aE,[],aQ,aQ,0⟩ ⟨9,v,s,a,b,r⟩=c:=⟨_,rfl⟩
 have m6:=zh ft;rw[ft];clear ft;have de:=zh hs;clear hs;have HK:=zh hk;clear hk;have qp:l.length<=1000000:=by have h1:=cF l;have h2:aN l+1<=1000000:=de.out;omega
 obtain⟨W1,Cm,Ck,am,HL,HB,fo,ew,i8,HT,yo,cu,bu,bw,bf,er⟩:=dU 9 (A) l.length cp ⟨9,aE,[],aQ,aQ,0⟩ Cn w;have x0:=HL.out.cell 0;have x21:=HL.out.cell 21;rw[ah.out]at x0 x21;simp only[za,zb,zf]at x0 x21
 go_in
 go_upto_region 1 with fail
 rw[am.out];clear am;generalize hQ:w.heap.size=q at *
 go_upto_region 2 with(first |(refine yq rfl 34 (.tmp 3) (.tmp 9) rfl W1.heap.size 0 Cm.toArray rfl (congrArg Value.agg ew.out) HT.out cu.out yo.out ?_;change wpList _ _ _ _ _ (World.setCells _ W1.heap.size 0 Cm)))
 generalize World.setCells _ _ _ _=W3 at bu bw bf ⊢;rw[ew.out];clear x0 x21;have dc:=fo.out;generalize W1.heap.size=q1 at *;subst dc;clear HL HB fo ew HT yo cu;rw[i8.out,<- er.out]at bu;have x0:=bw.out.cell 0;have x21:=bw.out.cell 21;rw[ah.out]at x0 x21;simp only[za,zb,zf]at x0 x21;by_cases hl:l.length=0
 ·have el:((l.length:Int)==0)=true:=by rw[hl];rfl
  have hd:decide (l.length=0)=true:=decide_eq_true hl;clear hl;have m8:=zh (bu.out.rangeL);have iu:=zh (bw.out.rangeL);have HI:=zh (cP ah.out);have je:=zh (cP er.out);have ee:=zh (cU 1000000 zr (.mk ⟨9,aE,[],aQ,aQ,0⟩ l) (.mk ⟨9,v,s,a,b,r⟩ l) _ _ W3 de.out ⟨A,cp,er.out,HK.out.kp (Kp.of_below (by rw[hQ];exact bf.out))⟩ ⟨A,cp,ah.out,HK.out.kp (Kp.of_below (by rw[hQ];exact bf.out))⟩);rw[dI,m6.out]at ee
  go_wp2_with (first |(refine aL (Eq.trans (aT rfl rfl rfl rfl) rfl) 34 (.tmp 3) rfl (q+1) 0 rfl Ck _ m8.out Tryz.underlying34 rfl je.out ?_) |(refine aL (Eq.trans (aT rfl rfl rfl rfl) rfl) 34 (.tmp 1) rfl q 0 rfl Cn _ iu.out Tryz.underlying34 rfl HI.out ?_))
  refine ee.out.mono ?_;rintro e w9 ⟨rfl,ii⟩;have iy:=zh (bf.out.trans (ii.mono (by have:=bf.out.size;omega)));clear ii
  go_wp2_with fail
  go_ret
  exact⟨aA (by rw[hd];try simp),by first|exact iy.out |(rw[hQ];exact iy.out)⟩
 have el:((l.length:Int)==0)=false:=by rw[beq_eq_false_iff_ne];omega
 have hd:decide (l.length=0)=false:=decide_eq_false hl;clear hl
 go_wp2_with fail
 go_ret
 exact⟨aA (by rw[hd];try simp),by first|exact bf.out |(rw[hQ];exact bf.out)⟩
theorem rOwnG5(v:Val)(s:Bs)(a b:Cor)(r:Int)(l:List Tree)(A:Option Addr)(cp:Nat)(Cn:List Value)(w:World)(hk:KidsOk w [] A l)(hs:(Tree.mk ⟨5,v,s,a,b,r⟩ l).size<=1000000)(ah:Hid (Cn.toArray=aK ⟨5,v,s,a,b,r⟩ A l.length cp)) :
  Calls Tryz.prog 87 #[.agg Cn.toArray] w fun e w'=>e=.returned (.bool ((([[45],[43],[37]]:List Bs).contains s&&decide (l.length=1))&&NodeH.same ⟨5,aE,s,aQ,aQ,0⟩ ⟨5,v,s,a,b,r⟩))/\Below w.heap.size w w':=by
 obtain⟨sm,ft⟩:∃ c,NodeH.same ⟨5,aE,s,aQ,aQ,0⟩ ⟨5,v,s,a,b,r⟩=c:=⟨_,rfl⟩
 have m6:=zh ft;rw[ft];clear ft;obtain⟨b1,ab⟩:∃ c,([[45],[43],[37]]:List Bs).contains s=c:=⟨_,rfl⟩
 have HCT:=zh ab;rw[ab];clear ab;have de:=zh hs;clear hs;have HK:=zh hk;clear hk;have qp:l.length<=1000000:=by have h1:=cF l;have h2:aN l+1<=1000000:=de.out;omega
 obtain⟨W1,Cm,Ck,am,HL,HB,fo,ew,i8,HT,yo,cu,bu,bw,bf,er⟩:=dU 5 (A) l.length cp ⟨5,aE,s,aQ,aQ,0⟩ Cn w;have x0:=HL.out.cell 0;have x21:=HL.out.cell 21;rw[ah.out]at x0 x21;simp only[za,zb,zf]at x0 x21
 go_in
 go_upto_region 1 with fail
 rw[am.out];clear am;generalize hQ:w.heap.size=q at *
 go_upto_region 2 with(first |(refine yq rfl 34 (.tmp 3) (.tmp 9) rfl W1.heap.size 0 Cm.toArray rfl (congrArg Value.agg ew.out) HT.out cu.out yo.out ?_;change wpList _ _ _ _ _ (World.setCells _ W1.heap.size 0 Cm)))
 generalize World.setCells _ _ _ _=W3 at bu bw bf ⊢;rw[ew.out];clear x0 x21;have dc:=fo.out;generalize W1.heap.size=q1 at *;subst dc;clear HL HB fo ew HT yo cu;have x0:=bw.out.cell 0;have x7:=bw.out.cell 7;rw[ah.out]at x0 x7;simp only[za,zb,zf]at x0 x7;have y7:=bu.out.cell 7;have yf7:=bu.out.frozen 7;rw[i8.out]at y7;simp only[za,zb,zf]at y7
 go_upto_region 19 with fail
 clear x0 x7;clear y7 yf7;have f7:=bu.out;rw[i8.out]at f7;have dm:Hid (Lies _ (q+1) 34 Ck.toArray):=zh (by rw[er.out];exact(f7.put 7 (vT s)));have au:=zh (aC bw.out (b:=q+1) (by omega) 7 (vT s));have bt:=zh (bf.out.setCell (p:=⟨q+1,7,none⟩) (Nat.le_succ q) (vT s));generalize World.setCell _ _ _=W4 at dm au bt ⊢;clear bu bw bf f7;have x7:=au.out.cell 7;have x21:=au.out.cell 21;rw[ah.out]at x7 x21;simp only[za,zb,zf]at x7 x21
 go_wp2_with fail
 have fw:Below W4.heap.size W4 _:=zp (.cells (([[45],[43],[37]]:List Bs).map fun s=>Value.string ⟨s.toArray⟩).toArray 9);have HTX:=zh (uEK W4 9 [[45],[43],[37]]);change Calls _ _ _ (World.alloc W4 (.cells (([[45],[43],[37]]:List Bs).map fun s=>Value.string ⟨s.toArray⟩).toArray 9)) _;generalize World.alloc _ _=w5 at fw HTX ⊢;refine(uEH s _ _ [[45],[43],[37]] w5 HTX.out (by decide)).mono ?_;rintro e w6 ⟨rfl,rfl⟩;rw[HCT.out];clear HCT;clear x7 x21;have bm:=zh (bt.out.trans (fw.mono (by have:=bt.out.size;omega)));have mi:=zh (dm.out.next fw);have iv:=zh (au.out.next fw);clear fw;have z21:=iv.out.cell 21;rw[ah.out]at z21;simp only[za,zb,zf]at z21;cases b1
 ·go_wp2_with fail
  go_ret
  exact⟨aA (by rfl;try simp),by first|exact bm.out |(rw[hQ];exact bm.out)⟩
 by_cases hl:l.length=1
 ·have el:((l.length:Int)==1)=true:=by rw[hl];rfl
  have hd:decide (l.length=1)=true:=decide_eq_true hl;clear hl;have m8:=zh (mi.out.rangeL);have iu:=zh (iv.out.rangeL);have HI:=zh (cP ah.out);have je:=zh (cP er.out);have ee:=zh (cU 1000000 zr (.mk ⟨5,aE,s,aQ,aQ,0⟩ l) (.mk ⟨5,v,s,a,b,r⟩ l) _ _ w5 de.out ⟨A,cp,er.out,HK.out.kp (Kp.of_below (by rw[hQ];exact bm.out))⟩ ⟨A,cp,ah.out,HK.out.kp (Kp.of_below (by rw[hQ];exact bm.out))⟩);rw[dI,m6.out]at ee
  go_wp2_with (first |(refine aL (Eq.trans (aT rfl rfl rfl rfl) rfl) 34 (.tmp 3) rfl (q+1) 0 rfl Ck _ m8.out Tryz.underlying34 rfl je.out ?_) |(refine aL (Eq.trans (aT rfl rfl rfl rfl) rfl) 34 (.tmp 1) rfl q 0 rfl Cn _ iu.out Tryz.underlying34 rfl HI.out ?_))
  refine ee.out.mono ?_;rintro e w9 ⟨rfl,ii⟩;have iy:=zh (bm.out.trans (ii.mono (by have:=bm.out.size;omega)));clear ii
  go_wp2_with fail
  go_ret
  exact⟨aA (by rw[hd];try simp),by first|exact iy.out |(rw[hQ];exact iy.out)⟩
 have el:((l.length:Int)==1)=false:=by rw[beq_eq_false_iff_ne];omega
 have hd:decide (l.length=1)=false:=decide_eq_false hl;clear hl
 go_wp2_with fail
 go_ret
 exact⟨aA (by rw[hd];try simp),by first|exact bm.out |(rw[hQ];exact bm.out)⟩
theorem rOwnG6(v:Val)(s:Bs)(a b:Cor)(r:Int)(l:List Tree)(A:Option Addr)(cp:Nat)(Cn:List Value)(w:World)(hk:KidsOk w [] A l)(hs:(Tree.mk ⟨6,v,s,a,b,r⟩ l).size<=1000000)(ah:Hid (Cn.toArray=aK ⟨6,v,s,a,b,r⟩ A l.length cp)) :
  Calls Tryz.prog 87 #[.agg Cn.toArray] w fun e w'=>e=.returned (.bool ((([[43],[45],[42],[47],[94],[38],[61],[60,62],[60],[60,61],[62],[62,61]]:List Bs).contains s&&decide (l.length=2))&&NodeH.same ⟨6,aE,s,aQ,aQ,0⟩ ⟨6,v,s,a,b,r⟩))/\Below w.heap.size w w':=by
 obtain⟨sm,ft⟩:∃ c,NodeH.same ⟨6,aE,s,aQ,aQ,0⟩ ⟨6,v,s,a,b,r⟩=c:=⟨_,rfl⟩
 have m6:=zh ft;rw[ft];clear ft;obtain⟨b1,ab⟩:∃ c,([[43],[45],[42],[47],[94],[38],[61],[60,62],[60],[60,61],[62],[62,61]]:List Bs).contains s=c:=⟨_,rfl⟩
 have HCT:=zh ab;rw[ab];clear ab;have de:=zh hs;clear hs;have HK:=zh hk;clear hk;have qp:l.length<=1000000:=by have h1:=cF l;have h2:aN l+1<=1000000:=de.out;omega
 obtain⟨W1,Cm,Ck,am,HL,HB,fo,ew,i8,HT,yo,cu,bu,bw,bf,er⟩:=dU 6 (A) l.length cp ⟨6,aE,s,aQ,aQ,0⟩ Cn w;have x0:=HL.out.cell 0;have x21:=HL.out.cell 21;rw[ah.out]at x0 x21;simp only[za,zb,zf]at x0 x21
 go_in
 go_upto_region 1 with fail
 rw[am.out];clear am;generalize hQ:w.heap.size=q at *
 go_upto_region 2 with(first |(refine yq rfl 34 (.tmp 3) (.tmp 9) rfl W1.heap.size 0 Cm.toArray rfl (congrArg Value.agg ew.out) HT.out cu.out yo.out ?_;change wpList _ _ _ _ _ (World.setCells _ W1.heap.size 0 Cm)))
 generalize World.setCells _ _ _ _=W3 at bu bw bf ⊢;rw[ew.out];clear x0 x21;have dc:=fo.out;generalize W1.heap.size=q1 at *;subst dc;clear HL HB fo ew HT yo cu;have x0:=bw.out.cell 0;have x7:=bw.out.cell 7;rw[ah.out]at x0 x7;simp only[za,zb,zf]at x0 x7;have y7:=bu.out.cell 7;have yf7:=bu.out.frozen 7;rw[i8.out]at y7;simp only[za,zb,zf]at y7
 go_upto_region 22 with fail
 clear x0 x7;clear y7 yf7;have f7:=bu.out;rw[i8.out]at f7;have dm:Hid (Lies _ (q+1) 34 Ck.toArray):=zh (by rw[er.out];exact(f7.put 7 (vT s)));have au:=zh (aC bw.out (b:=q+1) (by omega) 7 (vT s));have bt:=zh (bf.out.setCell (p:=⟨q+1,7,none⟩) (Nat.le_succ q) (vT s));generalize World.setCell _ _ _=W4 at dm au bt ⊢;clear bu bw bf f7;have x7:=au.out.cell 7;have x21:=au.out.cell 21;rw[ah.out]at x7 x21;simp only[za,zb,zf]at x7 x21
 go_wp2_with fail
 have fw:Below W4.heap.size W4 _:=zp (.cells (([[43],[45],[42],[47],[94],[38],[61],[60,62],[60],[60,61],[62],[62,61]]:List Bs).map fun s=>Value.string ⟨s.toArray⟩).toArray 9);have HTX:=zh (uEK W4 9 [[43],[45],[42],[47],[94],[38],[61],[60,62],[60],[60,61],[62],[62,61]]);change Calls _ _ _ (World.alloc W4 (.cells (([[43],[45],[42],[47],[94],[38],[61],[60,62],[60],[60,61],[62],[62,61]]:List Bs).map fun s=>Value.string ⟨s.toArray⟩).toArray 9)) _;generalize World.alloc _ _=w5 at fw HTX ⊢;refine(uEH s _ _ [[43],[45],[42],[47],[94],[38],[61],[60,62],[60],[60,61],[62],[62,61]] w5 HTX.out (by decide)).mono ?_;rintro e w6 ⟨rfl,rfl⟩;rw[HCT.out];clear HCT;clear x7 x21;have bm:=zh (bt.out.trans (fw.mono (by have:=bt.out.size;omega)));have mi:=zh (dm.out.next fw);have iv:=zh (au.out.next fw);clear fw;have z21:=iv.out.cell 21
 rw[ah.out]at z21;simp only[za,zb,zf]at z21;cases b1
 ·go_wp2_with fail
  go_ret
  exact⟨aA (by rfl;try simp),by first|exact bm.out |(rw[hQ];exact bm.out)⟩
 by_cases hl:l.length=2
 ·have el:((l.length:Int)==2)=true:=by rw[hl];rfl
  have hd:decide (l.length=2)=true:=decide_eq_true hl;clear hl;have m8:=zh (mi.out.rangeL);have iu:=zh (iv.out.rangeL);have HI:=zh (cP ah.out);have je:=zh (cP er.out);have ee:=zh (cU 1000000 zr (.mk ⟨6,aE,s,aQ,aQ,0⟩ l) (.mk ⟨6,v,s,a,b,r⟩ l) _ _ w5 de.out ⟨A,cp,er.out,HK.out.kp (Kp.of_below (by rw[hQ];exact bm.out))⟩ ⟨A,cp,ah.out,HK.out.kp (Kp.of_below (by rw[hQ];exact bm.out))⟩);rw[dI,m6.out]at ee
  go_wp2_with (first |(refine aL (Eq.trans (aT rfl rfl rfl rfl) rfl) 34 (.tmp 3) rfl (q+1) 0 rfl Ck _ m8.out Tryz.underlying34 rfl je.out ?_) |(refine aL (Eq.trans (aT rfl rfl rfl rfl) rfl) 34 (.tmp 1) rfl q 0 rfl Cn _ iu.out Tryz.underlying34 rfl HI.out ?_))
  refine ee.out.mono ?_;rintro e w9 ⟨rfl,ii⟩;have iy:=zh (bm.out.trans (ii.mono (by have:=bm.out.size;omega)));clear ii
  go_wp2_with fail
  go_ret
  exact⟨aA (by rw[hd];try simp),by first|exact iy.out |(rw[hQ];exact iy.out)⟩
 have el:((l.length:Int)==2)=false:=by rw[beq_eq_false_iff_ne];omega
 have hd:decide (l.length=2)=false:=decide_eq_false hl;clear hl
 go_wp2_with fail
 go_ret
 exact⟨aA (by rw[hd];try simp),by first|exact bm.out |(rw[hQ];exact bm.out)⟩
theorem rOwnG7(v:Val)(s:Bs)(a b:Cor)(r:Int)(l:List Tree)(A:Option Addr)(cp:Nat)(Cn:List Value)(w:World)(hk:KidsOk w [] A l)(hs:(Tree.mk ⟨7,v,s,a,b,r⟩ l).size<=1000000)(ah:Hid (Cn.toArray=aK ⟨7,v,s,a,b,r⟩ A l.length cp))(ji:s.length<=100000) :
  Calls Tryz.prog 87 #[.agg Cn.toArray] w fun e w'=>e=.returned (.bool ((bS s&&decide (l.length=0))&&NodeH.same ⟨7,aE,s,aQ,aQ,0⟩ ⟨7,v,s,a,b,r⟩))/\Below w.heap.size w w':=by
 obtain⟨sm,ft⟩:∃ c,NodeH.same ⟨7,aE,s,aQ,aQ,0⟩ ⟨7,v,s,a,b,r⟩=c:=⟨_,rfl⟩
 have m6:=zh ft;rw[ft];clear ft;have vg:=zh (fun W=>uFU s W ji);generalize bS s=b1 at *;clear ji;have de:=zh hs;clear hs;have HK:=zh hk;clear hk;have qp:l.length<=1000000:=by have h1:=cF l;have h2:aN l+1<=1000000:=de.out;omega
 obtain⟨W1,Cm,Ck,am,HL,HB,fo,ew,i8,HT,yo,cu,bu,bw,bf,er⟩:=dU 7 (A) l.length cp ⟨7,aE,s,aQ,aQ,0⟩ Cn w;have x0:=HL.out.cell 0;have x21:=HL.out.cell 21;rw[ah.out]at x0 x21;simp only[za,zb,zf]at x0 x21
 go_in
 go_upto_region 1 with fail
 rw[am.out];clear am;generalize hQ:w.heap.size=q at *
 go_upto_region 2 with(first |(refine yq rfl 34 (.tmp 3) (.tmp 9) rfl W1.heap.size 0 Cm.toArray rfl (congrArg Value.agg ew.out) HT.out cu.out yo.out ?_;change wpList _ _ _ _ _ (World.setCells _ W1.heap.size 0 Cm)))
 generalize World.setCells _ _ _ _=W3 at bu bw bf ⊢;rw[ew.out];clear x0 x21;have dc:=fo.out;generalize W1.heap.size=q1 at *;subst dc;clear HL HB fo ew HT yo cu;have x0:=bw.out.cell 0;have x7:=bw.out.cell 7;rw[ah.out]at x0 x7;simp only[za,zb,zf]at x0 x7;have y7:=bu.out.cell 7;have yf7:=bu.out.frozen 7;rw[i8.out]at y7;simp only[za,zb,zf]at y7
 go_upto_region 25 with fail
 clear x0 x7;clear y7 yf7;have f7:=bu.out;rw[i8.out]at f7;have dm:Hid (Lies _ (q+1) 34 Ck.toArray):=zh (by rw[er.out];exact(f7.put 7 (vT s)));have au:=zh (aC bw.out (b:=q+1) (by omega) 7 (vT s));have bt:=zh (bf.out.setCell (p:=⟨q+1,7,none⟩) (Nat.le_succ q) (vT s));generalize World.setCell _ _ _=W4 at dm au bt ⊢;clear bu bw bf f7;have x7:=au.out.cell 7;have x21:=au.out.cell 21;rw[ah.out]at x7 x21;simp only[za,zb,zf]at x7 x21
 go_wp2_with fail
 refine(vg.out _).mono ?_;rintro e w5 ⟨rfl,rfl⟩;clear vg;cases b1
 ·go_wp2_with fail
  go_ret
  exact⟨aA (by rfl;try simp),by first|exact bt.out |(rw[hQ];exact bt.out)⟩
 by_cases hl:l.length=0
 ·have el:((l.length:Int)==0)=true:=by rw[hl];rfl
  have hd:decide (l.length=0)=true:=decide_eq_true hl;clear hl;have m8:=zh (dm.out.rangeL);have iu:=zh (au.out.rangeL);have HI:=zh (cP ah.out);have je:=zh (cP er.out);have ee:=zh (cU 1000000 zr (.mk ⟨7,aE,s,aQ,aQ,0⟩ l) (.mk ⟨7,v,s,a,b,r⟩ l) _ _ W4 de.out ⟨A,cp,er.out,HK.out.kp (Kp.of_below (by rw[hQ];exact bt.out))⟩ ⟨A,cp,ah.out,HK.out.kp (Kp.of_below (by rw[hQ];exact bt.out))⟩);rw[dI,m6.out]at ee
  go_wp2_with (first |(refine aL (Eq.trans (aT rfl rfl rfl rfl) rfl) 34 (.tmp 3) rfl (q+1) 0 rfl Ck _ m8.out Tryz.underlying34 rfl je.out ?_) |(refine aL (Eq.trans (aT rfl rfl rfl rfl) rfl) 34 (.tmp 1) rfl q 0 rfl Cn _ iu.out Tryz.underlying34 rfl HI.out ?_))
  refine ee.out.mono ?_;rintro e w9 ⟨rfl,ii⟩;have iy:=zh (bt.out.trans (ii.mono (by have:=bt.out.size;omega)));clear ii
  go_wp2_with fail
  go_ret
  exact⟨aA (by rw[hd];try simp),by first|exact iy.out |(rw[hQ];exact iy.out)⟩
 have el:((l.length:Int)==0)=false:=by rw[beq_eq_false_iff_ne];omega
 have hd:decide (l.length=0)=false:=decide_eq_false hl;clear hl
 go_wp2_with fail
 go_ret
 exact⟨aA (by rw[hd];try simp),by first|exact bt.out |(rw[hQ];exact bt.out)⟩
theorem rOwnG0(v:Val)(s:Bs)(a b:Cor)(r:Int)(l:List Tree)(A:Option Addr)(cp:Nat)(Cn:List Value)(w:World)(hk:KidsOk w [] A l)(hs:(Tree.mk ⟨0,v,s,a,b,r⟩ l).size<=1000000)(ah:Hid (Cn.toArray=aK ⟨0,v,s,a,b,r⟩ A l.length cp))(hv:-9223372036854775808<=v.mant/\v.mant<=9223372036854775807/\v.text.length<=1000000) :
  Calls Tryz.prog 87 #[.agg Cn.toArray] w fun e w'=>e=.returned (.bool (((decide (v.kind≠0)&&aW v)&&decide (l.length=0))&&NodeH.same ⟨0,v,[],aQ,aQ,0⟩ ⟨0,v,s,a,b,r⟩))/\Below w.heap.size w w':=by
 obtain⟨sm,ft⟩:∃ c,NodeH.same ⟨0,v,[],aQ,aQ,0⟩ ⟨0,v,s,a,b,r⟩=c:=⟨_,rfl⟩
 have m6:=zh ft;rw[ft];clear ft;have vg:=zh (fun W=>rLit_any v W hv.1 hv.2.1 hv.2.2);generalize (decide (v.kind≠0)&&aW v)=b1 at *;clear hv;have de:=zh hs;clear hs;have HK:=zh hk;clear hk;have qp:l.length<=1000000:=by have h1:=cF l;have h2:aN l+1<=1000000:=de.out;omega
 obtain⟨W1,Cm,Ck,am,HL,HB,fo,ew,i8,HT,yo,cu,bu,bw,bf,er⟩:=dU 0 (A) l.length cp ⟨0,v,[],aQ,aQ,0⟩ Cn w;have x0:=HL.out.cell 0;have x21:=HL.out.cell 21;rw[ah.out]at x0 x21;simp only[za,zb,zf]at x0 x21
 go_in
 go_upto_region 1 with fail
 rw[am.out];clear am;generalize hQ:w.heap.size=q at *
 go_upto_region 2 with(first |(refine yq rfl 34 (.tmp 3) (.tmp 9) rfl W1.heap.size 0 Cm.toArray rfl (congrArg Value.agg ew.out) HT.out cu.out yo.out ?_;change wpList _ _ _ _ _ (World.setCells _ W1.heap.size 0 Cm)))
 generalize World.setCells _ _ _ _=W3 at bu bw bf ⊢;rw[ew.out];clear x0 x21;have dc:=fo.out;generalize W1.heap.size=q1 at *;subst dc;clear HL HB fo ew HT yo cu;have x0:=bw.out.cell 0;have x1:=bw.out.cell 1;have x2:=bw.out.cell 2;have x3:=bw.out.cell 3;have x4:=bw.out.cell 4;have x5:=bw.out.cell 5;have x6:=bw.out.cell 6;rw[ah.out]at x0 x1 x2 x3 x4 x5 x6;simp only[za,zb,zf]at x0 x1 x2 x3 x4 x5 x6;have y1:=bu.out.cell 1;have yf1:=bu.out.frozen 1;have y2:=bu.out.cell 2;have yf2:=bu.out.frozen 2;have y3:=bu.out.cell 3;have yf3:=bu.out.frozen 3;have y4:=bu.out.cell 4;have yf4:=bu.out.frozen 4;have y5:=bu.out.cell 5;have yf5:=bu.out.frozen 5;have y6:=bu.out.cell 6;have yf6:=bu.out.frozen 6;rw[i8.out]at y1 y2 y3 y4 y5 y6
 simp only[za,zb,zf]at y1 y2 y3 y4 y5 y6
 go_upto_region 6 with fail
 clear x0 x1 x2 x3 x4 x5 x6;clear y1 y2 y3 y4 y5 y6 yf1 yf2 yf3 yf4 yf5 yf6;have f7:=bu.out;rw[i8.out]at f7;have dm:Hid (Lies _ (q+1) 34 Ck.toArray):=zh (by rw[er.out];exact((((((f7.put 1 (vI v.kind)).put 2 (vI v.mant)).put 3 (vI v.exp)).put 4 (vT v.text)).put 5 (.bool v.truth)).put 6 (vI v.fault)));have au:=zh (aC (aC (aC (aC (aC (aC bw.out (b:=q+1) (by omega) 1 (vI v.kind)) (b:=q+1) (by omega) 2 (vI v.mant)) (b:=q+1) (by omega) 3 (vI v.exp)) (b:=q+1) (by omega) 4 (vT v.text)) (b:=q+1) (by omega) 5 (.bool v.truth)) (b:=q+1) (by omega) 6 (vI v.fault))
 have bt:=zh ((((((bf.out.setCell (p:=⟨q+1,1,none⟩) (Nat.le_succ q) (vI v.kind)).setCell (p:=⟨q+1,2,none⟩) (Nat.le_succ q) (vI v.mant)).setCell (p:=⟨q+1,3,none⟩) (Nat.le_succ q) (vI v.exp)).setCell (p:=⟨q+1,4,none⟩) (Nat.le_succ q) (vT v.text)).setCell (p:=⟨q+1,5,none⟩) (Nat.le_succ q) (.bool v.truth)).setCell (p:=⟨q+1,6,none⟩) (Nat.le_succ q) (vI v.fault));generalize World.setCell _ _ _=W4 at dm au bt ⊢;clear bu bw bf f7;have x1:=au.out.cell 1;have x2:=au.out.cell 2;have x3:=au.out.cell 3;have x4:=au.out.cell 4;have x5:=au.out.cell 5;have x6:=au.out.cell 6;have x21:=au.out.cell 21;rw[ah.out]at x1 x2 x3 x4 x5 x6 x21;simp only[za,zb,zf]at x1 x2 x3 x4 x5 x6 x21
 go_wp2_with fail
 refine(vg.out _).mono ?_;rintro e w5 ⟨rfl,fw⟩;clear vg;clear x1 x2 x3 x4 x5 x6 x21;have bm:=zh (bt.out.trans (fw.mono (by have:=bt.out.size;omega)));have mi:=zh (dm.out.next fw);have iv:=zh (au.out.next fw);clear fw;have z21:=iv.out.cell 21;rw[ah.out]at z21;simp only[za,zb,zf]at z21;cases b1
 ·go_wp2_with fail
  go_ret
  exact⟨aA (by rfl;try simp),by first|exact bm.out |(rw[hQ];exact bm.out)⟩
 by_cases hl:l.length=0
 ·have el:((l.length:Int)==0)=true:=by rw[hl];rfl
  have hd:decide (l.length=0)=true:=decide_eq_true hl;clear hl;have m8:=zh (mi.out.rangeL);have iu:=zh (iv.out.rangeL);have HI:=zh (cP ah.out);have je:=zh (cP er.out);have ee:=zh (cU 1000000 zr (.mk ⟨0,v,[],aQ,aQ,0⟩ l) (.mk ⟨0,v,s,a,b,r⟩ l) _ _ w5 de.out ⟨A,cp,er.out,HK.out.kp (Kp.of_below (by rw[hQ];exact bm.out))⟩ ⟨A,cp,ah.out,HK.out.kp (Kp.of_below (by rw[hQ];exact bm.out))⟩);rw[dI,m6.out]at ee
  go_wp2_with (first |(refine aL (Eq.trans (aT rfl rfl rfl rfl) rfl) 34 (.tmp 3) rfl (q+1) 0 rfl Ck _ m8.out Tryz.underlying34 rfl je.out ?_) |(refine aL (Eq.trans (aT rfl rfl rfl rfl) rfl) 34 (.tmp 1) rfl q 0 rfl Cn _ iu.out Tryz.underlying34 rfl HI.out ?_))
  refine ee.out.mono ?_;rintro e w9 ⟨rfl,ii⟩;have iy:=zh (bm.out.trans (ii.mono (by have:=bm.out.size;omega)));clear ii
  go_wp2_with fail
  go_ret
  exact⟨aA (by rw[hd];try simp),by first|exact iy.out |(rw[hQ];exact iy.out)⟩
 have el:((l.length:Int)==0)=false:=by rw[beq_eq_false_iff_ne];omega
 have hd:decide (l.length=0)=false:=decide_eq_false hl;clear hl
 go_wp2_with fail
 go_ret
 exact⟨aA (by rw[hd];try simp),by first|exact bm.out |(rw[hQ];exact bm.out)⟩
theorem rOwnG1(v:Val)(s:Bs)(a b:Cor)(r:Int)(l:List Tree)(A:Option Addr)(cp:Nat)(Cn:List Value)(w:World)(hk:KidsOk w [] A l)(hs:(Tree.mk ⟨1,v,s,a,b,r⟩ l).size<=1000000)(ah:Hid (Cn.toArray=aK ⟨1,v,s,a,b,r⟩ A l.length cp)) :
  Calls Tryz.prog 87 #[.agg Cn.toArray] w fun e w'=>e=.returned (.bool (((decide (a.row≠id0)&&decide (a.col≠id0))&&decide (l.length=0))&&NodeH.same ⟨1,aE,[],a,aQ,0⟩ ⟨1,v,s,a,b,r⟩))/\Below w.heap.size w w':=by
 obtain⟨sm,ft⟩:∃ c,NodeH.same ⟨1,aE,[],a,aQ,0⟩ ⟨1,v,s,a,b,r⟩=c:=⟨_,rfl⟩
 have m6:=zh ft;rw[ft];clear ft;have HO:=zh (fun W=>oC a W);generalize (decide (a.row≠id0)&&decide (a.col≠id0))=b1 at *;have de:=zh hs;clear hs;have HK:=zh hk;clear hk;have qp:l.length<=1000000:=by have h1:=cF l;have h2:aN l+1<=1000000:=de.out;omega
 obtain⟨W1,Cm,Ck,am,HL,HB,fo,ew,i8,HT,yo,cu,bu,bw,bf,er⟩:=dU 1 (A) l.length cp ⟨1,aE,[],a,aQ,0⟩ Cn w;have x0:=HL.out.cell 0;have x21:=HL.out.cell 21;rw[ah.out]at x0 x21;simp only[za,zb,zf]at x0 x21
 go_in
 go_upto_region 1 with fail
 rw[am.out];clear am;generalize hQ:w.heap.size=q at *
 go_upto_region 2 with(first |(refine yq rfl 34 (.tmp 3) (.tmp 9) rfl W1.heap.size 0 Cm.toArray rfl (congrArg Value.agg ew.out) HT.out cu.out yo.out ?_;change wpList _ _ _ _ _ (World.setCells _ W1.heap.size 0 Cm)))
 generalize World.setCells _ _ _ _=W3 at bu bw bf ⊢;rw[ew.out];clear x0 x21;have dc:=fo.out;generalize W1.heap.size=q1 at *;subst dc;clear HL HB fo ew HT yo cu;have x0:=bw.out.cell 0;have x8:=bw.out.cell 8;have x9:=bw.out.cell 9;have x10:=bw.out.cell 10;have x11:=bw.out.cell 11;have x12:=bw.out.cell 12;have x13:=bw.out.cell 13;rw[ah.out]at x0 x8 x9 x10 x11 x12 x13;simp only[za,zb,zf]at x0 x8 x9 x10 x11 x12 x13;have y8:=bu.out.cell 8;have yf8:=bu.out.frozen 8;have y9:=bu.out.cell 9;have yf9:=bu.out.frozen 9;have y10:=bu.out.cell 10;have yf10:=bu.out.frozen 10;have y11:=bu.out.cell 11;have yf11:=bu.out.frozen 11;have y12:=bu.out.cell 12;have yf12:=bu.out.frozen 12;have y13:=bu.out.cell 13;have yf13:=bu.out.frozen 13;rw[i8.out]at y8 y9 y10 y11 y12 y13
 simp only[za,zb,zf]at y8 y9 y10 y11 y12 y13
 go_upto_region 10 with fail
 clear x0 x8 x9 x10 x11 x12 x13;clear y8 y9 y10 y11 y12 y13 yf8 yf9 yf10 yf11 yf12 yf13;have f7:=bu.out;rw[i8.out]at f7;have dm:Hid (Lies _ (q+1) 34 Ck.toArray):=zh (by rw[er.out];exact((((((f7.put 8 (vI a.row.a)).put 9 (vI a.row.n)).put 10 (vI a.col.a)).put 11 (vI a.col.n)).put 12 (.bool a.fr)).put 13 (.bool a.fc)));have au:=zh (aC (aC (aC (aC (aC (aC bw.out (b:=q+1) (by omega) 8 (vI a.row.a)) (b:=q+1) (by omega) 9 (vI a.row.n)) (b:=q+1) (by omega) 10 (vI a.col.a)) (b:=q+1) (by omega) 11 (vI a.col.n)) (b:=q+1) (by omega) 12 (.bool a.fr)) (b:=q+1) (by omega) 13 (.bool a.fc))
 have bt:=zh ((((((bf.out.setCell (p:=⟨q+1,8,none⟩) (Nat.le_succ q) (vI a.row.a)).setCell (p:=⟨q+1,9,none⟩) (Nat.le_succ q) (vI a.row.n)).setCell (p:=⟨q+1,10,none⟩) (Nat.le_succ q) (vI a.col.a)).setCell (p:=⟨q+1,11,none⟩) (Nat.le_succ q) (vI a.col.n)).setCell (p:=⟨q+1,12,none⟩) (Nat.le_succ q) (.bool a.fr)).setCell (p:=⟨q+1,13,none⟩) (Nat.le_succ q) (.bool a.fc));generalize World.setCell _ _ _=W4 at dm au bt ⊢;clear bu bw bf f7;have x8:=au.out.cell 8;have x9:=au.out.cell 9;have x10:=au.out.cell 10;have x11:=au.out.cell 11;have x12:=au.out.cell 12;have x13:=au.out.cell 13;have x21:=au.out.cell 21;rw[ah.out]at x8 x9 x10 x11 x12 x13 x21;simp only[za,zb,zf]at x8 x9 x10 x11 x12 x13 x21
 go_wp2_with fail
 refine(HO.out _).mono ?_;rintro e w5 ⟨rfl,fw⟩;clear x8 x9 x10 x11 x12 x13 x21;clear HO;have bm:=zh (bt.out.trans (fw.mono (by have:=bt.out.size;omega)));have mi:=zh (dm.out.next fw);have iv:=zh (au.out.next fw);clear fw;have z21:=iv.out.cell 21;rw[ah.out]at z21;simp only[za,zb,zf]at z21;cases b1
 ·go_wp2_with fail
  go_ret
  exact⟨aA (by rfl;try simp),by first|exact bm.out |(rw[hQ];exact bm.out)⟩
 by_cases hl:l.length=0
 ·have el:((l.length:Int)==0)=true:=by rw[hl];rfl
  have hd:decide (l.length=0)=true:=decide_eq_true hl;clear hl;have m8:=zh (mi.out.rangeL);have iu:=zh (iv.out.rangeL);have HI:=zh (cP ah.out);have je:=zh (cP er.out);have ee:=zh (cU 1000000 zr (.mk ⟨1,aE,[],a,aQ,0⟩ l) (.mk ⟨1,v,s,a,b,r⟩ l) _ _ w5 de.out ⟨A,cp,er.out,HK.out.kp (Kp.of_below (by rw[hQ];exact bm.out))⟩ ⟨A,cp,ah.out,HK.out.kp (Kp.of_below (by rw[hQ];exact bm.out))⟩);rw[dI,m6.out]at ee
  go_wp2_with (first |(refine aL (Eq.trans (aT rfl rfl rfl rfl) rfl) 34 (.tmp 3) rfl (q+1) 0 rfl Ck _ m8.out Tryz.underlying34 rfl je.out ?_) |(refine aL (Eq.trans (aT rfl rfl rfl rfl) rfl) 34 (.tmp 1) rfl q 0 rfl Cn _ iu.out Tryz.underlying34 rfl HI.out ?_))
  refine ee.out.mono ?_;rintro e w9 ⟨rfl,ii⟩;have iy:=zh (bm.out.trans (ii.mono (by have:=bm.out.size;omega)));clear ii
  go_wp2_with fail
  go_ret
  exact⟨aA (by rw[hd];try simp),by first|exact iy.out |(rw[hQ];exact iy.out)⟩
 have el:((l.length:Int)==0)=false:=by rw[beq_eq_false_iff_ne];omega
 have hd:decide (l.length=0)=false:=decide_eq_false hl;clear hl
 go_wp2_with fail
 go_ret
 exact⟨aA (by rw[hd];try simp),by first|exact bm.out |(rw[hQ];exact bm.out)⟩
theorem rOwnG3(v:Val)(s:Bs)(a b:Cor)(r:Int)(l:List Tree)(A:Option Addr)(cp:Nat)(Cn:List Value)(w:World)(hk:KidsOk w [] A l)(hs:(Tree.mk ⟨3,v,s,a,b,r⟩ l).size<=1000000)(ah:Hid (Cn.toArray=aK ⟨3,v,s,a,b,r⟩ A l.length cp)) :
  Calls Tryz.prog 87 #[.agg Cn.toArray] w fun e w'=>e=.returned (.bool (((decide (a.row≠id0)&&decide (a.col≠id0))&&decide (l.length=0))&&NodeH.same ⟨3,aE,[],a,aQ,0⟩ ⟨3,v,s,a,b,r⟩))/\Below w.heap.size w w':=by
 obtain⟨sm,ft⟩:∃ c,NodeH.same ⟨3,aE,[],a,aQ,0⟩ ⟨3,v,s,a,b,r⟩=c:=⟨_,rfl⟩
 have m6:=zh ft;rw[ft];clear ft;have HO:=zh (fun W=>oC a W);generalize (decide (a.row≠id0)&&decide (a.col≠id0))=b1 at *;have de:=zh hs;clear hs;have HK:=zh hk;clear hk;have qp:l.length<=1000000:=by have h1:=cF l;have h2:aN l+1<=1000000:=de.out;omega
 obtain⟨W1,Cm,Ck,am,HL,HB,fo,ew,i8,HT,yo,cu,bu,bw,bf,er⟩:=dU 3 (A) l.length cp ⟨3,aE,[],a,aQ,0⟩ Cn w;have x0:=HL.out.cell 0;have x21:=HL.out.cell 21;rw[ah.out]at x0 x21;simp only[za,zb,zf]at x0 x21
 go_in
 go_upto_region 1 with fail
 rw[am.out];clear am;generalize hQ:w.heap.size=q at *
 go_upto_region 2 with(first |(refine yq rfl 34 (.tmp 3) (.tmp 9) rfl W1.heap.size 0 Cm.toArray rfl (congrArg Value.agg ew.out) HT.out cu.out yo.out ?_;change wpList _ _ _ _ _ (World.setCells _ W1.heap.size 0 Cm)))
 generalize World.setCells _ _ _ _=W3 at bu bw bf ⊢;rw[ew.out];clear x0 x21;have dc:=fo.out;generalize W1.heap.size=q1 at *;subst dc;clear HL HB fo ew HT yo cu;have x0:=bw.out.cell 0;have x8:=bw.out.cell 8;have x9:=bw.out.cell 9;have x10:=bw.out.cell 10;have x11:=bw.out.cell 11;have x12:=bw.out.cell 12;have x13:=bw.out.cell 13;rw[ah.out]at x0 x8 x9 x10 x11 x12 x13;simp only[za,zb,zf]at x0 x8 x9 x10 x11 x12 x13;have y8:=bu.out.cell 8;have yf8:=bu.out.frozen 8;have y9:=bu.out.cell 9;have yf9:=bu.out.frozen 9;have y10:=bu.out.cell 10;have yf10:=bu.out.frozen 10;have y11:=bu.out.cell 11;have yf11:=bu.out.frozen 11;have y12:=bu.out.cell 12;have yf12:=bu.out.frozen 12;have y13:=bu.out.cell 13;have yf13:=bu.out.frozen 13;rw[i8.out]at y8 y9 y10 y11 y12 y13
 simp only[za,zb,zf]at y8 y9 y10 y11 y12 y13
 go_upto_region 10 with fail
 clear x0 x8 x9 x10 x11 x12 x13;clear y8 y9 y10 y11 y12 y13 yf8 yf9 yf10 yf11 yf12 yf13;have f7:=bu.out;rw[i8.out]at f7;have dm:Hid (Lies _ (q+1) 34 Ck.toArray):=zh (by rw[er.out];exact((((((f7.put 8 (vI a.row.a)).put 9 (vI a.row.n)).put 10 (vI a.col.a)).put 11 (vI a.col.n)).put 12 (.bool a.fr)).put 13 (.bool a.fc)));have au:=zh (aC (aC (aC (aC (aC (aC bw.out (b:=q+1) (by omega) 8 (vI a.row.a)) (b:=q+1) (by omega) 9 (vI a.row.n)) (b:=q+1) (by omega) 10 (vI a.col.a)) (b:=q+1) (by omega) 11 (vI a.col.n)) (b:=q+1) (by omega) 12 (.bool a.fr)) (b:=q+1) (by omega) 13 (.bool a.fc))
 have bt:=zh ((((((bf.out.setCell (p:=⟨q+1,8,none⟩) (Nat.le_succ q) (vI a.row.a)).setCell (p:=⟨q+1,9,none⟩) (Nat.le_succ q) (vI a.row.n)).setCell (p:=⟨q+1,10,none⟩) (Nat.le_succ q) (vI a.col.a)).setCell (p:=⟨q+1,11,none⟩) (Nat.le_succ q) (vI a.col.n)).setCell (p:=⟨q+1,12,none⟩) (Nat.le_succ q) (.bool a.fr)).setCell (p:=⟨q+1,13,none⟩) (Nat.le_succ q) (.bool a.fc));generalize World.setCell _ _ _=W4 at dm au bt ⊢;clear bu bw bf f7;have x8:=au.out.cell 8;have x9:=au.out.cell 9;have x10:=au.out.cell 10;have x11:=au.out.cell 11;have x12:=au.out.cell 12;have x13:=au.out.cell 13;have x21:=au.out.cell 21;rw[ah.out]at x8 x9 x10 x11 x12 x13 x21;simp only[za,zb,zf]at x8 x9 x10 x11 x12 x13 x21
 go_wp2_with fail
 refine(HO.out _).mono ?_;rintro e w5 ⟨rfl,fw⟩;clear x8 x9 x10 x11 x12 x13 x21;clear HO;have bm:=zh (bt.out.trans (fw.mono (by have:=bt.out.size;omega)));have mi:=zh (dm.out.next fw);have iv:=zh (au.out.next fw);clear fw;have z21:=iv.out.cell 21;rw[ah.out]at z21;simp only[za,zb,zf]at z21;cases b1
 ·go_wp2_with fail
  go_ret
  exact⟨aA (by rfl;try simp),by first|exact bm.out |(rw[hQ];exact bm.out)⟩
 by_cases hl:l.length=0
 ·have el:((l.length:Int)==0)=true:=by rw[hl];rfl
  have hd:decide (l.length=0)=true:=decide_eq_true hl;clear hl;have m8:=zh (mi.out.rangeL);have iu:=zh (iv.out.rangeL);have HI:=zh (cP ah.out);have je:=zh (cP er.out);have ee:=zh (cU 1000000 zr (.mk ⟨3,aE,[],a,aQ,0⟩ l) (.mk ⟨3,v,s,a,b,r⟩ l) _ _ w5 de.out ⟨A,cp,er.out,HK.out.kp (Kp.of_below (by rw[hQ];exact bm.out))⟩ ⟨A,cp,ah.out,HK.out.kp (Kp.of_below (by rw[hQ];exact bm.out))⟩);rw[dI,m6.out]at ee
  go_wp2_with (first |(refine aL (Eq.trans (aT rfl rfl rfl rfl) rfl) 34 (.tmp 3) rfl (q+1) 0 rfl Ck _ m8.out Tryz.underlying34 rfl je.out ?_) |(refine aL (Eq.trans (aT rfl rfl rfl rfl) rfl) 34 (.tmp 1) rfl q 0 rfl Cn _ iu.out Tryz.underlying34 rfl HI.out ?_))
  refine ee.out.mono ?_;rintro e w9 ⟨rfl,ii⟩;have iy:=zh (bm.out.trans (ii.mono (by have:=bm.out.size;omega)));clear ii
  go_wp2_with fail
  go_ret
  exact⟨aA (by rw[hd];try simp),by first|exact iy.out |(rw[hQ];exact iy.out)⟩
 have el:((l.length:Int)==0)=false:=by rw[beq_eq_false_iff_ne];omega
 have hd:decide (l.length=0)=false:=decide_eq_false hl;clear hl
 go_wp2_with fail
 go_ret
 exact⟨aA (by rw[hd];try simp),by first|exact bm.out |(rw[hQ];exact bm.out)⟩
theorem rOwnG2(v:Val)(s:Bs)(a b:Cor)(r:Int)(l:List Tree)(A:Option Addr)(cp:Nat)(Cn:List Value)(w:World)(hk:KidsOk w [] A l)(hs:(Tree.mk ⟨2,v,s,a,b,r⟩ l).size<=1000000)(ah:Hid (Cn.toArray=aK ⟨2,v,s,a,b,r⟩ A l.length cp)) :
  Calls Tryz.prog 87 #[.agg Cn.toArray] w fun e w'=>e=.returned (.bool ((cG a b&&decide (l.length=0))&&NodeH.same ⟨2,aE,[],a,b,0⟩ ⟨2,v,s,a,b,r⟩))/\Below w.heap.size w w':=by
 obtain⟨sm,ft⟩:∃ c,NodeH.same ⟨2,aE,[],a,b,0⟩ ⟨2,v,s,a,b,r⟩=c:=⟨_,rfl⟩
 have m6:=zh ft;rw[ft];clear ft;have HO:=zh (fun W=>uFS a b W);generalize cG a b=b1 at *;have de:=zh hs;clear hs;have HK:=zh hk;clear hk;have qp:l.length<=1000000:=by have h1:=cF l;have h2:aN l+1<=1000000:=de.out;omega
 obtain⟨W1,Cm,Ck,am,HL,HB,fo,ew,i8,HT,yo,cu,bu,bw,bf,er⟩:=dU 2 (A) l.length cp ⟨2,aE,[],a,b,0⟩ Cn w;have x0:=HL.out.cell 0;have x21:=HL.out.cell 21;rw[ah.out]at x0 x21;simp only[za,zb,zf]at x0 x21
 go_in
 go_upto_region 1 with fail
 rw[am.out];clear am;generalize hQ:w.heap.size=q at *
 go_upto_region 2 with(first |(refine yq rfl 34 (.tmp 3) (.tmp 9) rfl W1.heap.size 0 Cm.toArray rfl (congrArg Value.agg ew.out) HT.out cu.out yo.out ?_;change wpList _ _ _ _ _ (World.setCells _ W1.heap.size 0 Cm)))
 generalize World.setCells _ _ _ _=W3 at bu bw bf ⊢;rw[ew.out];clear x0 x21;have dc:=fo.out;generalize W1.heap.size=q1 at *;subst dc;clear HL HB fo ew HT yo cu;obtain⟨D,hD⟩:∃ D:List Value,[vI a.row.a,vI a.row.n,vI a.col.a,vI a.col.n,.bool a.fr,.bool a.fc,vI b.row.a,vI b.row.n,vI b.col.a,vI b.col.n,.bool b.fr,.bool b.fc]=D:=⟨_,rfl⟩
 have HDR:Hid (W3.rangeAt q (0+8) D):=zh (by have h1:=bw.out;rw[ah.out]at h1;rw[<- hD];exact NodeIn.sub (Lies.node h1) 8 _ (by simp) rfl);have HDT:Hid (W3.there (q+1) 8 D.toArray.size):=zh (by have h1:=bu.out;rw[i8.out]at h1;rw[<- hD];intro j hj;have hj:j<12:=hj;exact⟨by rw[h1.cell];have:8+j<22:=(by omega);rw[Array.getElem?_eq_getElem (by show 8+j<22;omega)];rfl,h1.frozen _⟩);have HDI:Hid ((Tryz.prog.info? 31).map (·.size)=some D.length):=zh (by rw[<- hD];exact hH)
 have HDO:Hid (D.toArray.all (·.oneCell')=true):=zh (by rw[<- hD];simp[Value.oneCell'])
 have f7:=bu.out;rw[i8.out]at f7;have dm:Hid (Lies (World.setCells W3 (q+1) 8 D) (q+1) 34 Ck.toArray):=zh (by have h1:=Lies.putMid D 8 W3 _ f7 (by rw[<- hD];simp);rw[er.out];rw[<- hD]at h1 ⊢;exact h1);have au:Hid (Lies (World.setCells W3 (q+1) 8 D) q 34 Cn.toArray):=zh (fX (by omega) D 8 bw.out);have bt:Hid (Below q w (World.setCells W3 (q+1) 8 D)):=zh (kP (Nat.le_succ q) D 8 bf.out);clear hD f7;have x0:=bw.out.cell 0;rw[ah.out]at x0;simp only[za,zb]at x0
 go_upto_region 13 with(first |(refine yr rfl 31 (.tmp 46) rfl q (0+8) rfl D _ HDR.out Tryz.underlying31 rfl HDI.out ?_) |(refine yq rfl 31 (.tmp 48) (.tmp 47) rfl (q+1) 8 D.toArray rfl rfl HDT.out (by rw[yd];exact HDI.out) HDO.out ?_;change wpList _ _ _ _ _ (World.setCells _ (q+1) 8 D)))
 clear x0;generalize World.setCells _ _ _ _=W4 at dm au bt ⊢;clear bu bw bf HDR HDT HDI HDO;have x8:=au.out.cell 8;have x9:=au.out.cell 9;have x10:=au.out.cell 10;have x11:=au.out.cell 11;have x12:=au.out.cell 12;have x13:=au.out.cell 13;have x14:=au.out.cell 14;have x15:=au.out.cell 15;have x16:=au.out.cell 16;have x17:=au.out.cell 17;have x18:=au.out.cell 18;have x19:=au.out.cell 19;have x21:=au.out.cell 21;rw[ah.out]at x8 x9 x10 x11 x12 x13 x14 x15 x16 x17 x18 x19 x21;simp only[za,zb,zf]at x8 x9 x10 x11 x12 x13 x14 x15 x16 x17 x18 x19 x21
 go_wp2_with fail
 refine(HO.out _).mono ?_;rintro e w5 ⟨rfl,fw⟩;clear x8 x9 x10 x11 x12 x13 x14 x15 x16 x17 x18 x19 x21;clear HO;have bm:=zh (bt.out.trans (fw.mono (by have:=bt.out.size;omega)));have mi:=zh (dm.out.next fw);have iv:=zh (au.out.next fw);clear fw;have z21:=iv.out.cell 21;rw[ah.out]at z21;simp only[za,zb,zf]at z21;cases b1
 ·go_wp2_with fail
  go_ret
  exact⟨aA (by rfl;try simp),by first|exact bm.out |(rw[hQ];exact bm.out)⟩
 by_cases hl:l.length=0
 ·have el:((l.length:Int)==0)=true:=by rw[hl];rfl
  have hd:decide (l.length=0)=true:=decide_eq_true hl;clear hl;have m8:=zh (mi.out.rangeL);have iu:=zh (iv.out.rangeL);have HI:=zh (cP ah.out);have je:=zh (cP er.out);have ee:=zh (cU 1000000 zr (.mk ⟨2,aE,[],a,b,0⟩ l) (.mk ⟨2,v,s,a,b,r⟩ l) _ _ w5 de.out ⟨A,cp,er.out,HK.out.kp (Kp.of_below (by rw[hQ];exact bm.out))⟩ ⟨A,cp,ah.out,HK.out.kp (Kp.of_below (by rw[hQ];exact bm.out))⟩);rw[dI,m6.out]at ee
  go_wp2_with (first |(refine aL (Eq.trans (aT rfl rfl rfl rfl) rfl) 34 (.tmp 3) rfl (q+1) 0 rfl Ck _ m8.out Tryz.underlying34 rfl je.out ?_) |(refine aL (Eq.trans (aT rfl rfl rfl rfl) rfl) 34 (.tmp 1) rfl q 0 rfl Cn _ iu.out Tryz.underlying34 rfl HI.out ?_))
  refine ee.out.mono ?_;rintro e w9 ⟨rfl,ii⟩;have iy:=zh (bm.out.trans (ii.mono (by have:=bm.out.size;omega)));clear ii
  go_wp2_with fail
  go_ret
  exact⟨aA (by rw[hd];try simp),by first|exact iy.out |(rw[hQ];exact iy.out)⟩
 have el:((l.length:Int)==0)=false:=by rw[beq_eq_false_iff_ne];omega
 have hd:decide (l.length=0)=false:=decide_eq_false hl;clear hl
 go_wp2_with fail
 go_ret
 exact⟨aA (by rw[hd];try simp),by first|exact bm.out |(rw[hQ];exact bm.out)⟩
end Go.Proofs.YtjfihpaeglpblaaGreatDoor
