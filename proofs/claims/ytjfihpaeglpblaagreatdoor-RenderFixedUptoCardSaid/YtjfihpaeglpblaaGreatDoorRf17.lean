/-
  Lemmas, part 17: RkH RmB PaY PaZ RkI RmC RmD.
-/
import Derived.Test.YtjfihpaeglpblaaGreatDoorRf14
import Derived.Test.YtjfihpaeglpblaaGreatDoorRf16
set_option maxHeartbeats 100000000
set_option maxRecDepth 1000000
namespace Go.Proofs.YtjfihpaeglpblaaGreatDoor
open Go.RowKit
theorem uFI(m e:Int)(w:World)(h1:-9223372036854775808<=m)(h2:m<=9223372036854775807) :
  Calls Tryz.prog 201 #[xC m e] w fun x w'=>x=.returned (.bool (bF m e))/\Below w.heap.size w w':=by
 have HC:=zh (fun W=>uBJ m e W h1 h2);have HB:Hid (Below w.heap.size w (w.alloc (.cells #[vI m,vI e] 23))):=zh ((Below.refl _ w).alloc zr _)
 go_in
 go_wp2_with fail
 refine(HC.out _).mono ?_;rintro x w2 ⟨rfl,hb⟩;have ba:=zT HB hb;clear hb HB
 go_wp2_with fail
 go_ret
 exact⟨rfl,ba.out⟩
theorem uFB(a b:Cor)(w:World) :
  Calls Tryz.prog 150 #[corV a,corV b] w fun e w'=>e=.returned (.bool (bM a b))/\Below w.heap.size w w':=by
 have HOA:=zh (fun W=>mT a W);have HOB:=zh (fun W=>mT b W);obtain⟨W1,am⟩:=zD (w.alloc (.cells (kW a) 29))
 obtain⟨W2,dx⟩:=zD (W1.alloc (.cells (kW b) 29))
 have ec:=zL am;have ru:W1.heap.size=w.heap.size+1:=by rw[am];simp
 have oc:=zA am;have fm:Hid (Lies W2 (w.heap.size+1) 29 (kW b)):=zh (by rw[dx,<- ru];exact Lies.new _ _ _);have ig:=zA dx;have j0:=zh (ec.out.next ig.out);have ba:Hid (Below w.heap.size w W2):=zh (zU oc.out ig.out);have al:=zh am;have jo:=zh dx;clear am dx ru ec oc ig;obtain⟨rb,vx⟩:=zE (bM a b)
 obtain⟨r1,i7⟩:∃ b,decide (a.row≠id0)=b:=⟨_,rfl⟩
 obtain⟨k1,fw⟩:∃ b,decide (a.col≠id0)=b:=⟨_,rfl⟩
 obtain⟨r2,la⟩:∃ x,decide (b.row≠id0)=x:=⟨_,rfl⟩
 obtain⟨k2,er⟩:∃ x,decide (b.col≠id0)=x:=⟨_,rfl⟩
 have flip:∀ (x:IdR) (y:Bool),decide (x≠id0)=y->decide (x=id0)=!y:=fun x y e=>by rw[<- e];by_cases hx:x=id0 <;> simp[hx]
 have N1:∀ w:World,(binOp .neq 27 (idV a.row) (idV id0)).run Tryz.prog w=.ok (.bool r1) w:=fun w=>by rw[dP,i7]
 have N2:∀ w:World,(binOp .neq 27 (idV a.col) (idV id0)).run Tryz.prog w=.ok (.bool k1) w:=fun w=>by rw[dP,fw]
 have N3:∀ w:World,(binOp .neq 27 (idV b.row) (idV id0)).run Tryz.prog w=.ok (.bool r2) w:=fun w=>by rw[dP,la]
 have N4:∀ w:World,(binOp .neq 27 (idV b.col) (idV id0)).run Tryz.prog w=.ok (.bool k2) w:=fun w=>by rw[dP,er]
 have E1:∀ w:World,(binOp .eql 27 (idV a.row) (idV id0)).run Tryz.prog w=.ok (.bool (!r1)) w:=fun w=>by rw[cP,flip _ _ i7]
 have E2:∀ w:World,(binOp .eql 27 (idV a.col) (idV id0)).run Tryz.prog w=.ok (.bool (!k1)) w:=fun w=>by rw[cP,flip _ _ fw]
 have E3:∀ w:World,(binOp .eql 27 (idV b.row) (idV id0)).run Tryz.prog w=.ok (.bool (!r2)) w:=fun w=>by rw[cP,flip _ _ la]
 have E4:∀ w:World,(binOp .eql 27 (idV b.col) (idV id0)).run Tryz.prog w=.ok (.bool (!k2)) w:=fun w=>by rw[cP,flip _ _ er]
 rw[i7,fw]at HOA;rw[la,er]at HOB;have HR:Hid (rb=((r1==r2)&&(k1==k2)&&(r1||k1)&&(r1||(!a.fr&&!b.fr))&&(k1||(!a.fc&&!b.fc)))):=zh (by rw[<- vx];unfold bM;dsimp only;rw[i7,fw,la,er]);rw[vx];clear i7 fw la er vx flip;obtain⟨ar,ac,afr,afc⟩:=a;obtain⟨br,bc,bfr,bfc⟩:=b;dsimp only at HR N1 N2 N3 N4 E1 E2 E3 E4 HOA HOB j0 fm ⊢;cases r1 <;> cases k1 <;> cases r2 <;> cases k2
 all_goals first
  |skip
   have x0:=j0.out.cell 0;have x1:=j0.out.cell 1;have x2:=j0.out.cell 2;have x3:=j0.out.cell 3;have x4:=j0.out.cell 4;have x5:=j0.out.cell 5;have y0:=fm.out.cell 0;have y1:=fm.out.cell 1;have y2:=fm.out.cell 2;have y3:=fm.out.cell 3;have y4:=fm.out.cell 4;have y5:=fm.out.cell 5;simp only[za,zb,zf]at x0 x1 x2 x3 x4 x5;simp only[za,zb,zf]at y0 y1 y2 y3 y4 y5
   go_in
   go_upto_region 1 with fail
   rw[<- al.out,<- jo.out];generalize hq:w.heap.size=q at *
   go_wp2_with fail
   refine(HOA.out _).mono ?_;rintro e w3 ⟨rfl,hb⟩;have bi:=zh (ba.out.trans (hb.mono (by have:=ba.out.size;omega)));have dc:=zh (j0.out.next hb);have de:=zh (fm.out.next hb);clear x0 x1 x2 x3 x4 x5;clear y0 y1 y2 y3 y4 y5;clear hb;have x0:=dc.out.cell 0;have x1:=dc.out.cell 1;have x2:=dc.out.cell 2;have x3:=dc.out.cell 3;have x4:=dc.out.cell 4;have x5:=dc.out.cell 5;have y0:=de.out.cell 0;have y1:=de.out.cell 1;have y2:=de.out.cell 2;have y3:=de.out.cell 3;have y4:=de.out.cell 4;have y5:=de.out.cell 5;simp only[za,zb,zf]at x0 x1 x2 x3 x4 x5;simp only[za,zb,zf]at y0 y1 y2 y3 y4 y5
   go_wp2_with fail
   go_ret
   exact⟨aA (by rw[HR.out];rfl),by first|exact bi.out |(rw[hq];exact bi.out)⟩
  |skip
   cases afr <;> cases bfr
   all_goals (have x0:=j0.out.cell 0;have x1:=j0.out.cell 1;have x2:=j0.out.cell 2;have x3:=j0.out.cell 3;have x4:=j0.out.cell 4;have x5:=j0.out.cell 5;have y0:=fm.out.cell 0;have y1:=fm.out.cell 1;have y2:=fm.out.cell 2;have y3:=fm.out.cell 3;have y4:=fm.out.cell 4;have y5:=fm.out.cell 5;simp only[za,zb,zf]at x0 x1 x2 x3 x4 x5;simp only[za,zb,zf]at y0 y1 y2 y3 y4 y5;go_in;go_upto_region 1 with fail;rw[<- al.out,<- jo.out];generalize hq:w.heap.size=q at *;go_wp2_with fail;refine(HOA.out _).mono ?_;rintro e w3 ⟨rfl,hb⟩;have bi:=zh (ba.out.trans (hb.mono (by have:=ba.out.size;omega)));have dc:=zh (j0.out.next hb);have de:=zh (fm.out.next hb);clear x0 x1 x2 x3 x4 x5;clear y0 y1 y2 y3 y4 y5;clear hb;have x0:=dc.out.cell 0;have x1:=dc.out.cell 1;have x2:=dc.out.cell 2;have x3:=dc.out.cell 3;have x4:=dc.out.cell 4;have x5:=dc.out.cell 5;have y0:=de.out.cell 0;have y1:=de.out.cell 1;have y2:=de.out.cell 2;have y3:=de.out.cell 3;have y4:=de.out.cell 4;have y5:=de.out.cell 5;simp only[za,zb,zf]at x0 x1 x2 x3 x4 x5;simp only[za,zb,zf]at y0 y1 y2 y3 y4 y5;go_wp2_with fail;go_ret;exact⟨aA (by rw[HR.out];rfl),by first|exact bi.out |(rw[hq];exact bi.out)⟩)
  |skip
   cases afc <;> cases bfc
   all_goals (have x0:=j0.out.cell 0;have x1:=j0.out.cell 1;have x2:=j0.out.cell 2;have x3:=j0.out.cell 3;have x4:=j0.out.cell 4;have x5:=j0.out.cell 5;have y0:=fm.out.cell 0;have y1:=fm.out.cell 1;have y2:=fm.out.cell 2;have y3:=fm.out.cell 3;have y4:=fm.out.cell 4;have y5:=fm.out.cell 5;simp only[za,zb,zf]at x0 x1 x2 x3 x4 x5;simp only[za,zb,zf]at y0 y1 y2 y3 y4 y5;go_in;go_upto_region 1 with fail;rw[<- al.out,<- jo.out];generalize hq:w.heap.size=q at *;go_wp2_with fail;refine(HOA.out _).mono ?_;rintro e w3 ⟨rfl,hb⟩;have bi:=zh (ba.out.trans (hb.mono (by have:=ba.out.size;omega)));have dc:=zh (j0.out.next hb);have de:=zh (fm.out.next hb);clear x0 x1 x2 x3 x4 x5;clear y0 y1 y2 y3 y4 y5;clear hb;have x0:=dc.out.cell 0;have x1:=dc.out.cell 1;have x2:=dc.out.cell 2;have x3:=dc.out.cell 3;have x4:=dc.out.cell 4;have x5:=dc.out.cell 5;have y0:=de.out.cell 0;have y1:=de.out.cell 1;have y2:=de.out.cell 2;have y3:=de.out.cell 3;have y4:=de.out.cell 4;have y5:=de.out.cell 5;simp only[za,zb,zf]at x0 x1 x2 x3 x4 x5;simp only[za,zb,zf]at y0 y1 y2 y3 y4 y5;go_wp2_with fail;go_ret;exact⟨aA (by rw[HR.out];rfl),by first|exact bi.out |(rw[hq];exact bi.out)⟩)
  |skip
   have x0:=j0.out.cell 0;have x1:=j0.out.cell 1;have x2:=j0.out.cell 2;have x3:=j0.out.cell 3;have x4:=j0.out.cell 4;have x5:=j0.out.cell 5;have y0:=fm.out.cell 0;have y1:=fm.out.cell 1;have y2:=fm.out.cell 2;have y3:=fm.out.cell 3;have y4:=fm.out.cell 4;have y5:=fm.out.cell 5;simp only[za,zb,zf]at x0 x1 x2 x3 x4 x5;simp only[za,zb,zf]at y0 y1 y2 y3 y4 y5
   go_in
   go_upto_region 1 with fail
   rw[<- al.out,<- jo.out];generalize hq:w.heap.size=q at *
   go_wp2_with fail
   refine(HOA.out _).mono ?_;rintro e w3 ⟨rfl,hb⟩;have bi:=zh (ba.out.trans (hb.mono (by have:=ba.out.size;omega)));have dc:=zh (j0.out.next hb);have de:=zh (fm.out.next hb);clear x0 x1 x2 x3 x4 x5;clear y0 y1 y2 y3 y4 y5;clear hb;have x0:=dc.out.cell 0;have x1:=dc.out.cell 1;have x2:=dc.out.cell 2;have x3:=dc.out.cell 3;have x4:=dc.out.cell 4;have x5:=dc.out.cell 5;have y0:=de.out.cell 0;have y1:=de.out.cell 1;have y2:=de.out.cell 2;have y3:=de.out.cell 3;have y4:=de.out.cell 4;have y5:=de.out.cell 5;simp only[za,zb,zf]at x0 x1 x2 x3 x4 x5;simp only[za,zb,zf]at y0 y1 y2 y3 y4 y5
   go_wp2_with fail
   refine(HOB.out _).mono ?_;rintro e w4 ⟨rfl,hb⟩;have bt:=zh (bi.out.trans (hb.mono (by have:=bi.out.size;omega)));have rv:=zh (dc.out.next hb);have rx:=zh (de.out.next hb);clear x0 x1 x2 x3 x4 x5;clear y0 y1 y2 y3 y4 y5;clear hb;have x0:=rv.out.cell 0;have x1:=rv.out.cell 1;have x2:=rv.out.cell 2;have x3:=rv.out.cell 3;have x4:=rv.out.cell 4;have x5:=rv.out.cell 5;have y0:=rx.out.cell 0;have y1:=rx.out.cell 1;have y2:=rx.out.cell 2;have y3:=rx.out.cell 3;have y4:=rx.out.cell 4;have y5:=rx.out.cell 5;simp only[za,zb,zf]at x0 x1 x2 x3 x4 x5;simp only[za,zb,zf]at y0 y1 y2 y3 y4 y5
   go_wp2_with fail
   go_ret
   exact⟨aA (by rw[HR.out];rfl),by first|exact bt.out |(rw[hq];exact bt.out)⟩
theorem sA(h:NodeH)(A:Option Addr)(n c:Nat)(w:World) :
  Calls Tryz.prog 38 #[cE h A n c] w fun e w'=>e=.returned (.bool (decide (h.kind=0)&&decide (h.v.kind=1)&&decide (h.v.mant<0)))/\Below w.heap.size w w':=by
 obtain⟨W1,am⟩:=zD (w.alloc (.cells (aH h A n c) 34))
 have al:=zh am;have HL:=zL am;have HB:=zA am;clear am;have x0:=HL.out.cell 0;have x1:=HL.out.cell 1;have x2:=HL.out.cell 2;simp only[za,zb,zf]at x0 x1 x2;by_cases h0:h.kind=0
 ·by_cases h1:h.v.kind=1
  ·by_cases h2:h.v.mant<0
   all_goals rw[decide_eq_true h0,decide_eq_true h1]
   all_goals rw[h0]at x0
   all_goals rw[h1]at x1
   all_goals go_in
   all_goals go_upto_region 1 with fail
   all_goals rw[<- al.out]
   all_goals generalize hq:w.heap.size=q at *
   all_goals go_wp2_with fail
   all_goals go_ret
   all_goals exact⟨aA (by simp[h2]),by first|exact HB.out |(rw[hq];exact HB.out)⟩
  rw[h0]at x0;have n1:((h.v.kind:Int)==1)=false:=by simpa using h1
  go_in
  go_upto_region 1 with fail
  rw[<- al.out];generalize hq:w.heap.size=q at *
  go_wp2_with fail
  go_ret
  exact⟨aA (by rw[decide_eq_false h1];simp),by first|exact HB.out |(rw[hq];exact HB.out)⟩
 have n0:((h.kind:Int)==0)=false:=by simpa using h0
 go_in
 go_upto_region 1 with fail
 rw[<- al.out];generalize hq:w.heap.size=q at *
 go_wp2_with fail
 go_ret
 exact⟨aA (by rw[decide_eq_false h0];simp),by first|exact HB.out |(rw[hq];exact HB.out)⟩
theorem eT{x:Int}(h:¬ x=0):¬ 0=x:=fun e=>h e.symm
theorem uBZ(m e:Int)(t:Bs)(tr:Bool)(f:Int):aR ⟨1,m,e,t,tr,f⟩=(aW ⟨1,m,e,[],false,0⟩ ⟨1,m,e,t,tr,f⟩&&bF m e):=by
 by_cases hf:f=0
 ·subst hf;cases tr <;> cases t <;> simp[aR,aW]
 have h2:=eT hf;cases tr <;> cases t <;> simp_all [aR,aW]
theorem uCA(m e:Int)(t:Bs)(tr:Bool)(f:Int):aR ⟨2,m,e,t,tr,f⟩=(aW ⟨2,0,0,t,false,0⟩ ⟨2,m,e,t,tr,f⟩&&decide (t.length<=255)):=by
 by_cases hf:f=0
 ·subst hf;by_cases hm:m=0
  ·subst hm;by_cases he:e=0
   ·subst he;cases tr <;> simp[aR,aW]
   have h2:=eT he;cases tr <;> simp_all [aR,aW]
  have h2:=eT hm;cases tr <;> simp_all [aR,aW]
 have h2:=eT hf;cases tr <;> simp_all [aR,aW]
theorem wC(m e:Int)(t:Bs)(tr:Bool)(f:Int):aR ⟨3,m,e,t,tr,f⟩=aW ⟨3,0,0,[],tr,0⟩ ⟨3,m,e,t,tr,f⟩:=by
 by_cases hf:f=0
 ·subst hf;by_cases hm:m=0
  ·subst hm;by_cases he:e=0
   ·subst he;cases t <;> simp[aR,aW]
   have h2:=eT he;cases t <;> simp_all [aR,aW]
  have h2:=eT hm;cases t <;> simp_all [aR,aW]
 have h2:=eT hf;cases t <;> (simp_all [aR,aW];try omega)
theorem yF(m e:Int)(t:Bs)(tr:Bool)(f:Int):aR ⟨4,m,e,t,tr,f⟩=(aW ⟨4,0,0,[],false,f⟩ ⟨4,m,e,t,tr,f⟩&&decide (1<=f)&&decide (f<=9)):=by
 by_cases hm:m=0
 ·subst hm;by_cases he:e=0
  ·subst he;cases tr <;> cases t <;> simp[aR,aW]
  have h2:=eT he;cases tr <;> cases t <;> simp_all [aR,aW]
 have h2:=eT hm;cases tr <;> cases t <;> simp_all [aR,aW]
theorem yE(v:Val)(h0:v.kind≠0)(h1:v.kind≠1)(h2:v.kind≠2)(h3:v.kind≠3)(h4:v.kind≠4):aR v=false:=by
 simp[aR,h0,h1,h2,h3,h4]
theorem rLit_any(v:Val)(w:World)(h1:-9223372036854775808<=v.mant)(h2:v.mant<=9223372036854775807)(hl:v.text.length<=1000000) :
  Calls Tryz.prog 148 #[iB v] w fun x w'=>x=.returned (.bool (decide (v.kind≠0)&&aR v))/\Below w.heap.size w w':=by
 obtain⟨k,m,e,t,tr,f⟩:=v;dsimp only at h1 h2 hl;have HC:=zh (fun W=>uFI m e W h1 h2);clear h1 h2;have HB:Hid (∀ W1,W1=w.alloc (.cells (kZ ⟨k,m,e,t,tr,f⟩) 25)->∀ cs,Below w.heap.size w (W1.alloc (.cells cs 25))):=zh (fun W1 h cs=>by rw[h];exact((Below.refl _ w).alloc zr _).alloc (by simp) _);have hti:(t.length:Int)<=1000000:=by omega
 clear hl;by_cases k1:k=1
 ·subst k1;have E:=dW 1 m e [] false 0 1 m e t tr f;rw[uBZ];obtain⟨c,hc⟩:=zE (aW ⟨1,m,e,[],false,0⟩ ⟨1,m,e,t,tr,f⟩)
  rw[hc]at E ⊢;clear hc
  go_in
  cases c
  ·clear HC
   go_wp2_with fail
   go_ret
   exact⟨aA (by simp),HB.out _ rfl _⟩
  go_wp2_with fail
  refine(HC.out _).mono ?_;rintro x w2 ⟨rfl,hb⟩;have ba:=zh ((HB.out _ rfl _).trans (hb.mono (by simp;omega)));clear hb HB
  go_wp2_with fail
  go_ret
  exact⟨aA (by simp),ba.out⟩
 clear HC;by_cases k2:k=2
 ·subst k2;have E:=dW 2 0 0 t false 0 2 m e t tr f;rw[uCA];obtain⟨c,hc⟩:=zE (aW ⟨2,0,0,t,false,0⟩ ⟨2,m,e,t,tr,f⟩)
  rw[hc]at E ⊢;clear hc;by_cases h255:t.length<=255
  all_goals go_in
  ·have hti2:(t.length:Int)<=255:=by omega
   cases c
   all_goals go_wp2_with fail
   all_goals go_ret
   all_goals exact⟨aA (by simp_all),HB.out _ rfl _⟩
  have hti2:¬ (t.length:Int)<=255:=by omega
  cases c
  all_goals go_wp2_with fail
  all_goals go_ret
  all_goals exact⟨aA (by simp_all),HB.out _ rfl _⟩
 by_cases k3:k=3
 ·subst k3;have E:=dW 3 0 0 [] tr 0 3 m e t tr f;rw[wC];obtain⟨c,hc⟩:=zE (aW ⟨3,0,0,[],tr,0⟩ ⟨3,m,e,t,tr,f⟩)
  rw[hc]at E ⊢;clear hc
  go_in
  go_wp2_with fail
  go_ret
  exact⟨aA (by simp),HB.out _ rfl _⟩
 by_cases k4:k=4
 ·subst k4;have E:=dW 4 0 0 [] false f 4 m e t tr f;rw[yF];obtain⟨c,hc⟩:=zE (aW ⟨4,0,0,[],false,f⟩ ⟨4,m,e,t,tr,f⟩)
  rw[hc]at E ⊢;clear hc
  go_in
  by_cases f1:1<=f
  ·by_cases f9:f<=9
   all_goals cases c
   all_goals go_wp2_with fail
   all_goals go_ret
   all_goals exact⟨aA (by first |(simp_all;done) |(rw[ze];simp;omega)),HB.out _ rfl _⟩
  cases c
  all_goals go_wp2_with fail
  all_goals go_ret
  all_goals exact⟨aA (by first |(simp_all;done) |(rw[ze];simp;omega)),HB.out _ rfl _⟩
 have hr:(decide (k≠0)&&aR ⟨k,m,e,t,tr,f⟩)=false:=by
  by_cases k0:k=0
  ·simp[k0]
  rw[yE _ k0 k1 k2 k3 k4,Bool.and_false]
 dsimp only at hr ⊢;rw[hr];have n1:((k:Int)==1)=false:=by simpa using k1
 have n2:((k:Int)==2)=false:=by simpa using k2
 have n3:((k:Int)==3)=false:=by simpa using k3
 have n4:((k:Int)==4)=false:=by simpa using k4
 clear hr
 go_in
 go_wp2_with fail
 go_ret
 exact⟨rfl,HB.out _ rfl _⟩
theorem uFL:∀ (t:Tree),t.same t=true:=by
 have key:∀ n (t:Tree),t.size<=n->t.same t=true:=by
  intro n
  induction n with
  |zero=>intro t h;have:=sH t;omega
  |succ n ih=>
   rintro⟨h,l⟩ hs;unfold Tree.same;rw[headSame,Bool.true_and];refine(kQ rfl).2 (fun i h1 _=>ih _ ?_);have:=eF (t:=.mk h l) (i:=i) h1;show l[i].size<=n;have h9:(l[i]'h1).size<(Tree.mk h l).size:=this;omega
 exact fun t=>key _ t zr
theorem uEV(h:NodeH)(A:Option Addr)(n c:Nat):(aH h A n c).all (·.oneCell')=true:=by simp[aH,Value.oneCell']
theorem uEN{W':World}{C:List Value}(hC:C.length=22):World.there (W'.alloc (.cells bT.toArray 34)) W'.heap.size 0 C.toArray.size:=by
 have:=(Lies.new W' 34 bT.toArray).thereA;have h0:C.toArray.size=22:=by rw[yd,hC]
 rw[h0];exact this
theorem cZ{w w':World}{A:Option Addr}{ids:List IdR}(h:eA w A ids)(hb:Below w.heap.size w w'):eA w' A ids:=fun h0=>by
 obtain⟨g,o,e,hr⟩:=h h0;exact⟨g,o,e,hr.at hb.size (hb.block g hr.1)⟩
theorem uDS(w:World)(t:TypeId)(xs:List Bs):TxtAt (w.alloc (.cells (xs.map fun s=>Value.string ⟨s.toArray⟩).toArray t)) w.heap.size xs:=fun j hj=>by
 rw[(Lies.new w t _).cell j];simp[hj]
theorem aI{P:Program}{ops:Array Oper}{rest:List Oper}{op:Oper}{a:Act}{w:World}{Q:Exit->Act->World->Prop}(hw:Region.wanted op (yielded ops a.tmps)=true)(ty:TypeId)(x:Operand)(ho:op.op=.load ty x)
  (b o:Nat) (hx:a.eval x=vP b o) (cs:List Value) (d:TypeDesc) (hc:w.rangeAt b o cs)
  (hu:P.underlying ty=some d) (hd:d.isRow=true) (hi:(P.info? ty).map (·.size)=some cs.length)
  (h:wpList P ops Q rest (a.put op.dst (.agg cs.toArray)) w):wpList P ops Q (op::rest) a w :=
 BigFrame.wpList_want hw fun _ hK=>wp_load_mid ty x ho b o hx cs d hc hu hd hi (hK _ _ h)
theorem Lies.putMid{b:Nat}{t:TypeId}:∀ (vs:List Value) (i:Nat) (W:World) (cs:List Value),Lies W b t cs.toArray->i+vs.length<=cs.length->Lies (W.setCells b i vs) b t (cs.take i++vs++cs.drop (i+vs.length)).toArray
 | [],i,_,cs,h,_=>by
  have:cs.take i++[]++cs.drop (i+([]:List Value).length)=cs:=by simp
  rw[this];exact h
 |v::r,i,W,cs,h,hl=>by
  have hi:i<cs.length:=by simp at hl;omega
  have h0:Lies (W.setCell ⟨b,i,none⟩ v) b t (cs.set i v).toArray:=by
   have:=h.put i v
   rwa [yz]at this
  have h1:=Lies.putMid r (i+1) _ _ h0 (by simp at hl ⊢;omega);have e:(cs.set i v).take (i+1)++r++(cs.set i v).drop (i+1+r.length)=cs.take i++(v::r)++cs.drop (i+(v::r).length):=by
   rw[yw (by simpa using hi),List.getElem_set_self,List.take_set_of_le zr,List.drop_set_of_lt (by omega)];simp[Nat.add_assoc,Nat.add_comm 1]
  rw[<- e];exact h1
theorem Lies.rangeL{w:World}{b:Nat}{t:TypeId}{C:List Value}(h:Lies w b t C.toArray):w.rangeAt b 0 C:=by
 have:=h.range
 rwa [List.toList_toArray]at this
theorem cA{C:List Value}{h:NodeH}{A:Option Addr}{n cp:Nat}(e:C.toArray=aH h A n cp):(Tryz.prog.info? 34).map (·.size)=some C.length:=by
 have h2:C.length=22:=by rw[<- yd,e];rfl
 rw[h2];exact bO
theorem cT(h h':NodeH)(l:List Tree):(Tree.mk h l).same (.mk h' l)=NodeH.same h h':=by
 have e:(NodeH.same h h&&eY l l)=true:=uFL (.mk h l);rw[yh]at e;show (NodeH.same h h'&&eY l l)=_;rw[e.2,Bool.and_true]
theorem dD(k:Int)(A:Option Addr)(n cp:Nat)(M:NodeH)(Cn:List Value)(w:World):∃ (W1:World) (Cm Ck:List Value),Hid (w.alloc (.cells Cn.toArray 34)=W1)/\Hid (Lies W1 w.heap.size 34 Cn.toArray)/\Hid (Below w.heap.size w W1)/\Hid (W1.heap.size=w.heap.size+1)/\Hid (#[vI k,vI 0,vI 0,vI 0,vS #[],.bool false,vI 0,vS #[],vI 0,vI 0,vI 0,vI 0,.bool false,.bool false,vI 0,vI 0,vI 0,vI 0,.bool false,.bool false,vI 0,.slice A n cp]=Cm.toArray)/\Hid (Cm.toArray=aH ⟨k,aD,[],aN,aN,0⟩ A n cp)/\Hid ((W1.alloc (.cells bT.toArray 34)).there W1.heap.size 0 Cm.toArray.size)/\Hid (Cm.toArray.all (·.oneCell')=true)/\Hid ((Tryz.prog.info? 34).map (·.size)=some Cm.toArray.size)/\Hid (Lies (World.setCells (W1.alloc (.cells bT.toArray 34)) W1.heap.size 0 Cm) W1.heap.size 34 Cm.toArray)/\Hid (Lies (World.setCells (W1.alloc (.cells bT.toArray 34)) W1.heap.size 0 Cm) w.heap.size 34 Cn.toArray)/\Hid (Below w.heap.size w (World.setCells (W1.alloc (.cells bT.toArray 34)) W1.heap.size 0 Cm))/\Hid (Ck.toArray=aH M A n cp):=by
 obtain⟨W1,ir⟩:∃ W,w.alloc (.cells Cn.toArray 34)=W:=⟨_,rfl⟩
 have HL:Lies W1 w.heap.size 34 Cn.toArray:=by rw[<- ir];exact Lies.new _ _ _
 have HB:Below w.heap.size w W1:=by rw[<- ir];exact(zp _)
 obtain⟨Cm,hCm⟩:∃ C:List Value,#[vI k,vI 0,vI 0,vI 0,vS #[],.bool false,vI 0,vS #[],vI 0,vI 0,vI 0,vI 0,.bool false,.bool false,vI 0,vI 0,vI 0,vI 0,.bool false,.bool false,vI 0,.slice A n cp]=C.toArray:=⟨_,rfl⟩
 have ry:Cm.length=22:=by rw[<- yd,<- hCm];rfl
 have dt:Below W1.heap.size W1 (World.setCells (W1.alloc (.cells bT.toArray 34)) W1.heap.size 0 Cm):=kp_below (mM (.inr zr) Cm 0 ((Kp.refl _ _).alloc _));exact⟨W1,Cm,(aH M A n cp).toList,zh ir,zh HL,zh HB,zh (by rw[<- ir];simp),zh hCm,zh hCm.symm,zh (uEN ry),zh (by rw[<- hCm];exact uEV ⟨k,aD,[],aN,aN,0⟩ A n cp),zh (by rw[yd,ry];exact bO),zh ((Lies.new W1 34 bT.toArray).putAll (by rw[ry];rfl)),zh (HL.next dt),zh (zU HB dt),zh (by simp)⟩
theorem rOwnG9(v:Val)(s:Bs)(a b:Cor)(r:Int)(l:List Tree)(A:Option Addr)(cp:Nat)(Cn:List Value)(w:World)(hk:KidsOk w [] A l)(hs:(Tree.mk ⟨9,v,s,a,b,r⟩ l).size<=1000000)(ai:Hid (Cn.toArray=aH ⟨9,v,s,a,b,r⟩ A l.length cp)) :
  Calls Tryz.prog 87 #[.agg Cn.toArray] w fun e w'=>e=.returned (.bool ((decide (l.length=0))&&NodeH.same ⟨9,aD,[],aN,aN,0⟩ ⟨9,v,s,a,b,r⟩))/\Below w.heap.size w w':=by
 obtain⟨sm,fh⟩:∃ c,NodeH.same ⟨9,aD,[],aN,aN,0⟩ ⟨9,v,s,a,b,r⟩=c:=⟨_,rfl⟩
 have me:=zh fh;rw[fh];clear fh;have ct:=zh hs;clear hs;have HK:=zh hk;clear hk;have pz:l.length<=1000000:=by have h1:=bS l;have h2:aM l+1<=1000000:=ct.out;omega
 obtain⟨W1,Cm,Ck,al,HL,HB,ew,el,iw,HT,yo,co,bm,bv,bi,eh⟩:=dD 9 (A) l.length cp ⟨9,aD,[],aN,aN,0⟩ Cn w;have x0:=HL.out.cell 0;have x21:=HL.out.cell 21;rw[ai.out]at x0 x21;simp only[za,zb,zf]at x0 x21
 go_in
 go_upto_region 1 with fail
 rw[al.out];clear al;generalize hQ:w.heap.size=q at *
 go_upto_region 2 with(first |(refine yq rfl 34 (.tmp 3) (.tmp 9) rfl W1.heap.size 0 Cm.toArray rfl (congrArg Value.agg el.out) HT.out co.out yo.out ?_;change wpList _ _ _ _ _ (World.setCells _ W1.heap.size 0 Cm)))
 generalize World.setCells _ _ _ _=W3 at bm bv bi ⊢;rw[el.out];clear x0 x21;have cr:=ew.out;generalize W1.heap.size=q1 at *;subst cr;clear HL HB ew el HT yo co;rw[iw.out,<- eh.out]at bm;have x0:=bv.out.cell 0;have x21:=bv.out.cell 21;rw[ai.out]at x0 x21;simp only[za,zb,zf]at x0 x21;by_cases hl:l.length=0
 ·have ed:((l.length:Int)==0)=true:=by rw[hl];rfl
  have hd:decide (l.length=0)=true:=decide_eq_true hl;clear hl;have mf:=zh (bm.out.rangeL);have ij:=zh (bv.out.rangeL);have HI:=zh (cA ai.out);have i5:=zh (cA eh.out);have eu:=zh (cG 1000000 zr (.mk ⟨9,aD,[],aN,aN,0⟩ l) (.mk ⟨9,v,s,a,b,r⟩ l) _ _ W3 ct.out ⟨A,cp,eh.out,HK.out.kp (Kp.of_below (by rw[hQ];exact bi.out))⟩ ⟨A,cp,ai.out,HK.out.kp (Kp.of_below (by rw[hQ];exact bi.out))⟩);rw[cT,me.out]at eu
  go_wp2_with (first |(refine aI (Eq.trans (aQ rfl rfl rfl rfl) rfl) 34 (.tmp 3) rfl (q+1) 0 rfl Ck _ mf.out Tryz.underlying34 rfl i5.out ?_) |(refine aI (Eq.trans (aQ rfl rfl rfl rfl) rfl) 34 (.tmp 1) rfl q 0 rfl Cn _ ij.out Tryz.underlying34 rfl HI.out ?_))
  refine eu.out.mono ?_;rintro e w9 ⟨rfl,gr⟩;have iq:=zh (bi.out.trans (gr.mono (by have:=bi.out.size;omega)));clear gr
  go_wp2_with fail
  go_ret
  exact⟨aA (by rw[hd];try simp),by first|exact iq.out |(rw[hQ];exact iq.out)⟩
 have ed:((l.length:Int)==0)=false:=by rw[beq_eq_false_iff_ne];omega
 have hd:decide (l.length=0)=false:=decide_eq_false hl;clear hl
 go_wp2_with fail
 go_ret
 exact⟨aA (by rw[hd];try simp),by first|exact bi.out |(rw[hQ];exact bi.out)⟩
theorem rOwnG5(v:Val)(s:Bs)(a b:Cor)(r:Int)(l:List Tree)(A:Option Addr)(cp:Nat)(Cn:List Value)(w:World)(hk:KidsOk w [] A l)(hs:(Tree.mk ⟨5,v,s,a,b,r⟩ l).size<=1000000)(ai:Hid (Cn.toArray=aH ⟨5,v,s,a,b,r⟩ A l.length cp)) :
  Calls Tryz.prog 87 #[.agg Cn.toArray] w fun e w'=>e=.returned (.bool ((([[45],[43],[37]]:List Bs).contains s&&decide (l.length=1))&&NodeH.same ⟨5,aD,s,aN,aN,0⟩ ⟨5,v,s,a,b,r⟩))/\Below w.heap.size w w':=by
 obtain⟨sm,fh⟩:∃ c,NodeH.same ⟨5,aD,s,aN,aN,0⟩ ⟨5,v,s,a,b,r⟩=c:=⟨_,rfl⟩
 have me:=zh fh;rw[fh];clear fh;obtain⟨b1,ab⟩:∃ c,([[45],[43],[37]]:List Bs).contains s=c:=⟨_,rfl⟩
 have HCT:=zh ab;rw[ab];clear ab;have ct:=zh hs;clear hs;have HK:=zh hk;clear hk;have pz:l.length<=1000000:=by have h1:=bS l;have h2:aM l+1<=1000000:=ct.out;omega
 obtain⟨W1,Cm,Ck,al,HL,HB,ew,el,iw,HT,yo,co,bm,bv,bi,eh⟩:=dD 5 (A) l.length cp ⟨5,aD,s,aN,aN,0⟩ Cn w;have x0:=HL.out.cell 0;have x21:=HL.out.cell 21;rw[ai.out]at x0 x21;simp only[za,zb,zf]at x0 x21
 go_in
 go_upto_region 1 with fail
 rw[al.out];clear al;generalize hQ:w.heap.size=q at *
 go_upto_region 2 with(first |(refine yq rfl 34 (.tmp 3) (.tmp 9) rfl W1.heap.size 0 Cm.toArray rfl (congrArg Value.agg el.out) HT.out co.out yo.out ?_;change wpList _ _ _ _ _ (World.setCells _ W1.heap.size 0 Cm)))
 generalize World.setCells _ _ _ _=W3 at bm bv bi ⊢;rw[el.out];clear x0 x21;have cr:=ew.out;generalize W1.heap.size=q1 at *;subst cr;clear HL HB ew el HT yo co;have x0:=bv.out.cell 0;have x7:=bv.out.cell 7;rw[ai.out]at x0 x7;simp only[za,zb,zf]at x0 x7;have y7:=bm.out.cell 7;have yf7:=bm.out.frozen 7;rw[iw.out]at y7;simp only[za,zb,zf]at y7
 go_upto_region 19 with fail
 clear x0 x7;clear y7 yf7;have fq:=bm.out;rw[iw.out]at fq;have db:Hid (Lies _ (q+1) 34 Ck.toArray):=zh (by rw[eh.out];exact(fq.put 7 (vT s)));have an:=zh (aB bv.out (b:=q+1) (by omega) 7 (vT s));have bt:=zh (bi.out.setCell (p:=⟨q+1,7,none⟩) (Nat.le_succ q) (vT s));generalize World.setCell _ _ _=W4 at db an bt ⊢;clear bm bv bi fq;have x7:=an.out.cell 7;have x21:=an.out.cell 21;rw[ai.out]at x7 x21;simp only[za,zb,zf]at x7 x21
 go_wp2_with fail
 have f8:Below W4.heap.size W4 _:=zp (.cells (([[45],[43],[37]]:List Bs).map fun s=>Value.string ⟨s.toArray⟩).toArray 9);have HTX:=zh (uDS W4 9 [[45],[43],[37]]);change Calls _ _ _ (World.alloc W4 (.cells (([[45],[43],[37]]:List Bs).map fun s=>Value.string ⟨s.toArray⟩).toArray 9)) _;generalize World.alloc _ _=w5 at f8 HTX ⊢;refine(uDN s _ _ [[45],[43],[37]] w5 HTX.out (by decide)).mono ?_;rintro e w6 ⟨rfl,rfl⟩;rw[HCT.out];clear HCT;clear x7 x21;have bk:=zh (bt.out.trans (f8.mono (by have:=bt.out.size;omega)));have ls:=zh (db.out.next f8);have ik:=zh (an.out.next f8);clear f8;have z21:=ik.out.cell 21;rw[ai.out]at z21;simp only[za,zb,zf]at z21;cases b1
 ·go_wp2_with fail
  go_ret
  exact⟨aA (by rfl;try simp),by first|exact bk.out |(rw[hQ];exact bk.out)⟩
 by_cases hl:l.length=1
 ·have ed:((l.length:Int)==1)=true:=by rw[hl];rfl
  have hd:decide (l.length=1)=true:=decide_eq_true hl;clear hl;have mf:=zh (ls.out.rangeL);have ij:=zh (ik.out.rangeL);have HI:=zh (cA ai.out);have i5:=zh (cA eh.out);have eu:=zh (cG 1000000 zr (.mk ⟨5,aD,s,aN,aN,0⟩ l) (.mk ⟨5,v,s,a,b,r⟩ l) _ _ w5 ct.out ⟨A,cp,eh.out,HK.out.kp (Kp.of_below (by rw[hQ];exact bk.out))⟩ ⟨A,cp,ai.out,HK.out.kp (Kp.of_below (by rw[hQ];exact bk.out))⟩);rw[cT,me.out]at eu
  go_wp2_with (first |(refine aI (Eq.trans (aQ rfl rfl rfl rfl) rfl) 34 (.tmp 3) rfl (q+1) 0 rfl Ck _ mf.out Tryz.underlying34 rfl i5.out ?_) |(refine aI (Eq.trans (aQ rfl rfl rfl rfl) rfl) 34 (.tmp 1) rfl q 0 rfl Cn _ ij.out Tryz.underlying34 rfl HI.out ?_))
  refine eu.out.mono ?_;rintro e w9 ⟨rfl,gr⟩;have iq:=zh (bk.out.trans (gr.mono (by have:=bk.out.size;omega)));clear gr
  go_wp2_with fail
  go_ret
  exact⟨aA (by rw[hd];try simp),by first|exact iq.out |(rw[hQ];exact iq.out)⟩
 have ed:((l.length:Int)==1)=false:=by rw[beq_eq_false_iff_ne];omega
 have hd:decide (l.length=1)=false:=decide_eq_false hl;clear hl
 go_wp2_with fail
 go_ret
 exact⟨aA (by rw[hd];try simp),by first|exact bk.out |(rw[hQ];exact bk.out)⟩
theorem rOwnG6(v:Val)(s:Bs)(a b:Cor)(r:Int)(l:List Tree)(A:Option Addr)(cp:Nat)(Cn:List Value)(w:World)(hk:KidsOk w [] A l)(hs:(Tree.mk ⟨6,v,s,a,b,r⟩ l).size<=1000000)(ai:Hid (Cn.toArray=aH ⟨6,v,s,a,b,r⟩ A l.length cp)) :
  Calls Tryz.prog 87 #[.agg Cn.toArray] w fun e w'=>e=.returned (.bool ((([[43],[45],[42],[47],[94],[38],[61],[60,62],[60],[60,61],[62],[62,61]]:List Bs).contains s&&decide (l.length=2))&&NodeH.same ⟨6,aD,s,aN,aN,0⟩ ⟨6,v,s,a,b,r⟩))/\Below w.heap.size w w':=by
 obtain⟨sm,fh⟩:∃ c,NodeH.same ⟨6,aD,s,aN,aN,0⟩ ⟨6,v,s,a,b,r⟩=c:=⟨_,rfl⟩
 have me:=zh fh;rw[fh];clear fh;obtain⟨b1,ab⟩:∃ c,([[43],[45],[42],[47],[94],[38],[61],[60,62],[60],[60,61],[62],[62,61]]:List Bs).contains s=c:=⟨_,rfl⟩
 have HCT:=zh ab;rw[ab];clear ab;have ct:=zh hs;clear hs;have HK:=zh hk;clear hk;have pz:l.length<=1000000:=by have h1:=bS l;have h2:aM l+1<=1000000:=ct.out;omega
 obtain⟨W1,Cm,Ck,al,HL,HB,ew,el,iw,HT,yo,co,bm,bv,bi,eh⟩:=dD 6 (A) l.length cp ⟨6,aD,s,aN,aN,0⟩ Cn w;have x0:=HL.out.cell 0;have x21:=HL.out.cell 21;rw[ai.out]at x0 x21;simp only[za,zb,zf]at x0 x21
 go_in
 go_upto_region 1 with fail
 rw[al.out];clear al;generalize hQ:w.heap.size=q at *
 go_upto_region 2 with(first |(refine yq rfl 34 (.tmp 3) (.tmp 9) rfl W1.heap.size 0 Cm.toArray rfl (congrArg Value.agg el.out) HT.out co.out yo.out ?_;change wpList _ _ _ _ _ (World.setCells _ W1.heap.size 0 Cm)))
 generalize World.setCells _ _ _ _=W3 at bm bv bi ⊢;rw[el.out];clear x0 x21;have cr:=ew.out;generalize W1.heap.size=q1 at *;subst cr;clear HL HB ew el HT yo co;have x0:=bv.out.cell 0;have x7:=bv.out.cell 7;rw[ai.out]at x0 x7;simp only[za,zb,zf]at x0 x7;have y7:=bm.out.cell 7;have yf7:=bm.out.frozen 7;rw[iw.out]at y7;simp only[za,zb,zf]at y7
 go_upto_region 22 with fail
 clear x0 x7;clear y7 yf7;have fq:=bm.out;rw[iw.out]at fq;have db:Hid (Lies _ (q+1) 34 Ck.toArray):=zh (by rw[eh.out];exact(fq.put 7 (vT s)));have an:=zh (aB bv.out (b:=q+1) (by omega) 7 (vT s));have bt:=zh (bi.out.setCell (p:=⟨q+1,7,none⟩) (Nat.le_succ q) (vT s));generalize World.setCell _ _ _=W4 at db an bt ⊢;clear bm bv bi fq;have x7:=an.out.cell 7;have x21:=an.out.cell 21;rw[ai.out]at x7 x21;simp only[za,zb,zf]at x7 x21
 go_wp2_with fail
 have f8:Below W4.heap.size W4 _:=zp (.cells (([[43],[45],[42],[47],[94],[38],[61],[60,62],[60],[60,61],[62],[62,61]]:List Bs).map fun s=>Value.string ⟨s.toArray⟩).toArray 9);have HTX:=zh (uDS W4 9 [[43],[45],[42],[47],[94],[38],[61],[60,62],[60],[60,61],[62],[62,61]]);change Calls _ _ _ (World.alloc W4 (.cells (([[43],[45],[42],[47],[94],[38],[61],[60,62],[60],[60,61],[62],[62,61]]:List Bs).map fun s=>Value.string ⟨s.toArray⟩).toArray 9)) _;generalize World.alloc _ _=w5 at f8 HTX ⊢;refine(uDN s _ _ [[43],[45],[42],[47],[94],[38],[61],[60,62],[60],[60,61],[62],[62,61]] w5 HTX.out (by decide)).mono ?_;rintro e w6 ⟨rfl,rfl⟩;rw[HCT.out];clear HCT;clear x7 x21;have bk:=zh (bt.out.trans (f8.mono (by have:=bt.out.size;omega)));have ls:=zh (db.out.next f8);have ik:=zh (an.out.next f8);clear f8;have z21:=ik.out.cell 21
 rw[ai.out]at z21;simp only[za,zb,zf]at z21;cases b1
 ·go_wp2_with fail
  go_ret
  exact⟨aA (by rfl;try simp),by first|exact bk.out |(rw[hQ];exact bk.out)⟩
 by_cases hl:l.length=2
 ·have ed:((l.length:Int)==2)=true:=by rw[hl];rfl
  have hd:decide (l.length=2)=true:=decide_eq_true hl;clear hl;have mf:=zh (ls.out.rangeL);have ij:=zh (ik.out.rangeL);have HI:=zh (cA ai.out);have i5:=zh (cA eh.out);have eu:=zh (cG 1000000 zr (.mk ⟨6,aD,s,aN,aN,0⟩ l) (.mk ⟨6,v,s,a,b,r⟩ l) _ _ w5 ct.out ⟨A,cp,eh.out,HK.out.kp (Kp.of_below (by rw[hQ];exact bk.out))⟩ ⟨A,cp,ai.out,HK.out.kp (Kp.of_below (by rw[hQ];exact bk.out))⟩);rw[cT,me.out]at eu
  go_wp2_with (first |(refine aI (Eq.trans (aQ rfl rfl rfl rfl) rfl) 34 (.tmp 3) rfl (q+1) 0 rfl Ck _ mf.out Tryz.underlying34 rfl i5.out ?_) |(refine aI (Eq.trans (aQ rfl rfl rfl rfl) rfl) 34 (.tmp 1) rfl q 0 rfl Cn _ ij.out Tryz.underlying34 rfl HI.out ?_))
  refine eu.out.mono ?_;rintro e w9 ⟨rfl,gr⟩;have iq:=zh (bk.out.trans (gr.mono (by have:=bk.out.size;omega)));clear gr
  go_wp2_with fail
  go_ret
  exact⟨aA (by rw[hd];try simp),by first|exact iq.out |(rw[hQ];exact iq.out)⟩
 have ed:((l.length:Int)==2)=false:=by rw[beq_eq_false_iff_ne];omega
 have hd:decide (l.length=2)=false:=decide_eq_false hl;clear hl
 go_wp2_with fail
 go_ret
 exact⟨aA (by rw[hd];try simp),by first|exact bk.out |(rw[hQ];exact bk.out)⟩
theorem rOwnG7(v:Val)(s:Bs)(a b:Cor)(r:Int)(l:List Tree)(A:Option Addr)(cp:Nat)(Cn:List Value)(w:World)(hk:KidsOk w [] A l)(hs:(Tree.mk ⟨7,v,s,a,b,r⟩ l).size<=1000000)(ai:Hid (Cn.toArray=aH ⟨7,v,s,a,b,r⟩ A l.length cp))(j6:s.length<=100000) :
  Calls Tryz.prog 87 #[.agg Cn.toArray] w fun e w'=>e=.returned (.bool ((bB s&&decide (l.length=0))&&NodeH.same ⟨7,aD,s,aN,aN,0⟩ ⟨7,v,s,a,b,r⟩))/\Below w.heap.size w w':=by
 obtain⟨sm,fh⟩:∃ c,NodeH.same ⟨7,aD,s,aN,aN,0⟩ ⟨7,v,s,a,b,r⟩=c:=⟨_,rfl⟩
 have me:=zh fh;rw[fh];clear fh;have uc:=zh (fun W=>uFD s W j6);generalize bB s=b1 at *;clear j6;have ct:=zh hs;clear hs;have HK:=zh hk;clear hk;have pz:l.length<=1000000:=by have h1:=bS l;have h2:aM l+1<=1000000:=ct.out;omega
 obtain⟨W1,Cm,Ck,al,HL,HB,ew,el,iw,HT,yo,co,bm,bv,bi,eh⟩:=dD 7 (A) l.length cp ⟨7,aD,s,aN,aN,0⟩ Cn w;have x0:=HL.out.cell 0;have x21:=HL.out.cell 21;rw[ai.out]at x0 x21;simp only[za,zb,zf]at x0 x21
 go_in
 go_upto_region 1 with fail
 rw[al.out];clear al;generalize hQ:w.heap.size=q at *
 go_upto_region 2 with(first |(refine yq rfl 34 (.tmp 3) (.tmp 9) rfl W1.heap.size 0 Cm.toArray rfl (congrArg Value.agg el.out) HT.out co.out yo.out ?_;change wpList _ _ _ _ _ (World.setCells _ W1.heap.size 0 Cm)))
 generalize World.setCells _ _ _ _=W3 at bm bv bi ⊢;rw[el.out];clear x0 x21;have cr:=ew.out;generalize W1.heap.size=q1 at *;subst cr;clear HL HB ew el HT yo co;have x0:=bv.out.cell 0;have x7:=bv.out.cell 7;rw[ai.out]at x0 x7;simp only[za,zb,zf]at x0 x7;have y7:=bm.out.cell 7;have yf7:=bm.out.frozen 7;rw[iw.out]at y7;simp only[za,zb,zf]at y7
 go_upto_region 25 with fail
 clear x0 x7;clear y7 yf7;have fq:=bm.out;rw[iw.out]at fq;have db:Hid (Lies _ (q+1) 34 Ck.toArray):=zh (by rw[eh.out];exact(fq.put 7 (vT s)));have an:=zh (aB bv.out (b:=q+1) (by omega) 7 (vT s));have bt:=zh (bi.out.setCell (p:=⟨q+1,7,none⟩) (Nat.le_succ q) (vT s));generalize World.setCell _ _ _=W4 at db an bt ⊢;clear bm bv bi fq;have x7:=an.out.cell 7;have x21:=an.out.cell 21;rw[ai.out]at x7 x21;simp only[za,zb,zf]at x7 x21
 go_wp2_with fail
 refine(uc.out _).mono ?_;rintro e w5 ⟨rfl,rfl⟩;clear uc;cases b1
 ·go_wp2_with fail
  go_ret
  exact⟨aA (by rfl;try simp),by first|exact bt.out |(rw[hQ];exact bt.out)⟩
 by_cases hl:l.length=0
 ·have ed:((l.length:Int)==0)=true:=by rw[hl];rfl
  have hd:decide (l.length=0)=true:=decide_eq_true hl;clear hl;have mf:=zh (db.out.rangeL);have ij:=zh (an.out.rangeL);have HI:=zh (cA ai.out);have i5:=zh (cA eh.out);have eu:=zh (cG 1000000 zr (.mk ⟨7,aD,s,aN,aN,0⟩ l) (.mk ⟨7,v,s,a,b,r⟩ l) _ _ W4 ct.out ⟨A,cp,eh.out,HK.out.kp (Kp.of_below (by rw[hQ];exact bt.out))⟩ ⟨A,cp,ai.out,HK.out.kp (Kp.of_below (by rw[hQ];exact bt.out))⟩);rw[cT,me.out]at eu
  go_wp2_with (first |(refine aI (Eq.trans (aQ rfl rfl rfl rfl) rfl) 34 (.tmp 3) rfl (q+1) 0 rfl Ck _ mf.out Tryz.underlying34 rfl i5.out ?_) |(refine aI (Eq.trans (aQ rfl rfl rfl rfl) rfl) 34 (.tmp 1) rfl q 0 rfl Cn _ ij.out Tryz.underlying34 rfl HI.out ?_))
  refine eu.out.mono ?_;rintro e w9 ⟨rfl,gr⟩;have iq:=zh (bt.out.trans (gr.mono (by have:=bt.out.size;omega)));clear gr
  go_wp2_with fail
  go_ret
  exact⟨aA (by rw[hd];try simp),by first|exact iq.out |(rw[hQ];exact iq.out)⟩
 have ed:((l.length:Int)==0)=false:=by rw[beq_eq_false_iff_ne];omega
 have hd:decide (l.length=0)=false:=decide_eq_false hl;clear hl
 go_wp2_with fail
 go_ret
 exact⟨aA (by rw[hd];try simp),by first|exact bt.out |(rw[hQ];exact bt.out)⟩
end Go.Proofs.YtjfihpaeglpblaaGreatDoor
