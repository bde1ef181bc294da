/-
  Lemmas, part 22: RkD RmB RkG PaY PaZ RkI RmC RmD.
-/
import Derived.Test.YtjfihpaeglpblaaGreatDoorRs21
set_option maxHeartbeats 100000000
set_option maxRecDepth 1000000
namespace Go.Proofs.YtjfihpaeglpblaaGreatDoor
open Go.RowKit
theorem pT:∀ (l:List Tree) (x:Tree),cP (l++[x])=max (cP l) x.depth
 | [],x=>by simp[cP]
 |t::l,x=>by rw[yp,cP,cP,pT l x];omega
theorem xM(l:List Tree)(k:Nat)(h:k<l.length):cP (l.take (k+1))=max (cP (l.take k)) l[k].depth:=by rw[yw h,pT]
mutual
theorem mT:∀ t:Tree,t.depth<=t.size
 | .mk _ l=>by rw[Tree.depth,Tree.size];have:=kQ l;omega
theorem kQ:∀ l:List Tree,cP l<=aM l
 | []=>zr
 |t::l=>by rw[cP,aM];have:=mT t;have:=kQ l;omega
end
theorem xN(l:List Tree)(k:Nat):cP (l.take k)<=aM l:=by
 have h:∀ (l:List Tree) k,aM (l.take k)<=aM l:=fun l=>by
  induction l with
  |nil=>intro k;simp
  |cons t l ih=>intro k;cases k with
   |zero=>simp[aM]
   |succ k=>rw[List.take_succ_cons,aM,aM];have:=ih k;omega
 exact yv (kQ _) (h l k)
theorem uBW:∀ (n:Nat),n<=1000000->∀ (t:Tree) (cs:Array Value) (w:World),t.size<=n->TreeIn w t cs->Calls Tryz.prog 37 #[.agg cs] w fun e w'=>e=.returned (vI (t.depth:Nat))/\Below w.heap.size w w':=by
 intro n
 induction n with
 |zero=>intro _ t _ _ hs;cases t;simp[Tree.size]at hs
 |succ n ih=>
 intro bj;rintro⟨h,l⟩ cs w hs ⟨A,cp,rfl,hk⟩;have IH:=zh (fun(i:Nat) (hi:i<l.length) cs W h1=>ih (by omega) (l[i]'hi) cs W (by have h9:(l[i]'hi).size<(Tree.mk h l).size:=fB (t:=.mk h l) (i:=i) hi;omega) h1);have fu:Hid (l.length<=1000000/\aM l<=1000000):=zh (by have h1:=cE l;have h2:aM l+1<=n+1:=hs;omega);clear ih;dsimp only[Tree.h,Tree.l]at hk ⊢;have HK:=zh hk;clear hk hs;have hS:(Tree.mk h l).depth=cP l+1:=by rw[Tree.depth]
 rw[hS];clear hS;generalize iw:(w.alloc (.cells (aJ h A l.length cp) 34))=W1;have HL:Hid (Lies W1 w.heap.size 34 (aJ h A l.length cp)):=zh (by rw[<- iw];exact Lies.new _ _ _);have HB:Hid (Below w.heap.size w W1):=zh (by rw[<- iw];exact zp _);have al:=zh iw;clear iw
 go_in
 go_upto_region 1 with fail
 rw[al.out];clear al;generalize hQ:w.heap.size=q at *
 go_wp2_with fail
 go_loopw [3,4] (fun d v wr=>∃ i:Nat,i<=l.length/\v=vI (i:Int)/\d=vI (cP (l.take i):Nat)/\Hid (Below W1.heap.size W1 wr)) (fun _ v _=>l.length-(intOf v).toNat)
 case atStart=>exact⟨0,zm _,rfl,rfl,zh zB⟩
 case round=>
  obtain⟨i,hi,rfl,rfl,kj⟩:=hrel;have hx:=(HL.out.next kj.out).cell 21;simp only[za,zb,zf]at hx;by_cases hlt:i<l.length
  ·obtain⟨g,og,ci,rfl,ed,cv⟩:=gK HK.out i hlt;have bf:Hid (Below w.heap.size w wr):=zh (by rw[hQ];exact HB.out.trans (kj.out.mono (by rw[<- hQ];exact HB.out.size)));obtain⟨hra,hti⟩:=cv wr (Kp.of_below bf.out);have HRA:=zh hra;have HC:=zh (IH.out i hlt ci.toArray wr hti);have HDS:=zh (xM l i hlt);have hdb:((l[i]'hlt).depth:Int)<=1000000:=by
    have h1:=mT (l[i]'hlt);have h2:(l[i]'hlt).size<(Tree.mk h l).size:=fB (t:=.mk h l) (i:=i) hlt;have h3:(Tree.mk h l).size=aM l+1:=by rw[Tree.size]
    have:=fu.out.2;omega
   generalize (l[i]'hlt).depth=dk at *;have zi:(Tryz.prog.info? 34).map (·.size)=some ci.length:=by rw[ed];exact bY
   clear cv hra hti;have vd:(i:Int)<(l.length:Int):=by omega
   have hib:(i:Int)<=1000000:=by have:=fu.out.1;omega
   go_wp2_with (first |(refine yr rfl 34 (.tmp 16) rfl g (og+i*22) rfl ci _ HRA.out Tryz.underlying34 rfl zi ?_))
   refine HC.out.mono ?_;rintro e w2 ⟨rfl,hb⟩;have bu:Hid (Below W1.heap.size W1 w2):=zT kj hb;clear hb HC
   go_wp2_with fail
   go_roundw
   case rel=>exact⟨i+1,by omega,by go_num,by rw[HDS.out];exact congrArg _ (by omega),bu⟩
   case measure=>simp[intOf];omega
  have uw:¬ ((i:Int)<(l.length:Int)):=by omega
  have HDE:Hid (cP (l.take i)=cP l):=zh (by rw[List.take_of_length_le (by omega)]);have hdb:(cP (l.take i):Int)<=1000000:=by have h1:=xN l i;have:=fu.out.2;omega
  generalize cP (l.take i)=dd at *
  go_wp2_with fail
  go_ret
  refine⟨?_,?_⟩
  ·rw[<- HDE.out];rfl
  have h2:Below q w wr:=by have h3:=HB.out;exact h3.trans (kj.out.mono (by have:=h3.size;omega))
  first|exact h2 |(rw[hQ];exact h2)
theorem uFN(a b:Cor)(w:World) :
  Calls Tryz.prog 150 #[corV a,corV b] w fun e w'=>e=.returned (.bool (cF a b))/\Below w.heap.size w w':=by
 have HOA:=zh (fun W=>nY a W);have HOB:=zh (fun W=>nY b W);obtain⟨W1,an⟩:=zD (w.alloc (.cells (kJ a) 29))
 obtain⟨W2,fz⟩:=zD (W1.alloc (.cells (kJ b) 29))
 have ij:=zL an;have sh:W1.heap.size=w.heap.size+1:=by rw[an];simp
 have HBa:=zA an;have fu:Hid (Lies W2 (w.heap.size+1) 29 (kJ b)):=zh (by rw[fz,<- sh];exact Lies.new _ _ _);have lk:=zA fz;have j6:=zh (ij.out.next lk.out);have au:Hid (Below w.heap.size w W2):=zh (zU HBa.out lk.out);have al:=zh an;have jq:=zh fz;clear an fz sh ij HBa lk;obtain⟨rb,we⟩:=zE (cF a b)
 obtain⟨r1,fj⟩:∃ b,decide (a.row≠id0)=b:=⟨_,rfl⟩
 obtain⟨k1,ec⟩:∃ b,decide (a.col≠id0)=b:=⟨_,rfl⟩
 obtain⟨r2,lp⟩:∃ x,decide (b.row≠id0)=x:=⟨_,rfl⟩
 obtain⟨k2,gr⟩:∃ x,decide (b.col≠id0)=x:=⟨_,rfl⟩
 have flip:∀ (x:IdR) (y:Bool),decide (x≠id0)=y->decide (x=id0)=!y:=fun x y e=>by rw[<- e];by_cases hx:x=id0 <;> simp[hx]
 have N1:∀ w:World,(binOp .neq 27 (idV a.row) (idV id0)).run Tryz.prog w=.ok (.bool r1) w:=fun w=>by rw[fL,fj]
 have N2:∀ w:World,(binOp .neq 27 (idV a.col) (idV id0)).run Tryz.prog w=.ok (.bool k1) w:=fun w=>by rw[fL,ec]
 have N3:∀ w:World,(binOp .neq 27 (idV b.row) (idV id0)).run Tryz.prog w=.ok (.bool r2) w:=fun w=>by rw[fL,lp]
 have N4:∀ w:World,(binOp .neq 27 (idV b.col) (idV id0)).run Tryz.prog w=.ok (.bool k2) w:=fun w=>by rw[fL,gr]
 have E1:∀ w:World,(binOp .eql 27 (idV a.row) (idV id0)).run Tryz.prog w=.ok (.bool (!r1)) w:=fun w=>by rw[dF,flip _ _ fj]
 have E2:∀ w:World,(binOp .eql 27 (idV a.col) (idV id0)).run Tryz.prog w=.ok (.bool (!k1)) w:=fun w=>by rw[dF,flip _ _ ec]
 have E3:∀ w:World,(binOp .eql 27 (idV b.row) (idV id0)).run Tryz.prog w=.ok (.bool (!r2)) w:=fun w=>by rw[dF,flip _ _ lp]
 have E4:∀ w:World,(binOp .eql 27 (idV b.col) (idV id0)).run Tryz.prog w=.ok (.bool (!k2)) w:=fun w=>by rw[dF,flip _ _ gr]
 rw[fj,ec]at HOA;rw[lp,gr]at HOB;have HR:Hid (rb=((r1==r2)&&(k1==k2)&&(r1||k1)&&(r1||(!a.fr&&!b.fr))&&(k1||(!a.fc&&!b.fc)))):=zh (by rw[<- we];unfold cF;dsimp only;rw[fj,ec,lp,gr]);rw[we];clear fj ec lp gr we flip;obtain⟨ar,ac,afr,afc⟩:=a;obtain⟨br,bc,bfr,bfc⟩:=b;dsimp only at HR N1 N2 N3 N4 E1 E2 E3 E4 HOA HOB j6 fu ⊢;cases r1 <;> cases k1 <;> cases r2 <;> cases k2
 all_goals first
  |skip
   have x0:=j6.out.cell 0;have x1:=j6.out.cell 1;have x2:=j6.out.cell 2;have x3:=j6.out.cell 3;have x4:=j6.out.cell 4;have x5:=j6.out.cell 5;have y0:=fu.out.cell 0;have y1:=fu.out.cell 1;have y2:=fu.out.cell 2;have y3:=fu.out.cell 3;have y4:=fu.out.cell 4;have y5:=fu.out.cell 5;simp only[za,zb,zf]at x0 x1 x2 x3 x4 x5;simp only[za,zb,zf]at y0 y1 y2 y3 y4 y5
   go_in
   go_upto_region 1 with fail
   rw[<- al.out,<- jq.out];generalize hq:w.heap.size=q at *
   go_wp2_with fail
   refine(HOA.out _).mono ?_;rintro e w3 ⟨rfl,hb⟩;have bf:=zh (au.out.trans (hb.mono (by have:=au.out.size;omega)));have dm:=zh (j6.out.next hb);have dq:=zh (fu.out.next hb);clear x0 x1 x2 x3 x4 x5;clear y0 y1 y2 y3 y4 y5;clear hb;have x0:=dm.out.cell 0;have x1:=dm.out.cell 1;have x2:=dm.out.cell 2;have x3:=dm.out.cell 3;have x4:=dm.out.cell 4;have x5:=dm.out.cell 5;have y0:=dq.out.cell 0;have y1:=dq.out.cell 1;have y2:=dq.out.cell 2;have y3:=dq.out.cell 3;have y4:=dq.out.cell 4;have y5:=dq.out.cell 5;simp only[za,zb,zf]at x0 x1 x2 x3 x4 x5;simp only[za,zb,zf]at y0 y1 y2 y3 y4 y5
   go_wp2_with fail
   go_ret
   exact⟨aA (by rw[HR.out];rfl),by first|exact bf.out |(rw[hq];exact bf.out)⟩
  |skip
   cases afr <;> cases bfr
   all_goals (have x0:=j6.out.cell 0;have x1:=j6.out.cell 1;have x2:=j6.out.cell 2;have x3:=j6.out.cell 3;have x4:=j6.out.cell 4;have x5:=j6.out.cell 5;have y0:=fu.out.cell 0;have y1:=fu.out.cell 1;have y2:=fu.out.cell 2;have y3:=fu.out.cell 3;have y4:=fu.out.cell 4;have y5:=fu.out.cell 5;simp only[za,zb,zf]at x0 x1 x2 x3 x4 x5;simp only[za,zb,zf]at y0 y1 y2 y3 y4 y5;go_in;go_upto_region 1 with fail;rw[<- al.out,<- jq.out];generalize hq:w.heap.size=q at *;go_wp2_with fail;refine(HOA.out _).mono ?_;rintro e w3 ⟨rfl,hb⟩;have bf:=zh (au.out.trans (hb.mono (by have:=au.out.size;omega)));have dm:=zh (j6.out.next hb);have dq:=zh (fu.out.next hb);clear x0 x1 x2 x3 x4 x5;clear y0 y1 y2 y3 y4 y5;clear hb;have x0:=dm.out.cell 0;have x1:=dm.out.cell 1;have x2:=dm.out.cell 2;have x3:=dm.out.cell 3;have x4:=dm.out.cell 4;have x5:=dm.out.cell 5;have y0:=dq.out.cell 0;have y1:=dq.out.cell 1;have y2:=dq.out.cell 2;have y3:=dq.out.cell 3;have y4:=dq.out.cell 4;have y5:=dq.out.cell 5;simp only[za,zb,zf]at x0 x1 x2 x3 x4 x5;simp only[za,zb,zf]at y0 y1 y2 y3 y4 y5;go_wp2_with fail;go_ret;exact⟨aA (by rw[HR.out];rfl),by first|exact bf.out |(rw[hq];exact bf.out)⟩)
  |skip
   cases afc <;> cases bfc
   all_goals (have x0:=j6.out.cell 0;have x1:=j6.out.cell 1;have x2:=j6.out.cell 2;have x3:=j6.out.cell 3;have x4:=j6.out.cell 4;have x5:=j6.out.cell 5;have y0:=fu.out.cell 0;have y1:=fu.out.cell 1;have y2:=fu.out.cell 2;have y3:=fu.out.cell 3;have y4:=fu.out.cell 4;have y5:=fu.out.cell 5;simp only[za,zb,zf]at x0 x1 x2 x3 x4 x5;simp only[za,zb,zf]at y0 y1 y2 y3 y4 y5;go_in;go_upto_region 1 with fail;rw[<- al.out,<- jq.out];generalize hq:w.heap.size=q at *;go_wp2_with fail;refine(HOA.out _).mono ?_;rintro e w3 ⟨rfl,hb⟩;have bf:=zh (au.out.trans (hb.mono (by have:=au.out.size;omega)));have dm:=zh (j6.out.next hb);have dq:=zh (fu.out.next hb);clear x0 x1 x2 x3 x4 x5;clear y0 y1 y2 y3 y4 y5;clear hb;have x0:=dm.out.cell 0;have x1:=dm.out.cell 1;have x2:=dm.out.cell 2;have x3:=dm.out.cell 3;have x4:=dm.out.cell 4;have x5:=dm.out.cell 5;have y0:=dq.out.cell 0;have y1:=dq.out.cell 1;have y2:=dq.out.cell 2;have y3:=dq.out.cell 3;have y4:=dq.out.cell 4;have y5:=dq.out.cell 5;simp only[za,zb,zf]at x0 x1 x2 x3 x4 x5;simp only[za,zb,zf]at y0 y1 y2 y3 y4 y5;go_wp2_with fail;go_ret;exact⟨aA (by rw[HR.out];rfl),by first|exact bf.out |(rw[hq];exact bf.out)⟩)
  |skip
   have x0:=j6.out.cell 0;have x1:=j6.out.cell 1;have x2:=j6.out.cell 2;have x3:=j6.out.cell 3;have x4:=j6.out.cell 4;have x5:=j6.out.cell 5;have y0:=fu.out.cell 0;have y1:=fu.out.cell 1;have y2:=fu.out.cell 2;have y3:=fu.out.cell 3;have y4:=fu.out.cell 4;have y5:=fu.out.cell 5;simp only[za,zb,zf]at x0 x1 x2 x3 x4 x5;simp only[za,zb,zf]at y0 y1 y2 y3 y4 y5
   go_in
   go_upto_region 1 with fail
   rw[<- al.out,<- jq.out];generalize hq:w.heap.size=q at *
   go_wp2_with fail
   refine(HOA.out _).mono ?_;rintro e w3 ⟨rfl,hb⟩;have bf:=zh (au.out.trans (hb.mono (by have:=au.out.size;omega)));have dm:=zh (j6.out.next hb);have dq:=zh (fu.out.next hb);clear x0 x1 x2 x3 x4 x5;clear y0 y1 y2 y3 y4 y5;clear hb;have x0:=dm.out.cell 0;have x1:=dm.out.cell 1;have x2:=dm.out.cell 2;have x3:=dm.out.cell 3;have x4:=dm.out.cell 4;have x5:=dm.out.cell 5;have y0:=dq.out.cell 0;have y1:=dq.out.cell 1;have y2:=dq.out.cell 2;have y3:=dq.out.cell 3;have y4:=dq.out.cell 4;have y5:=dq.out.cell 5;simp only[za,zb,zf]at x0 x1 x2 x3 x4 x5;simp only[za,zb,zf]at y0 y1 y2 y3 y4 y5
   go_wp2_with fail
   refine(HOB.out _).mono ?_;rintro e w4 ⟨rfl,hb⟩;have bu:=zh (bf.out.trans (hb.mono (by have:=bf.out.size;omega)));have si:=zh (dm.out.next hb);have sj:=zh (dq.out.next hb);clear x0 x1 x2 x3 x4 x5;clear y0 y1 y2 y3 y4 y5;clear hb;have x0:=si.out.cell 0;have x1:=si.out.cell 1;have x2:=si.out.cell 2;have x3:=si.out.cell 3;have x4:=si.out.cell 4;have x5:=si.out.cell 5;have y0:=sj.out.cell 0;have y1:=sj.out.cell 1;have y2:=sj.out.cell 2;have y3:=sj.out.cell 3;have y4:=sj.out.cell 4;have y5:=sj.out.cell 5;simp only[za,zb,zf]at x0 x1 x2 x3 x4 x5;simp only[za,zb,zf]at y0 y1 y2 y3 y4 y5
   go_wp2_with fail
   go_ret
   exact⟨aA (by rw[HR.out];rfl),by first|exact bu.out |(rw[hq];exact bu.out)⟩
theorem sV(h:NodeH)(A:Option Addr)(n c:Nat)(w:World) :
  Calls Tryz.prog 38 #[cQ h A n c] w fun e w'=>e=.returned (.bool (decide (h.kind=0)&&decide (h.v.kind=1)&&decide (h.v.mant<0)))/\Below w.heap.size w w':=by
 obtain⟨W1,an⟩:=zD (w.alloc (.cells (aJ h A n c) 34))
 have al:=zh an;have HL:=zL an;have HB:=zA an;clear an;have x0:=HL.out.cell 0;have x1:=HL.out.cell 1;have x2:=HL.out.cell 2;simp only[za,zb,zf]at x0 x1 x2;by_cases h0:h.kind=0
 ·by_cases h1:h.v.kind=1
  ·by_cases h2:h.v.mant<0
   all_goals rw[decide_eq_true h0,decide_eq_true h1]
   all_goals rw[h0]at x0
   all_goals rw[h1]at x1
   all_goals go_in
   all_goals go_upto_region 1 with fail
   all_goals rw[<- al.out]
   all_goals generalize hq:w.heap.size=q at *
   all_goals go_wp2_with fail
   all_goals go_ret
   all_goals exact⟨aA (by simp[h2]),by first|exact HB.out |(rw[hq];exact HB.out)⟩
  rw[h0]at x0;have n1:((h.v.kind:Int)==1)=false:=by simpa using h1
  go_in
  go_upto_region 1 with fail
  rw[<- al.out];generalize hq:w.heap.size=q at *
  go_wp2_with fail
  go_ret
  exact⟨aA (by rw[decide_eq_false h1];simp),by first|exact HB.out |(rw[hq];exact HB.out)⟩
 have n0:((h.kind:Int)==0)=false:=by simpa using h0
 go_in
 go_upto_region 1 with fail
 rw[<- al.out];generalize hq:w.heap.size=q at *
 go_wp2_with fail
 go_ret
 exact⟨aA (by rw[decide_eq_false h0];simp),by first|exact HB.out |(rw[hq];exact HB.out)⟩
theorem fA{x:Int}(h:¬ x=0):¬ 0=x:=fun e=>h e.symm
theorem uCQ(m e:Int)(t:Bs)(tr:Bool)(f:Int):aW ⟨1,m,e,t,tr,f⟩=(bC ⟨1,m,e,[],false,0⟩ ⟨1,m,e,t,tr,f⟩&&bH m e):=by
 by_cases hf:f=0
 ·subst hf;cases tr <;> cases t <;> simp[aW,bC]
 have h2:=fA hf;cases tr <;> cases t <;> simp_all [aW,bC]
theorem uCR(m e:Int)(t:Bs)(tr:Bool)(f:Int):aW ⟨2,m,e,t,tr,f⟩=(bC ⟨2,0,0,t,false,0⟩ ⟨2,m,e,t,tr,f⟩&&decide (t.length<=255)):=by
 by_cases hf:f=0
 ·subst hf;by_cases hm:m=0
  ·subst hm;by_cases he:e=0
   ·subst he;cases tr <;> simp[aW,bC]
   have h2:=fA he;cases tr <;> simp_all [aW,bC]
  have h2:=fA hm;cases tr <;> simp_all [aW,bC]
 have h2:=fA hf;cases tr <;> simp_all [aW,bC]
theorem xF(m e:Int)(t:Bs)(tr:Bool)(f:Int):aW ⟨3,m,e,t,tr,f⟩=bC ⟨3,0,0,[],tr,0⟩ ⟨3,m,e,t,tr,f⟩:=by
 by_cases hf:f=0
 ·subst hf;by_cases hm:m=0
  ·subst hm;by_cases he:e=0
   ·subst he;cases t <;> simp[aW,bC]
   have h2:=fA he;cases t <;> simp_all [aW,bC]
  have h2:=fA hm;cases t <;> simp_all [aW,bC]
 have h2:=fA hf;cases t <;> (simp_all [aW,bC];try omega)
theorem zR(m e:Int)(t:Bs)(tr:Bool)(f:Int):aW ⟨4,m,e,t,tr,f⟩=(bC ⟨4,0,0,[],false,f⟩ ⟨4,m,e,t,tr,f⟩&&decide (1<=f)&&decide (f<=9)):=by
 by_cases hm:m=0
 ·subst hm;by_cases he:e=0
  ·subst he;cases tr <;> cases t <;> simp[aW,bC]
  have h2:=fA he;cases tr <;> cases t <;> simp_all [aW,bC]
 have h2:=fA hm;cases tr <;> cases t <;> simp_all [aW,bC]
theorem zQ(v:Val)(h0:v.kind≠0)(h1:v.kind≠1)(h2:v.kind≠2)(h3:v.kind≠3)(h4:v.kind≠4):aW v=false:=by
 simp[aW,h0,h1,h2,h3,h4]
theorem rLit_any(v:Val)(w:World)(h1:-9223372036854775808<=v.mant)(h2:v.mant<=9223372036854775807)(hl:v.text.length<=1000000) :
  Calls Tryz.prog 148 #[iH v] w fun x w'=>x=.returned (.bool (decide (v.kind≠0)&&aW v))/\Below w.heap.size w w':=by
 obtain⟨k,m,e,t,tr,f⟩:=v;dsimp only at h1 h2 hl;have HC:=zh (fun W=>uFU m e W h1 h2);clear h1 h2;have HB:Hid (∀ W1,W1=w.alloc (.cells (lL ⟨k,m,e,t,tr,f⟩) 25)->∀ cs,Below w.heap.size w (W1.alloc (.cells cs 25))):=zh (fun W1 h cs=>by rw[h];exact((Below.refl _ w).alloc zr _).alloc (by simp) _);have hti:(t.length:Int)<=1000000:=by omega
 clear hl;by_cases k1:k=1
 ·subst k1;have E:=eG 1 m e [] false 0 1 m e t tr f;rw[uCQ];obtain⟨c,hc⟩:=zE (bC ⟨1,m,e,[],false,0⟩ ⟨1,m,e,t,tr,f⟩)
  rw[hc]at E ⊢;clear hc
  go_in
  cases c
  ·clear HC
   go_wp2_with fail
   go_ret
   exact⟨aA (by simp),HB.out _ rfl _⟩
  go_wp2_with fail
  refine(HC.out _).mono ?_;rintro x w2 ⟨rfl,hb⟩;have au:=zh ((HB.out _ rfl _).trans (hb.mono (by simp;omega)));clear hb HB
  go_wp2_with fail
  go_ret
  exact⟨aA (by simp),au.out⟩
 clear HC;by_cases k2:k=2
 ·subst k2;have E:=eG 2 0 0 t false 0 2 m e t tr f;rw[uCR];obtain⟨c,hc⟩:=zE (bC ⟨2,0,0,t,false,0⟩ ⟨2,m,e,t,tr,f⟩)
  rw[hc]at E ⊢;clear hc;by_cases h255:t.length<=255
  all_goals go_in
  ·have hti2:(t.length:Int)<=255:=by omega
   cases c
   all_goals go_wp2_with fail
   all_goals go_ret
   all_goals exact⟨aA (by simp_all),HB.out _ rfl _⟩
  have hti2:¬ (t.length:Int)<=255:=by omega
  cases c
  all_goals go_wp2_with fail
  all_goals go_ret
  all_goals exact⟨aA (by simp_all),HB.out _ rfl _⟩
 by_cases k3:k=3
 ·subst k3;have E:=eG 3 0 0 [] tr 0 3 m e t tr f;rw[xF];obtain⟨c,hc⟩:=zE (bC ⟨3,0,0,[],tr,0⟩ ⟨3,m,e,t,tr,f⟩)
  rw[hc]at E ⊢;clear hc
  go_in
  go_wp2_with fail
  go_ret
  exact⟨aA (by simp),HB.out _ rfl _⟩
 by_cases k4:k=4
 ·subst k4;have E:=eG 4 0 0 [] false f 4 m e t tr f;rw[zR];obtain⟨c,hc⟩:=zE (bC ⟨4,0,0,[],false,f⟩ ⟨4,m,e,t,tr,f⟩)
  rw[hc]at E ⊢;clear hc
  go_in
  by_cases f1:1<=f
  ·by_cases f9:f<=9
   all_goals cases c
   all_goals go_wp2_with fail
   all_goals go_ret
   all_goals exact⟨aA (by first |(simp_all;done) |(rw[ze];simp;omega)),HB.out _ rfl _⟩
  cases c
  all_goals go_wp2_with fail
  all_goals go_ret
  all_goals exact⟨aA (by first |(simp_all;done) |(rw[ze];simp;omega)),HB.out _ rfl _⟩
 have hr:(decide (k≠0)&&aW ⟨k,m,e,t,tr,f⟩)=false:=by
  by_cases k0:k=0
  ·simp[k0]
  rw[zQ _ k0 k1 k2 k3 k4,Bool.and_false]
 dsimp only at hr ⊢;rw[hr];have n1:((k:Int)==1)=false:=by simpa using k1
 have n2:((k:Int)==2)=false:=by simpa using k2
 have n3:((k:Int)==3)=false:=by simpa using k3
 have n4:((k:Int)==4)=false:=by simpa using k4
 clear hr
 go_in
 go_wp2_with fail
 go_ret
 exact⟨rfl,HB.out _ rfl _⟩
mutual
def Tree.pre:Tree->List Tree
 | .mk h l=>.mk h l::sS l
def sS:List Tree->List Tree
 | []=>[]
 |t::r=>t.pre++sS r
end
theorem vA:∀ (l:List Tree) (x:Tree),sS (l++[x])=sS l++x.pre
 | [],x=>by simp[sS]
 |t::l,x=>by rw[yp,sS,sS,vA l x,List.append_assoc]
theorem uCI(l:List Tree)(k:Nat)(h:k<l.length):aM (l.take (k+1))=aM (l.take k)+l[k].size:=by rw[yw h,uCH]
theorem uFL(l:List Tree)(k:Nat)(h:k<l.length):sS (l.take (k+1))=sS (l.take k)++l[k].pre:=by rw[yw h,vA]
theorem uCJ(l:List Tree)(k:Nat):aM (l.take k)<=aM l:=by
 have h:∀ (l:List Tree) k,aM (l.take k)<=aM l:=fun l=>by
  induction l with
  |nil=>intro k;simp
  |cons t l ih=>intro k;cases k with
   |zero=>simp[aM]
   |succ k=>rw[List.take_succ_cons,aM,aM];have:=ih k;omega
 exact h l k
def PCells:List Value->List Tree->Prop
 |xs,[]=>xs=[]
 |xs,t::l=>∃ c r,xs=c++r/\c.length=22/\(∃ A cp,c.toArray=aJ t.h A t.l.length cp)/\PCells r l
theorem PCells.app:∀ {xs ys:List Value} {l m:List Tree},PCells xs l->PCells ys m->PCells (xs++ys) (l++m)
 |xs,ys,[],m,h,h2=>by
  have h0:xs=[]:=h;subst h0;exact h2
 |xs,ys,t::l,m,⟨c,r,h1,h3,h4,h5⟩,h2=>⟨c,r++ys,by rw[h1,List.append_assoc],h3,h4,PCells.app h5 h2⟩
theorem uBG(h:NodeH)(A:Option Addr)(n c:Nat):(aJ h A n c).all (·.oneCell')=true:=by simp[aJ,Value.oneCell']
theorem PCells.one':∀ {xs:List Value} {l:List Tree},PCells xs l->∀ u∈xs,u.oneCell'=true
 |xs,[],h,u,hu=>by
  have h0:xs=[]:=h;subst h0;cases hu
 |xs,t::l,⟨c,r,h1,h3,⟨A,cp,h4⟩,h5⟩,u,hu=>by
  subst h1;rcases List.mem_append.1 hu with hu|hu
  ·have:=uBG t.h A t.l.length cp;rw[<- h4]at this;exact(Array.all_eq_true_iff_forall_mem.1 this) u (by simpa using hu)
  exact PCells.one' h5 u hu
theorem PCells.head{h:NodeH}{A:Option Addr}{n cp:Nat}(l:List Tree)(hl:l.length=n):PCells (aJ h A n cp).toList [.mk h l]:=by
 refine⟨(aJ h A n cp).toList,[],by simp,rfl,⟨A,cp,?_⟩,rfl⟩;rw[<- hl];rfl
theorem mB{ops:Array Oper}{rest:List Oper}{o:Oper}{a:Act}{w:World}{Q:Exit->Act->World->Prop}(pm:o.guard=none)(s x:Operand)(ho:o.op=.call { callee:=.builtin .append,args:=#[s,x],argTypes:=#[32,32] })
  (base n m:Nat) (v:Value) (xs:List Value) (hs:a.eval s=v) (ba:w.ownsRow base 34 22 v n xs) (hn:n+m<=3000000) (dt:base<=w.heap.size)
  (v2:Value) (b2:Nat) (news:List Value) (hx:a.eval x=v2) (ie:w.ownsRow b2 34 22 v2 m news) (hm:0<m) (h1:∀ u∈news,u.oneCell'=true)
  (h:∀ A' c' w',w'.ownsRow base 34 22 (.slice A' (n+m) c') (n+m) (xs++news)->w.grownBy w' v.ownBlock->wpList Tryz.prog ops Q rest (a.put o.dst (.slice A' (n+m) c')) w'):wpList Tryz.prog ops Q (o::rest) a w:=by
 have hB:=uEV;obtain⟨i,z,hi,aq,hz,hzc⟩:=oT;rw[hi]at hB;simp at hB;obtain⟨g,cap,hv2,_,_,ui⟩:=fT ie hm;have uj:∀ j u,news[j]?=some u->w.cell? ((⟨g,0,none⟩:Addr).add j)=some u:=fun j u hj=>by
  have e:(⟨g,0,none⟩:Addr).add j=⟨g,j,none⟩:=by cases j <;> simp[Addr.add]
  rw[e];exact ui j u hj
 refine wpList_append_own (P:=Tryz.prog) w pm s x 32 ho base 34 i z 22 192 uCP hi hz aq hB.2 hzc (by decide) v n xs hs ba ⟨g,0,none⟩ m cap news (by rw[hx,hv2]) ie.1 uj h1 (by unfold maxLen;omega) (by omega) dt (fun v' w' k1 k2 _=>?_);obtain⟨A',c',rfl⟩:=aV k1;exact h A' c' w' k1 k2
theorem sX:∀ (n:Nat),n<=1000000->∀ (t:Tree) (cs:Array Value) (w:World),t.size<=n->TreeIn w t cs->Calls Tryz.prog 15 #[.agg cs] w fun e w'=>∃ A c xs,e=.returned (.slice A t.size c)/\w'.ownsRow w.heap.size 34 22 (.slice A t.size c) t.size xs/\PCells xs t.pre/\Below w.heap.size w w':=by
 intro n
 induction n with
 |zero=>intro _ t _ _ hs;cases t;simp[Tree.size]at hs
 |succ n ih=>
 intro bj;rintro⟨h,l⟩ cs w hs ⟨A,cp,rfl,hk⟩;have IH:=zh (fun(i:Nat) (hi:i<l.length) cs W h1=>ih (by omega) (l[i]'hi) cs W (by have h9:(l[i]'hi).size<(Tree.mk h l).size:=fB (t:=.mk h l) (i:=i) hi;omega) h1);have fu:Hid (l.length<=1000000/\aM l<=1000000):=zh (by have h1:=cE l;have h2:aM l+1<=n+1:=hs;omega);clear ih;dsimp only[Tree.h,Tree.l]at hk ⊢;have HK:=zh hk;clear hk hs;have hS:(Tree.mk h l).size=aM l+1:=by rw[Tree.size]
 have hP:(Tree.mk h l).pre=.mk h l::sS l:=by rw[Tree.pre]
 rw[hS,hP];clear hS hP;generalize iw:(w.alloc (.cells (aJ h A l.length cp) 34))=W1;have HL:Hid (Lies W1 w.heap.size 34 (aJ h A l.length cp)):=zh (by rw[<- iw];exact Lies.new _ _ _);have HB:Hid (Below w.heap.size w W1):=zh (by rw[<- iw];exact zp _);have al:=zh iw;clear iw;have fg:Hid (W1.heap.size=w.heap.size+1):=zh (by rw[<- al.out];simp);have HHD:=zh (PCells.head (h:=h) (A:=A) (cp:=cp) l rfl);have xt:Hid ((W1.alloc (.cells (aJ h A l.length cp) 34)).ownsRow W1.heap.size 34 22 (.slice (some ⟨W1.heap.size,0,none⟩) 1 1) 1 (aJ h A l.length cp).toList):=zh ⟨rfl,.inr ⟨_,1,_,rfl,zr,heap_alloc_new _ _,zr,by unfold maxLen;omega,rfl,rfl⟩⟩;have xj:Hid (Below W1.heap.size W1 (W1.alloc (.cells (aJ h A l.length cp) 34))):=zh (zp _)
 go_in
 go_upto_region 1 with fail
 rw[al.out];clear al;generalize hQ:w.heap.size=q at *;have jh:=zh (HL.out.range);obtain⟨C,hC⟩:∃ C:List Value,C=(aJ h A l.length cp).toList:=⟨_,rfl⟩
 have hCa:aJ h A l.length cp=C.toArray:=by rw[hC]
 have sn:C.length=22:=by rw[hC];rfl
 rw[<- hC]at jh xt HHD;rw[hCa]at xt xj;have zz:(Tryz.prog.info? 34).map (·.size)=some C.length:=by rw[sn];exact bY
 generalize fz:W1.alloc (.cells C.toArray 34)=W2 at *
 go_wp2_with (first |(refine yr rfl 34 (.tmp 1) rfl q 0 rfl C _ jh.out Tryz.underlying34 rfl zz ?_) |(refine tS rfl (.tmp 5) rfl C rfl sn W1.heap.size rfl (some 6) rfl ?_;rw[fz]))
 have HBQ:Hid (q+1=W1.heap.size):=zh fg.out.symm;clear hC hCa zz jh
 go_loopw [3,4] (fun d v wr=>∃ (i:Nat) (A':Option Addr) (c':Nat) (xs:List Value),i<=l.length/\v=vI (i:Int)/\d=.slice A' (aM (l.take i)+1) c'/\Hid (wr.ownsRow W1.heap.size 34 22 (.slice A' (aM (l.take i)+1) c') (aM (l.take i)+1) xs)/\Hid (PCells xs (.mk h l::sS (l.take i)))/\Hid (Below W1.heap.size W1 wr)) (fun _ v _=>l.length-(intOf v).toNat)
 case atStart=>exact⟨0,_,_,_,zm _,rfl,rfl,xt,HHD,xj⟩
 case round=>
  obtain⟨i,A',c',xs,hi,rfl,rfl,HO,HP,kj⟩:=hrel;have hx:=(HL.out.next kj.out).cell 21;simp only[za,zb,zf]at hx;by_cases hlt:i<l.length
  ·obtain⟨g,og,ci,rfl,ed,cv⟩:=gK HK.out i hlt;have bf:Hid (Below w.heap.size w wr):=zh (by rw[hQ];exact HB.out.trans (kj.out.mono (by rw[<- hQ];exact HB.out.size)));obtain⟨hra,hti⟩:=cv wr (Kp.of_below bf.out);have HRA:=zh hra;have HC:=zh (IH.out i hlt ci.toArray wr hti);have bm:=zh (uCI l i hlt);have HPS:=zh (uFL l i hlt);have HDB:Hid ((l[i]'hlt).size<=1000000/\0<(l[i]'hlt).size/\aM (l.take i)<=1000000):=zh (by
    have h2:(l[i]'hlt).size<(Tree.mk h l).size:=fB (t:=.mk h l) (i:=i) hlt;have h3:(Tree.mk h l).size=aM l+1:=by rw[Tree.size]
    have h4:=uCJ l i;have:=fu.out.2;refine⟨by omega,?_,by omega⟩;cases l[i]'hlt;exact Nat.succ_pos _)
   generalize (l[i]'hlt).size=dk at *;generalize (l[i]'hlt).pre=dp at *;generalize aM (l.take i)=sk at *;have zi:(Tryz.prog.info? 34).map (·.size)=some ci.length:=by rw[ed];exact bY
   clear cv hra hti;have vd:(i:Int)<(l.length:Int):=by omega
   have hib:(i:Int)<=1000000:=by have:=fu.out.1;omega
   go_wp2_with (first |(refine yr rfl 34 (.tmp 18) rfl g (og+i*22) rfl ci _ HRA.out Tryz.underlying34 rfl zi ?_))
   refine HC.out.mono ?_;rintro e w2 ⟨A2,c2,ys,rfl,ho2,hp2,hb⟩;have ee:=zh ho2;have HP2:=zh hp2;have xz:=zh (HO.out.kept (mG hb none) (Classical.em _));have bu:Hid (Below W1.heap.size W1 w2):=zT kj hb;have HON:=zh (HP2.out.one');have HSB:Hid (W1.heap.size<=w2.heap.size):=zh bu.out.size;clear hb HC ho2 hp2
   go_wp2_with (first |(refine mB rfl (.tmp 14) (.tmp 20) rfl W1.heap.size (sk+1) dk _ xs rfl xz.out (by have:=HDB.out;omega) HSB.out _ _ ys rfl ee.out HDB.out.2.1 HON.out ?_;intro A3 c3 w3 k1 k2;have K1:=zh k1;have K2:=zh k2;clear k1 k2))
   have bk:Hid (Below W1.heap.size W1 w3):=zh (bu.out.grown K2.out HSB.out (fun k hk=>(xz.out.lt k hk).1))
   go_roundw
   case rel=>exact⟨i+1,A3,c3,xs++ys,by omega,by go_num,by rw[bm.out,show sk+dk+1=sk+1+dk by omega],zh (by rw[bm.out,show sk+dk+1=sk+1+dk by omega];exact K1.out),zh (by rw[HPS.out];exact PCells.app HP.out HP2.out),bk⟩
   case measure=>simp[intOf];omega
  have uw:¬ ((i:Int)<(l.length:Int)):=by omega
  have e:l.take i=l:=List.take_of_length_le (by omega);rw[e]at HO HP ⊢;clear e
  go_wp2_with fail
  go_ret
  have h2:Below q w wr:=by have h3:=HB.out;exact h3.trans (kj.out.mono (by have:=h3.size;omega))
  have h4:=aL HO.out (show q<=W1.heap.size by have:=HBQ.out;omega);exact⟨A',c',rfl,xs,h4,HP.out,h2⟩
theorem uGK:∀ (t:Tree),t.same t=true:=by
 have key:∀ n (t:Tree),t.size<=n->t.same t=true:=by
  intro n
  induction n with
  |zero=>intro t h;have:=tG t;omega
  |succ n ih=>
   rintro⟨h,l⟩ hs;unfold Tree.same;rw[headSame,Bool.true_and];refine(lU rfl).2 (fun i h1 _=>ih _ ?_);have:=fB (t:=.mk h l) (i:=i) h1;show l[i].size<=n;have h9:(l[i]'h1).size<(Tree.mk h l).size:=this;omega
 exact fun t=>key _ t zr
theorem uFH(h:NodeH)(A:Option Addr)(n c:Nat):(aJ h A n c).all (·.oneCell')=true:=by simp[aJ,Value.oneCell']
theorem uEY{W':World}{C:List Value}(hC:C.length=22):World.there (W'.alloc (.cells fH.toArray 34)) W'.heap.size 0 C.toArray.size:=by
 have:=(Lies.new W' 34 fH.toArray).thereA;have h0:C.toArray.size=22:=by rw[yd,hC]
 rw[h0];exact this
theorem eO{w w':World}{A:Option Addr}{ids:List IdR}(h:eQ w A ids)(hb:Below w.heap.size w w'):eQ w' A ids:=fun h0=>by
 obtain⟨g,o,e,hr⟩:=h h0;exact⟨g,o,e,hr.at hb.size (hb.block g hr.1)⟩
theorem uEF(w:World)(t:TypeId)(xs:List Bs):TxtAt (w.alloc (.cells (xs.map fun s=>Value.string ⟨s.toArray⟩).toArray t)) w.heap.size xs:=fun j hj=>by
 rw[(Lies.new w t _).cell j];simp[hj]
theorem aK{P:Program}{ops:Array Oper}{rest:List Oper}{op:Oper}{a:Act}{w:World}{Q:Exit->Act->World->Prop}(hw:Region.wanted op (yielded ops a.tmps)=true)(ty:TypeId)(x:Operand)(ho:op.op=.load ty x)
  (b o:Nat) (hx:a.eval x=vP b o) (cs:List Value) (d:TypeDesc) (hc:w.rangeAt b o cs)
  (hu:P.underlying ty=some d) (hd:d.isRow=true) (hi:(P.info? ty).map (·.size)=some cs.length)
  (h:wpList P ops Q rest (a.put op.dst (.agg cs.toArray)) w):wpList P ops Q (op::rest) a w :=
 BigFrame.wpList_want hw fun _ hK=>wp_load_mid ty x ho b o hx cs d hc hu hd hi (hK _ _ h)
theorem Lies.putMid{b:Nat}{t:TypeId}:∀ (vs:List Value) (i:Nat) (W:World) (cs:List Value),Lies W b t cs.toArray->i+vs.length<=cs.length->Lies (W.setCells b i vs) b t (cs.take i++vs++cs.drop (i+vs.length)).toArray
 | [],i,_,cs,h,_=>by
  have:cs.take i++[]++cs.drop (i+([]:List Value).length)=cs:=by simp
  rw[this];exact h
 |v::r,i,W,cs,h,hl=>by
  have hi:i<cs.length:=by simp at hl;omega
  have h0:Lies (W.setCell ⟨b,i,none⟩ v) b t (cs.set i v).toArray:=by
   have:=h.put i v
   rwa [yz]at this
  have h1:=Lies.putMid r (i+1) _ _ h0 (by simp at hl ⊢;omega);have e:(cs.set i v).take (i+1)++r++(cs.set i v).drop (i+1+r.length)=cs.take i++(v::r)++cs.drop (i+(v::r).length):=by
   rw[yw (by simpa using hi),List.getElem_set_self,List.take_set_of_le zr,List.drop_set_of_lt (by omega)];simp[Nat.add_assoc,Nat.add_comm 1]
  rw[<- e];exact h1
theorem Lies.rangeL{w:World}{b:Nat}{t:TypeId}{C:List Value}(h:Lies w b t C.toArray):w.rangeAt b 0 C:=by
 have:=h.range
 rwa [List.toList_toArray]at this
theorem cN{C:List Value}{h:NodeH}{A:Option Addr}{n cp:Nat}(e:C.toArray=aJ h A n cp):(Tryz.prog.info? 34).map (·.size)=some C.length:=by
 have h2:C.length=22:=by rw[<- yd,e];rfl
 rw[h2];exact bY
theorem dH(h h':NodeH)(l:List Tree):(Tree.mk h l).same (.mk h' l)=NodeH.same h h':=by
 have e:(NodeH.same h h&&fG l l)=true:=uGK (.mk h l);rw[yh]at e;show (NodeH.same h h'&&fG l l)=_;rw[e.2,Bool.and_true]
theorem dT(k:Int)(A:Option Addr)(n cp:Nat)(M:NodeH)(Cn:List Value)(w:World):∃ (W1:World) (Cm Ck:List Value),Hid (w.alloc (.cells Cn.toArray 34)=W1)/\Hid (Lies W1 w.heap.size 34 Cn.toArray)/\Hid (Below w.heap.size w W1)/\Hid (W1.heap.size=w.heap.size+1)/\Hid (#[vI k,vI 0,vI 0,vI 0,vS #[],.bool false,vI 0,vS #[],vI 0,vI 0,vI 0,vI 0,.bool false,.bool false,vI 0,vI 0,vI 0,vI 0,.bool false,.bool false,vI 0,.slice A n cp]=Cm.toArray)/\Hid (Cm.toArray=aJ ⟨k,aE,[],aP,aP,0⟩ A n cp)/\Hid ((W1.alloc (.cells fH.toArray 34)).there W1.heap.size 0 Cm.toArray.size)/\Hid (Cm.toArray.all (·.oneCell')=true)/\Hid ((Tryz.prog.info? 34).map (·.size)=some Cm.toArray.size)/\Hid (Lies (World.setCells (W1.alloc (.cells fH.toArray 34)) W1.heap.size 0 Cm) W1.heap.size 34 Cm.toArray)/\Hid (Lies (World.setCells (W1.alloc (.cells fH.toArray 34)) W1.heap.size 0 Cm) w.heap.size 34 Cn.toArray)/\Hid (Below w.heap.size w (World.setCells (W1.alloc (.cells fH.toArray 34)) W1.heap.size 0 Cm))/\Hid (Ck.toArray=aJ M A n cp):=by
 obtain⟨W1,iw⟩:∃ W,w.alloc (.cells Cn.toArray 34)=W:=⟨_,rfl⟩
 have HL:Lies W1 w.heap.size 34 Cn.toArray:=by rw[<- iw];exact Lies.new _ _ _
 have HB:Below w.heap.size w W1:=by rw[<- iw];exact(zp _)
 obtain⟨Cm,hCm⟩:∃ C:List Value,#[vI k,vI 0,vI 0,vI 0,vS #[],.bool false,vI 0,vS #[],vI 0,vI 0,vI 0,vI 0,.bool false,.bool false,vI 0,vI 0,vI 0,vI 0,.bool false,.bool false,vI 0,.slice A n cp]=C.toArray:=⟨_,rfl⟩
 have sn:Cm.length=22:=by rw[<- yd,<- hCm];rfl
 have bv:Below W1.heap.size W1 (World.setCells (W1.alloc (.cells fH.toArray 34)) W1.heap.size 0 Cm):=kp_below (nS (.inr zr) Cm 0 ((Kp.refl _ _).alloc _));exact⟨W1,Cm,(aJ M A n cp).toList,zh iw,zh HL,zh HB,zh (by rw[<- iw];simp),zh hCm,zh hCm.symm,zh (uEY sn),zh (by rw[<- hCm];exact uFH ⟨k,aE,[],aP,aP,0⟩ A n cp),zh (by rw[yd,sn];exact bY),zh ((Lies.new W1 34 fH.toArray).putAll (by rw[sn];rfl)),zh (HL.next bv),zh (zU HB bv),zh (by simp)⟩
theorem rOwnG9(v:Val)(s:Bs)(a b:Cor)(r:Int)(l:List Tree)(A:Option Addr)(cp:Nat)(Cn:List Value)(w:World)(hk:KidsOk w [] A l)(hs:(Tree.mk ⟨9,v,s,a,b,r⟩ l).size<=1000000)(af:Hid (Cn.toArray=aJ ⟨9,v,s,a,b,r⟩ A l.length cp)) :
  Calls Tryz.prog 87 #[.agg Cn.toArray] w fun e w'=>e=.returned (.bool ((decide (l.length=0))&&NodeH.same ⟨9,aE,[],aP,aP,0⟩ ⟨9,v,s,a,b,r⟩))/\Below w.heap.size w w':=by
 obtain⟨sm,fo⟩:∃ c,NodeH.same ⟨9,aE,[],aP,aP,0⟩ ⟨9,v,s,a,b,r⟩=c:=⟨_,rfl⟩
 have mv:=zh fo;rw[fo];clear fo;have db:=zh hs;clear hs;have HK:=zh hk;clear hk;have qg:l.length<=1000000:=by have h1:=cE l;have h2:aM l+1<=1000000:=db.out;omega
 obtain⟨W1,Cm,Ck,al,HL,HB,fg,er,iz,HT,yo,ct,bt,bw,bf,el⟩:=dT 9 (A) l.length cp ⟨9,aE,[],aP,aP,0⟩ Cn w;have x0:=HL.out.cell 0;have x21:=HL.out.cell 21;rw[af.out]at x0 x21;simp only[za,zb,zf]at x0 x21
 go_in
 go_upto_region 1 with fail
 rw[al.out];clear al;generalize hQ:w.heap.size=q at *
 go_upto_region 2 with(first |(refine yq rfl 34 (.tmp 3) (.tmp 9) rfl W1.heap.size 0 Cm.toArray rfl (congrArg Value.agg er.out) HT.out ct.out yo.out ?_;change wpList _ _ _ _ _ (World.setCells _ W1.heap.size 0 Cm)))
 generalize World.setCells _ _ _ _=W3 at bt bw bf ⊢;rw[er.out];clear x0 x21;have da:=fg.out;generalize W1.heap.size=q1 at *;subst da;clear HL HB fg er HT yo ct;rw[iz.out,<- el.out]at bt;have x0:=bw.out.cell 0;have x21:=bw.out.cell 21;rw[af.out]at x0 x21;simp only[za,zb,zf]at x0 x21;by_cases hl:l.length=0
 ·have eh:((l.length:Int)==0)=true:=by rw[hl];rfl
  have hd:decide (l.length=0)=true:=decide_eq_true hl;clear hl;have mw:=zh (bt.out.rangeL);have im:=zh (bw.out.rangeL);have HI:=zh (cN af.out);have ja:=zh (cN el.out);have ei:=zh (cT 1000000 zr (.mk ⟨9,aE,[],aP,aP,0⟩ l) (.mk ⟨9,v,s,a,b,r⟩ l) _ _ W3 db.out ⟨A,cp,el.out,HK.out.kp (Kp.of_below (by rw[hQ];exact bf.out))⟩ ⟨A,cp,af.out,HK.out.kp (Kp.of_below (by rw[hQ];exact bf.out))⟩);rw[dH,mv.out]at ei
  go_wp2_with (first |(refine aK (Eq.trans (aS rfl rfl rfl rfl) rfl) 34 (.tmp 3) rfl (q+1) 0 rfl Ck _ mw.out Tryz.underlying34 rfl ja.out ?_) |(refine aK (Eq.trans (aS rfl rfl rfl rfl) rfl) 34 (.tmp 1) rfl q 0 rfl Cn _ im.out Tryz.underlying34 rfl HI.out ?_))
  refine ei.out.mono ?_;rintro e w9 ⟨rfl,gx⟩;have iv:=zh (bf.out.trans (gx.mono (by have:=bf.out.size;omega)));clear gx
  go_wp2_with fail
  go_ret
  exact⟨aA (by rw[hd];try simp),by first|exact iv.out |(rw[hQ];exact iv.out)⟩
 have eh:((l.length:Int)==0)=false:=by rw[beq_eq_false_iff_ne];omega
 have hd:decide (l.length=0)=false:=decide_eq_false hl;clear hl
 go_wp2_with fail
 go_ret
 exact⟨aA (by rw[hd];try simp),by first|exact bf.out |(rw[hQ];exact bf.out)⟩
theorem rOwnG5(v:Val)(s:Bs)(a b:Cor)(r:Int)(l:List Tree)(A:Option Addr)(cp:Nat)(Cn:List Value)(w:World)(hk:KidsOk w [] A l)(hs:(Tree.mk ⟨5,v,s,a,b,r⟩ l).size<=1000000)(af:Hid (Cn.toArray=aJ ⟨5,v,s,a,b,r⟩ A l.length cp)) :
  Calls Tryz.prog 87 #[.agg Cn.toArray] w fun e w'=>e=.returned (.bool ((([[45],[43],[37]]:List Bs).contains s&&decide (l.length=1))&&NodeH.same ⟨5,aE,s,aP,aP,0⟩ ⟨5,v,s,a,b,r⟩))/\Below w.heap.size w w':=by
 obtain⟨sm,fo⟩:∃ c,NodeH.same ⟨5,aE,s,aP,aP,0⟩ ⟨5,v,s,a,b,r⟩=c:=⟨_,rfl⟩
 have mv:=zh fo;rw[fo];clear fo;obtain⟨b1,hb1⟩:∃ c,([[45],[43],[37]]:List Bs).contains s=c:=⟨_,rfl⟩
 have HCT:=zh hb1;rw[hb1];clear hb1;have db:=zh hs;clear hs;have HK:=zh hk;clear hk;have qg:l.length<=1000000:=by have h1:=cE l;have h2:aM l+1<=1000000:=db.out;omega
 obtain⟨W1,Cm,Ck,al,HL,HB,fg,er,iz,HT,yo,ct,bt,bw,bf,el⟩:=dT 5 (A) l.length cp ⟨5,aE,s,aP,aP,0⟩ Cn w;have x0:=HL.out.cell 0;have x21:=HL.out.cell 21;rw[af.out]at x0 x21;simp only[za,zb,zf]at x0 x21
 go_in
 go_upto_region 1 with fail
 rw[al.out];clear al;generalize hQ:w.heap.size=q at *
 go_upto_region 2 with(first |(refine yq rfl 34 (.tmp 3) (.tmp 9) rfl W1.heap.size 0 Cm.toArray rfl (congrArg Value.agg er.out) HT.out ct.out yo.out ?_;change wpList _ _ _ _ _ (World.setCells _ W1.heap.size 0 Cm)))
 generalize World.setCells _ _ _ _=W3 at bt bw bf ⊢;rw[er.out];clear x0 x21;have da:=fg.out;generalize W1.heap.size=q1 at *;subst da;clear HL HB fg er HT yo ct;have x0:=bw.out.cell 0;have x7:=bw.out.cell 7;rw[af.out]at x0 x7;simp only[za,zb,zf]at x0 x7;have y7:=bt.out.cell 7;have yf7:=bt.out.frozen 7;rw[iz.out]at y7;simp only[za,zb,zf]at y7
 go_upto_region 19 with fail
 clear x0 x7;clear y7 yf7;have fw:=bt.out;rw[iz.out]at fw;have dj:Hid (Lies _ (q+1) 34 Ck.toArray):=zh (by rw[el.out];exact(fw.put 7 (vT s)));have am:=zh (aC bw.out (b:=q+1) (by omega) 7 (vT s));have bu:=zh (bf.out.setCell (p:=⟨q+1,7,none⟩) (Nat.le_succ q) (vT s));generalize World.setCell _ _ _=W4 at dj am bu ⊢;clear bt bw bf fw;have x7:=am.out.cell 7;have x21:=am.out.cell 21;rw[af.out]at x7 x21;simp only[za,zb,zf]at x7 x21
 go_wp2_with fail
 have ft:Below W4.heap.size W4 _:=zp (.cells (([[45],[43],[37]]:List Bs).map fun s=>Value.string ⟨s.toArray⟩).toArray 9);have HTX:=zh (uEF W4 9 [[45],[43],[37]]);change Calls _ _ _ (World.alloc W4 (.cells (([[45],[43],[37]]:List Bs).map fun s=>Value.string ⟨s.toArray⟩).toArray 9)) _;generalize World.alloc _ _=w5 at ft HTX ⊢;refine(uEC s _ _ [[45],[43],[37]] w5 HTX.out (by decide)).mono ?_;rintro e w6 ⟨rfl,rfl⟩;rw[HCT.out];clear HCT;clear x7 x21;have bk:=zh (bu.out.trans (ft.mono (by have:=bu.out.size;omega)));have mf:=zh (dj.out.next ft);have ip:=zh (am.out.next ft);clear ft;have z21:=ip.out.cell 21;rw[af.out]at z21;simp only[za,zb,zf]at z21;cases b1
 ·go_wp2_with fail
  go_ret
  exact⟨aA (by rfl;try simp),by first|exact bk.out |(rw[hQ];exact bk.out)⟩
 by_cases hl:l.length=1
 ·have eh:((l.length:Int)==1)=true:=by rw[hl];rfl
  have hd:decide (l.length=1)=true:=decide_eq_true hl;clear hl;have mw:=zh (mf.out.rangeL);have im:=zh (ip.out.rangeL);have HI:=zh (cN af.out);have ja:=zh (cN el.out);have ei:=zh (cT 1000000 zr (.mk ⟨5,aE,s,aP,aP,0⟩ l) (.mk ⟨5,v,s,a,b,r⟩ l) _ _ w5 db.out ⟨A,cp,el.out,HK.out.kp (Kp.of_below (by rw[hQ];exact bk.out))⟩ ⟨A,cp,af.out,HK.out.kp (Kp.of_below (by rw[hQ];exact bk.out))⟩);rw[dH,mv.out]at ei
  go_wp2_with (first |(refine aK (Eq.trans (aS rfl rfl rfl rfl) rfl) 34 (.tmp 3) rfl (q+1) 0 rfl Ck _ mw.out Tryz.underlying34 rfl ja.out ?_) |(refine aK (Eq.trans (aS rfl rfl rfl rfl) rfl) 34 (.tmp 1) rfl q 0 rfl Cn _ im.out Tryz.underlying34 rfl HI.out ?_))
  refine ei.out.mono ?_;rintro e w9 ⟨rfl,gx⟩;have iv:=zh (bk.out.trans (gx.mono (by have:=bk.out.size;omega)));clear gx
  go_wp2_with fail
  go_ret
  exact⟨aA (by rw[hd];try simp),by first|exact iv.out |(rw[hQ];exact iv.out)⟩
 have eh:((l.length:Int)==1)=false:=by rw[beq_eq_false_iff_ne];omega
 have hd:decide (l.length=1)=false:=decide_eq_false hl;clear hl
 go_wp2_with fail
 go_ret
 exact⟨aA (by rw[hd];try simp),by first|exact bk.out |(rw[hQ];exact bk.out)⟩
theorem rOwnG6(v:Val)(s:Bs)(a b:Cor)(r:Int)(l:List Tree)(A:Option Addr)(cp:Nat)(Cn:List Value)(w:World)(hk:KidsOk w [] A l)(hs:(Tree.mk ⟨6,v,s,a,b,r⟩ l).size<=1000000)(af:Hid (Cn.toArray=aJ ⟨6,v,s,a,b,r⟩ A l.length cp)) :
  Calls Tryz.prog 87 #[.agg Cn.toArray] w fun e w'=>e=.returned (.bool ((([[43],[45],[42],[47],[94],[38],[61],[60,62],[60],[60,61],[62],[62,61]]:List Bs).contains s&&decide (l.length=2))&&NodeH.same ⟨6,aE,s,aP,aP,0⟩ ⟨6,v,s,a,b,r⟩))/\Below w.heap.size w w':=by
 obtain⟨sm,fo⟩:∃ c,NodeH.same ⟨6,aE,s,aP,aP,0⟩ ⟨6,v,s,a,b,r⟩=c:=⟨_,rfl⟩
 have mv:=zh fo;rw[fo];clear fo;obtain⟨b1,hb1⟩:∃ c,([[43],[45],[42],[47],[94],[38],[61],[60,62],[60],[60,61],[62],[62,61]]:List Bs).contains s=c:=⟨_,rfl⟩
 have HCT:=zh hb1;rw[hb1];clear hb1;have db:=zh hs;clear hs;have HK:=zh hk;clear hk;have qg:l.length<=1000000:=by have h1:=cE l;have h2:aM l+1<=1000000:=db.out;omega
 obtain⟨W1,Cm,Ck,al,HL,HB,fg,er,iz,HT,yo,ct,bt,bw,bf,el⟩:=dT 6 (A) l.length cp ⟨6,aE,s,aP,aP,0⟩ Cn w;have x0:=HL.out.cell 0;have x21:=HL.out.cell 21;rw[af.out]at x0 x21;simp only[za,zb,zf]at x0 x21
 go_in
 go_upto_region 1 with fail
 rw[al.out];clear al;generalize hQ:w.heap.size=q at *
 go_upto_region 2 with(first |(refine yq rfl 34 (.tmp 3) (.tmp 9) rfl W1.heap.size 0 Cm.toArray rfl (congrArg Value.agg er.out) HT.out ct.out yo.out ?_;change wpList _ _ _ _ _ (World.setCells _ W1.heap.size 0 Cm)))
 generalize World.setCells _ _ _ _=W3 at bt bw bf ⊢;rw[er.out];clear x0 x21;have da:=fg.out;generalize W1.heap.size=q1 at *;subst da;clear HL HB fg er HT yo ct;have x0:=bw.out.cell 0;have x7:=bw.out.cell 7;rw[af.out]at x0 x7;simp only[za,zb,zf]at x0 x7;have y7:=bt.out.cell 7;have yf7:=bt.out.frozen 7;rw[iz.out]at y7;simp only[za,zb,zf]at y7
 go_upto_region 22 with fail
 clear x0 x7;clear y7 yf7;have fw:=bt.out;rw[iz.out]at fw;have dj:Hid (Lies _ (q+1) 34 Ck.toArray):=zh (by rw[el.out];exact(fw.put 7 (vT s)));have am:=zh (aC bw.out (b:=q+1) (by omega) 7 (vT s));have bu:=zh (bf.out.setCell (p:=⟨q+1,7,none⟩) (Nat.le_succ q) (vT s));generalize World.setCell _ _ _=W4 at dj am bu ⊢;clear bt bw bf fw;have x7:=am.out.cell 7;have x21:=am.out.cell 21;rw[af.out]at x7 x21;simp only[za,zb,zf]at x7 x21
 go_wp2_with fail
 have ft:Below W4.heap.size W4 _:=zp (.cells (([[43],[45],[42],[47],[94],[38],[61],[60,62],[60],[60,61],[62],[62,61]]:List Bs).map fun s=>Value.string ⟨s.toArray⟩).toArray 9);have HTX:=zh (uEF W4 9 [[43],[45],[42],[47],[94],[38],[61],[60,62],[60],[60,61],[62],[62,61]]);change Calls _ _ _ (World.alloc W4 (.cells (([[43],[45],[42],[47],[94],[38],[61],[60,62],[60],[60,61],[62],[62,61]]:List Bs).map fun s=>Value.string ⟨s.toArray⟩).toArray 9)) _;generalize World.alloc _ _=w5 at ft HTX ⊢;refine(uEC s _ _ [[43],[45],[42],[47],[94],[38],[61],[60,62],[60],[60,61],[62],[62,61]] w5 HTX.out (by decide)).mono ?_;rintro e w6 ⟨rfl,rfl⟩;rw[HCT.out];clear HCT;clear x7 x21;have bk:=zh (bu.out.trans (ft.mono (by have:=bu.out.size;omega)));have mf:=zh (dj.out.next ft);have ip:=zh (am.out.next ft);clear ft;have z21:=ip.out.cell 21
 rw[af.out]at z21;simp only[za,zb,zf]at z21;cases b1
 ·go_wp2_with fail
  go_ret
  exact⟨aA (by rfl;try simp),by first|exact bk.out |(rw[hQ];exact bk.out)⟩
 by_cases hl:l.length=2
 ·have eh:((l.length:Int)==2)=true:=by rw[hl];rfl
  have hd:decide (l.length=2)=true:=decide_eq_true hl;clear hl;have mw:=zh (mf.out.rangeL);have im:=zh (ip.out.rangeL);have HI:=zh (cN af.out);have ja:=zh (cN el.out);have ei:=zh (cT 1000000 zr (.mk ⟨6,aE,s,aP,aP,0⟩ l) (.mk ⟨6,v,s,a,b,r⟩ l) _ _ w5 db.out ⟨A,cp,el.out,HK.out.kp (Kp.of_below (by rw[hQ];exact bk.out))⟩ ⟨A,cp,af.out,HK.out.kp (Kp.of_below (by rw[hQ];exact bk.out))⟩);rw[dH,mv.out]at ei
  go_wp2_with (first |(refine aK (Eq.trans (aS rfl rfl rfl rfl) rfl) 34 (.tmp 3) rfl (q+1) 0 rfl Ck _ mw.out Tryz.underlying34 rfl ja.out ?_) |(refine aK (Eq.trans (aS rfl rfl rfl rfl) rfl) 34 (.tmp 1) rfl q 0 rfl Cn _ im.out Tryz.underlying34 rfl HI.out ?_))
  refine ei.out.mono ?_;rintro e w9 ⟨rfl,gx⟩;have iv:=zh (bk.out.trans (gx.mono (by have:=bk.out.size;omega)));clear gx
  go_wp2_with fail
  go_ret
  exact⟨aA (by rw[hd];try simp),by first|exact iv.out |(rw[hQ];exact iv.out)⟩
 have eh:((l.length:Int)==2)=false:=by rw[beq_eq_false_iff_ne];omega
 have hd:decide (l.length=2)=false:=decide_eq_false hl;clear hl
 go_wp2_with fail
 go_ret
 exact⟨aA (by rw[hd];try simp),by first|exact bk.out |(rw[hQ];exact bk.out)⟩
theorem rOwnG7(v:Val)(s:Bs)(a b:Cor)(r:Int)(l:List Tree)(A:Option Addr)(cp:Nat)(Cn:List Value)(w:World)(hk:KidsOk w [] A l)(hs:(Tree.mk ⟨7,v,s,a,b,r⟩ l).size<=1000000)(af:Hid (Cn.toArray=aJ ⟨7,v,s,a,b,r⟩ A l.length cp))(jd:s.length<=100000) :
  Calls Tryz.prog 87 #[.agg Cn.toArray] w fun e w'=>e=.returned (.bool ((bQ s&&decide (l.length=0))&&NodeH.same ⟨7,aE,s,aP,aP,0⟩ ⟨7,v,s,a,b,r⟩))/\Below w.heap.size w w':=by
 obtain⟨sm,fo⟩:∃ c,NodeH.same ⟨7,aE,s,aP,aP,0⟩ ⟨7,v,s,a,b,r⟩=c:=⟨_,rfl⟩
 have mv:=zh fo;rw[fo];clear fo;have ut:=zh (fun W=>uFP s W jd);generalize bQ s=b1 at *;clear jd;have db:=zh hs;clear hs;have HK:=zh hk;clear hk;have qg:l.length<=1000000:=by have h1:=cE l;have h2:aM l+1<=1000000:=db.out;omega
 obtain⟨W1,Cm,Ck,al,HL,HB,fg,er,iz,HT,yo,ct,bt,bw,bf,el⟩:=dT 7 (A) l.length cp ⟨7,aE,s,aP,aP,0⟩ Cn w;have x0:=HL.out.cell 0;have x21:=HL.out.cell 21;rw[af.out]at x0 x21;simp only[za,zb,zf]at x0 x21
 go_in
 go_upto_region 1 with fail
 rw[al.out];clear al;generalize hQ:w.heap.size=q at *
 go_upto_region 2 with(first |(refine yq rfl 34 (.tmp 3) (.tmp 9) rfl W1.heap.size 0 Cm.toArray rfl (congrArg Value.agg er.out) HT.out ct.out yo.out ?_;change wpList _ _ _ _ _ (World.setCells _ W1.heap.size 0 Cm)))
 generalize World.setCells _ _ _ _=W3 at bt bw bf ⊢;rw[er.out];clear x0 x21;have da:=fg.out;generalize W1.heap.size=q1 at *;subst da;clear HL HB fg er HT yo ct;have x0:=bw.out.cell 0;have x7:=bw.out.cell 7;rw[af.out]at x0 x7;simp only[za,zb,zf]at x0 x7;have y7:=bt.out.cell 7;have yf7:=bt.out.frozen 7;rw[iz.out]at y7;simp only[za,zb,zf]at y7
 go_upto_region 25 with fail
 clear x0 x7;clear y7 yf7;have fw:=bt.out;rw[iz.out]at fw;have dj:Hid (Lies _ (q+1) 34 Ck.toArray):=zh (by rw[el.out];exact(fw.put 7 (vT s)));have am:=zh (aC bw.out (b:=q+1) (by omega) 7 (vT s));have bu:=zh (bf.out.setCell (p:=⟨q+1,7,none⟩) (Nat.le_succ q) (vT s));generalize World.setCell _ _ _=W4 at dj am bu ⊢;clear bt bw bf fw;have x7:=am.out.cell 7;have x21:=am.out.cell 21;rw[af.out]at x7 x21;simp only[za,zb,zf]at x7 x21
 go_wp2_with fail
 refine(ut.out _).mono ?_;rintro e w5 ⟨rfl,rfl⟩;clear ut;cases b1
 ·go_wp2_with fail
  go_ret
  exact⟨aA (by rfl;try simp),by first|exact bu.out |(rw[hQ];exact bu.out)⟩
 by_cases hl:l.length=0
 ·have eh:((l.length:Int)==0)=true:=by rw[hl];rfl
  have hd:decide (l.length=0)=true:=decide_eq_true hl;clear hl;have mw:=zh (dj.out.rangeL);have im:=zh (am.out.rangeL);have HI:=zh (cN af.out);have ja:=zh (cN el.out);have ei:=zh (cT 1000000 zr (.mk ⟨7,aE,s,aP,aP,0⟩ l) (.mk ⟨7,v,s,a,b,r⟩ l) _ _ W4 db.out ⟨A,cp,el.out,HK.out.kp (Kp.of_below (by rw[hQ];exact bu.out))⟩ ⟨A,cp,af.out,HK.out.kp (Kp.of_below (by rw[hQ];exact bu.out))⟩);rw[dH,mv.out]at ei
  go_wp2_with (first |(refine aK (Eq.trans (aS rfl rfl rfl rfl) rfl) 34 (.tmp 3) rfl (q+1) 0 rfl Ck _ mw.out Tryz.underlying34 rfl ja.out ?_) |(refine aK (Eq.trans (aS rfl rfl rfl rfl) rfl) 34 (.tmp 1) rfl q 0 rfl Cn _ im.out Tryz.underlying34 rfl HI.out ?_))
  refine ei.out.mono ?_;rintro e w9 ⟨rfl,gx⟩;have iv:=zh (bu.out.trans (gx.mono (by have:=bu.out.size;omega)));clear gx
  go_wp2_with fail
  go_ret
  exact⟨aA (by rw[hd];try simp),by first|exact iv.out |(rw[hQ];exact iv.out)⟩
 have eh:((l.length:Int)==0)=false:=by rw[beq_eq_false_iff_ne];omega
 have hd:decide (l.length=0)=false:=decide_eq_false hl;clear hl
 go_wp2_with fail
 go_ret
 exact⟨aA (by rw[hd];try simp),by first|exact bu.out |(rw[hQ];exact bu.out)⟩
end Go.Proofs.YtjfihpaeglpblaaGreatDoor
