/-
  Lemmas, part 33: WxL.
-/
import Derived.Test.YtjfihpaeglpblaaGreatDoorRf32
set_option maxHeartbeats 100000000
set_option maxRecDepth 1000000
namespace Go.Proofs.YtjfihpaeglpblaaGreatDoor
open Go.RowKit
def jM(R C:AxV)(x y:IdR)(t:Tree):Bs:=if aF R x<0\/aF C y<0 then [] else eG (.seen (aF R x).toNat (aF C y).toNat) R C t
theorem uFM{W:World}(hp:PowTab W)(r0 c0 b1 b2:Nat)(kn:r0<=400)(oo:c0<=400)(h1:W.cell? ⟨b1,0,none⟩=some (vI (c0:Int)))(h2:W.cell? ⟨b2,0,none⟩=some (vI (r0:Int)))(l1:b1<W.heap.size)(l2:b2<W.heap.size):yT 41 #[vP b1 0,vP b2 0] (.seen r0 c0) W where
 both:=fun i j fr fc hi hj=>uFN i j r0 c0 fr fc b1 b2 W hp hi hj kn oo h1 h2 l1 l2
 row:=fun i fr fc hi=>seen_row i 0 r0 c0 fr fc b1 b2 W hp hi kn oo h1 h2 l1 l2
 col:=fun j fr fc hj=>seen_col 0 j r0 c0 fr fc b1 b2 W hp hj kn oo h1 h2 l1 l2
 run:=fun xs W'=>by first|kernel_rfl|rfl|simp[callFunc,go_sem,Tryz.f41]
theorem tH(t:Tree)(N:Nat)(rp cp:Option Nat)(R C:AxV)(Cn:List Value)(x y:IdR)(hx:x.fits)(hy:y.fits)(w:World)(hP:TreeP (fun g=>g∉rp.toList++cp.toList) w t Cn.toArray)(hf:t.fine)(ho:t.ok N)(ap:t.size<=1000)(hR:AxF w rp R)(hC:AxF w cp C)(cg:∀ b,rp=some b->cp≠some b)(hg:Gl w)(ji:∀ b∈rp.toList++cp.toList,b<w.heap.size/\iD b) :
  Calls Tryz.prog 17 #[.agg Cn.toArray,.agg #[vI x.a,vI x.n,vI y.a,vI y.n],.pointer (ptr rp),.pointer (ptr cp)] w fun e w'=>e=.returned (vT (jM R C x y t))/\AxF w' rp R/\AxF w' cp C/\Gl w'/\Kp (rp.toList++cp.toList) w w':=by
 obtain⟨W0,aj⟩:∃ W0,W0=(w.alloc (.cells Cn.toArray 34)).alloc (.cells #[vI x.a,vI x.n,vI y.a,vI y.n] 49):=⟨_,rfl⟩
 have ak:=zh aj;have aq:Hid (Below w.heap.size w W0):=zh (by rw[aj];exact((Below.refl _ w).alloc zr _).alloc (by rw[World.size_alloc];omega) _);have L0:Lies W0 w.heap.size 34 Cn.toArray:=by rw[aj];exact(Lies.new w _ _).alloc _
 have L1:Lies W0 (w.heap.size+1) 49 #[vI x.a,vI x.n,vI y.a,vI y.n]:=by
  rw[aj];have h:=Lies.new (w.alloc (.cells Cn.toArray 34)) 49 #[vI x.a,vI x.n,vI y.a,vI y.n];rw[World.size_alloc]at h;exact h
 have dq:Cn.length=22:=by
  obtain⟨A,ko,e,_⟩:=hP;exact jI e
 have bj:=zh (cN dq);have xp:∀ k,w.heap.size<=k->k∉rp.toList++cp.toList:=fun k hk hm=>absurd (ji k hm).1 (by omega)
 obtain⟨S,hS⟩:∃ S:World->Prop,∀ W,S W↔(AxF W rp R/\AxF W cp C/\Gl W/\TreeP (fun g=>g∉rp.toList++cp.toList) W t Cn.toArray/\Kp (rp.toList++cp.toList) w W/\Lies W w.heap.size 34 Cn.toArray/\Lies W (w.heap.size+1) 49 #[vI x.a,vI x.n,vI y.a,vI y.n]):=⟨_,fun _=>Iff.rfl⟩
 have HSI:=zh hS;have lk:Hid (∀ W W',S W->Below W.heap.size W W'->S W'):=zh (fun W W' h hb=>by
  obtain⟨a,b,c,d,e,f,g⟩:=(hS W).1 h;exact(hS W').2 ⟨a.next hb,b.next hb,c.next hb,d.box hb,e.trans (Kp.of_below hb),f.next hb,g.next hb⟩)
 have gq:∀ W W' Y,S W->(∀ b∈Y,b∈rp.toList++cp.toList)->Kp Y W W'->AxF W' rp R->AxF W' cp C->S W':=fun W W' Y h hY hk hr hc=>by
  obtain⟨a,b,c,d,e,f,g⟩:=(hS W).1 h;have er:Kp (rp.toList++cp.toList) W W':=hk.mono (fun k ft _=>hY k ft);have hs:=hk.size;have h1:TreeP (fun g=>g<W.heap.size/\g∉rp.toList++cp.toList) W t Cn.toArray:=d.imp (fun g h1 h2=>⟨h2,h1⟩);exact(hS W').2 ⟨hr,hc,c.kp er (fun b hb=>(ji b hb).2),(h1.keep ⟨hs,fun g hg=>er.block g hg.1 hg.2⟩).imp (fun g h1 _=>h1.2),e.trans er,er.lies f (xp _ zr),er.lies g (xp _ (by omega))⟩
 have pf:Hid (S W0):=zh ((hS W0).2 ⟨hR.next aq.out,hC.next aq.out,hg.next aq.out,hP.box aq.out,Kp.of_below aq.out,L0,L1⟩);obtain⟨vi,hvi⟩:∃ z:Int,(if aF R x<0 then 0 else aF R x)=z:=⟨_,rfl⟩
 obtain⟨vj,hvj⟩:∃ z:Int,(if aF C y<0 then 0 else aF C y)=z:=⟨_,rfl⟩
 obtain⟨bx,hbx⟩:∃ z:Bool,decide (0<=aF R x)=z:=⟨_,rfl⟩
 obtain⟨bc,i8⟩:∃ z:Bool,decide (0<=aF C y)=z:=⟨_,rfl⟩
 have CR:Hid (∀ W,S W->Calls Tryz.prog 40 #[.pointer (ptr rp),.agg #[vI x.a,vI x.n]] W fun e w'=>e=.returned (.tuple #[vI vi,.bool bx])/\S w'):=zh (fun W h=>(dV rp R x W ((hS W).1 h).1 hx).mono (by
  rintro e w' ⟨rfl,h1,h2⟩;refine⟨by show Ending.returned (.tuple #[vI (if aF R x<0 then 0 else aF R x),.bool (decide (0<=aF R x))])=_;rw[hvi,hbx],gq W w' _ h (fun b hb=>List.mem_append_left _ hb) h2 h1 (((hS W).1 h).2.1.other ((hS W).1 h).1 h2 (fun b e1 e2=>cg b e1 e2))⟩))
 have CC:Hid (∀ W,S W->Calls Tryz.prog 40 #[.pointer (ptr cp),.agg #[vI y.a,vI y.n]] W fun e w'=>e=.returned (.tuple #[vI vj,.bool bc])/\S w'/\∀ b,w.heap.size<=b->∀ v,b<W.heap.size->W.cell? ⟨b,0,none⟩=some v->w'.cell? ⟨b,0,none⟩=some v):=zh (fun W h=>(dV cp C y W ((hS W).1 h).2.1 hy).mono (by
  rintro e w' ⟨rfl,h1,h2⟩;refine⟨by show Ending.returned (.tuple #[vI (if aF C y<0 then 0 else aF C y),.bool (decide (0<=aF C y))])=_;rw[hvj,i8],gq W w' _ h (fun b hb=>List.mem_append_right _ hb) h2 (((hS W).1 h).1.other ((hS W).1 h).2.1 h2 (fun b e1 e2=>cg b e2 e1)) h1,fun b hb v hl hv=>(World.cell?_of_block (w:=W) (a:=⟨b,0,none⟩) (h2.block b hl (fun hm=>xp b hb (List.mem_append_right _ hm)))).trans hv⟩))
 have tu:Hid (aF R x<=400/\aF C y<=400):=zh ⟨by have:=iK hR.av x;omega,by have:=iK hC.av y;omega⟩;have CW:Hid (∀ W (b1 b2 r0 c0:Nat),S W->r0<=400->c0<=400->W.cell? ⟨b1,0,none⟩=some (vI (c0:Int))->W.cell? ⟨b2,0,none⟩=some (vI (r0:Int))->b1<W.heap.size->b2<W.heap.size->w.heap.size<=b1->w.heap.size<=b2->Calls Tryz.prog 33 #[.agg Cn.toArray,.pointer (ptr rp),.pointer (ptr cp),.func (.func 41) #[] #[vP b1 0,vP b2 0]] W fun e w'=>e=.returned (vT (eG (.seen r0 c0) R C t))/\AxF w' rp R/\AxF w' cp C/\Gl w'/\Kp (rp.toList++cp.toList) w w'):=zh (fun W b1 b2 r0 c0 h kn oo h1 h2 l1 l2 g1 g2=>by
  obtain⟨a,b,c,d,e,f,g⟩:=(hS W).1 h;refine(nG 41 #[vP b1 0,vP b2 0] (.seen r0 c0) ⟨kn,oo⟩ t N rp cp R C Cn W d hf ho ap a b cg c (fun k hk=>⟨yu (ji k hk).1 e.size,(ji k hk).2⟩) (fun W' hk hgl=>?_)).mono ?_
  ·exact uFM hgl.pow r0 c0 b1 b2 kn oo ((World.cell?_of_block (w:=W) (a:=⟨b1,0,none⟩) (hk.at' b1 ⟨l1,xp _ g1⟩)).trans h1) ((World.cell?_of_block (w:=W) (a:=⟨b2,0,none⟩) (hk.at' b2 ⟨l2,xp _ g2⟩)).trans h2) (yu l1 hk.size) (yu l2 hk.size)
  rintro e' w' ⟨rfl,k1,k2,k3,k4⟩;exact⟨rfl,k1,k2,k3,e.trans k4⟩)
 have bz:Hid (∀ W,S W->W.cell? ⟨w.heap.size+1,0,none⟩=some (vI x.a)/\W.cell? ⟨w.heap.size+1,1,none⟩=some (vI x.n)/\W.cell? ⟨w.heap.size+1,2,none⟩=some (vI y.a)/\W.cell? ⟨w.heap.size+1,3,none⟩=some (vI y.n)):=zh (fun W h=>by
  have g:=((hS W).1 h).2.2.2.2.2.2;exact⟨g.cell 0,g.cell 1,g.cell 2,g.cell 3⟩)
 have wa:Hid (∀ W,S W->AxF W rp R/\AxF W cp C/\Gl W/\Kp (rp.toList++cp.toList) w W/\W.rangeAt w.heap.size 0 Cn/\w.heap.size<=W.heap.size):=zh (fun W h=>by
  obtain⟨a,b,c,d,e,f,g⟩:=(hS W).1 h;exact⟨a,b,c,e,f.rangeM,e.size⟩)
 have HT:Hid (jM R C x y t=if bx=true/\bc=true then eG (.seen vi.toNat vj.toNat) R C t else []):=zh (by
  unfold jM;by_cases h:aF R x<0\/aF C y<0
  ·rw[if_pos h,if_neg];rintro⟨h1,h2⟩;rw[h1]at hbx;rw[h2]at i8;have:=of_decide_eq_true hbx;have:=of_decide_eq_true i8;omega
  rw[if_neg h,if_pos ⟨by rw[<- hbx];exact decide_eq_true (by omega),by rw[<- i8];exact decide_eq_true (by omega)⟩,<- hvi,<- hvj,if_neg (by omega),if_neg (by omega)])
 have HV:Hid (0<=vi/\vi<=400/\0<=vj/\vj<=400):=zh (by
  have:=tu.out;rw[<- hvi,<- hvj];refine⟨?_,?_,?_,?_⟩ <;> split <;> omega)
 clear aj hP hf ho ap hR hC cg hg ji dq L0 L1 xp hS gq HSI hvi hvj hbx i8 tu hx hy;generalize jM R C x y t=T at *;obtain⟨x0,x1,x2,x3⟩:=bz.out _ pf.out
 go_in
 go_upto_region 1 with fail
 rw[<- ak.out];clear ak
 go_upto_region 2 with((with_reducible refine(CR.out _ pf.out).mono ?_);rintro e W1 ⟨rfl,fe⟩;have eu:=zh fe;clear fe x0 x1 x2 x3)
 obtain⟨W2,dx⟩:=zD (W1.alloc (.cells #[vI vi] 3))
 rw[<- dx];have ba:=zA dx;have gw:=zL dx;have lj:=zh (lk.out _ _ eu.out ba.out);have HQ1:Hid (w.heap.size<=W1.heap.size):=zh (wa.out _ eu.out).2.2.2.2.2;clear dx eu pf aq CR;obtain⟨x0,x1,x2,x3⟩:=bz.out _ lj.out
 go_upto_region 3 with((with_reducible refine(CC.out _ lj.out).mono ?_);rintro e W3 ⟨rfl,hs3,hk3⟩;have ou:=zh hs3;have m9:=zh hk3;clear hs3 hk3 x0 x1 x2 x3)
 have gj:Hid (W3.cell? ⟨W1.heap.size,0,none⟩=some (vI vi)):=zh (m9.out _ HQ1.out _ gw.out.lt (gw.out.cell 0));have HQ3:Hid (W1.heap.size<W3.heap.size):=zh (by
  by_cases hl:W1.heap.size<W3.heap.size
  ·exact hl
  exact absurd (pX gj.out) hl)
 obtain⟨W4,l8⟩:=zD (W3.alloc (.cells #[vI vj] 3))
 rw[<- l8];have bt:=zA l8;have o6:=zL l8;have jl:=zh (lk.out _ _ ou.out bt.out);have gu:Hid (W4.cell? ⟨W1.heap.size,0,none⟩=some (vI vi)):=zh ((bt.out.cell (p:=⟨W1.heap.size,0,none⟩) HQ3.out).trans gj.out);have HQ4:Hid (w.heap.size<=W3.heap.size):=zh (wa.out _ ou.out).2.2.2.2.2;have hend:=wa.out _ jl.out;have wb:=zh hend;clear hend l8 ou lj ba gw m9 CC lk bz wa gj;cases bx
 ·rw[if_neg (by simp)]at HT
  go_wp2_with fail
  go_ret
  exact⟨by(rw[HT.out]) <;> rfl,wb.out.1,wb.out.2.1,wb.out.2.2.1,wb.out.2.2.2.1⟩
 cases bc
 ·rw[if_neg (by simp)]at HT
  go_wp2_with fail
  go_ret
  exact⟨by(rw[HT.out]) <;> rfl,wb.out.1,wb.out.2.1,wb.out.2.2.1,wb.out.2.2.2.1⟩
 rw[if_pos ⟨rfl,rfl⟩]at HT;have HW:=zh (CW.out W4 W3.heap.size W1.heap.size vi.toNat vj.toNat jl.out (by have:=HV.out;omega) (by have:=HV.out;omega) (by rw[Int.toNat_of_nonneg HV.out.2.2.1];exact o6.out.cell 0) (by rw[Int.toNat_of_nonneg HV.out.1];exact gu.out) o6.out.lt (yu HQ3.out bt.out.size) HQ4.out HQ1.out);rw[<- HT.out]at HW;clear CW HT
 go_wp2_with (first
  |(refine yr rfl 34 (.tmp 4) rfl w.heap.size 0 rfl Cn _ wb.out.2.2.2.2.1 Tryz.underlying34 rfl bj.out ?_)
  |((with_reducible refine HW.out.mono ?_);rintro e w' ⟨rfl,h1,h2,h3,h4⟩;have HH:=zh (And.intro h1 (And.intro h2 (And.intro h3 h4)));clear h1 h2 h3 h4))
 go_ret
 exact⟨rfl,HH.out.1,HH.out.2.1,HH.out.2.2.1,HH.out.2.2.2⟩
end Go.Proofs.YtjfihpaeglpblaaGreatDoor
