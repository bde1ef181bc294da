/-
  Lemmas, part 13: ParO PlFo PlSt PlSim.
-/
import Derived.Test.YtmgjidnalpgegaaGreatDoorPk12
set_option maxHeartbeats 100000000
namespace Go.Proofs.YtmgjidnalpgegaaGreatDoor
open Go.RowKit
theorem iI(x y:IdR)(w:World):(binOp .neq 34 (idV x) (idV y)).run Tryz.prog w=.ok (.bool (decide (x≠y))) w:=by
 obtain⟨a,n⟩:=x;obtain⟨a2,n2⟩:=y
 go_simp
 by_cases h0:a=a2
 case neg=>simp[h0]
 by_cases h1:n=n2
 case neg=>simp[h0,h1]
 simp[h0,h1]
theorem vI{ax:Ax}{ts:List Tok}{row col:Bool}{a:Cor}(h:dD ax row col ts=.ok a):(hd ts).kind≠0:=by
 intro h0;unfold dD at h;rw[if_pos (by rw[h0];decide)]at h;cases h
set_option maxRecDepth 100000 in
theorem uJN(E:Env)(hE:E.ok)(he:E.ends)(hL:E.L.length<=1000000)(hT:E.short)(op:Nat):eE E 116 (fY E.ax) op:=by
 intro k nd pl er w hI hk hn;have CC:=zh (fun row col k pl er W h hk=>line_any E hE hL hT row col k op nd pl er W h hk);have CTy:=zh (fun k pl er W h hk hs=>lQ E hE k op nd pl er [58] W h hk hL hs);have CTn:=zh (fun k pl er W h hk hs=>vO E hE k op nd pl er [58] W h hk hs);have CN:=zh (fun k pl er cs fb h1 W h=>iJ E hE k op nd pl er cs fb h1 W h (by omega));have bo:=zh ((Fs.start hI).alloc 41 aA.toArray (by decide));have HNE:=zh iI;generalize hO:fY E.ax (E.L.drop k) nd=O;have HO:Hid ((match dD E.ax true true (E.L.drop k) with
  | .error e=>fU e (E.L.drop k)
  | .ok a=>
   if isS (E.at (k+1)) [58] then match dD E.ax (decide (a.row≠id0)) (decide (a.col≠id0)) (E.L.drop (k+2)) with
    | .error e=>fU e (E.L.drop (k+2))
    | .ok b=>.ok (jN 2 a b) (E.L.drop (k+3)) (nd+1)
   else fU 6 (E.L.drop (k+1)))=O):=zh (by
  rw[<- hO];unfold fY;rw[List.tail_drop,List.tail_drop,List.tail_drop];rfl)
 have HF:Hid (k<E.L.length/\nd<=k):=zh ⟨hk,hn⟩;clear hI hO hn;simp only[aA]at bo
 go_enter Tryz.func116,Tryz.ntmps116
 go_upto_region 1 with fail
 generalize World.alloc _ _=W1 at bo ⊢;generalize hq:w.heap.size=q at bo ⊢;have dy:=zh (bo.out.alloc 41 aA.toArray (by decide));have HT:=zh (dy.out.there 0 rfl 22 rfl);have bt:=zh (dy.out.fill hE 0 rfl (cM 2 aG aG) rfl);have f9:=eA 2 aG aG;clear bo dy hq;simp only[List.set_cons_zero]at bt;generalize kx:W1.heap.size=q4 at bt HT ⊢
 go_upto_region 3 with(first |(refine yq rfl 41 (.tmp 4) (.tmp 7) rfl q4 0 (cM 2 aG aG).toArray rfl rfl HT.out aE f9 ?_;change wpList _ _ _ _ _ (World.setCells _ q4 0 (cM 2 aG aG));generalize World.setCells _ _ _ _=W2 at bt ⊢))
 clear HT f9 kx
 go_wp2_with fail
 have CC1:=zh (CC.out true true k pl er _ bt.out.ine hk);refine CC1.out.mono ?_;clear CC1;cases hR:dD E.ax true true (E.L.drop k) with
 |error e1=>
  have db:Hid (O=.bad e1 (E.at k).place):=zh (by rw[<- HO.out,hR];rfl);rintro e w4 ⟨rfl,h1,h2⟩;have ak:=zh (bt.out.step h1 h2);clear h1 h2 bt hR;have x8:=(ak.out.li 0 rfl).cell 8;have xf8:=(ak.out.li 0 rfl).frozen 8;have x9:=(ak.out.li 0 rfl).cell 9;have xf9:=(ak.out.li 0 rfl).frozen 9;have x10:=(ak.out.li 0 rfl).cell 10;have xf10:=(ak.out.li 0 rfl).frozen 10;have x11:=(ak.out.li 0 rfl).cell 11;have xf11:=(ak.out.li 0 rfl).frozen 11;have x12:=(ak.out.li 0 rfl).cell 12;have xf12:=(ak.out.li 0 rfl).frozen 12;have x13:=(ak.out.li 0 rfl).cell 13;have xf13:=(ak.out.li 0 rfl).frozen 13;simp only[za,zb,zf]at x8 x9 x10 x11 x12 x13
  have az:Hid (Fs E w (k) op nd (E.at k).place e1 [(q4,41,(cM 2 aG aG).toArray),(q,41,aA.toArray)] ((((((w4.setCell ⟨q4,8,none⟩ (.int .i64 0)).setCell ⟨q4,9,none⟩ (.int .i64 0)).setCell ⟨q4,10,none⟩ (.int .i64 0)).setCell ⟨q4,11,none⟩ (.int .i64 0)).setCell ⟨q4,12,none⟩ (.bool false)).setCell ⟨q4,13,none⟩ (.bool false))):=zh ((((((ak.out.put hE 0 rfl 8 _).put hE 0 rfl 9 _).put hE 0 rfl 10 _).put hE 0 rfl 11 _).put hE 0 rfl 12 _).put hE 0 rfl 13 _);clear ak;dsimp only[jC]
  go_upto_region 5 with fail
  generalize World.setCell _ _ _=wb at az ⊢;have HT:=zh (az.out.there 1 rfl 22 rfl);have ag:=zh (az.out.fill hE 1 rfl aA rfl)
  go_wp2_with (first |(refine yq rfl 41 (.tmp 2) (.tmp 17) rfl q 0 aA.toArray rfl rfl HT.out aE bB ?_;change wpList _ _ _ _ _ (World.setCells _ q 0 aA);generalize World.setCells _ _ _ _=wz at ag ⊢))
  have HA:=zh (ag.out.li 1 rfl);refine yt (aO rfl rfl HA.out rfl) rfl ?_;rw[db.out];exact cR ag.out rfl bB (by omega) (by omega) (by have:=HF.out.2;omega)
 |ok a=>
  have db:Hid ((if isS (E.at (k+1)) [58] then match dD E.ax (decide (a.row≠id0)) (decide (a.col≠id0)) (E.L.drop (k+2)) with
    | .error e=>fU e (E.L.drop (k+2))
    | .ok b=>.ok (jN 2 a b) (E.L.drop (k+3)) (nd+1)
   else fU 6 (E.L.drop (k+1)))=O):=zh (by rw[<- HO.out,hR])
  have dc:=E.more he hk (vI hR);rintro e w4 ⟨rfl,h1,h2⟩;have ak:=zh (bt.out.step h1 h2);clear h1 h2 bt hR HO;obtain⟨⟨xa,xn⟩,⟨ya,yn⟩,mfr,mfc⟩:=a;dsimp only[jC]at db ⊢;generalize bj:decide ((⟨xa,xn⟩:IdR)≠id0)=row at db;generalize hcol:decide ((⟨ya,yn⟩:IdR)≠id0)=col at db;have jf:∀ W,(binOp .neq 34 (.agg #[.int .i64 xa,.int .i64 xn]) (.agg #[.int .i64 0,.int .i64 0])).run Tryz.prog W=.ok (.bool row) W:=fun W=>by have:=HNE.out ⟨xa,xn⟩ id0 W;rw[bj]at this;exact this
  have ft:∀ W,(binOp .neq 34 (.agg #[.int .i64 ya,.int .i64 yn]) (.agg #[.int .i64 0,.int .i64 0])).run Tryz.prog W=.ok (.bool col) W:=fun W=>by have:=HNE.out ⟨ya,yn⟩ id0 W;rw[hcol]at this;exact this
  replace jf:=zh jf;replace ft:=zh ft;clear bj hcol HNE;have az:Hid (Fs E w (k+1) op nd pl er [(q4,41,(cM 2 ⟨⟨xa,xn⟩,⟨ya,yn⟩,mfr,mfc⟩ aG).toArray),(q,41,aA.toArray)] ((((((w4.setCell ⟨q4,8,none⟩ (.int .i64 xa)).setCell ⟨q4,9,none⟩ (.int .i64 xn)).setCell ⟨q4,10,none⟩ (.int .i64 ya)).setCell ⟨q4,11,none⟩ (.int .i64 yn)).setCell ⟨q4,12,none⟩ (.bool mfr)).setCell ⟨q4,13,none⟩ (.bool mfc))):=zh ((((((ak.out.put hE 0 rfl 8 _).put hE 0 rfl 9 _).put hE 0 rfl 10 _).put hE 0 rfl 11 _).put hE 0 rfl 12 _).put hE 0 rfl 13 _);have x8:=(ak.out.li 0 rfl).cell 8;have xf8:=(ak.out.li 0 rfl).frozen 8;have x9:=(ak.out.li 0 rfl).cell 9;have xf9:=(ak.out.li 0 rfl).frozen 9;have x10:=(ak.out.li 0 rfl).cell 10;have xf10:=(ak.out.li 0 rfl).frozen 10;have x11:=(ak.out.li 0 rfl).cell 11;have xf11:=(ak.out.li 0 rfl).frozen 11;have x12:=(ak.out.li 0 rfl).cell 12
  have xf12:=(ak.out.li 0 rfl).frozen 12;have x13:=(ak.out.li 0 rfl).cell 13;have xf13:=(ak.out.li 0 rfl).frozen 13;simp only[za,zb,zf]at x8 x9 x10 x11 x12 x13;clear ak
  go_upto_region 6 with fail
  generalize World.setCell _ _ _=W5 at az ⊢;clear x8 x9 x10 x11 x12 x13 xf8 xf9 xf10 xf11 xf12 xf13;by_cases b1:isS (E.at (k+1)) [58]=true
  ·rw[if_pos b1]at db;have fg:=E.more he dc (eI b1);have CT1:=zh (CTy.out (k+1) pl er _ az.out.ine dc b1)
   go_wp2_with fail
   refine CT1.out.mono ?_;rintro e w6 ⟨rfl,h1,h2⟩;have am:=zh (az.out.step h1 h2.X);have hq64:w6.heap.size≠q4:=fun e=>by have:=am.out.lt 0 rfl;omega
   clear h1 h2 az CT1;have hb7:Below w6.heap.size w6 (w6.alloc (.cells #[.int .i64 0,.int .i64 0] 34)):=(zp _);have HQ6:=zh (am.out.ine.fresh zr).nx;have c8:=zh (am.out.next hb7);have gq:=zh (Lies.new w6 34 #[.int .i64 0,.int .i64 0]);clear hb7 am
   go_upto_region 9 with fail
   generalize World.alloc _ _=W7 at c8 gq ⊢;generalize w6.heap.size=q6 at gq HQ6 hq64 ⊢;have x8:=(c8.out.li 0 rfl).cell 8;have x9:=(c8.out.li 0 rfl).cell 9;have x10:=(c8.out.li 0 rfl).cell 10;have x11:=(c8.out.li 0 rfl).cell 11;simp only[za,zb,zf]at x8 x9 x10 x11;have i0:=gq.out.cell 0;have i1:=gq.out.cell 1;simp only[za,zb,zf]at i0 i1;have HSD:Hid (W7.drew.cell? ⟨q4,8,none⟩=some (.int .i64 xa)/\W7.drew.cell? ⟨q4,9,none⟩=some (.int .i64 xn)/\W7.drew.cell? ⟨q4,10,none⟩=some (.int .i64 ya)/\W7.drew.cell? ⟨q4,11,none⟩=some (.int .i64 yn)/\W7.drew.cell? ⟨q6,0,none⟩=some (.int .i64 0)/\W7.drew.cell? ⟨q6,1,none⟩=some (.int .i64 0)):=zh ⟨x8,x9,x10,x11,i0,i1⟩;clear x8 x9 x10 x11 i0 i1;cases hR:dD E.ax row col (E.L.drop (k+2)) with
   |error e1=>
    have gy:Hid (O=.bad e1 (E.at (k+2)).place):=zh (by rw[<- db.out,hR];rfl);have CC1:=zh (CC.out row col (k+2) pl er W7.drew (c8.out.next (Below.refl _ _).drew).ine fg);rw[hR]at CC1;clear hR db
    go_cut [5] (fun v wx=>v=.bool false/\Hid (Fs E w (k+2) op nd (E.at (k+2)).place e1 [(q4,41,(cM 2 ⟨⟨xa,xn⟩,⟨ya,yn⟩,mfr,mfc⟩ aG).toArray),(q,41,aA.toArray)] wx))
    case first=>
     obtain⟨x8,x9,x10,x11,i0,i1⟩:=HSD.out;have av:=jf.out;have ep:=ft.out;have HCB:Hid (Calls Tryz.prog 124 #[.pointer (some ⟨E.r,0,none⟩),.bool row,.bool col] W7.drew fun e w1=>e=.returned (.tuple #[.agg #[.int .i64 0,.int .i64 0,.int .i64 0,.int .i64 0,.bool false,.bool false],.bool false])/\Fs E w (k+2) op nd (E.at (k+2)).place e1 [(q4,41,(cM 2 ⟨⟨xa,xn⟩,⟨ya,yn⟩,mfr,mfc⟩ aG).toArray),(q,41,aA.toArray)] w1):=zh (CC1.out.mono (fun e w1 h=>⟨h.1,(c8.out.next (Below.refl _ _).drew).step h.2.1 h.2.2⟩))
     obtain⟨TT,ae⟩:∃ TT:List (Nat×Nat×Value),TT=[(0,24,.pointer (some ⟨E.r,0,none⟩)),(1,25,.pointer (some ⟨q4,8,none⟩)),(2,26,.pointer (some ⟨q4,8,none⟩)),(3,27,.pointer (some ⟨q4,8,none⟩)),(4,28,.agg #[.int .i64 xa,.int .i64 xn]),(5,29,.agg #[.int .i64 0,.int .i64 0]),(6,30,.bool row),(7,31,.pointer (some ⟨q4,8,none⟩)),(8,32,.pointer (some ⟨q4,8,none⟩)),(9,33,.pointer (some ⟨q4,10,none⟩)),(10,34,.agg #[.int .i64 ya,.int .i64 yn]),(11,35,.agg #[.int .i64 0,.int .i64 0]),(12,36,.bool col),(13,37,.tuple #[.agg #[.int .i64 0,.int .i64 0,.int .i64 0,.int .i64 0,.bool false,.bool false],.bool false]),(14,23,.tuple #[.agg #[.int .i64 0,.int .i64 0,.int .i64 0,.int .i64 0,.bool false,.bool false],.bool false]),(15,38,.agg #[.int .i64 0,.int .i64 0,.int .i64 0,.int .i64 0,.bool false,.bool false]),(16,39,.bool false),(17,40,.pointer (some ⟨q4,8,none⟩)),(18,41,.pointer (some ⟨q4,14,none⟩)),(20,5,.bool false)]:=⟨_,rfl⟩
     have aq:=zh ae;clear ae;refine qT (fun a0=>48<=a0.tmps.size/\a0.eval (.tmp 0)=.pointer (some ⟨E.r,0,none⟩)/\a0.eval (.tmp 4)=.pointer (some ⟨q4,0,none⟩)/\a0.eval (.tmp 6)=.pointer (some ⟨q6,0,none⟩)) [24,25,26,27,28,29,30,31,32,33,34,35,36,37,23,38,39,40,41,5] TT W7.drew (fun w'=>Fs E w (k+2) op nd (E.at (k+2)).place e1 [(q4,41,(cM 2 ⟨⟨xa,xn⟩,⟨ya,yn⟩,mfr,mfc⟩ aG).toArray),(q,41,aA.toArray)] w') (fun w'=>Fs E w (k+2) op nd (E.at (k+2)).place e1 [(q4,41,(cM 2 ⟨⟨xa,xn⟩,⟨ya,yn⟩,mfr,mfc⟩ aG).toArray),(q,41,aA.toArray)] w') 13 19 (by kernel_rfl) (by kernel_rfl) ⟨by simp,rfl,rfl,rfl⟩ rfl ?_ ?_
     ·rintro a0 ⟨hs,dr,kx,ny⟩ zl a1 w1 j o bg hI aa ho zd;have ae:=aq.out;subst ae
      have hk:okC (([(0,24,.pointer (some ⟨E.r,0,none⟩)),(1,25,.pointer (some ⟨q4,8,none⟩)),(2,26,.pointer (some ⟨q4,8,none⟩)),(3,27,.pointer (some ⟨q4,8,none⟩)),(4,28,.agg #[.int .i64 xa,.int .i64 xn]),(5,29,.agg #[.int .i64 0,.int .i64 0]),(6,30,.bool row),(7,31,.pointer (some ⟨q4,8,none⟩)),(8,32,.pointer (some ⟨q4,8,none⟩)),(9,33,.pointer (some ⟨q4,10,none⟩)),(10,34,.agg #[.int .i64 ya,.int .i64 yn]),(11,35,.agg #[.int .i64 0,.int .i64 0]),(12,36,.bool col),(13,37,.tuple #[.agg #[.int .i64 0,.int .i64 0,.int .i64 0,.int .i64 0,.bool false,.bool false],.bool false]),(14,23,.tuple #[.agg #[.int .i64 0,.int .i64 0,.int .i64 0,.int .i64 0,.bool false,.bool false],.bool false]),(15,38,.agg #[.int .i64 0,.int .i64 0,.int .i64 0,.int .i64 0,.bool false,.bool false]),(16,39,.bool false),(17,40,.pointer (some ⟨q4,8,none⟩)),(18,41,.pointer (some ⟨q4,14,none⟩)),(20,5,.bool false)]:List (Nat×Nat×Value)).map fun e=>(e.1,e.2.1)) [24,25,26,27,28,29,30,31,32,33,34,35,36,37,23,38,39,40,41,5] 19 48=true:=by rfl
      have hj:=Up.of_false aa;have hj12:j<21:=by rw[bg]at hj;exact hj
      have e0x:a1.eval (.tmp 0)=.pointer (some ⟨E.r,0,none⟩):=(hI.off.eval (by decide)).trans dr;have e4x:a1.eval (.tmp 4)=.pointer (some ⟨q4,0,none⟩):=(hI.off.eval (by decide)).trans kx;have e6x:a1.eval (.tmp 6)=.pointer (some ⟨q6,0,none⟩):=(hI.off.eval (by decide)).trans ny;rcases(by omega:j=0\/j=1\/j=2\/j=3\/j=4\/j=5\/j=6\/j=7\/j=8\/j=9\/j=10\/j=11\/j=12\/j=13\/j=14\/j=15\/j=16\/j=17\/j=18\/j=19\/j=20) with rfl|rfl|rfl|rfl|rfl|rfl|rfl|rfl|rfl|rfl|rfl|rfl|rfl|rfl|rfl|rfl|rfl|rfl|rfl|rfl|rfl<;>obtain rfl:=oi ho
      ·exact bZ hk hI hs (.head _) (by decide) aa ho zd rfl rfl (by simp[execOp,go_sem,aF e0x])
      ·exact bZ hk hI hs (.tail _ (.head _)) (by decide) aa ho zd rfl rfl (by simp[execOp,go_sem,aF e4x])
      ·have d1:=ud zd 1;have p1:=pk hI.pt 1 rfl d1;exact bZ hk hI hs (mm 2 rfl) (by decide) aa ho zd rfl rfl (by simp[execOp,go_sem,aF p1])
      ·have d2:=ud zd 2;have p2:=pk hI.pt 2 rfl d2;exact bZ hk hI hs (mm 3 rfl) (by decide) aa ho zd rfl rfl (by simp[execOp,go_sem,aF p2])
      ·have d3:=ud zd 3;have p3:=pk hI.pt 3 rfl d3;have r7:=hI.fresh aa (by kernel_rfl);subst r7;exact bZ hk hI hs (mm 4 rfl) (by decide) aa ho zd rfl rfl (by simp[execOp,go_sem,aF p3,x8,x9])
      ·have r7:=hI.fresh aa (by kernel_rfl);subst r7;exact bZ hk hI hs (mm 5 rfl) (by decide) aa ho zd rfl rfl (by simp[execOp,go_sem,aF e6x,i0,i1])
      ·have d4:=ud zd 4;have p4:=pk hI.pt 4 rfl d4;have d5:=ud zd 5;have p5:=pk hI.pt 5 rfl d5;exact bZ hk hI hs (mm 6 rfl) (by decide) aa ho zd rfl rfl (by simp[execOp,go_sem,aF p4,aF p5,av])
      ·exact bZ hk hI hs (mm 7 rfl) (by decide) aa ho zd rfl rfl (by simp[execOp,go_sem,aF e4x])
      ·have d7:=ud zd 7;have p7:=pk hI.pt 7 rfl d7;exact bZ hk hI hs (mm 8 rfl) (by decide) aa ho zd rfl rfl (by simp[execOp,go_sem,aF p7])
      ·have d8:=ud zd 8;have p8:=pk hI.pt 8 rfl d8;exact bZ hk hI hs (mm 9 rfl) (by decide) aa ho zd rfl rfl (by simp[execOp,go_sem,aF p8])
      ·have d9:=ud zd 9;have p9:=pk hI.pt 9 rfl d9;have r7:=hI.fresh aa (by kernel_rfl);subst r7;exact bZ hk hI hs (mm 10 rfl) (by decide) aa ho zd rfl rfl (by simp[execOp,go_sem,aF p9,x10,x11])
      ·have r7:=hI.fresh aa (by kernel_rfl);subst r7;exact bZ hk hI hs (mm 11 rfl) (by decide) aa ho zd rfl rfl (by simp[execOp,go_sem,aF e6x,i0,i1])
      ·have d10:=ud zd 10;have p10:=pk hI.pt 10 rfl d10;have d11:=ud zd 11;have p11:=pk hI.pt 11 rfl d11;exact bZ hk hI hs (mm 12 rfl) (by decide) aa ho zd rfl rfl (by simp[execOp,go_sem,aF p10,aF p11,ep])
      ·have d0:=ud zd 0;have p0:=pk hI.pt 0 rfl d0;have d6:=ud zd 6;have p6:=pk hI.pt 6 rfl d6;have d12:=ud zd 12;have p12:=pk hI.pt 12 rfl d12;exact uHK hk hI hs (mm 13 rfl) aa ho zd rfl rfl 124 #[.pointer (some ⟨E.r,0,none⟩),.bool row,.bool col] (by simp[go_sem,aF p0,aF p6,aF p12]) (HCB.out)
      ·have d13:=ud zd 13;have p13:=pk hI.pt 13 rfl d13;exact bZ hk hI hs (mm 14 rfl) (by decide) aa ho zd rfl rfl (by simp[execOp,go_sem,aF p13])
      ·have d14:=ud zd 14;have p14:=pk hI.pt 14 rfl d14;exact bZ hk hI hs (mm 15 rfl) (by decide) aa ho zd rfl rfl (by simp[execOp,go_sem,aF p14])
      ·have d14:=ud zd 14;have p14:=pk hI.pt 14 rfl d14;exact bZ hk hI hs (mm 16 rfl) (by decide) aa ho zd rfl rfl (by simp[execOp,go_sem,aF p14])
      ·exact bZ hk hI hs (mm 17 rfl) (by decide) aa ho zd rfl rfl (by simp[execOp,go_sem,aF e4x])
      ·have d17:=ud zd 17;have p17:=pk hI.pt 17 rfl d17;exact bZ hk hI hs (mm 18 rfl) (by decide) aa ho zd rfl rfl (by simp[execOp,go_sem,aF p17])
      ·have d18:=ud zd 18;have p18:=pk hI.pt 18 rfl d18;have d15:=ud zd 15;have p15:=pk hI.pt 15 rfl d15;exact uAV hk hI (by decide) aa ho zd rfl rfl (zd ⟨13,.chain⟩ (by simp) rfl) ((((((w1.setCell ⟨q4,14,none⟩ (.int .i64 0)).setCell ⟨q4,15,none⟩ (.int .i64 0)).setCell ⟨q4,16,none⟩ (.int .i64 0)).setCell ⟨q4,17,none⟩ (.int .i64 0)).setCell ⟨q4,18,none⟩ (.bool false)).setCell ⟨q4,19,none⟩ (.bool false)) (fun hR=>by
        have ky:=zh hR;have y14:=(ky.out.li 0 rfl).cell 14;have yf14:=(ky.out.li 0 rfl).frozen 14;have y15:=(ky.out.li 0 rfl).cell 15;have yf15:=(ky.out.li 0 rfl).frozen 15;have y16:=(ky.out.li 0 rfl).cell 16;have yf16:=(ky.out.li 0 rfl).frozen 16;have y17:=(ky.out.li 0 rfl).cell 17;have yf17:=(ky.out.li 0 rfl).frozen 17;have y18:=(ky.out.li 0 rfl).cell 18;have yf18:=(ky.out.li 0 rfl).frozen 18;have y19:=(ky.out.li 0 rfl).cell 19;have yf19:=(ky.out.li 0 rfl).frozen 19;simp only[za,zb,zf]at y14 y15 y16 y17 y18 y19;simp[execOp,go_sem,aF p18,aF p15,y14,yf14,y15,yf15,y16,yf16,y17,yf17,y18,yf18,y19,yf19]
        ) (fun hR=>(((((((zh hR).out.put hE 0 rfl 14 _).put hE 0 rfl 15 _).put hE 0 rfl 16 _).put hE 0 rfl 17 _).put hE 0 rfl 18 _).put hE 0 rfl 19 _))
      have d16:=ud zd 16;have p16:=pk hI.pt 16 rfl d16;exact bZ hk hI hs (mm 19 rfl) (by decide) aa ho zd rfl rfl (by simp[execOp,go_sem,aF p16])
     intro zl a1 w1 hI aw;have ae:=aq.out;subst ae;have hF:=(hI.w2 (aw 19 (by decide))).2;have z5:a1.eval (.tmp 5)=.bool false:=hI.pt (20,5,.bool false) (mm 19 rfl) (aw 20 (by decide));obtain⟨ff,rfl,hf⟩:=hI.off.forms;rw[<- hf 5]at z5;clear hI;simp only[List.foldl,Act.put,yz,List.set];rw[z5];simp only[Exit.then]
     go_step
     go_meet
     exact⟨rfl,zh hF⟩
    case rest=>
     obtain⟨rfl,bl⟩:=hcut;clear c8 gq CC1 HSD HQ6
     go_upto_region 11 with fail
     have HT:=zh (bl.out.there 1 rfl 22 rfl);have ag:=zh (bl.out.fill hE 1 rfl aA rfl)
     go_wp2_with (first |(refine yq rfl 41 (.tmp 2) (.tmp 44) rfl q 0 aA.toArray rfl rfl HT.out aE bB ?_;change wpList _ _ _ _ _ (World.setCells _ q 0 aA);generalize World.setCells _ _ _ _=wz at ag ⊢))
     have HA:=zh (ag.out.li 1 rfl);refine yt (aO rfl rfl HA.out rfl) rfl ?_;rw[gy.out];exact cR ag.out rfl bB (by omega) (by omega) (by have:=HF.out.2;omega)
   |ok b=>
    have gy:Hid (O=.ok (jN 2 ⟨⟨xa,xn⟩,⟨ya,yn⟩,mfr,mfc⟩ b) (E.L.drop (k+3)) (nd+1)):=zh (by rw[<- db.out,hR]);have ur:=E.more he fg (vI hR);obtain⟨⟨ua,un⟩,⟨va,vn⟩,nfr,nfc⟩:=b;have CC1:=zh (CC.out row col (k+2) pl er W7.drew (c8.out.next (Below.refl _ _).drew).ine fg);rw[hR]at CC1;clear hR db
    go_cut [5] (fun v wx=>v=.bool true/\Hid (Fs E w (k+3) op nd pl er [(q4,41,(cM 2 ⟨⟨xa,xn⟩,⟨ya,yn⟩,mfr,mfc⟩ ⟨⟨ua,un⟩,⟨va,vn⟩,nfr,nfc⟩).toArray),(q,41,aA.toArray)] wx))
    case first=>
     obtain⟨x8,x9,x10,x11,i0,i1⟩:=HSD.out;have av:=jf.out;have ep:=ft.out;have HCB:Hid (Calls Tryz.prog 124 #[.pointer (some ⟨E.r,0,none⟩),.bool row,.bool col] W7.drew fun e w1=>e=.returned (.tuple #[.agg #[.int .i64 ua,.int .i64 un,.int .i64 va,.int .i64 vn,.bool nfr,.bool nfc],.bool true])/\Fs E w (k+3) op nd pl er [(q4,41,(cM 2 ⟨⟨xa,xn⟩,⟨ya,yn⟩,mfr,mfc⟩ aG).toArray),(q,41,aA.toArray)] w1):=zh (CC1.out.mono (fun e w1 h=>⟨h.1,(c8.out.next (Below.refl _ _).drew).step h.2.1 h.2.2⟩))
     obtain⟨TT,ae⟩:∃ TT:List (Nat×Nat×Value),TT=[(0,24,.pointer (some ⟨E.r,0,none⟩)),(1,25,.pointer (some ⟨q4,8,none⟩)),(2,26,.pointer (some ⟨q4,8,none⟩)),(3,27,.pointer (some ⟨q4,8,none⟩)),(4,28,.agg #[.int .i64 xa,.int .i64 xn]),(5,29,.agg #[.int .i64 0,.int .i64 0]),(6,30,.bool row),(7,31,.pointer (some ⟨q4,8,none⟩)),(8,32,.pointer (some ⟨q4,8,none⟩)),(9,33,.pointer (some ⟨q4,10,none⟩)),(10,34,.agg #[.int .i64 ya,.int .i64 yn]),(11,35,.agg #[.int .i64 0,.int .i64 0]),(12,36,.bool col),(13,37,.tuple #[.agg #[.int .i64 ua,.int .i64 un,.int .i64 va,.int .i64 vn,.bool nfr,.bool nfc],.bool true]),(14,23,.tuple #[.agg #[.int .i64 ua,.int .i64 un,.int .i64 va,.int .i64 vn,.bool nfr,.bool nfc],.bool true]),(15,38,.agg #[.int .i64 ua,.int .i64 un,.int .i64 va,.int .i64 vn,.bool nfr,.bool nfc]),(16,39,.bool true),(17,40,.pointer (some ⟨q4,8,none⟩)),(18,41,.pointer (some ⟨q4,14,none⟩)),(20,5,.bool true)]:=⟨_,rfl⟩
     have aq:=zh ae;clear ae;refine qT (fun a0=>48<=a0.tmps.size/\a0.eval (.tmp 0)=.pointer (some ⟨E.r,0,none⟩)/\a0.eval (.tmp 4)=.pointer (some ⟨q4,0,none⟩)/\a0.eval (.tmp 6)=.pointer (some ⟨q6,0,none⟩)) [24,25,26,27,28,29,30,31,32,33,34,35,36,37,23,38,39,40,41,5] TT W7.drew (fun w'=>Fs E w (k+3) op nd pl er [(q4,41,(cM 2 ⟨⟨xa,xn⟩,⟨ya,yn⟩,mfr,mfc⟩ aG).toArray),(q,41,aA.toArray)] w') (fun w'=>Fs E w (k+3) op nd pl er [(q4,41,(cM 2 ⟨⟨xa,xn⟩,⟨ya,yn⟩,mfr,mfc⟩ ⟨⟨ua,un⟩,⟨va,vn⟩,nfr,nfc⟩).toArray),(q,41,aA.toArray)] w') 13 19 (by kernel_rfl) (by kernel_rfl) ⟨by simp,rfl,rfl,rfl⟩ rfl ?_ ?_
     ·rintro a0 ⟨hs,dr,kx,ny⟩ zl a1 w1 j o bg hI aa ho zd;have ae:=aq.out;subst ae
      have hk:okC (([(0,24,.pointer (some ⟨E.r,0,none⟩)),(1,25,.pointer (some ⟨q4,8,none⟩)),(2,26,.pointer (some ⟨q4,8,none⟩)),(3,27,.pointer (some ⟨q4,8,none⟩)),(4,28,.agg #[.int .i64 xa,.int .i64 xn]),(5,29,.agg #[.int .i64 0,.int .i64 0]),(6,30,.bool row),(7,31,.pointer (some ⟨q4,8,none⟩)),(8,32,.pointer (some ⟨q4,8,none⟩)),(9,33,.pointer (some ⟨q4,10,none⟩)),(10,34,.agg #[.int .i64 ya,.int .i64 yn]),(11,35,.agg #[.int .i64 0,.int .i64 0]),(12,36,.bool col),(13,37,.tuple #[.agg #[.int .i64 ua,.int .i64 un,.int .i64 va,.int .i64 vn,.bool nfr,.bool nfc],.bool true]),(14,23,.tuple #[.agg #[.int .i64 ua,.int .i64 un,.int .i64 va,.int .i64 vn,.bool nfr,.bool nfc],.bool true]),(15,38,.agg #[.int .i64 ua,.int .i64 un,.int .i64 va,.int .i64 vn,.bool nfr,.bool nfc]),(16,39,.bool true),(17,40,.pointer (some ⟨q4,8,none⟩)),(18,41,.pointer (some ⟨q4,14,none⟩)),(20,5,.bool true)]:List (Nat×Nat×Value)).map fun e=>(e.1,e.2.1)) [24,25,26,27,28,29,30,31,32,33,34,35,36,37,23,38,39,40,41,5] 19 48=true:=by rfl
      have hj:=Up.of_false aa;have hj12:j<21:=by rw[bg]at hj;exact hj
      have e0x:a1.eval (.tmp 0)=.pointer (some ⟨E.r,0,none⟩):=(hI.off.eval (by decide)).trans dr;have e4x:a1.eval (.tmp 4)=.pointer (some ⟨q4,0,none⟩):=(hI.off.eval (by decide)).trans kx;have e6x:a1.eval (.tmp 6)=.pointer (some ⟨q6,0,none⟩):=(hI.off.eval (by decide)).trans ny;rcases(by omega:j=0\/j=1\/j=2\/j=3\/j=4\/j=5\/j=6\/j=7\/j=8\/j=9\/j=10\/j=11\/j=12\/j=13\/j=14\/j=15\/j=16\/j=17\/j=18\/j=19\/j=20) with rfl|rfl|rfl|rfl|rfl|rfl|rfl|rfl|rfl|rfl|rfl|rfl|rfl|rfl|rfl|rfl|rfl|rfl|rfl|rfl|rfl<;>obtain rfl:=oi ho
      ·exact bZ hk hI hs (.head _) (by decide) aa ho zd rfl rfl (by simp[execOp,go_sem,aF e0x])
      ·exact bZ hk hI hs (.tail _ (.head _)) (by decide) aa ho zd rfl rfl (by simp[execOp,go_sem,aF e4x])
      ·have d1:=ud zd 1;have p1:=pk hI.pt 1 rfl d1;exact bZ hk hI hs (mm 2 rfl) (by decide) aa ho zd rfl rfl (by simp[execOp,go_sem,aF p1])
      ·have d2:=ud zd 2;have p2:=pk hI.pt 2 rfl d2;exact bZ hk hI hs (mm 3 rfl) (by decide) aa ho zd rfl rfl (by simp[execOp,go_sem,aF p2])
      ·have d3:=ud zd 3;have p3:=pk hI.pt 3 rfl d3;have r7:=hI.fresh aa (by kernel_rfl);subst r7;exact bZ hk hI hs (mm 4 rfl) (by decide) aa ho zd rfl rfl (by simp[execOp,go_sem,aF p3,x8,x9])
      ·have r7:=hI.fresh aa (by kernel_rfl);subst r7;exact bZ hk hI hs (mm 5 rfl) (by decide) aa ho zd rfl rfl (by simp[execOp,go_sem,aF e6x,i0,i1])
      ·have d4:=ud zd 4;have p4:=pk hI.pt 4 rfl d4;have d5:=ud zd 5;have p5:=pk hI.pt 5 rfl d5;exact bZ hk hI hs (mm 6 rfl) (by decide) aa ho zd rfl rfl (by simp[execOp,go_sem,aF p4,aF p5,av])
      ·exact bZ hk hI hs (mm 7 rfl) (by decide) aa ho zd rfl rfl (by simp[execOp,go_sem,aF e4x])
      ·have d7:=ud zd 7;have p7:=pk hI.pt 7 rfl d7;exact bZ hk hI hs (mm 8 rfl) (by decide) aa ho zd rfl rfl (by simp[execOp,go_sem,aF p7])
      ·have d8:=ud zd 8;have p8:=pk hI.pt 8 rfl d8;exact bZ hk hI hs (mm 9 rfl) (by decide) aa ho zd rfl rfl (by simp[execOp,go_sem,aF p8])
      ·have d9:=ud zd 9;have p9:=pk hI.pt 9 rfl d9;have r7:=hI.fresh aa (by kernel_rfl);subst r7;exact bZ hk hI hs (mm 10 rfl) (by decide) aa ho zd rfl rfl (by simp[execOp,go_sem,aF p9,x10,x11])
      ·have r7:=hI.fresh aa (by kernel_rfl);subst r7;exact bZ hk hI hs (mm 11 rfl) (by decide) aa ho zd rfl rfl (by simp[execOp,go_sem,aF e6x,i0,i1])
      ·have d10:=ud zd 10;have p10:=pk hI.pt 10 rfl d10;have d11:=ud zd 11;have p11:=pk hI.pt 11 rfl d11;exact bZ hk hI hs (mm 12 rfl) (by decide) aa ho zd rfl rfl (by simp[execOp,go_sem,aF p10,aF p11,ep])
      ·have d0:=ud zd 0;have p0:=pk hI.pt 0 rfl d0;have d6:=ud zd 6;have p6:=pk hI.pt 6 rfl d6;have d12:=ud zd 12;have p12:=pk hI.pt 12 rfl d12;exact uHK hk hI hs (mm 13 rfl) aa ho zd rfl rfl 124 #[.pointer (some ⟨E.r,0,none⟩),.bool row,.bool col] (by simp[go_sem,aF p0,aF p6,aF p12]) (HCB.out)
      ·have d13:=ud zd 13;have p13:=pk hI.pt 13 rfl d13;exact bZ hk hI hs (mm 14 rfl) (by decide) aa ho zd rfl rfl (by simp[execOp,go_sem,aF p13])
      ·have d14:=ud zd 14;have p14:=pk hI.pt 14 rfl d14;exact bZ hk hI hs (mm 15 rfl) (by decide) aa ho zd rfl rfl (by simp[execOp,go_sem,aF p14])
      ·have d14:=ud zd 14;have p14:=pk hI.pt 14 rfl d14;exact bZ hk hI hs (mm 16 rfl) (by decide) aa ho zd rfl rfl (by simp[execOp,go_sem,aF p14])
      ·exact bZ hk hI hs (mm 17 rfl) (by decide) aa ho zd rfl rfl (by simp[execOp,go_sem,aF e4x])
      ·have d17:=ud zd 17;have p17:=pk hI.pt 17 rfl d17;exact bZ hk hI hs (mm 18 rfl) (by decide) aa ho zd rfl rfl (by simp[execOp,go_sem,aF p17])
      ·have d18:=ud zd 18;have p18:=pk hI.pt 18 rfl d18;have d15:=ud zd 15;have p15:=pk hI.pt 15 rfl d15;exact uAV hk hI (by decide) aa ho zd rfl rfl (zd ⟨13,.chain⟩ (by simp) rfl) ((((((w1.setCell ⟨q4,14,none⟩ (.int .i64 ua)).setCell ⟨q4,15,none⟩ (.int .i64 un)).setCell ⟨q4,16,none⟩ (.int .i64 va)).setCell ⟨q4,17,none⟩ (.int .i64 vn)).setCell ⟨q4,18,none⟩ (.bool nfr)).setCell ⟨q4,19,none⟩ (.bool nfc)) (fun hR=>by
        have ky:=zh hR;have y14:=(ky.out.li 0 rfl).cell 14;have yf14:=(ky.out.li 0 rfl).frozen 14;have y15:=(ky.out.li 0 rfl).cell 15;have yf15:=(ky.out.li 0 rfl).frozen 15;have y16:=(ky.out.li 0 rfl).cell 16;have yf16:=(ky.out.li 0 rfl).frozen 16;have y17:=(ky.out.li 0 rfl).cell 17;have yf17:=(ky.out.li 0 rfl).frozen 17;have y18:=(ky.out.li 0 rfl).cell 18;have yf18:=(ky.out.li 0 rfl).frozen 18;have y19:=(ky.out.li 0 rfl).cell 19;have yf19:=(ky.out.li 0 rfl).frozen 19;simp only[za,zb,zf]at y14 y15 y16 y17 y18 y19;simp[execOp,go_sem,aF p18,aF p15,y14,yf14,y15,yf15,y16,yf16,y17,yf17,y18,yf18,y19,yf19]
        ) (fun hR=>(((((((zh hR).out.put hE 0 rfl 14 _).put hE 0 rfl 15 _).put hE 0 rfl 16 _).put hE 0 rfl 17 _).put hE 0 rfl 18 _).put hE 0 rfl 19 _))
      have d16:=ud zd 16;have p16:=pk hI.pt 16 rfl d16;exact bZ hk hI hs (mm 19 rfl) (by decide) aa ho zd rfl rfl (by simp[execOp,go_sem,aF p16])
     intro zl a1 w1 hI aw;have ae:=aq.out;subst ae;have hF:=(hI.w2 (aw 19 (by decide))).2;have z5:a1.eval (.tmp 5)=.bool true:=hI.pt (20,5,.bool true) (mm 19 rfl) (aw 20 (by decide));obtain⟨ff,rfl,hf⟩:=hI.off.forms;rw[<- hf 5]at z5;clear hI;simp only[List.foldl,Act.put,yz,List.set];rw[z5];simp only[Exit.then]
     go_step
     go_meet
     exact⟨rfl,zh hF⟩
    case rest=>
     obtain⟨rfl,bl⟩:=hcut;clear c8 gq CC1 HSD HQ6
     go_upto_region 12 with fail
     have CN1:=zh (CN.out (k+3) pl er (cM 2 ⟨⟨xa,xn⟩,⟨ya,yn⟩,mfr,mfc⟩ ⟨⟨ua,un⟩,⟨va,vn⟩,nfr,nfc⟩) rfl (eA 2 ⟨⟨xa,xn⟩,⟨ya,yn⟩,mfr,mfc⟩ ⟨⟨ua,un⟩,⟨va,vn⟩,nfr,nfc⟩) _ bl.out.ine);obtain⟨C,hC,ai,ec,ii⟩:=fD (nd+1) (cM 2 ⟨⟨xa,xn⟩,⟨ya,yn⟩,mfr,mfc⟩ ⟨⟨ua,un⟩,⟨va,vn⟩,nfr,nfc⟩) rfl (eA 2 ⟨⟨xa,xn⟩,⟨ya,yn⟩,mfr,mfc⟩ ⟨⟨ua,un⟩,⟨va,vn⟩,nfr,nfc⟩);rw[hC]at CN1;have yC:=zh ai;have dx:=zh ec;have mw:=zh ii;have fm:=zh (bl.out.range 0 (l:=cM 2 ⟨⟨xa,xn⟩,⟨ya,yn⟩,mfr,mfc⟩ ⟨⟨ua,un⟩,⟨va,vn⟩,nfr,nfc⟩) rfl);clear hC ai ec ii
     go_wp2_with (first |(refine yr rfl 41 (.tmp 4) rfl q4 0 rfl (cM 2 ⟨⟨xa,xn⟩,⟨ya,yn⟩,mfr,mfc⟩ ⟨⟨ua,un⟩,⟨va,vn⟩,nfr,nfc⟩) _ fm.out Tryz.underlying41 rfl aE ?_))
     refine CN1.out.mono ?_;rintro e wn ⟨rfl,av,ep⟩;have jv:=zh (bl.out.step av ep.X);clear av ep CN1 fm bl;have HT:=zh (jv.out.there 1 rfl C.toArray.size (by rw[yd,yC.out];rfl));have ag:=zh (jv.out.fill hE 1 rfl C (by rw[yC.out];rfl));have zi:=fv yC.out
     go_wp2_with (first |(refine yq rfl 41 (.tmp 2) (.tmp 47) rfl q 0 C.toArray rfl rfl HT.out zi dx.out ?_;change wpList _ _ _ _ _ (World.setCells _ q 0 C);generalize World.setCells _ _ _ _=wz at ag ⊢))
     have HA:=zh (ag.out.li 1 rfl);refine yt (aO rfl rfl HA.out (by rw[yd,yC.out])) rfl ?_;rw[gy.out];exact jS (h:=⟨2,aC,[],⟨⟨xa,xn⟩,⟨ya,yn⟩,mfr,mfc⟩,⟨⟨ua,un⟩,⟨va,vn⟩,nfr,nfc⟩,0⟩) ag.out yC.out dx.out (fun hn=>by rw[mw.out hn];rfl) (by omega) (by omega) (by have:=HF.out.2;omega) (by omega) rfl
  have b1':isS (E.at (k+1)) [58]=false:=by simpa using b1
  rw[if_neg b1]at db;have gy:Hid (O=.bad 6 (E.at (k+1)).place):=zh db.out.symm;have CT1:=zh (CTn.out (k+1) pl er _ az.out.ine dc b1')
  go_wp2_with fail
  refine CT1.out.mono ?_;rintro e w6 ⟨rfl,h1,h2⟩;have am:=zh (az.out.step h1 h2.X);clear h1 h2 az CT1 db;have HT:=zh (am.out.there 1 rfl 22 rfl);have ag:=zh (am.out.fill hE 1 rfl aA rfl)
  go_wp2_with (first |(refine yq rfl 41 (.tmp 2) (.tmp 21) rfl q 0 aA.toArray rfl rfl HT.out aE bB ?_;change wpList _ _ _ _ _ (World.setCells _ q 0 aA);generalize World.setCells _ _ _ _=wz at ag ⊢))
  have HA:=zh (ag.out.li 1 rfl);refine yt (aO rfl rfl HA.out rfl) rfl ?_;rw[gy.out];exact cR ag.out rfl bB (by omega) (by omega) (by have:=HF.out.2;omega)
theorem all8(p:UInt8->Bool)(h:(List.range 256).all (fun n=>p (UInt8.ofNat n))=true)(c:UInt8):p c=true:=by
 have:=List.all_eq_true.1 h c.toNat (yg.2 c.toNat_lt)
 rwa [UInt8.ofNat_toNat]at this
theorem nF(c:UInt8):aB (up c)=aB c:=by
 have:=all8 (fun c=>aB (up c)==aB c) (by decide +kernel) c;simpa using this
theorem rB(c:UInt8):aJ (up c)=aJ c:=by
 have:=all8 (fun c=>aJ (up c)==aJ c) (by decide +kernel) c;simpa using this
theorem fo_e(c:UInt8):(up c=101\/up c=69)↔(c=101\/c=69):=by
 have:=all8 (fun c=>(up c==101||up c==69)==(c==101||c==69)) (by decide +kernel) c;have h2:(up c==101||up c==69)=(c==101||c==69):=by simpa using this
 have h3:((up c==101||up c==69)=true)↔((c==101||c==69)=true):=by rw[h2]
 simpa using h3
theorem fo_up(c:UInt8):up (up c)=up c:=by
 have:=all8 (fun c=>up (up c)==up c) (by decide +kernel) c;simpa using this
theorem fo_dig_id(c:UInt8)(h:aB c=true):up c=c:=by
 refine qN c ?_;unfold aB at h;unfold jE;simp at h ⊢;omega
theorem fo_eq(c d:UInt8)(hd:aJ d=false):(up c==d)=(c==d):=by
 cases hl:jE c
 ·rw[qN c hl]
 have e1:(up c==d)=false:=by
  rw[beq_eq_false_iff_ne];intro e;rw[<- e,rB]at hd;unfold aJ at hd;unfold jE at hl;rw[hl]at hd;cases hd
 have e2:(c==d)=false:=by
  rw[beq_eq_false_iff_ne];intro e;rw[<- e]at hd;unfold aJ at hd;unfold jE at hl;rw[hl]at hd;cases hd
 rw[e1,e2]
theorem fo_fold(l:Bs):aN (aN l)=aN l:=by
 unfold aN;rw[List.map_map]
 congr 1
 funext c
 exact fo_up c
theorem tZ(l:Bs)(k:Nat)(d:UInt8)(hd:aJ d=false):aZ (aN l) k d=aZ l k d:=by
 unfold aZ aN;rw[List.getElem?_map];cases l[k]? with
 |none=>rfl
 |some c=>
  show (some (up c)==some d)=(some c==some d);have:=fo_eq c d hd;simpa using this
theorem yR(p:UInt8->Bool)(hp:∀ c,p (up c)=p c)(l:Bs):aM p (aN l)=aM p l:=by
 unfold aN
 induction l with
 |nil=>rfl
 |cons c l ih=>simp only[List.map_cons,aM,hp,ih]
theorem mB(l:Bs)(k:Nat):(aN l).drop k=aN (l.drop k):=by unfold aN;rw[List.map_drop]
theorem uHJ(l:Bs)(k:Nat):(aN l).take k=aN (l.take k):=by unfold aN;rw[List.map_take]
theorem uEN(l:Bs)(h:∀ c∈l,aB c=true):aN l=l:=by
 refine uW l (fun c hc=>?_);have:=h c hc;unfold aB at this;unfold jE;simp at this ⊢;omega
theorem uIC(p:UInt8->Bool)(l:Bs)(k:Nat)(hk:k<=aM p l):∀ c∈l.take k,p c=true:=by
 intro c hc;obtain⟨j,hj,rfl⟩:=List.getElem_of_mem hc;rw[List.getElem_take];have:=List.length_take_le' k l;have:=List.length_take_le k l;exact sY p l j (by omega) (by omega)
theorem uAT(l:Bs)(k:Nat)(hk:k<=aM aB l):(aN l).take k=l.take k:=by
 rw[uHJ];exact uEN _ (uIC aB l k hk)
theorem fo_pow(l:Bs):lL (aN l)=lL l:=by
 cases l with
 |nil=>rfl
 |cons c l=>
  show lL (up c::aN l)=_;unfold lL;dsimp only;rw[tZ l 0 43 (by decide),tZ l 0 45 (by decide)];simp only[fo_e]
  split
  ·generalize (if (aZ l 0 43||aZ l 0 45)=true then 1 else 0)=i;rw[mB,yR aB nF,fL];by_cases h:aM aB (l.drop i)=0\/i+aM aB (l.drop i)≠l.length
   ·rw[if_pos h,if_pos h]
   rw[if_neg h,if_neg h];have hl:aM aB (l.drop i)=(l.drop i).length:=by
    rw[yk];rcases Nat.lt_or_ge (aM aB (l.drop i)) 1 with h1|h1
    ·exact absurd (.inl (by omega)) h
    by_cases h2:i+aM aB (l.drop i)=l.length
    ·omega
    exact absurd (.inr h2) h
   rw[uEN (l.drop i) (fun c hc=>uIC aB (l.drop i) _ (Nat.le_of_eq hl.symm) c (by rw[List.take_length];exact hc))]
  rfl
theorem fo_numT(l:Bs):oK (aN l)=oK l:=by
 unfold oK;rw[tZ l 0 45 (by decide)];dsimp only;generalize (if aZ l 0 45=true then 1 else 0)=i;rw[mB,yR aB nF,tZ l _ 46 (by decide),mB,yR aB nF,mB,fo_pow,mB,fo_pow];rw[uAT (l.drop i) _ zr,uAT (l.drop (i+aM aB (l.drop i)+1)) _ zr]
theorem uAS(l:Bs):eO (aN l)=eO l:=by
 rw[vF,vF];unfold zL;rw[fL,fo_numT]
theorem wK{a b:Bs}(h:aN a=aN b):eO a=eO b:=by rw[<- uAS a,<- uAS b,h]
theorem mC(l:Bs)(d:UInt8)(hd:aJ d=false):Lib.hasPrefix (aN l) [d]=Lib.hasPrefix l [d]:=by
 rw[mF,mF,tZ l 0 d hd]
theorem pQ(l:Bs)(d:UInt8)(hd:aJ d=false):Lib.trimPrefix (aN l) [d]=aN (Lib.trimPrefix l [d]):=by
 rw[oO,oO,tZ l 0 d hd]
 split
 ·exact mB l 1
 rfl
theorem uAQ:∀ k,aN (dE k)=dE k:=by
 intro k
 match k with
 |0=>decide
 |1=>decide
 |2=>decide
 |3=>decide
 |4=>decide
 |5=>decide
 |6=>decide
 |7=>decide
 |8=>decide
 |9=>decide
 |k+10=>rfl
theorem uEO(l:Bs):aN (cL l)=cL l:=by
 unfold cL;cases lD l with
 |none=>rfl
 |some k=>exact uAQ k
theorem mY{a b:Bs}(h:aN a=aN b):bX a=bX b:=by
 have hl:a.length=b.length:=by have:=congrArg List.length h;rwa [fL,fL]at this
 have bk:∀ l:Bs,l.all aJ=(aN l).all aJ:=fun l=>by
  unfold aN;rw[List.all_map]
  congr 1
  funext c
  exact(rB c).symm
 unfold bX;rw[hl,bk a,bk b,h]
theorem tC(l:Bs):l.all aB=(aN l).all aB:=by
 unfold aN;rw[List.all_map]
 congr 1
 funext c
 exact(nF c).symm
theorem fo_adNum(l:Bs):gV (aN l)=gV l:=by
 unfold gV;rw[fL,tZ l 0 48 (by decide),<- tC]
 split
 ·rfl
 split
 ·rename_i h
  rw[uEN l (fun c hc=>List.all_eq_true.1 h c hc)]
 rfl
theorem uJG(l:Bs):bX (aN l)=bX l:=mY (fo_fold l)
theorem tY(l:Bs):bG (aN l)=bG l:=by
 unfold bG;dsimp only;rw[pQ l 36 (by decide),mC l 36 (by decide)];generalize Lib.trimPrefix l [36]=s;rw[yR aJ rB,uHJ,uJG,mB,pQ _ 36 (by decide),fo_adNum,mC _ 36 (by decide)]
theorem jI{a b:Bs}(h:aN a=aN b):bG a=bG b:=by rw[<- tY a,<- tY b,h]
theorem vK{a b:Bs}(h:aN a=aN b):Lib.hasPrefix a [36]=Lib.hasPrefix b [36]:=by rw[<- mC a 36 (by decide),<- mC b 36 (by decide),h]
theorem zP{a b:Bs}(h:aN a=aN b):aN (Lib.trimPrefix a [36])=aN (Lib.trimPrefix b [36]):=by rw[<- pQ a 36 (by decide),<- pQ b 36 (by decide),h]
theorem pS{a b:Bs}(h:aN a=aN b):aB (a.headD 0)=aB (b.headD 0):=by
 have:∀ l:Bs,aB (l.headD 0)=aB ((aN l).headD 0):=fun l=>by
  cases l with
  |nil=>rfl
  |cons c l=>exact(nF c).symm
 rw[this a,this b,h]
def Stp(z:UInt8):Prop:=z=32\/z=41\/z=44
theorem Stp.dig{z:UInt8}(h:Stp z):aB z=false:=by rcases h with rfl|rfl|rfl <;> rfl
theorem Stp.wrd{z:UInt8}(h:Stp z):cX z=false:=by rcases h with rfl|rfl|rfl <;> rfl
theorem Stp.ne{z:UInt8}(h:Stp z){d:UInt8}(hd:d≠32)(ow:d≠41)(hd3:d≠44):d≠z:=by rcases h with rfl|rfl|rfl <;> assumption
theorem Stp.up{z:UInt8}(h:Stp z):up z=z:=by rcases h with rfl|rfl|rfl <;> decide
theorem qI(p:UInt8->Bool)(l r:Bs){z:UInt8}(h:p z=false):aM p (l++z::r)=aM p l:=by
 induction l with
 |nil=>simp[aM,h]
 |cons c l ih=>simp only[yp,aM,ih]
theorem iD{z:UInt8}(l r:Bs)(k:Nat)(c:UInt8)(hc:c≠z)(hk:k<=l.length):aZ (l++z::r) k c=aZ l k c:=by
 unfold aZ;rcases Nat.lt_or_ge k l.length with h|h
 ·rw[List.getElem?_append_left h]
 obtain rfl:k=l.length:=by omega
 rw[List.getElem?_append_right zr,Nat.sub_self,zb,List.getElem?_eq_none zr];have:((some z:Option UInt8)==some c)=false:=by
  rw[beq_eq_false_iff_ne];intro e;injection e with e;exact hc e.symm
 rw[this];rfl
theorem pP{z:UInt8}(l r:Bs)(k:Nat)(hk:k<=l.length):(l++z::r).drop k=l.drop k++z::r:=List.drop_append_of_le_length hk
theorem qM{z:UInt8}(l r:Bs)(k:Nat)(hk:k<=l.length):(l++z::r).take k=l.take k:=List.take_append_of_le_length hk
theorem uBI{z:UInt8}(l r:Bs)(hp:0<l.length):gD (l++z::r)=gD l:=by
 cases l with
 |nil=>simp at hp
 |cons c l=>rfl
section
variable {z:UInt8} (hz:Stp z)
include hz
theorem uKB(l r:Bs):iA (l++z::r)=iA l:=by
 unfold iA;rw[qI aB l r hz.dig,iD l r _ 46 (hz.ne (by decide) (by decide) (by decide)) (bT _ _)];cases h:aZ l (aM aB l) 46
 ·simp
 have:=at_lt _ _ _ h;rw[pP l r _ this,qI aB _ r hz.dig]
theorem uCE(l r:Bs):dY (l++z::r)=dY l:=by
 unfold dY;rw[uKB hz];have hle:=vA l;generalize iA l=b at *;unfold uHU;rw[iD l r b 101 (hz.ne (by decide) (by decide) (by decide)) hle,iD l r b 69 (hz.ne (by decide) (by decide) (by decide)) hle];by_cases h:b=0\/(aZ l b 101=false/\aZ l b 69=false)
 ·rw[if_pos h,if_pos h]
 rw[if_neg h,if_neg h];have hlt:b<l.length:=by
  rcases Nat.lt_or_ge b l.length with h1|h1
  ·exact h1
  exact absurd (Or.inr ⟨iF _ _ _ h1,iF _ _ _ h1⟩) h
 have hp:mK (l++z::r) b=mK l b:=by
  unfold mK;rw[iD l r _ 43 (hz.ne (by decide) (by decide) (by decide)) hlt,iD l r _ 45 (hz.ne (by decide) (by decide) (by decide)) hlt]
 have hpl:=uHV l b hlt;rw[hp,pP l r _ hpl,qI aB _ r hz.dig]
theorem uKG(l r:Bs):mS (l++z::r)=mS l:=by
 unfold mS;rw[qI cX l r hz.wrd,qM l r _ (bT _ _)]
theorem uKD(l r:Bs)(x:Bs×Nat)(h:bQ l=some x):bQ (l++z::r)=some x:=by
 have key:∀ n (l:Bs),l.length<=n->∀ x,bQ l=some x->bQ (l++z::r)=some x:=by
  intro n
  induction n with
  |zero=>intro l hl x hx;cases l with
   |nil=>simp[bQ]at hx
   |cons c l=>simp at hl
  |succ n ih=>
   intro l hl x hx
   match l,hl,hx with
   | [],_,hx=>simp[bQ]at hx
   | [c],_,hx=>
    simp only[bQ]at hx
    split at hx
    ·rename_i e
     subst e;rw[<- hx];exact lM (z::r) (by intro y h;injection h with h;exact hz.ne (d:=34) (by decide) (by decide) (by decide) h.symm)
    cases hx
   |c::d::l,hl,hx=>
    simp only[yi]at hl;by_cases hc:c=34
    ·subst hc;by_cases hd:d=34
     ·subst hd;rw[lN]at hx;rw[yp,yp,lN];cases hy:bQ l with
      |none=>rw[hy]at hx;cases hx
      |some y=>rw[ih l (by omega) y hy,<- hy,hx]
     rw[lM _ (by intro y h;injection h with h;exact hd h)]at hx;rw[yp,yp,lM _ (by intro y h;injection h with h;exact hd h),hx]
    rw[iB _ _ hc]at hx;rw[yp,iB _ _ hc];cases hy:bQ (d::l) with
    |none=>rw[hy]at hx;cases hx
    |some y=>rw[ih (d::l) (by simp only[yi];omega) y hy,<- hy,hx]
 exact key l.length l zr x h
theorem pText_stp_no(l:Bs)(h:bQ l=none):bQ (l++[z])=none:=by
 have ov:z≠34:=fun e=>hz.ne (d:=34) (by decide) (by decide) (by decide) e.symm
 have key:∀ n (l:Bs),l.length<=n->bQ l=none->bQ (l++[z])=none:=by
  intro n
  induction n with
  |zero=>
   intro l hl _;obtain rfl:l=[]:=List.eq_nil_of_length_eq_zero (by omega);simp[bQ,ov]
  |succ n ih=>
   intro l hl hx
   match l,hl,hx with
   | [],_,_=>simp[bQ,ov]
   | [c],_,hx=>
    have hc:c≠34:=by
     intro e;subst e;simp[bQ]at hx
    rw[yp,iB _ _ hc];simp[bQ,ov]
   |c::d::l,hl,hx=>
    simp only[yi]at hl;by_cases hc:c=34
    ·subst hc;by_cases hd:d=34
     ·subst hd;rw[lN]at hx;rw[yp,yp,lN];cases hy:bQ l with
      |none=>rw[ih l (by omega) hy];rfl
      |some y=>rw[hy]at hx;cases hx
     rw[lM _ (by intro y h;injection h with h;exact hd h)]at hx;cases hx
    rw[iB _ _ hc]at hx;rw[yp,iB _ _ hc];cases hy:bQ (d::l) with
    |none=>rw[ih (d::l) (by simp only[yi];omega) hy];rfl
    |some y=>rw[hy]at hx;cases hx
 exact key l.length l zr h
theorem uEL:∀ k,z∉dE k:=by
 intro k;rcases hz with rfl|rfl|rfl
 all_goals
  match k with
  |0=>decide
  |1=>decide
  |2=>decide
  |3=>decide
  |4=>decide
  |5=>decide
  |6=>decide
  |7=>decide
  |8=>decide
  |9=>decide
  |k+10=>exact List.not_mem_nil
theorem zH(l r:Bs)(k:Nat):gQ (l++z::r) k=gQ l k:=by
 unfold gQ;have hb:=uEL hz k;generalize dE k=t at *;by_cases h:t.length<=l.length
 ·rw[qM l r _ h];simp[h];omega
 have e2:decide (t.length<=l.length)=false:=decide_eq_false h;rw[e2,Bool.false_and];by_cases h3:t.length<=(l++z::r).length
 ·have e3:(aN ((l++z::r).take t.length)==t)=false:=by
   rw[beq_eq_false_iff_ne];intro e;apply hb;rw[<- e];unfold aN;rw[yj];refine⟨z,?_,hz.up⟩;have e4:((l++z::r).take t.length)[l.length]?=some z:=by
    rw[List.getElem?_take_of_lt (by omega),List.getElem?_append_right zr,Nat.sub_self];rfl
   exact List.mem_of_getElem? e4
  rw[e3,Bool.and_false]
 rw[decide_eq_false h3,Bool.false_and]
theorem uCD(l r:Bs):cL (l++z::r)=cL l:=by
 unfold cL lD;rw[iD l r 0 35 (hz.ne (by decide) (by decide) (by decide)) (zm _),uEM _ _ _ (zH hz l r)]
theorem uKC(l r:Bs)(hp:0<l.length):eJ (l++z::r)=eJ l:=by
 cases l with
 |nil=>simp at hp
 |cons c l=>
  cases l with
  |nil=>
   unfold eJ Lib.hasPrefix;rcases hz with rfl|rfl|rfl <;> simp[List.isPrefixOf]
  |cons d l=>rfl
theorem uFW(l r:Bs)(hp:0<l.length)(h0:(bE l).2.2≠0):bE (l++z::r)=bE l:=by
 unfold bE at h0 ⊢;rw[uCE hz,uBI l r hp,iD l r 0 95 (hz.ne (by decide) (by decide) (by decide)) (zm _),iD l r 0 36 (hz.ne (by decide) (by decide) (by decide)) (zm _),iD l r 0 34 (hz.ne (by decide) (by decide) (by decide)) (zm _),uKG hz,uCD hz l r,uKC hz l r hp,
  qM l r _ (pA l),qM l r _ (vB l hp)]
 by_cases h1:0<dY l
 ·rw[if_pos h1,if_pos h1]
 rw[if_neg h1]at h0 ⊢;rw[if_neg h1];by_cases h2:(gD l||aZ l 0 95||aZ l 0 36)=true
 ·rw[if_pos h2,if_pos h2]
 rw[if_neg h2]at h0 ⊢;rw[if_neg h2];by_cases h3:aZ l 0 34=true
 ·rw[if_pos h3]at h0 ⊢;rw[if_pos h3];unfold fF at h0 ⊢;cases hx:bQ (l.drop 1) with
  |none=>rw[hx]at h0;exact absurd rfl h0
  |some x=>
   rw[pP l r 1 hp,uKD hz _ r x hx]
 rw[if_neg h3,if_neg h3]
theorem uBJ(t:Bs):∀ (n:Nat) (s:Bs) (k:Nat) (a:List Tok),s.length<=n->bK s k=.ok a->bK (s++z::t) k=lV a (bK (z::t) (k+s.length)):=by
 have hnil:∀ (k:Nat) (a:List Tok),bK [] k=.ok a->bK ([]++z::t) k=lV a (bK (z::t) (k+([]:Bs).length)):=by
  intro k a h;rw[gZ]at h;injection h with h;subst h;rw[List.nil_append];show bK (z::t) k=lV [] (bK (z::t) k);cases bK (z::t) k <;> rfl
 intro n
 induction n with
 |zero=>
  intro s k a hs h;obtain rfl:s=[]:=List.eq_nil_of_length_eq_zero (by omega);exact hnil k a h
 |succ n ih=>
  intro s k a hs h;cases s with
  |nil=>exact hnil k a h
  |cons c r=>
   simp only[yi]at hs;by_cases hc:c=32
   ·subst hc;rw[gO]at h;rw[yp,gO,ih r (k+1) a (by omega) h];rw[show k+1+r.length=k+(32::r:Bs).length by simp only[yi];omega]
   by_cases h0:(bE (c::r)).2.2=0
   ·rw[rX c r k hc h0]at h;cases h
   have hp:0<(c::r).length:=by simp
   have hle:=nZ (c::r) hp;have e:=uFW hz (c::r) t hp h0;rw[hG c r k hc h0]at h;cases hx:bK ((c::r).drop (bE (c::r)).2.2) (k+(bE (c::r)).2.2) with
   |error p=>rw[hx]at h;cases h
   |ok b=>
    rw[hx]at h;injection h with h;subst h;rw[yp]at e;rw[yp,hG c (r++z::t) k hc (by rw[e];exact h0),e,<- yp,pP (c::r) t _ hle];rw[ih _ _ b (by rw[yk,yi];omega) hx];rw[show k+(bE (c::r)).2.2+((c::r).drop (bE (c::r)).2.2).length=k+(c::r).length by rw[yk];omega];cases bK (z::t) (k+(c::r).length) <;> rfl
end
theorem uFV(c:UInt8)(r:Bs)(hc:c=40\/c=41\/c=44):bE (c::r)=(5,[c],1):=by
 have hd:aB c=false:=by rcases hc with rfl|rfl|rfl <;> rfl
 have jc:c≠46:=by rcases hc with rfl|rfl|rfl <;> decide
 have hl:gD (c::r)=false:=by rcases hc with rfl|rfl|rfl <;> rfl
 have hw:∀ d,d≠c->aZ (c::r) 0 d=false:=fun d hd=>by
  rw[qW];simpa using Ne.symm hd
 have hs:eJ (c::r)=1:=by
  unfold eJ Lib.hasPrefix;rcases hc with rfl|rfl|rfl <;> rfl
 have hf:cL (c::r)=[]:=by
  unfold cL lD;rw[hw 35 (by rcases hc with rfl|rfl|rfl <;> decide)];rfl
 unfold bE;rw[jP c r hd jc,if_neg (by omega),hl,hw 95 (by rcases hc with rfl|rfl|rfl <;> decide),hw 36 (by rcases hc with rfl|rfl|rfl <;> decide),hw 34 (by rcases hc with rfl|rfl|rfl <;> decide),hf,hs];rfl
theorem cB(c:UInt8)(r:Bs)(k:Nat)(hc:c=40\/c=41\/c=44):bK (c::r) k=kO ⟨5,[c],k⟩ (bK r (k+1)):=by
 have h:=uFV c r hc;rw[hG c r k (by rcases hc with rfl|rfl|rfl <;> decide) (by rw[h];exact Nat.one_ne_zero),h];rfl
def cA:List Tok->Nat
 | []=>0
 |t::r=>(if isS t [40] then 1 else 0)+cA r
structure TokR(ρ:Tok->Tok->Prop)(t t':Tok):Prop where
 rel:ρ t t'
 kind:t.kind=t'.kind
 fold:aN t.text=aN t'.text
 same:t.kind=2\/t.kind=5\/t.kind=6->t.text=t'.text
 num:t.kind=1->aZ t.text 0 45=false
inductive EndR (ρ:Tok->Tok->Prop):List Tok->List Tok->Prop where
 |one {e e':Tok} (h:TokR ρ e e') (h0:e.kind=0):EndR ρ [e] [e']
 |more {t t':Tok} {ts ah:List Tok} (h:TokR ρ t t') (h0:t.kind≠0) (hm:t.place<=(hd ts).place) (hr:EndR ρ ts ah):EndR ρ (t::ts) (t'::ah)
theorem EndR.hd{ρ:Tok->Tok->Prop}{ts ah:List Tok}(h:EndR ρ ts ah):TokR ρ (hd ts) (hd ah):=by
 cases h with
 |one h h0=>exact h
 |more h h0 hm hr=>exact h
theorem EndR.tail{ρ:Tok->Tok->Prop}{ts ah:List Tok}(h:EndR ρ ts ah)(h0:(Go.Proofs.YtmgjidnalpgegaaGreatDoor.hd ts).kind≠0):EndR ρ ts.tail ah.tail:=by
 cases h with
 |one h h1=>exact absurd h1 h0
 |more h h1 hm hr=>exact hr
theorem EndR.nxt{ρ:Tok->Tok->Prop}{ts ah:List Tok}(h:EndR ρ ts ah):TokR ρ (nxt ts) (nxt ah):=by
 cases h with
 |one h h1=>exact h
 |more h h1 hm hr=>cases hr with
  |one h2 h3=>exact h2
  |more h2 h3 vu hr=>exact h2
theorem EndR.len{ρ:Tok->Tok->Prop}{ts ah:List Tok}(h:EndR ρ ts ah):ts.length=ah.length:=by
 induction h with
 |one h h1=>rfl
 |more h h1 hm hr ih=>simp[ih]
theorem TokR.isS{ρ:Tok->Tok->Prop}{t t':Tok}(h:TokR ρ t t')(s:Bs):isS t s=isS t' s:=by
 unfold Go.Proofs.YtmgjidnalpgegaaGreatDoor.isS;by_cases h5:t.kind=5
 ·rw[h.same (.inr (.inl h5)),h.kind]
 rw[decide_eq_false h5,decide_eq_false (by rw[<- h.kind];exact h5)];rfl
theorem dR{t:Tok}{s:Bs}(h:isS t s=true):t.kind≠0:=by
 unfold isS at h;simp at h;omega
theorem bU(ts:List Tok):cA ts.tail<=cA ts:=by
 cases ts with
 |nil=>exact zr
 |cons t r=>exact Nat.le_add_left _ _
theorem uT{ts:List Tok}(h:isS (hd ts) [40]=true):cA ts=cA ts.tail+1:=by
 cases ts with
 |nil=>cases h
 |cons t r=>
  have h':isS t [40]=true:=h;show (if isS t [40] then 1 else 0)+cA r=cA r+1;rw[h',if_pos rfl,Nat.add_comm]
def Er(B:Prop)(e:Nat):Prop:=e≠0/\e≠5/\e≠7/\(B->e≠8)
theorem er6(B:Prop):Er B 6:=⟨by decide,by decide,by decide,fun _=>by decide⟩
theorem er2(B:Prop):Er B 2:=⟨by decide,by decide,by decide,fun _=>by decide⟩
theorem er14(B:Prop):Er B 14:=⟨by decide,by decide,by decide,fun _=>by decide⟩
theorem er18(B:Prop):Er B 18:=⟨by decide,by decide,by decide,fun _=>by decide⟩
theorem er9(B:Prop):Er B 9:=⟨by decide,by decide,by decide,fun _=>by decide⟩
theorem er10(B:Prop):Er B 10:=⟨by decide,by decide,by decide,fun _=>by decide⟩
def OutR(ρ:Tok->Tok->Prop)(G B:Prop)(d N c:Nat)(o o':Out):Prop :=
 (∃ t ts ah c1,o=.ok t ts c1/\o'=.ok t ah (c1+d)/\EndR ρ ts ah/\cA ts<=N/\(G->c1=c+t.size/\t.right 6=true)) \/
 (∃ e x y,o=.bad e x.place/\o'=.bad e y.place/\ρ x y/\Er B e)
def PR(ρ:Tok->Tok->Prop)(G B:Prop)(d N:Nat)(P P':List Tok->Nat->Out):Prop:=∀ ts ah c,EndR ρ ts ah->cA ts<=N->OutR ρ G B d N c (P ts c) (P' ah (c+d))
section
variable {ρ:Tok->Tok->Prop} {G B:Prop} {d N:Nat}
theorem iU{ts ah:List Tok}{e c:Nat}(h:EndR ρ ts ah)(he:Er B e):OutR ρ G B d N c (fU e ts) (fU e ah):=.inr ⟨e,_,_,rfl,rfl,h.hd.rel,he⟩
theorem fV(h:NodeH):NodeH.same h h=true:=by
 unfold NodeH.same;simp[iY]
theorem size_lit(v:Val):(jJ v).size=1:=rfl
theorem uKP{v:Val}(h:cI v false=true)(k:Int):(jJ v).right k=true:=by
 have h2:cI v (decide (k=8))=true:=by
  unfold cI at h ⊢;simp only[yh,Bool.or_eq_true,Bool.false_or]at h ⊢;exact⟨h.1,.inr h.2⟩
 have:bJ ⟨0,v,[],aG,aG,0⟩ 0 [] k=true:=by
  unfold bJ;rw[if_pos rfl,h2,fV];rfl
 show (bJ ⟨0,v,[],aG,aG,0⟩ 0 [] k&&bP [] 0)=true;rw[this];rfl
theorem uGG{v:Val}(h1:v.kind≠0)(h2:cC v=true):(jJ v).right 8=true:=by
 have h2:cI v (decide ((8:Int)=8))=true:=by
  unfold cI;simp[h1,h2]
 have:bJ ⟨0,v,[],aG,aG,0⟩ 0 [] 8=true:=by
  unfold bJ;rw[if_pos rfl,h2,fV];rfl
 show (bJ ⟨0,v,[],aG,aG,0⟩ 0 [] 8&&bP [] 0)=true;rw[this];rfl
theorem gA{t:Tree}(h:t.right 6=true)(k:Int):t.right k=true:=by
 obtain⟨h',l⟩:=t;have e:∀ k,(Tree.mk h' l).right k=(bJ h' l.length (l.map fun t=>t.h.kind) k&&bP l h'.kind):=fun _=>by rw[Tree.right]
 rw[e]at h ⊢;rw[yh]at h ⊢;refine⟨?_,h.2⟩;have h1:=h.1;unfold bJ at h1 ⊢;by_cases k0:h'.kind=0
 ·rw[if_pos k0]at h1 ⊢;simp only[yh]at h1 ⊢;refine⟨⟨?_,h1.1.2⟩,h1.2⟩;have h3:=h1.1.1;unfold cI at h3 ⊢;simp only[yh,Bool.or_eq_true]at h3 ⊢;refine⟨h3.1,.inr ?_⟩;rcases h3.2 with h4|h4
  ·simp at h4
  exact h4
 rw[if_neg k0]at h1 ⊢;by_cases k9:h'.kind=9
 ·rw[k9]at h1;simp at h1
 split
 ·rename_i hc;rw[if_pos hc]at h1;exact h1
 rename_i hc
 rw[if_neg hc]at h1
 split
 ·rename_i hc;rw[if_pos hc]at h1;exact h1
 rename_i hc
 rw[if_neg hc]at h1
 split
 ·rename_i hc;rw[if_pos hc]at h1;exact h1
 rename_i hc
 rw[if_neg hc]at h1
 split
 ·rename_i hc;rw[if_pos hc]at h1;exact h1
 rename_i hc
 rw[if_neg hc]at h1
 split
 ·rename_i hc;rw[if_pos hc]at h1;exact h1
 rename_i hc
 rw[if_neg hc]at h1
 split
 ·rename_i hc;rw[if_pos hc]at h1;exact h1
 rename_i hc
 rw[if_neg hc]at h1
 split
 ·rename_i hc;rw[if_pos hc]at h1;exact h1
 rename_i hc
 rw[if_neg hc,if_neg k9]at h1;cases h1
theorem vN{t:Tree}(h:t.right 6=true):t.h.kind≠9:=by
 obtain⟨h',l⟩:=t;intro k9;rw[Tree.right,yh]at h;have h1:=h.1;have k9':h'.kind=9:=k9;unfold bJ at h1;rw[k9']at h1;simp at h1
theorem vU(l:List Tree)(x:Tree):bH (l++[x])=bH l+x.size:=by
 induction l with
 |nil=>simp[bH]
 |cons t l ih=>rw[yp,bH,bH,ih];omega
theorem sJ(l:List Tree)(x:Tree)(k:Int):bP (l++[x]) k=(bP l k&&((decide (k≠8)||decide (x.h.kind=0))&&x.right k)):=by
 induction l with
 |nil=>simp[bP]
 |cons t l ih=>rw[yp,bP,bP,ih];simp[Bool.and_assoc]
theorem uCX{s:Bs}{t:Tree}(hs:unB s=true)(h:t.right 6=true):(tUn s t).right 6=true/\(tUn s t).size=t.size+1:=by
 refine⟨?_,rfl⟩;have e:bJ ⟨5,aC,s,aG,aG,0⟩ 1 [t.h.kind] 6=true:=by
  unfold bJ;simp[hs,fV]
 show (bJ ⟨5,aC,s,aG,aG,0⟩ 1 [t.h.kind] 6&&((decide ((5:Int)≠8)||decide (t.h.kind=0))&&t.right 5&&bP [] 5))=true;rw[e,gA h 5];rfl
theorem xY{s:Bs}{t x:Tree}(hs:kZ s=true)(h:t.right 6=true)(h2:x.right 6=true):(kH s t x).right 6=true/\(kH s t x).size=t.size+x.size+1:=by
 refine⟨?_,by show t.size+(x.size+0)+1=_;omega⟩;have e:bJ ⟨6,aC,s,aG,aG,0⟩ 2 [t.h.kind,x.h.kind] 6=true:=by
  unfold bJ;simp[hs,fV]
 show (bJ ⟨6,aC,s,aG,aG,0⟩ 2 [t.h.kind,x.h.kind] 6&&((decide ((6:Int)≠8)||decide (t.h.kind=0))&&t.right 6&&((decide ((6:Int)≠8)||decide (x.h.kind=0))&&x.right 6&&bP [] 6)))=true;rw[e,h,h2];rfl
theorem rW{t t':Tok}(h:TokR ρ t t'):cJ t=cJ t':=by
 unfold cJ;rw[h.kind,h.fold]
theorem uL{t t':Tok}(h:TokR ρ t t'):eM t=eM t':=by
 unfold eM;rw[<- h.kind,rW h,h.fold,wK h.fold];by_cases k1:t.kind=1
 ·rw[if_pos k1,if_pos k1]
 rw[if_neg k1,if_neg k1];by_cases k2:t.kind=2
 ·rw[h.same (.inl k2)]
 rw[if_neg k2,if_neg k2];by_cases k6:t.kind=6
 ·rw[h.same (.inr (.inr k6))]
 rw[if_neg k6,if_neg k6]
theorem uK{t:Tok}{e:Nat}(h:eM t=.error e):Er B e:=by
 unfold eM at h
 split at h
 ·split at h
  ·injection h with h;rw[<- h];exact er2 B
  cases h
 split at h
 ·split at h
  ·injection h with h;rw[<- h];exact er14 B
  cases h
 split at h
 ·cases h
 split at h
 ·cases h
 injection h with h;rw[<- h];exact er6 B
theorem uBV{l:Bs}{q:Int×Int}(h:eO l=some q):cO q.1 q.2=true/\(aZ l 0 45=false->0<=q.1):=by
 have near:∀ {neg:Bool} {n:Nat} {e:Int} {q:Int×Int},fZ neg n e=some q->cO q.1 q.2=true/\(neg=false->0<=q.1):=by
  intro neg n e q h;rw[uZ neg n e (dU n e).1 (gM (dU n e).1 (dU n e).2).1 (dU n e).2 (gM (dU n e).1 (dU n e).2).2 rfl rfl]at h
  split at h
  ·rename_i hR
   injection h with h;subst h;refine⟨hR,fun hn=>?_⟩;subst hn;exact Int.natCast_nonneg _
  cases h
 rw[vF]at h;unfold zL at h
 split at h
 ·cases h
 rw[Option.bind_eq_some_iff]at h;obtain⟨x,hx,h⟩:=h;obtain⟨h1,h2⟩:=near h;refine⟨h1,fun h0=>h2 ?_⟩;unfold oK at hx;dsimp only at hx;rw[h0]at hx;simp only[Bool.false_eq_true,if_false]at hx
 split at hx
 ·split at hx
  ·cases hx
  rw[Option.map_eq_some_iff]at hx;obtain⟨p,_,hx⟩:=hx;rw[<- hx]
 split at hx
 ·cases hx
 rw[Option.map_eq_some_iff]at hx;obtain⟨p,_,hx⟩:=hx;rw[<- hx]
theorem xZ{m e:Int}(h:cO m e=true):cC (jB m e)=true:=by simp[cC,jB,h]
theorem zI{m e:Int}(h:cO m e=true):cO (-m) e=true:=by
 unfold cO at h ⊢;by_cases h0:m=0
 ·subst h0;exact h
 rw[if_neg h0]at h;rw[if_neg (by omega),Int.natAbs_neg];exact h
theorem rG{t:Tok}{v:Val}(hn:t.kind=1->aZ t.text 0 45=false)(h:eM t=.ok v):t.kind≠0/\cI v false=true/\(t.kind=1->v.kind=1/\cC { v with mant:=-v.mant }=true):=by
 have key:∀ {v:Val},v.kind≠0->cC v=true->0<=v.mant->cI v false=true:=fun h1 h2 h3=>by
  unfold cI;simp[h1,h2,h3]
 unfold eM at h
 split at h
 ·rename_i k1
  split at h
  ·cases h
  rename_i q hq
  injection h with h;subst h;obtain⟨h1,h2⟩:=uBV hq;exact⟨by omega,key (by show (1:Int)≠0;decide) (xZ h1) (h2 (hn k1)),fun _=>⟨rfl,xZ (zI h1)⟩⟩
 rename_i k1
 split at h
 ·rename_i k2
  split at h
  ·cases h
  rename_i hl
  injection h with h;subst h;refine⟨by omega,?_,fun h=>absurd h k1⟩;unfold qS;rw[if_neg hl];exact key (by show (2:Int)≠0;decide) (by simp[cC];omega) (by show (0:Int)<=0;decide)
 rename_i k2
 split at h
 ·rename_i k6
  injection h with h;subst h;refine⟨by omega,?_,fun h=>absurd h k1⟩;refine key (by show (4:Int)≠0;decide) ?_ (by show (0:Int)<=0;decide);unfold pG cC;simp
  split <;> omega
 split at h
 ·rename_i ht
  injection h with h;subst h;unfold cJ at ht;simp at ht;exact⟨by omega,key (by show (3:Int)≠0;decide) (by simp[cC,mO]) (by show (0:Int)<=0;decide),fun h=>absurd h k1⟩
 cases h
theorem yY:PR ρ G B d N cN cN:=by
 intro ts ah c h hN;unfold cN;have hv:=uL h.hd;rw[<- hv];cases hl:eM (hd ts) with
 |error e=>exact iU h (uK hl)
 |ok v=>
  obtain⟨h1,h2,_⟩:=rG h.hd.num hl;exact .inl ⟨_,_,_,_,rfl,by rw[show c+d+1=c+1+d by omega],h.tail h1,yv (bU ts) hN,fun _=>⟨rfl,uKP h2 6⟩⟩
end
end Go.Proofs.YtmgjidnalpgegaaGreatDoor
