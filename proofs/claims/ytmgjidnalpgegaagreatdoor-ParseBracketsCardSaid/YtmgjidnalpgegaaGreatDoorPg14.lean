/-
  Lemmas, part 14: ParO PlFo PlSt PlSim.
-/
import Derived.Test.YtmgjidnalpgegaaGreatDoorPg13
namespace Go.Proofs.YtmgjidnalpgegaaGreatDoor
open Go.RowKit
theorem mP(x y:IdR)(w:World):(binOp .neq 34 (idV x) (idV y)).run Tryz.prog w=.ok (.bool (decide (x≠y))) w:=by
 obtain⟨a,n⟩:=x;obtain⟨a2,n2⟩:=y
 go_simp
 by_cases h0:a=a2
 case neg=>simp[h0]
 by_cases h1:n=n2
 case neg=>simp[h0,h1]
 simp[h0,h1]
theorem uE{ax:Ax}{ts:List Tok}{row col:Bool}{a:Cor}(h:cV ax row col ts=.ok a):(hd ts).kind≠0:=by
 intro h0;unfold cV at h;rw[if_pos (by rw[h0];decide)]at h;cases h
set_option maxRecDepth 100000 in
set_option maxHeartbeats 3200000 in
theorem uHL(E:Env)(hE:E.ok)(he:E.ends)(hL:E.L.length≤1000000)(hT:E.short)(op:Nat):dU E 116 (fH E.ax) op:=by
 intro k nd pl er w hI hk hn;have CC:=zh (fun row col k pl er W h hk=>line_any E hE hL hT row col k op nd pl er W h hk);have CTy:=zh (fun k pl er W h hk hs=>kW E hE k op nd pl er [58] W h hk hL hs);have CTn:=zh (fun k pl er W h hk hs=>uJ E hE k op nd pl er [58] W h hk hs);have CN:=zh (fun k pl er cs h22 h1 W h=>gN E hE k op nd pl er cs h22 h1 W h (by omega));have HS1:=zh ((Fs.start hI).alloc 41 aB.toArray (by decide));have HNE:=zh mP;generalize hO:fH E.ax (E.L.drop k) nd=O;have HO:Hid ((match cV E.ax true true (E.L.drop k) with
  | .error e=>fD e (E.L.drop k)
  | .ok a=>
   if isS (E.at (k+1)) [58] then match cV E.ax (decide (a.row≠id0)) (decide (a.col≠id0)) (E.L.drop (k+2)) with
    | .error e=>fD e (E.L.drop (k+2))
    | .ok b=>.ok (iL 2 a b) (E.L.drop (k+3)) (nd+1)
   else fD 6 (E.L.drop (k+1)))=O):=zh (by
  rw[← hO];unfold fH;rw[List.tail_drop,List.tail_drop,List.tail_drop];rfl)
 have HF:Hid (k<E.L.length∧nd≤k):=zh ⟨hk,hn⟩;clear hI hO hn;simp only[aB]at HS1
 go_enter Tryz.func116,Tryz.ntmps116
 go_upto_region 1 with fail
 generalize World.alloc _ _=W1 at HS1 ⊢;generalize hq:w.heap.size=q at HS1 ⊢;have HS2:=zh (HS1.out.alloc 41 aB.toArray (by decide));have HT:=zh (HS2.out.there 0 rfl 22 rfl);have HS3:=zh (HS2.out.fill hE 0 rfl (cG 2 aH aH) rfl);have hone:=dO 2 aH aH;clear HS1 HS2 hq;simp only[List.set_cons_zero]at HS3;generalize hq4:W1.heap.size=q4 at HS3 HT ⊢
 go_upto_region 3 with(first |(refine wpList_store_mid rfl 41 (.tmp 4) (.tmp 7) rfl q4 0 (cG 2 aH aH).toArray rfl rfl HT.out aE hone ?_;change wpList _ _ _ _ _ (World.setCells _ q4 0 (cG 2 aH aH));generalize World.setCells _ _ _ _=W2 at HS3 ⊢))
 clear HT hone hq4
 go_wp2_with fail
 have CC1:=zh (CC.out true true k pl er _ HS3.out.ine hk);refine CC1.out.mono ?_;clear CC1;cases hR:cV E.ax true true (E.L.drop k) with
 | error e1=>
  have HO1:Hid (O=.bad e1 (E.at k).place):=zh (by rw[← HO.out,hR];rfl);rintro e w4 ⟨rfl,h1,h2⟩;have HS4:=zh (HS3.out.step h1 h2);clear h1 h2 HS3 hR;have x8:=(HS4.out.li 0 rfl).cell 8;have xf8:=(HS4.out.li 0 rfl).frozen 8;have x9:=(HS4.out.li 0 rfl).cell 9;have xf9:=(HS4.out.li 0 rfl).frozen 9;have x10:=(HS4.out.li 0 rfl).cell 10;have xf10:=(HS4.out.li 0 rfl).frozen 10;have x11:=(HS4.out.li 0 rfl).cell 11;have xf11:=(HS4.out.li 0 rfl).frozen 11;have x12:=(HS4.out.li 0 rfl).cell 12;have xf12:=(HS4.out.li 0 rfl).frozen 12;have x13:=(HS4.out.li 0 rfl).cell 13;have xf13:=(HS4.out.li 0 rfl).frozen 13;simp only[List.getElem?_toArray,List.getElem?_cons_zero,List.getElem?_cons_succ]at x8 x9 x10 x11 x12 x13
  have HS5:Hid (Fs E w (k) op nd (E.at k).place e1 [(q4,41,(cG 2 aH aH).toArray),(q,41,aB.toArray)] ((((((w4.setCell ⟨q4,8,none⟩ (.int .i64 0)).setCell ⟨q4,9,none⟩ (.int .i64 0)).setCell ⟨q4,10,none⟩ (.int .i64 0)).setCell ⟨q4,11,none⟩ (.int .i64 0)).setCell ⟨q4,12,none⟩ (.bool false)).setCell ⟨q4,13,none⟩ (.bool false))):=zh ((((((HS4.out.put hE 0 rfl 8 _).put hE 0 rfl 9 _).put hE 0 rfl 10 _).put hE 0 rfl 11 _).put hE 0 rfl 12 _).put hE 0 rfl 13 _);clear HS4;dsimp only[iU]
  go_upto_region 5 with fail
  generalize World.setCell _ _ _=wb at HS5 ⊢;have HT:=zh (HS5.out.there 1 rfl 22 rfl);have HSz:=zh (HS5.out.fill hE 1 rfl aB rfl)
  go_wp2_with (first |(refine wpList_store_mid rfl 41 (.tmp 2) (.tmp 17) rfl q 0 aB.toArray rfl rfl HT.out aE aT ?_;change wpList _ _ _ _ _ (World.setCells _ q 0 aB);generalize World.setCells _ _ _ _=wz at HSz ⊢))
  have HA:=zh (HSz.out.li 1 rfl);refine bodyPost_ret (aK rfl rfl HA.out rfl) rfl ?_;rw[HO1.out];exact cK HSz.out rfl aT (by omega) (by omega) (by have:=HF.out.2;omega)
 | ok a=>
  have HO1:Hid ((if isS (E.at (k+1)) [58] then match cV E.ax (decide (a.row≠id0)) (decide (a.col≠id0)) (E.L.drop (k+2)) with
    | .error e=>fD e (E.L.drop (k+2))
    | .ok b=>.ok (iL 2 a b) (E.L.drop (k+3)) (nd+1)
   else fD 6 (E.L.drop (k+1)))=O):=zh (by rw[← HO.out,hR])
  have hk1:=E.more he hk (uE hR);rintro e w4 ⟨rfl,h1,h2⟩;have HS4:=zh (HS3.out.step h1 h2);clear h1 h2 HS3 hR HO;obtain⟨⟨xa,xn⟩,⟨ya,yn⟩,mfr,mfc⟩:=a;dsimp only[iU]at HO1 ⊢;generalize hrow:decide ((⟨xa,xn⟩:IdR)≠id0)=row at HO1;generalize hcol:decide ((⟨ya,yn⟩:IdR)≠id0)=col at HO1;have HN1:∀ W,(binOp .neq 34 (.agg #[.int .i64 xa,.int .i64 xn]) (.agg #[.int .i64 0,.int .i64 0])).run Tryz.prog W=.ok (.bool row) W:=fun W=>by have:=HNE.out ⟨xa,xn⟩ id0 W;rw[hrow]at this;exact this
  have HN2:∀ W,(binOp .neq 34 (.agg #[.int .i64 ya,.int .i64 yn]) (.agg #[.int .i64 0,.int .i64 0])).run Tryz.prog W=.ok (.bool col) W:=fun W=>by have:=HNE.out ⟨ya,yn⟩ id0 W;rw[hcol]at this;exact this
  replace HN1:=zh HN1;replace HN2:=zh HN2;clear hrow hcol HNE;have HS5:Hid (Fs E w (k+1) op nd pl er [(q4,41,(cG 2 ⟨⟨xa,xn⟩,⟨ya,yn⟩,mfr,mfc⟩ aH).toArray),(q,41,aB.toArray)] ((((((w4.setCell ⟨q4,8,none⟩ (.int .i64 xa)).setCell ⟨q4,9,none⟩ (.int .i64 xn)).setCell ⟨q4,10,none⟩ (.int .i64 ya)).setCell ⟨q4,11,none⟩ (.int .i64 yn)).setCell ⟨q4,12,none⟩ (.bool mfr)).setCell ⟨q4,13,none⟩ (.bool mfc))):=zh ((((((HS4.out.put hE 0 rfl 8 _).put hE 0 rfl 9 _).put hE 0 rfl 10 _).put hE 0 rfl 11 _).put hE 0 rfl 12 _).put hE 0 rfl 13 _);have x8:=(HS4.out.li 0 rfl).cell 8;have xf8:=(HS4.out.li 0 rfl).frozen 8;have x9:=(HS4.out.li 0 rfl).cell 9;have xf9:=(HS4.out.li 0 rfl).frozen 9;have x10:=(HS4.out.li 0 rfl).cell 10;have xf10:=(HS4.out.li 0 rfl).frozen 10;have x11:=(HS4.out.li 0 rfl).cell 11;have xf11:=(HS4.out.li 0 rfl).frozen 11;have x12:=(HS4.out.li 0 rfl).cell 12
  have xf12:=(HS4.out.li 0 rfl).frozen 12;have x13:=(HS4.out.li 0 rfl).cell 13;have xf13:=(HS4.out.li 0 rfl).frozen 13;simp only[List.getElem?_toArray,List.getElem?_cons_zero,List.getElem?_cons_succ]at x8 x9 x10 x11 x12 x13;clear HS4
  go_upto_region 6 with fail
  generalize World.setCell _ _ _=W5 at HS5 ⊢;clear x8 x9 x10 x11 x12 x13 xf8 xf9 xf10 xf11 xf12 xf13;by_cases b1:isS (E.at (k+1)) [58]=true
  ·rw[if_pos b1]at HO1;have hk2:=E.more he hk1 (dY b1);have CT1:=zh (CTy.out (k+1) pl er _ HS5.out.ine hk1 b1)
   go_wp2_with fail
   refine CT1.out.mono ?_;rintro e w6 ⟨rfl,h1,h2⟩;have HS6:=zh (HS5.out.step h1 h2.X);have hq64:w6.heap.size≠q4:=fun e=>by have:=HS6.out.lt 0 rfl;omega
   clear h1 h2 HS5 CT1;have hb7:Below w6.heap.size w6 (w6.alloc (.cells #[.int .i64 0,.int .i64 0] 34)):=(Below.refl _ _).alloc (Nat.le_refl _) _;have HQ6:=zh (HS6.out.ine.fresh (Nat.le_refl _)).nx;have HS7:=zh (HS6.out.next hb7);have HI7:=zh (Lies.new w6 34 #[.int .i64 0,.int .i64 0]);clear hb7 HS6
   go_upto_region 9 with fail
   generalize World.alloc _ _=W7 at HS7 HI7 ⊢;generalize w6.heap.size=q6 at HI7 HQ6 hq64 ⊢;have x8:=(HS7.out.li 0 rfl).cell 8;have x9:=(HS7.out.li 0 rfl).cell 9;have x10:=(HS7.out.li 0 rfl).cell 10;have x11:=(HS7.out.li 0 rfl).cell 11;simp only[List.getElem?_toArray,List.getElem?_cons_zero,List.getElem?_cons_succ]at x8 x9 x10 x11;have i0:=HI7.out.cell 0;have i1:=HI7.out.cell 1;simp only[List.getElem?_toArray,List.getElem?_cons_zero,List.getElem?_cons_succ]at i0 i1;have HSD:Hid (W7.drew.cell? ⟨q4,8,none⟩=some (.int .i64 xa)∧W7.drew.cell? ⟨q4,9,none⟩=some (.int .i64 xn)∧W7.drew.cell? ⟨q4,10,none⟩=some (.int .i64 ya)∧W7.drew.cell? ⟨q4,11,none⟩=some (.int .i64 yn)∧W7.drew.cell? ⟨q6,0,none⟩=some (.int .i64 0)∧W7.drew.cell? ⟨q6,1,none⟩=some (.int .i64 0)):=zh ⟨x8,x9,x10,x11,i0,i1⟩;clear x8 x9 x10 x11 i0 i1;cases hR:cV E.ax row col (E.L.drop (k+2)) with
   | error e1=>
    have HO2:Hid (O=.bad e1 (E.at (k+2)).place):=zh (by rw[← HO1.out,hR];rfl);have CC1:=zh (CC.out row col (k+2) pl er W7.drew (HS7.out.next (Below.refl _ _).drew).ine hk2);rw[hR]at CC1;clear hR HO1
    go_cut [5] (fun v wx=>v=.bool false∧Hid (Fs E w (k+2) op nd (E.at (k+2)).place e1 [(q4,41,(cG 2 ⟨⟨xa,xn⟩,⟨ya,yn⟩,mfr,mfc⟩ aH).toArray),(q,41,aB.toArray)] wx))
    case first=>
     obtain⟨x8,x9,x10,x11,i0,i1⟩:=HSD.out;have hn1:=HN1.out;have hn2:=HN2.out;have HCB:Hid (Calls Tryz.prog 124 #[.pointer (some ⟨E.r,0,none⟩),.bool row,.bool col] W7.drew fun e w1=>e=.returned (.tuple #[.agg #[.int .i64 0,.int .i64 0,.int .i64 0,.int .i64 0,.bool false,.bool false],.bool false])∧Fs E w (k+2) op nd (E.at (k+2)).place e1 [(q4,41,(cG 2 ⟨⟨xa,xn⟩,⟨ya,yn⟩,mfr,mfc⟩ aH).toArray),(q,41,aB.toArray)] w1):=zh (CC1.out.mono (fun e w1 h=>⟨h.1,(HS7.out.next (Below.refl _ _).drew).step h.2.1 h.2.2⟩))
     obtain⟨TT,hTT⟩:∃ TT:List (Nat×Nat×Value),TT=[(0,24,.pointer (some ⟨E.r,0,none⟩)),(1,25,.pointer (some ⟨q4,8,none⟩)),(2,26,.pointer (some ⟨q4,8,none⟩)),(3,27,.pointer (some ⟨q4,8,none⟩)),(4,28,.agg #[.int .i64 xa,.int .i64 xn]),(5,29,.agg #[.int .i64 0,.int .i64 0]),(6,30,.bool row),(7,31,.pointer (some ⟨q4,8,none⟩)),(8,32,.pointer (some ⟨q4,8,none⟩)),(9,33,.pointer (some ⟨q4,10,none⟩)),(10,34,.agg #[.int .i64 ya,.int .i64 yn]),(11,35,.agg #[.int .i64 0,.int .i64 0]),(12,36,.bool col),(13,37,.tuple #[.agg #[.int .i64 0,.int .i64 0,.int .i64 0,.int .i64 0,.bool false,.bool false],.bool false]),(14,23,.tuple #[.agg #[.int .i64 0,.int .i64 0,.int .i64 0,.int .i64 0,.bool false,.bool false],.bool false]),(15,38,.agg #[.int .i64 0,.int .i64 0,.int .i64 0,.int .i64 0,.bool false,.bool false]),(16,39,.bool false),(17,40,.pointer (some ⟨q4,8,none⟩)),(18,41,.pointer (some ⟨q4,14,none⟩)),(20,5,.bool false)]:=⟨_,rfl⟩
     have HTT:=zh hTT;clear hTT;refine pX (fun a0=>48≤a0.tmps.size∧a0.eval (.tmp 0)=.pointer (some ⟨E.r,0,none⟩)∧a0.eval (.tmp 4)=.pointer (some ⟨q4,0,none⟩)∧a0.eval (.tmp 6)=.pointer (some ⟨q6,0,none⟩)) [24,25,26,27,28,29,30,31,32,33,34,35,36,37,23,38,39,40,41,5] TT W7.drew (fun w'=>Fs E w (k+2) op nd (E.at (k+2)).place e1 [(q4,41,(cG 2 ⟨⟨xa,xn⟩,⟨ya,yn⟩,mfr,mfc⟩ aH).toArray),(q,41,aB.toArray)] w') (fun w'=>Fs E w (k+2) op nd (E.at (k+2)).place e1 [(q4,41,(cG 2 ⟨⟨xa,xn⟩,⟨ya,yn⟩,mfr,mfc⟩ aH).toArray),(q,41,aB.toArray)] w') 13 19 (by kernel_rfl) (by kernel_rfl) ⟨by simp,rfl,rfl,rfl⟩ rfl ?_ ?_
     ·rintro a0 ⟨hs,hq0,hq4,hq6⟩ zl a1 w1 j o hsz hI hun ho zd;have hTT:=HTT.out;subst hTT
      have hk:okC (([(0,24,.pointer (some ⟨E.r,0,none⟩)),(1,25,.pointer (some ⟨q4,8,none⟩)),(2,26,.pointer (some ⟨q4,8,none⟩)),(3,27,.pointer (some ⟨q4,8,none⟩)),(4,28,.agg #[.int .i64 xa,.int .i64 xn]),(5,29,.agg #[.int .i64 0,.int .i64 0]),(6,30,.bool row),(7,31,.pointer (some ⟨q4,8,none⟩)),(8,32,.pointer (some ⟨q4,8,none⟩)),(9,33,.pointer (some ⟨q4,10,none⟩)),(10,34,.agg #[.int .i64 ya,.int .i64 yn]),(11,35,.agg #[.int .i64 0,.int .i64 0]),(12,36,.bool col),(13,37,.tuple #[.agg #[.int .i64 0,.int .i64 0,.int .i64 0,.int .i64 0,.bool false,.bool false],.bool false]),(14,23,.tuple #[.agg #[.int .i64 0,.int .i64 0,.int .i64 0,.int .i64 0,.bool false,.bool false],.bool false]),(15,38,.agg #[.int .i64 0,.int .i64 0,.int .i64 0,.int .i64 0,.bool false,.bool false]),(16,39,.bool false),(17,40,.pointer (some ⟨q4,8,none⟩)),(18,41,.pointer (some ⟨q4,14,none⟩)),(20,5,.bool false)]:List (Nat×Nat×Value)).map fun e=>(e.1,e.2.1)) [24,25,26,27,28,29,30,31,32,33,34,35,36,37,23,38,39,40,41,5] 19 48=true:=by rfl
      have hj:=Up.of_false hun;have hj12:j<21:=by rw[hsz]at hj;exact hj
      have e0x:a1.eval (.tmp 0)=.pointer (some ⟨E.r,0,none⟩):=(hI.off.eval (by decide)).trans hq0;have e4x:a1.eval (.tmp 4)=.pointer (some ⟨q4,0,none⟩):=(hI.off.eval (by decide)).trans hq4;have e6x:a1.eval (.tmp 6)=.pointer (some ⟨q6,0,none⟩):=(hI.off.eval (by decide)).trans hq6;rcases(by omega:j=0∨j=1∨j=2∨j=3∨j=4∨j=5∨j=6∨j=7∨j=8∨j=9∨j=10∨j=11∨j=12∨j=13∨j=14∨j=15∨j=16∨j=17∨j=18∨j=19∨j=20) with rfl | rfl | rfl | rfl | rfl | rfl | rfl | rfl | rfl | rfl | rfl | rfl | rfl | rfl | rfl | rfl | rfl | rfl | rfl | rfl | rfl
      ·obtain rfl:=oi ho;exact bR hk hI hs (.head _) (by decide) hun ho zd rfl rfl (by simp[execOp,go_sem,aA e0x])
      ·obtain rfl:=oi ho;exact bR hk hI hs (.tail _ (.head _)) (by decide) hun ho zd rfl rfl (by simp[execOp,go_sem,aA e4x])
      ·obtain rfl:=oi ho;have d1:=ud zd 1;have p1:=pk hI.pt 1 rfl d1;exact bR hk hI hs (mm 2 rfl) (by decide) hun ho zd rfl rfl (by simp[execOp,go_sem,aA p1])
      ·obtain rfl:=oi ho;have d2:=ud zd 2;have p2:=pk hI.pt 2 rfl d2;exact bR hk hI hs (mm 3 rfl) (by decide) hun ho zd rfl rfl (by simp[execOp,go_sem,aA p2])
      ·obtain rfl:=oi ho;have d3:=ud zd 3;have p3:=pk hI.pt 3 rfl d3;have hwX:=hI.fresh hun (by kernel_rfl);subst hwX;exact bR hk hI hs (mm 4 rfl) (by decide) hun ho zd rfl rfl (by simp[execOp,go_sem,aA p3,x8,x9])
      ·obtain rfl:=oi ho;have hwX:=hI.fresh hun (by kernel_rfl);subst hwX;exact bR hk hI hs (mm 5 rfl) (by decide) hun ho zd rfl rfl (by simp[execOp,go_sem,aA e6x,i0,i1])
      ·obtain rfl:=oi ho;have d4:=ud zd 4;have p4:=pk hI.pt 4 rfl d4;have d5:=ud zd 5;have p5:=pk hI.pt 5 rfl d5;exact bR hk hI hs (mm 6 rfl) (by decide) hun ho zd rfl rfl (by simp[execOp,go_sem,aA p4,aA p5,hn1])
      ·obtain rfl:=oi ho;exact bR hk hI hs (mm 7 rfl) (by decide) hun ho zd rfl rfl (by simp[execOp,go_sem,aA e4x])
      ·obtain rfl:=oi ho;have d7:=ud zd 7;have p7:=pk hI.pt 7 rfl d7;exact bR hk hI hs (mm 8 rfl) (by decide) hun ho zd rfl rfl (by simp[execOp,go_sem,aA p7])
      ·obtain rfl:=oi ho;have d8:=ud zd 8;have p8:=pk hI.pt 8 rfl d8;exact bR hk hI hs (mm 9 rfl) (by decide) hun ho zd rfl rfl (by simp[execOp,go_sem,aA p8])
      ·obtain rfl:=oi ho;have d9:=ud zd 9;have p9:=pk hI.pt 9 rfl d9;have hwX:=hI.fresh hun (by kernel_rfl);subst hwX;exact bR hk hI hs (mm 10 rfl) (by decide) hun ho zd rfl rfl (by simp[execOp,go_sem,aA p9,x10,x11])
      ·obtain rfl:=oi ho;have hwX:=hI.fresh hun (by kernel_rfl);subst hwX;exact bR hk hI hs (mm 11 rfl) (by decide) hun ho zd rfl rfl (by simp[execOp,go_sem,aA e6x,i0,i1])
      ·obtain rfl:=oi ho;have d10:=ud zd 10;have p10:=pk hI.pt 10 rfl d10;have d11:=ud zd 11;have p11:=pk hI.pt 11 rfl d11;exact bR hk hI hs (mm 12 rfl) (by decide) hun ho zd rfl rfl (by simp[execOp,go_sem,aA p10,aA p11,hn2])
      ·obtain rfl:=oi ho;have d0:=ud zd 0;have p0:=pk hI.pt 0 rfl d0;have d6:=ud zd 6;have p6:=pk hI.pt 6 rfl d6;have d12:=ud zd 12;have p12:=pk hI.pt 12 rfl d12;exact uFC hk hI hs (mm 13 rfl) hun ho zd rfl rfl 124 #[.pointer (some ⟨E.r,0,none⟩),.bool row,.bool col] (by simp[go_sem,aA p0,aA p6,aA p12]) (HCB.out)
      ·obtain rfl:=oi ho;have d13:=ud zd 13;have p13:=pk hI.pt 13 rfl d13;exact bR hk hI hs (mm 14 rfl) (by decide) hun ho zd rfl rfl (by simp[execOp,go_sem,aA p13])
      ·obtain rfl:=oi ho;have d14:=ud zd 14;have p14:=pk hI.pt 14 rfl d14;exact bR hk hI hs (mm 15 rfl) (by decide) hun ho zd rfl rfl (by simp[execOp,go_sem,aA p14])
      ·obtain rfl:=oi ho;have d14:=ud zd 14;have p14:=pk hI.pt 14 rfl d14;exact bR hk hI hs (mm 16 rfl) (by decide) hun ho zd rfl rfl (by simp[execOp,go_sem,aA p14])
      ·obtain rfl:=oi ho;exact bR hk hI hs (mm 17 rfl) (by decide) hun ho zd rfl rfl (by simp[execOp,go_sem,aA e4x])
      ·obtain rfl:=oi ho;have d17:=ud zd 17;have p17:=pk hI.pt 17 rfl d17;exact bR hk hI hs (mm 18 rfl) (by decide) hun ho zd rfl rfl (by simp[execOp,go_sem,aA p17])
      ·obtain rfl:=oi ho;have d18:=ud zd 18;have p18:=pk hI.pt 18 rfl d18;have d15:=ud zd 15;have p15:=pk hI.pt 15 rfl d15;exact zL hk hI (by decide) hun ho zd rfl rfl (zd ⟨13,.chain⟩ (by simp) rfl) ((((((w1.setCell ⟨q4,14,none⟩ (.int .i64 0)).setCell ⟨q4,15,none⟩ (.int .i64 0)).setCell ⟨q4,16,none⟩ (.int .i64 0)).setCell ⟨q4,17,none⟩ (.int .i64 0)).setCell ⟨q4,18,none⟩ (.bool false)).setCell ⟨q4,19,none⟩ (.bool false)) (fun hR=>by
        have hR':=zh hR;have y14:=(hR'.out.li 0 rfl).cell 14;have yf14:=(hR'.out.li 0 rfl).frozen 14;have y15:=(hR'.out.li 0 rfl).cell 15;have yf15:=(hR'.out.li 0 rfl).frozen 15;have y16:=(hR'.out.li 0 rfl).cell 16;have yf16:=(hR'.out.li 0 rfl).frozen 16;have y17:=(hR'.out.li 0 rfl).cell 17;have yf17:=(hR'.out.li 0 rfl).frozen 17;have y18:=(hR'.out.li 0 rfl).cell 18;have yf18:=(hR'.out.li 0 rfl).frozen 18;have y19:=(hR'.out.li 0 rfl).cell 19;have yf19:=(hR'.out.li 0 rfl).frozen 19;simp only[List.getElem?_toArray,List.getElem?_cons_zero,List.getElem?_cons_succ]at y14 y15 y16 y17 y18 y19;simp[execOp,go_sem,aA p18,aA p15,y14,yf14,y15,yf15,y16,yf16,y17,yf17,y18,yf18,y19,yf19]
        ) (fun hR=>(((((((zh hR).out.put hE 0 rfl 14 _).put hE 0 rfl 15 _).put hE 0 rfl 16 _).put hE 0 rfl 17 _).put hE 0 rfl 18 _).put hE 0 rfl 19 _))
      ·obtain rfl:=oi ho;have d16:=ud zd 16;have p16:=pk hI.pt 16 rfl d16;exact bR hk hI hs (mm 19 rfl) (by decide) hun ho zd rfl rfl (by simp[execOp,go_sem,aA p16])
     ·intro zl a1 w1 hI hup;have hTT:=HTT.out;subst hTT;have hF:=(hI.w2 (hup 19 (by decide))).2;have z5:a1.eval (.tmp 5)=.bool false:=hI.pt (20,5,.bool false) (mm 19 rfl) (hup 20 (by decide));obtain⟨ff,rfl,hf⟩:=hI.off.forms;rw[← hf 5]at z5;clear hI;simp only[List.foldl,Act.put,List.setIfInBounds_toArray,List.set];rw[z5];simp only[Exit.then]
      go_step
      go_meet
      exact⟨rfl,zh hF⟩
    case rest=>
     obtain⟨rfl,HS9⟩:=hcut;clear HS7 HI7 CC1 HSD HQ6
     go_upto_region 11 with fail
     have HT:=zh (HS9.out.there 1 rfl 22 rfl);have HSz:=zh (HS9.out.fill hE 1 rfl aB rfl)
     go_wp2_with (first |(refine wpList_store_mid rfl 41 (.tmp 2) (.tmp 44) rfl q 0 aB.toArray rfl rfl HT.out aE aT ?_;change wpList _ _ _ _ _ (World.setCells _ q 0 aB);generalize World.setCells _ _ _ _=wz at HSz ⊢))
     have HA:=zh (HSz.out.li 1 rfl);refine bodyPost_ret (aK rfl rfl HA.out rfl) rfl ?_;rw[HO2.out];exact cK HSz.out rfl aT (by omega) (by omega) (by have:=HF.out.2;omega)
   | ok b=>
    have HO2:Hid (O=.ok (iL 2 ⟨⟨xa,xn⟩,⟨ya,yn⟩,mfr,mfc⟩ b) (E.L.drop (k+3)) (nd+1)):=zh (by rw[← HO1.out,hR]);have hk3:=E.more he hk2 (uE hR);obtain⟨⟨ua,un⟩,⟨va,vn⟩,nfr,nfc⟩:=b;have CC1:=zh (CC.out row col (k+2) pl er W7.drew (HS7.out.next (Below.refl _ _).drew).ine hk2);rw[hR]at CC1;clear hR HO1
    go_cut [5] (fun v wx=>v=.bool true∧Hid (Fs E w (k+3) op nd pl er [(q4,41,(cG 2 ⟨⟨xa,xn⟩,⟨ya,yn⟩,mfr,mfc⟩ ⟨⟨ua,un⟩,⟨va,vn⟩,nfr,nfc⟩).toArray),(q,41,aB.toArray)] wx))
    case first=>
     obtain⟨x8,x9,x10,x11,i0,i1⟩:=HSD.out;have hn1:=HN1.out;have hn2:=HN2.out;have HCB:Hid (Calls Tryz.prog 124 #[.pointer (some ⟨E.r,0,none⟩),.bool row,.bool col] W7.drew fun e w1=>e=.returned (.tuple #[.agg #[.int .i64 ua,.int .i64 un,.int .i64 va,.int .i64 vn,.bool nfr,.bool nfc],.bool true])∧Fs E w (k+3) op nd pl er [(q4,41,(cG 2 ⟨⟨xa,xn⟩,⟨ya,yn⟩,mfr,mfc⟩ aH).toArray),(q,41,aB.toArray)] w1):=zh (CC1.out.mono (fun e w1 h=>⟨h.1,(HS7.out.next (Below.refl _ _).drew).step h.2.1 h.2.2⟩))
     obtain⟨TT,hTT⟩:∃ TT:List (Nat×Nat×Value),TT=[(0,24,.pointer (some ⟨E.r,0,none⟩)),(1,25,.pointer (some ⟨q4,8,none⟩)),(2,26,.pointer (some ⟨q4,8,none⟩)),(3,27,.pointer (some ⟨q4,8,none⟩)),(4,28,.agg #[.int .i64 xa,.int .i64 xn]),(5,29,.agg #[.int .i64 0,.int .i64 0]),(6,30,.bool row),(7,31,.pointer (some ⟨q4,8,none⟩)),(8,32,.pointer (some ⟨q4,8,none⟩)),(9,33,.pointer (some ⟨q4,10,none⟩)),(10,34,.agg #[.int .i64 ya,.int .i64 yn]),(11,35,.agg #[.int .i64 0,.int .i64 0]),(12,36,.bool col),(13,37,.tuple #[.agg #[.int .i64 ua,.int .i64 un,.int .i64 va,.int .i64 vn,.bool nfr,.bool nfc],.bool true]),(14,23,.tuple #[.agg #[.int .i64 ua,.int .i64 un,.int .i64 va,.int .i64 vn,.bool nfr,.bool nfc],.bool true]),(15,38,.agg #[.int .i64 ua,.int .i64 un,.int .i64 va,.int .i64 vn,.bool nfr,.bool nfc]),(16,39,.bool true),(17,40,.pointer (some ⟨q4,8,none⟩)),(18,41,.pointer (some ⟨q4,14,none⟩)),(20,5,.bool true)]:=⟨_,rfl⟩
     have HTT:=zh hTT;clear hTT;refine pX (fun a0=>48≤a0.tmps.size∧a0.eval (.tmp 0)=.pointer (some ⟨E.r,0,none⟩)∧a0.eval (.tmp 4)=.pointer (some ⟨q4,0,none⟩)∧a0.eval (.tmp 6)=.pointer (some ⟨q6,0,none⟩)) [24,25,26,27,28,29,30,31,32,33,34,35,36,37,23,38,39,40,41,5] TT W7.drew (fun w'=>Fs E w (k+3) op nd pl er [(q4,41,(cG 2 ⟨⟨xa,xn⟩,⟨ya,yn⟩,mfr,mfc⟩ aH).toArray),(q,41,aB.toArray)] w') (fun w'=>Fs E w (k+3) op nd pl er [(q4,41,(cG 2 ⟨⟨xa,xn⟩,⟨ya,yn⟩,mfr,mfc⟩ ⟨⟨ua,un⟩,⟨va,vn⟩,nfr,nfc⟩).toArray),(q,41,aB.toArray)] w') 13 19 (by kernel_rfl) (by kernel_rfl) ⟨by simp,rfl,rfl,rfl⟩ rfl ?_ ?_
     ·rintro a0 ⟨hs,hq0,hq4,hq6⟩ zl a1 w1 j o hsz hI hun ho zd;have hTT:=HTT.out;subst hTT
      have hk:okC (([(0,24,.pointer (some ⟨E.r,0,none⟩)),(1,25,.pointer (some ⟨q4,8,none⟩)),(2,26,.pointer (some ⟨q4,8,none⟩)),(3,27,.pointer (some ⟨q4,8,none⟩)),(4,28,.agg #[.int .i64 xa,.int .i64 xn]),(5,29,.agg #[.int .i64 0,.int .i64 0]),(6,30,.bool row),(7,31,.pointer (some ⟨q4,8,none⟩)),(8,32,.pointer (some ⟨q4,8,none⟩)),(9,33,.pointer (some ⟨q4,10,none⟩)),(10,34,.agg #[.int .i64 ya,.int .i64 yn]),(11,35,.agg #[.int .i64 0,.int .i64 0]),(12,36,.bool col),(13,37,.tuple #[.agg #[.int .i64 ua,.int .i64 un,.int .i64 va,.int .i64 vn,.bool nfr,.bool nfc],.bool true]),(14,23,.tuple #[.agg #[.int .i64 ua,.int .i64 un,.int .i64 va,.int .i64 vn,.bool nfr,.bool nfc],.bool true]),(15,38,.agg #[.int .i64 ua,.int .i64 un,.int .i64 va,.int .i64 vn,.bool nfr,.bool nfc]),(16,39,.bool true),(17,40,.pointer (some ⟨q4,8,none⟩)),(18,41,.pointer (some ⟨q4,14,none⟩)),(20,5,.bool true)]:List (Nat×Nat×Value)).map fun e=>(e.1,e.2.1)) [24,25,26,27,28,29,30,31,32,33,34,35,36,37,23,38,39,40,41,5] 19 48=true:=by rfl
      have hj:=Up.of_false hun;have hj12:j<21:=by rw[hsz]at hj;exact hj
      have e0x:a1.eval (.tmp 0)=.pointer (some ⟨E.r,0,none⟩):=(hI.off.eval (by decide)).trans hq0;have e4x:a1.eval (.tmp 4)=.pointer (some ⟨q4,0,none⟩):=(hI.off.eval (by decide)).trans hq4;have e6x:a1.eval (.tmp 6)=.pointer (some ⟨q6,0,none⟩):=(hI.off.eval (by decide)).trans hq6;rcases(by omega:j=0∨j=1∨j=2∨j=3∨j=4∨j=5∨j=6∨j=7∨j=8∨j=9∨j=10∨j=11∨j=12∨j=13∨j=14∨j=15∨j=16∨j=17∨j=18∨j=19∨j=20) with rfl | rfl | rfl | rfl | rfl | rfl | rfl | rfl | rfl | rfl | rfl | rfl | rfl | rfl | rfl | rfl | rfl | rfl | rfl | rfl | rfl
      ·obtain rfl:=oi ho;exact bR hk hI hs (.head _) (by decide) hun ho zd rfl rfl (by simp[execOp,go_sem,aA e0x])
      ·obtain rfl:=oi ho;exact bR hk hI hs (.tail _ (.head _)) (by decide) hun ho zd rfl rfl (by simp[execOp,go_sem,aA e4x])
      ·obtain rfl:=oi ho;have d1:=ud zd 1;have p1:=pk hI.pt 1 rfl d1;exact bR hk hI hs (mm 2 rfl) (by decide) hun ho zd rfl rfl (by simp[execOp,go_sem,aA p1])
      ·obtain rfl:=oi ho;have d2:=ud zd 2;have p2:=pk hI.pt 2 rfl d2;exact bR hk hI hs (mm 3 rfl) (by decide) hun ho zd rfl rfl (by simp[execOp,go_sem,aA p2])
      ·obtain rfl:=oi ho;have d3:=ud zd 3;have p3:=pk hI.pt 3 rfl d3;have hwX:=hI.fresh hun (by kernel_rfl);subst hwX;exact bR hk hI hs (mm 4 rfl) (by decide) hun ho zd rfl rfl (by simp[execOp,go_sem,aA p3,x8,x9])
      ·obtain rfl:=oi ho;have hwX:=hI.fresh hun (by kernel_rfl);subst hwX;exact bR hk hI hs (mm 5 rfl) (by decide) hun ho zd rfl rfl (by simp[execOp,go_sem,aA e6x,i0,i1])
      ·obtain rfl:=oi ho;have d4:=ud zd 4;have p4:=pk hI.pt 4 rfl d4;have d5:=ud zd 5;have p5:=pk hI.pt 5 rfl d5;exact bR hk hI hs (mm 6 rfl) (by decide) hun ho zd rfl rfl (by simp[execOp,go_sem,aA p4,aA p5,hn1])
      ·obtain rfl:=oi ho;exact bR hk hI hs (mm 7 rfl) (by decide) hun ho zd rfl rfl (by simp[execOp,go_sem,aA e4x])
      ·obtain rfl:=oi ho;have d7:=ud zd 7;have p7:=pk hI.pt 7 rfl d7;exact bR hk hI hs (mm 8 rfl) (by decide) hun ho zd rfl rfl (by simp[execOp,go_sem,aA p7])
      ·obtain rfl:=oi ho;have d8:=ud zd 8;have p8:=pk hI.pt 8 rfl d8;exact bR hk hI hs (mm 9 rfl) (by decide) hun ho zd rfl rfl (by simp[execOp,go_sem,aA p8])
      ·obtain rfl:=oi ho;have d9:=ud zd 9;have p9:=pk hI.pt 9 rfl d9;have hwX:=hI.fresh hun (by kernel_rfl);subst hwX;exact bR hk hI hs (mm 10 rfl) (by decide) hun ho zd rfl rfl (by simp[execOp,go_sem,aA p9,x10,x11])
      ·obtain rfl:=oi ho;have hwX:=hI.fresh hun (by kernel_rfl);subst hwX;exact bR hk hI hs (mm 11 rfl) (by decide) hun ho zd rfl rfl (by simp[execOp,go_sem,aA e6x,i0,i1])
      ·obtain rfl:=oi ho;have d10:=ud zd 10;have p10:=pk hI.pt 10 rfl d10;have d11:=ud zd 11;have p11:=pk hI.pt 11 rfl d11;exact bR hk hI hs (mm 12 rfl) (by decide) hun ho zd rfl rfl (by simp[execOp,go_sem,aA p10,aA p11,hn2])
      ·obtain rfl:=oi ho;have d0:=ud zd 0;have p0:=pk hI.pt 0 rfl d0;have d6:=ud zd 6;have p6:=pk hI.pt 6 rfl d6;have d12:=ud zd 12;have p12:=pk hI.pt 12 rfl d12;exact uFC hk hI hs (mm 13 rfl) hun ho zd rfl rfl 124 #[.pointer (some ⟨E.r,0,none⟩),.bool row,.bool col] (by simp[go_sem,aA p0,aA p6,aA p12]) (HCB.out)
      ·obtain rfl:=oi ho;have d13:=ud zd 13;have p13:=pk hI.pt 13 rfl d13;exact bR hk hI hs (mm 14 rfl) (by decide) hun ho zd rfl rfl (by simp[execOp,go_sem,aA p13])
      ·obtain rfl:=oi ho;have d14:=ud zd 14;have p14:=pk hI.pt 14 rfl d14;exact bR hk hI hs (mm 15 rfl) (by decide) hun ho zd rfl rfl (by simp[execOp,go_sem,aA p14])
      ·obtain rfl:=oi ho;have d14:=ud zd 14;have p14:=pk hI.pt 14 rfl d14;exact bR hk hI hs (mm 16 rfl) (by decide) hun ho zd rfl rfl (by simp[execOp,go_sem,aA p14])
      ·obtain rfl:=oi ho;exact bR hk hI hs (mm 17 rfl) (by decide) hun ho zd rfl rfl (by simp[execOp,go_sem,aA e4x])
      ·obtain rfl:=oi ho;have d17:=ud zd 17;have p17:=pk hI.pt 17 rfl d17;exact bR hk hI hs (mm 18 rfl) (by decide) hun ho zd rfl rfl (by simp[execOp,go_sem,aA p17])
      ·obtain rfl:=oi ho;have d18:=ud zd 18;have p18:=pk hI.pt 18 rfl d18;have d15:=ud zd 15;have p15:=pk hI.pt 15 rfl d15;exact zL hk hI (by decide) hun ho zd rfl rfl (zd ⟨13,.chain⟩ (by simp) rfl) ((((((w1.setCell ⟨q4,14,none⟩ (.int .i64 ua)).setCell ⟨q4,15,none⟩ (.int .i64 un)).setCell ⟨q4,16,none⟩ (.int .i64 va)).setCell ⟨q4,17,none⟩ (.int .i64 vn)).setCell ⟨q4,18,none⟩ (.bool nfr)).setCell ⟨q4,19,none⟩ (.bool nfc)) (fun hR=>by
        have hR':=zh hR;have y14:=(hR'.out.li 0 rfl).cell 14;have yf14:=(hR'.out.li 0 rfl).frozen 14;have y15:=(hR'.out.li 0 rfl).cell 15;have yf15:=(hR'.out.li 0 rfl).frozen 15;have y16:=(hR'.out.li 0 rfl).cell 16;have yf16:=(hR'.out.li 0 rfl).frozen 16;have y17:=(hR'.out.li 0 rfl).cell 17;have yf17:=(hR'.out.li 0 rfl).frozen 17;have y18:=(hR'.out.li 0 rfl).cell 18;have yf18:=(hR'.out.li 0 rfl).frozen 18;have y19:=(hR'.out.li 0 rfl).cell 19;have yf19:=(hR'.out.li 0 rfl).frozen 19;simp only[List.getElem?_toArray,List.getElem?_cons_zero,List.getElem?_cons_succ]at y14 y15 y16 y17 y18 y19;simp[execOp,go_sem,aA p18,aA p15,y14,yf14,y15,yf15,y16,yf16,y17,yf17,y18,yf18,y19,yf19]
        ) (fun hR=>(((((((zh hR).out.put hE 0 rfl 14 _).put hE 0 rfl 15 _).put hE 0 rfl 16 _).put hE 0 rfl 17 _).put hE 0 rfl 18 _).put hE 0 rfl 19 _))
      ·obtain rfl:=oi ho;have d16:=ud zd 16;have p16:=pk hI.pt 16 rfl d16;exact bR hk hI hs (mm 19 rfl) (by decide) hun ho zd rfl rfl (by simp[execOp,go_sem,aA p16])
     ·intro zl a1 w1 hI hup;have hTT:=HTT.out;subst hTT;have hF:=(hI.w2 (hup 19 (by decide))).2;have z5:a1.eval (.tmp 5)=.bool true:=hI.pt (20,5,.bool true) (mm 19 rfl) (hup 20 (by decide));obtain⟨ff,rfl,hf⟩:=hI.off.forms;rw[← hf 5]at z5;clear hI;simp only[List.foldl,Act.put,List.setIfInBounds_toArray,List.set];rw[z5];simp only[Exit.then]
      go_step
      go_meet
      exact⟨rfl,zh hF⟩
    case rest=>
     obtain⟨rfl,HS9⟩:=hcut;clear HS7 HI7 CC1 HSD HQ6
     go_upto_region 12 with fail
     have CN1:=zh (CN.out (k+3) pl er (cG 2 ⟨⟨xa,xn⟩,⟨ya,yn⟩,mfr,mfc⟩ ⟨⟨ua,un⟩,⟨va,vn⟩,nfr,nfc⟩) rfl (dO 2 ⟨⟨xa,xn⟩,⟨ya,yn⟩,mfr,mfc⟩ ⟨⟨ua,un⟩,⟨va,vn⟩,nfr,nfc⟩) _ HS9.out.ine);obtain⟨C,hC,hC22,hC1,hCk⟩:=eT (nd+1) (cG 2 ⟨⟨xa,xn⟩,⟨ya,yn⟩,mfr,mfc⟩ ⟨⟨ua,un⟩,⟨va,vn⟩,nfr,nfc⟩) rfl (dO 2 ⟨⟨xa,xn⟩,⟨ya,yn⟩,mfr,mfc⟩ ⟨⟨ua,un⟩,⟨va,vn⟩,nfr,nfc⟩);rw[hC]at CN1;have yC:=zh hC22;have HC1:=zh hC1;have HCk:=zh hCk;have HRg:=zh (HS9.out.range 0 (l:=cG 2 ⟨⟨xa,xn⟩,⟨ya,yn⟩,mfr,mfc⟩ ⟨⟨ua,un⟩,⟨va,vn⟩,nfr,nfc⟩) rfl);clear hC hC22 hC1 hCk
     go_wp2_with (first |(refine wpList_load_mid rfl 41 (.tmp 4) rfl q4 0 rfl (cG 2 ⟨⟨xa,xn⟩,⟨ya,yn⟩,mfr,mfc⟩ ⟨⟨ua,un⟩,⟨va,vn⟩,nfr,nfc⟩) _ HRg.out Tryz.underlying41 rfl aE ?_))
     refine CN1.out.mono ?_;rintro e wn ⟨rfl,hn1,hn2⟩;have HSn:=zh (HS9.out.step hn1 hn2.X);clear hn1 hn2 CN1 HRg HS9;have HT:=zh (HSn.out.there 1 rfl C.toArray.size (by rw[List.size_toArray,yC.out];rfl));have HSz:=zh (HSn.out.fill hE 1 rfl C (by rw[yC.out];rfl));have zi:=hfN yC.out
     go_wp2_with (first |(refine wpList_store_mid rfl 41 (.tmp 2) (.tmp 47) rfl q 0 C.toArray rfl rfl HT.out zi HC1.out ?_;change wpList _ _ _ _ _ (World.setCells _ q 0 C);generalize World.setCells _ _ _ _=wz at HSz ⊢))
     have HA:=zh (HSz.out.li 1 rfl);refine bodyPost_ret (aK rfl rfl HA.out (by rw[List.size_toArray,yC.out])) rfl ?_;rw[HO2.out];exact iO (h:=⟨2,aF,[],⟨⟨xa,xn⟩,⟨ya,yn⟩,mfr,mfc⟩,⟨⟨ua,un⟩,⟨va,vn⟩,nfr,nfc⟩,0⟩) HSz.out yC.out HC1.out (fun hn=>by rw[HCk.out hn];rfl) (by omega) (by omega) (by have:=HF.out.2;omega) (by omega) rfl
  ·have b1':isS (E.at (k+1)) [58]=false:=by simpa using b1
   rw[if_neg b1]at HO1;have HO2:Hid (O=.bad 6 (E.at (k+1)).place):=zh HO1.out.symm;have CT1:=zh (CTn.out (k+1) pl er _ HS5.out.ine hk1 b1')
   go_wp2_with fail
   refine CT1.out.mono ?_;rintro e w6 ⟨rfl,h1,h2⟩;have HS6:=zh (HS5.out.step h1 h2.X);clear h1 h2 HS5 CT1 HO1;have HT:=zh (HS6.out.there 1 rfl 22 rfl);have HSz:=zh (HS6.out.fill hE 1 rfl aB rfl)
   go_wp2_with (first |(refine wpList_store_mid rfl 41 (.tmp 2) (.tmp 21) rfl q 0 aB.toArray rfl rfl HT.out aE aT ?_;change wpList _ _ _ _ _ (World.setCells _ q 0 aB);generalize World.setCells _ _ _ _=wz at HSz ⊢))
   have HA:=zh (HSz.out.li 1 rfl);refine bodyPost_ret (aK rfl rfl HA.out rfl) rfl ?_;rw[HO2.out];exact cK HSz.out rfl aT (by omega) (by omega) (by have:=HF.out.2;omega)
theorem uGD(p:UInt8→Bool)(h:(List.range 256).all (fun n=>p (UInt8.ofNat n))=true)(c:UInt8):p c=true:=by
 have:=List.all_eq_true.1 h c.toNat (List.mem_range.2 c.toNat_lt)
 rwa [UInt8.ofNat_toNat]at this
theorem gJ(c:UInt8):aC (up c)=aC c:=by
 have:=uGD (fun c=>aC (up c)==aC c) (by decide +kernel) c;simpa using this
theorem kH(c:UInt8):aI (up c)=aI c:=by
 have:=uGD (fun c=>aI (up c)==aI c) (by decide +kernel) c;simpa using this
theorem fo_e(c:UInt8):(up c=101∨up c=69)↔(c=101∨c=69):=by
 have:=uGD (fun c=>(up c==101||up c==69)==(c==101||c==69)) (by decide +kernel) c;have h2:(up c==101||up c==69)=(c==101||c==69):=by simpa using this
 have h3:((up c==101||up c==69)=true)↔((c==101||c==69)=true):=by rw[h2]
 simpa using h3
theorem fo_up(c:UInt8):up (up c)=up c:=by
 have:=uGD (fun c=>up (up c)==up c) (by decide +kernel) c;simpa using this
theorem fo_dig_id(c:UInt8)(h:aC c=true):up c=c:=by
 refine mZ c ?_;unfold aC at h;unfold gM;simp at h ⊢;omega
theorem zH(c d:UInt8)(hd:aI d=false):(up c==d)=(c==d):=by
 cases hl:gM c
 ·rw[mZ c hl]
 ·have e1:(up c==d)=false:=by
   rw[beq_eq_false_iff_ne];intro e;rw[← e,kH]at hd;unfold aI at hd;unfold gM at hl;rw[hl]at hd;cases hd
  have e2:(c==d)=false:=by
   rw[beq_eq_false_iff_ne];intro e;rw[← e]at hd;unfold aI at hd;unfold gM at hl;rw[hl]at hd;cases hd
  rw[e1,e2]
theorem xK(l:Bs):aG (aG l)=aG l:=by
 unfold aG;rw[List.map_map]
 congr 1
 funext c
 exact fo_up c
theorem iY(l:Bs)(k:Nat)(d:UInt8)(hd:aI d=false):aP (aG l) k d=aP l k d:=by
 unfold aP aG;rw[List.getElem?_map];cases l[k]? with
 | none=>rfl
 | some c=>
  show (some (up c)==some d)=(some c==some d);have:=zH c d hd;simpa using this
theorem kC(p:UInt8→Bool)(hp:∀ c,p (up c)=p c)(l:Bs):aM p (aG l)=aM p l:=by
 unfold aG
 induction l with
 | nil=>rfl
 | cons c l ih=>simp only[List.map_cons,aM,hp,ih]
theorem gK(l:Bs)(k:Nat):(aG l).drop k=aG (l.drop k):=by unfold aG;rw[List.map_drop]
theorem nA(l:Bs)(k:Nat):(aG l).take k=aG (l.take k):=by unfold aG;rw[List.map_take]
theorem uCO(l:Bs)(h:∀ c∈l,aC c=true):aG l=l:=by
 refine tS l (fun c hc=>?_);have:=h c hc;unfold aC at this;unfold gM;simp at this ⊢;omega
theorem uFS(p:UInt8→Bool)(l:Bs)(k:Nat)(hk:k≤aM p l):∀ c∈l.take k,p c=true:=by
 intro c hc;obtain⟨j,hj,rfl⟩:=List.getElem_of_mem hc;rw[List.getElem_take];have:=List.length_take_le' k l;have:=List.length_take_le k l;exact rV p l j (by omega) (by omega)
theorem zJ(l:Bs)(k:Nat)(hk:k≤aM aC l):(aG l).take k=l.take k:=by
 rw[nA];exact uCO _ (uFS aC l k hk)
theorem fo_pow(l:Bs):kR (aG l)=kR l:=by
 cases l with
 | nil=>rfl
 | cons c l=>
  show kR (up c::aG l)=_;unfold kR;dsimp only;rw[iY l 0 43 (by decide),iY l 0 45 (by decide)];simp only[fo_e]
  split
  ·generalize (if (aP l 0 43||aP l 0 45)=true then 1 else 0)=i;rw[gK,kC aC gJ,cR];by_cases h:aM aC (l.drop i)=0∨i+aM aC (l.drop i)≠l.length
   ·rw[if_pos h,if_pos h]
   ·rw[if_neg h,if_neg h];have hl:aM aC (l.drop i)=(l.drop i).length:=by
     rw[List.length_drop];rcases Nat.lt_or_ge (aM aC (l.drop i)) 1 with h1 | h1
     ·exact absurd (.inl (by omega)) h
     ·by_cases h2:i+aM aC (l.drop i)=l.length
      ·omega
      ·exact absurd (.inr h2) h
    rw[uCO (l.drop i) (fun c hc=>uFS aC (l.drop i) _ (Nat.le_of_eq hl.symm) c (by rw[List.take_length];exact hc))]
  ·rfl
theorem fo_numT(l:Bs):nP (aG l)=nP l:=by
 unfold nP;rw[iY l 0 45 (by decide)];dsimp only;generalize (if aP l 0 45=true then 1 else 0)=i;rw[gK,kC aC gJ,iY l _ 46 (by decide),gK,kC aC gJ,gK,fo_pow,gK,fo_pow];rw[zJ (l.drop i) _ (Nat.le_refl _),zJ (l.drop (i+aM aC (l.drop i)+1)) _ (Nat.le_refl _)]
theorem zI(l:Bs):eE (aG l)=eE l:=by
 rw[uA,uA];unfold yE;rw[cR,fo_numT]
theorem vE{a b:Bs}(h:aG a=aG b):eE a=eE b:=by rw[← zI a,← zI b,h]
theorem iZ(l:Bs)(d:UInt8)(hd:aI d=false):Lib.hasPrefix (aG l) [d]=Lib.hasPrefix l [d]:=by
 rw[lN,lN,iY l 0 d hd]
theorem kI(l:Bs)(d:UInt8)(hd:aI d=false):Lib.trimPrefix (aG l) [d]=aG (Lib.trimPrefix l [d]):=by
 rw[nS,nS,iY l 0 d hd]
 split
 ·exact gK l 1
 ·rfl
theorem zF:∀ k,aG (cX k)=cX k:=by
 intro k
 match k with
 | 0=>decide
 | 1=>decide
 | 2=>decide
 | 3=>decide
 | 4=>decide
 | 5=>decide
 | 6=>decide
 | 7=>decide
 | 8=>decide
 | 9=>decide
 | k+10=>rfl
theorem sX(l:Bs):aG (bZ l)=bZ l:=by
 unfold bZ;cases kE l with
 | none=>rfl
 | some k=>exact zF k
theorem mD{a b:Bs}(h:aG a=aG b):bQ a=bQ b:=by
 have hl:a.length=b.length:=by have:=congrArg List.length h;rwa [cR,cR]at this
 have hall:∀ l:Bs,l.all aI=(aG l).all aI:=fun l=>by
  unfold aG;rw[List.all_map]
  congr 1
  funext c
  exact(kH c).symm
 unfold bQ;rw[hl,hall a,hall b,h]
theorem rZ(l:Bs):l.all aC=(aG l).all aC:=by
 unfold aG;rw[List.all_map]
 congr 1
 funext c
 exact(gJ c).symm
theorem fo_adNum(l:Bs):gA (aG l)=gA l:=by
 unfold gA;rw[cR,iY l 0 48 (by decide),← rZ]
 split
 ·rfl
 ·split
  ·rename_i h
   rw[uCO l (fun c hc=>List.all_eq_true.1 h c hc)]
  ·rfl
theorem uGZ(l:Bs):bQ (aG l)=bQ l:=mD (xK l)
theorem sW(l:Bs):bC (aG l)=bC l:=by
 unfold bC;dsimp only;rw[kI l 36 (by decide),iZ l 36 (by decide)];generalize Lib.trimPrefix l [36]=s;rw[kC aI kH,nA,uGZ,gK,kI _ 36 (by decide),fo_adNum,iZ _ 36 (by decide)]
theorem iD{a b:Bs}(h:aG a=aG b):bC a=bC b:=by rw[← sW a,← sW b,h]
theorem uF{a b:Bs}(h:aG a=aG b):Lib.hasPrefix a [36]=Lib.hasPrefix b [36]:=by rw[← iZ a 36 (by decide),← iZ b 36 (by decide),h]
theorem yH{a b:Bs}(h:aG a=aG b):aG (Lib.trimPrefix a [36])=aG (Lib.trimPrefix b [36]):=by rw[← kI a 36 (by decide),← kI b 36 (by decide),h]
theorem oU{a b:Bs}(h:aG a=aG b):aC (a.headD 0)=aC (b.headD 0):=by
 have:∀ l:Bs,aC (l.headD 0)=aC ((aG l).headD 0):=fun l=>by
  cases l with
  | nil=>rfl
  | cons c l=>exact(gJ c).symm
 rw[this a,this b,h]
def Stp(z:UInt8):Prop:=z=32∨z=41∨z=44
theorem Stp.dig{z:UInt8}(h:Stp z):aC z=false:=by rcases h with rfl | rfl | rfl <;> rfl
theorem Stp.wrd{z:UInt8}(h:Stp z):cC z=false:=by rcases h with rfl | rfl | rfl <;> rfl
theorem Stp.ne{z:UInt8}(h:Stp z){d:UInt8}(hd:d≠32)(hd2:d≠41)(hd3:d≠44):d≠z:=by rcases h with rfl | rfl | rfl <;> assumption
theorem Stp.up{z:UInt8}(h:Stp z):up z=z:=by rcases h with rfl | rfl | rfl <;> decide
theorem pM(p:UInt8→Bool)(l r:Bs){z:UInt8}(h:p z=false):aM p (l++z::r)=aM p l:=by
 induction l with
 | nil=>simp[aM,h]
 | cons c l ih=>simp only[List.cons_append,aM,ih]
theorem eW{z:UInt8}(l r:Bs)(k:Nat)(c:UInt8)(hc:c≠z)(hk:k≤l.length):aP (l++z::r) k c=aP l k c:=by
 unfold aP;rcases Nat.lt_or_ge k l.length with h | h
 ·rw[List.getElem?_append_left h]
 ·obtain rfl:k=l.length:=by omega
  rw[List.getElem?_append_right (Nat.le_refl _),Nat.sub_self,List.getElem?_cons_zero,List.getElem?_eq_none (Nat.le_refl _)];have:((some z:Option UInt8)==some c)=false:=by
   rw[beq_eq_false_iff_ne];intro e;injection e with e;exact hc e.symm
  rw[this];rfl
theorem kG{z:UInt8}(l r:Bs)(k:Nat)(hk:k≤l.length):(l++z::r).drop k=l.drop k++z::r:=List.drop_append_of_le_length hk
theorem lB{z:UInt8}(l r:Bs)(k:Nat)(hk:k≤l.length):(l++z::r).take k=l.take k:=List.take_append_of_le_length hk
theorem qS{z:UInt8}(l r:Bs)(hp:0<l.length):fB (l++z::r)=fB l:=by
 cases l with
 | nil=>simp at hp
 | cons c l=>rfl
section
variable {z:UInt8} (hz:Stp z)
include hz
theorem uHX(l r:Bs):fJ (l++z::r)=fJ l:=by
 unfold fJ;rw[pM aC l r hz.dig,eW l r _ 46 (hz.ne (by decide) (by decide) (by decide)) (bW _ _)];cases h:aP l (aM aC l) 46
 ·simp
 ·have:=at_lt _ _ _ h;rw[kG l r _ this,pM aC _ r hz.dig]
theorem rB(l r:Bs):cP (l++z::r)=cP l:=by
 unfold cP;rw[uHX hz];have hle:=tU l;generalize fJ l=b at *;unfold uAP;rw[eW l r b 101 (hz.ne (by decide) (by decide) (by decide)) hle,eW l r b 69 (hz.ne (by decide) (by decide) (by decide)) hle];by_cases h:b=0∨(aP l b 101=false∧aP l b 69=false)
 ·rw[if_pos h,if_pos h]
 ·rw[if_neg h,if_neg h];have hlt:b<l.length:=by
   rcases Nat.lt_or_ge b l.length with h1 | h1
   ·exact h1
   ·exact absurd (Or.inr ⟨iE _ _ _ h1,iE _ _ _ h1⟩) h
  have hp:jO (l++z::r) b=jO l b:=by
   unfold jO;rw[eW l r _ 43 (hz.ne (by decide) (by decide) (by decide)) hlt,eW l r _ 45 (hz.ne (by decide) (by decide) (by decide)) hlt]
  have hpl:=uFM l b hlt;rw[hp,kG l r _ hpl,pM aC _ r hz.dig]
theorem wK(l r:Bs):iC (l++z::r)=iC l:=by
 unfold iC;rw[pM cC l r hz.wrd,lB l r _ (bW _ _)]
theorem uHY(l r:Bs)(x:Bs×Nat)(h:bG l=some x):bG (l++z::r)=some x:=by
 have key:∀ n (l:Bs),l.length≤n→∀ x,bG l=some x→bG (l++z::r)=some x:=by
  intro n
  induction n with
  | zero=>intro l hl x hx;cases l with
   | nil=>simp[bG]at hx
   | cons c l=>simp at hl
  | succ n ih=>
   intro l hl x hx
   match l,hl,hx with
   | [],_,hx=>simp[bG]at hx
   | [c],_,hx=>
    simp only[bG]at hx
    split at hx
    ·rename_i e
     subst e;rw[← hx];exact kS (z::r) (by intro y h;injection h with h;exact hz.ne (d:=34) (by decide) (by decide) (by decide) h.symm)
    ·cases hx
   | c::d::l,hl,hx=>
    simp only[List.length_cons]at hl;by_cases hc:c=34
    ·subst hc;by_cases hd:d=34
     ·subst hd;rw[kT]at hx;rw[List.cons_append,List.cons_append,kT];cases hy:bG l with
      | none=>rw[hy]at hx;cases hx
      | some y=>rw[ih l (by omega) y hy,← hy,hx]
     ·rw[kS _ (by intro y h;injection h with h;exact hd h)]at hx;rw[List.cons_append,List.cons_append,kS _ (by intro y h;injection h with h;exact hd h),hx]
    ·rw[gG _ _ hc]at hx;rw[List.cons_append,gG _ _ hc];cases hy:bG (d::l) with
     | none=>rw[hy]at hx;cases hx
     | some y=>rw[ih (d::l) (by simp only[List.length_cons];omega) y hy,← hy,hx]
 exact key l.length l (Nat.le_refl _) x h
theorem yB(l:Bs)(h:bG l=none):bG (l++[z])=none:=by
 have h34:z≠34:=fun e=>hz.ne (d:=34) (by decide) (by decide) (by decide) e.symm
 have key:∀ n (l:Bs),l.length≤n→bG l=none→bG (l++[z])=none:=by
  intro n
  induction n with
  | zero=>
   intro l hl _;obtain rfl:l=[]:=List.eq_nil_of_length_eq_zero (by omega);simp[bG,h34]
  | succ n ih=>
   intro l hl hx
   match l,hl,hx with
   | [],_,_=>simp[bG,h34]
   | [c],_,hx=>
    have hc:c≠34:=by
     intro e;subst e;simp[bG]at hx
    rw[List.cons_append,gG _ _ hc];simp[bG,h34]
   | c::d::l,hl,hx=>
    simp only[List.length_cons]at hl;by_cases hc:c=34
    ·subst hc;by_cases hd:d=34
     ·subst hd;rw[kT]at hx;rw[List.cons_append,List.cons_append,kT];cases hy:bG l with
      | none=>rw[ih l (by omega) hy];rfl
      | some y=>rw[hy]at hx;cases hx
     ·rw[kS _ (by intro y h;injection h with h;exact hd h)]at hx;cases hx
    ·rw[gG _ _ hc]at hx;rw[List.cons_append,gG _ _ hc];cases hy:bG (d::l) with
     | none=>rw[ih (d::l) (by simp only[List.length_cons];omega) hy];rfl
     | some y=>rw[hy]at hx;cases hx
 exact key l.length l (Nat.le_refl _) h
theorem uCN:∀ k,z∉cX k:=by
 intro k;rcases hz with rfl | rfl | rfl
 all_goals
  match k with
  | 0=>decide
  | 1=>decide
  | 2=>decide
  | 3=>decide
  | 4=>decide
  | 5=>decide
  | 6=>decide
  | 7=>decide
  | 8=>decide
  | 9=>decide
  | k+10=>exact List.not_mem_nil
theorem xY(l r:Bs)(k:Nat):eM (l++z::r) k=eM l k:=by
 unfold eM;have hb:=uCN hz k;generalize cX k=t at *;by_cases h:t.length≤l.length
 ·rw[lB l r _ h];simp[h];omega
 ·have e2:decide (t.length≤l.length)=false:=decide_eq_false h;rw[e2,Bool.false_and];by_cases h3:t.length≤(l++z::r).length
  ·have e3:(aG ((l++z::r).take t.length)==t)=false:=by
    rw[beq_eq_false_iff_ne];intro e;apply hb;rw[← e];unfold aG;rw[List.mem_map];refine⟨z,?_,hz.up⟩;have e4:((l++z::r).take t.length)[l.length]?=some z:=by
     rw[List.getElem?_take_of_lt (by omega),List.getElem?_append_right (Nat.le_refl _),Nat.sub_self];rfl
    exact List.mem_of_getElem? e4
   rw[e3,Bool.and_false]
  ·rw[decide_eq_false h3,Bool.false_and]
theorem rA(l r:Bs):bZ (l++z::r)=bZ l:=by
 unfold bZ kE;rw[eW l r 0 35 (hz.ne (by decide) (by decide) (by decide)) (Nat.zero_le _),sU _ _ _ (xY hz l r)]
theorem wJ(l r:Bs)(hp:0<l.length):dZ (l++z::r)=dZ l:=by
 cases l with
 | nil=>simp at hp
 | cons c l=>
  cases l with
  | nil=>
   unfold dZ Lib.hasPrefix;rcases hz with rfl | rfl | rfl <;> simp[List.isPrefixOf]
  | cons d l=>rfl
theorem tW(l r:Bs)(hp:0<l.length)(h0:(aR l).2.2≠0):aR (l++z::r)=aR l:=by
 unfold aR at h0 ⊢;rw[rB hz,qS l r hp,eW l r 0 95 (hz.ne (by decide) (by decide) (by decide)) (Nat.zero_le _),eW l r 0 36 (hz.ne (by decide) (by decide) (by decide)) (Nat.zero_le _),eW l r 0 34 (hz.ne (by decide) (by decide) (by decide)) (Nat.zero_le _),wK hz,rA hz l r,wJ hz l r hp,
  lB l r _ (lR l),lB l r _ (pJ l hp)]
 by_cases h1:0<cP l
 ·rw[if_pos h1,if_pos h1]
 ·rw[if_neg h1]at h0 ⊢;rw[if_neg h1];by_cases h2:(fB l||aP l 0 95||aP l 0 36)=true
  ·rw[if_pos h2,if_pos h2]
  ·rw[if_neg h2]at h0 ⊢;rw[if_neg h2];by_cases h3:aP l 0 34=true
   ·rw[if_pos h3]at h0 ⊢;rw[if_pos h3];unfold eH at h0 ⊢;cases hx:bG (l.drop 1) with
    | none=>rw[hx]at h0;exact absurd rfl h0
    | some x=>
     rw[kG l r 1 hp,uHY hz _ r x hx]
   ·rw[if_neg h3,if_neg h3]
theorem vD(l:Bs)(hp:0<l.length)(h0:(aR l).2.2=0):(aR (l++[z])).2.2=0:=by
 unfold aR at h0 ⊢;rw[rB hz,qS l [] hp,eW l [] 0 95 (hz.ne (by decide) (by decide) (by decide)) (Nat.zero_le _),eW l [] 0 36 (hz.ne (by decide) (by decide) (by decide)) (Nat.zero_le _),eW l [] 0 34 (hz.ne (by decide) (by decide) (by decide)) (Nat.zero_le _),wK hz,rA hz l [],wJ hz l [] hp,
  lB l [] _ (lR l),lB l [] _ (pJ l hp)]
 by_cases h1:0<cP l
 ·rw[if_pos h1]at h0 ⊢;exact h0
 ·rw[if_neg h1]at h0 ⊢;by_cases h2:(fB l||aP l 0 95||aP l 0 36)=true
  ·rw[if_pos h2]at h0 ⊢;exact h0
  ·rw[if_neg h2]at h0 ⊢;by_cases h3:aP l 0 34=true
   ·rw[if_pos h3]at h0 ⊢;unfold eH at h0 ⊢;cases hx:bG (l.drop 1) with
    | none=>
     rw[kG l [] 1 hp,yB hz _ hx]
    | some x=>rw[hx]at h0;exact absurd h0 (Nat.succ_ne_zero _)
   ·rw[if_neg h3]at h0 ⊢;exact h0
theorem qU(t:Bs):∀ (n:Nat) (s:Bs) (k:Nat) (a:List Tok),s.length≤n→bF s k=.ok a→bF (s++z::t) k=mA a (bF (z::t) (k+s.length)):=by
 have hnil:∀ (k:Nat) (a:List Tok),bF [] k=.ok a→bF ([]++z::t) k=mA a (bF (z::t) (k+([]:Bs).length)):=by
  intro k a h;rw[jW]at h;injection h with h;subst h;rw[List.nil_append];show bF (z::t) k=mA [] (bF (z::t) k);cases bF (z::t) k <;> rfl
 intro n
 induction n with
 | zero=>
  intro s k a hs h;obtain rfl:s=[]:=List.eq_nil_of_length_eq_zero (by omega);exact hnil k a h
 | succ n ih=>
  intro s k a hs h;cases s with
  | nil=>exact hnil k a h
  | cons c r=>
   simp only[List.length_cons]at hs;by_cases hc:c=32
   ·subst hc;rw[eB]at h;rw[List.cons_append,eB,ih r (k+1) a (by omega) h];rw[show k+1+r.length=k+(32::r:Bs).length by simp only[List.length_cons];omega]
   ·by_cases h0:(aR (c::r)).2.2=0
    ·rw[jV c r k hc h0]at h;cases h
    ·have hp:0<(c::r).length:=by simp
     have hle:=iP (c::r) hp;have e:=tW hz (c::r) t hp h0;rw[gF c r k hc h0]at h;cases hx:bF ((c::r).drop (aR (c::r)).2.2) (k+(aR (c::r)).2.2) with
     | error p=>rw[hx]at h;cases h
     | ok b=>
      rw[hx]at h;injection h with h;subst h;rw[List.cons_append]at e;rw[List.cons_append,gF c (r++z::t) k hc (by rw[e];exact h0),e,← List.cons_append,kG (c::r) t _ hle];rw[ih _ _ b (by rw[List.length_drop,List.length_cons];omega) hx];rw[show k+(aR (c::r)).2.2+((c::r).drop (aR (c::r)).2.2).length=k+(c::r).length by rw[List.length_drop];omega];cases bF (z::t) (k+(c::r).length) <;> rfl
theorem mK:∀ (n:Nat) (s:Bs) (k p:Nat),s.length≤n→bF s k=.error p→bF (s++[z]) k=.error p:=by
 intro n
 induction n with
 | zero=>
  intro s k p hs h;obtain rfl:s=[]:=List.eq_nil_of_length_eq_zero (by omega);cases h
 | succ n ih=>
  intro s k p hs h;cases s with
  | nil=>cases h
  | cons c r=>
   simp only[List.length_cons]at hs;have hp:0<(c::r).length:=by simp
   by_cases hc:c=32
   ·subst hc;rw[eB]at h;rw[List.cons_append,eB,ih r (k+1) p (by omega) h]
   ·by_cases h0:(aR (c::r)).2.2=0
    ·rw[jV c r k hc h0]at h;rw[List.cons_append,jV c (r++[z]) k hc (vD hz (c::r) hp h0)];exact h
    ·have hle:=iP (c::r) hp;have e:=tW hz (c::r) [] hp h0;rw[gF c r k hc h0]at h;cases hx:bF ((c::r).drop (aR (c::r)).2.2) (k+(aR (c::r)).2.2) with
     | ok b=>rw[hx]at h;cases h
     | error q=>
      rw[hx]at h;injection h with h;subst h;rw[List.cons_append]at e;rw[List.cons_append,gF c (r++[z]) k hc (by rw[e];exact h0),e,← List.cons_append,kG (c::r) [] _ hle];rw[ih _ _ q (by rw[List.length_drop,List.length_cons];omega) hx];rfl
end
def bM:List Tok→Nat
 | []=>0
 | t::r=>(if isS t [40] then 1 else 0)+bM r
structure TokR(ρ:Tok→Tok→Prop)(t t':Tok):Prop where
 rel:ρ t t'
 kind:t.kind=t'.kind
 fold:aG t.text=aG t'.text
 same:t.kind=2∨t.kind=5∨t.kind=6→t.text=t'.text
 num:t.kind=1→aP t.text 0 45=false
inductive EndR (ρ:Tok→Tok→Prop):List Tok→List Tok→Prop where
 | one {e e':Tok} (h:TokR ρ e e') (h0:e.kind=0):EndR ρ [e] [e']
 | more {t t':Tok} {ts ts':List Tok} (h:TokR ρ t t') (h0:t.kind≠0) (hm:t.place≤(hd ts).place) (hr:EndR ρ ts ts'):EndR ρ (t::ts) (t'::ts')
theorem EndR.hd{ρ:Tok→Tok→Prop}{ts ts':List Tok}(h:EndR ρ ts ts'):TokR ρ (hd ts) (hd ts'):=by
 cases h with
 | one h h0=>exact h
 | more h h0 hm hr=>exact h
theorem EndR.tail{ρ:Tok→Tok→Prop}{ts ts':List Tok}(h:EndR ρ ts ts')(h0:(Go.Proofs.YtmgjidnalpgegaaGreatDoor.hd ts).kind≠0):EndR ρ ts.tail ts'.tail:=by
 cases h with
 | one h h1=>exact absurd h1 h0
 | more h h1 hm hr=>exact hr
theorem EndR.nxt{ρ:Tok→Tok→Prop}{ts ts':List Tok}(h:EndR ρ ts ts'):TokR ρ (nxt ts) (nxt ts'):=by
 cases h with
 | one h h1=>exact h
 | more h h1 hm hr=>cases hr with
  | one h2 h3=>exact h2
  | more h2 h3 hm2 hr=>exact h2
theorem EndR.len{ρ:Tok→Tok→Prop}{ts ts':List Tok}(h:EndR ρ ts ts'):ts.length=ts'.length:=by
 induction h with
 | one h h1=>rfl
 | more h h1 hm hr ih=>simp[ih]
theorem TokR.isS{ρ:Tok→Tok→Prop}{t t':Tok}(h:TokR ρ t t')(s:Bs):isS t s=isS t' s:=by
 unfold Go.Proofs.YtmgjidnalpgegaaGreatDoor.isS;by_cases h5:t.kind=5
 ·rw[h.same (.inr (.inl h5)),h.kind]
 ·rw[decide_eq_false h5,decide_eq_false (by rw[← h.kind];exact h5)];rfl
theorem dD{t:Tok}{s:Bs}(h:isS t s=true):t.kind≠0:=by
 unfold isS at h;simp at h;omega
theorem bK(ts:List Tok):bM ts.tail≤bM ts:=by
 cases ts with
 | nil=>exact Nat.le_refl _
 | cons t r=>exact Nat.le_add_left _ _
theorem tP{ts:List Tok}(h:isS (hd ts) [40]=true):bM ts=bM ts.tail+1:=by
 cases ts with
 | nil=>cases h
 | cons t r=>
  have h':isS t [40]=true:=h;show (if isS t [40] then 1 else 0)+bM r=bM r+1;rw[h',if_pos rfl,Nat.add_comm]
def Er(B:Prop)(e:Nat):Prop:=e≠0∧e≠5∧e≠7∧(B→e≠8)
theorem er6(B:Prop):Er B 6:=⟨by decide,by decide,by decide,fun _=>by decide⟩
theorem er2(B:Prop):Er B 2:=⟨by decide,by decide,by decide,fun _=>by decide⟩
theorem er14(B:Prop):Er B 14:=⟨by decide,by decide,by decide,fun _=>by decide⟩
theorem er18(B:Prop):Er B 18:=⟨by decide,by decide,by decide,fun _=>by decide⟩
theorem er9(B:Prop):Er B 9:=⟨by decide,by decide,by decide,fun _=>by decide⟩
theorem er10(B:Prop):Er B 10:=⟨by decide,by decide,by decide,fun _=>by decide⟩
def OutR(ρ:Tok→Tok→Prop)(G B:Prop)(d N c:Nat)(o o':Out):Prop :=
 (∃ t ts ts' c1,o=.ok t ts c1∧o'=.ok t ts' (c1+d)∧EndR ρ ts ts'∧bM ts≤N∧(G→c1=c+t.size∧t.right 6=true)) ∨
 (∃ e x y,o=.bad e x.place∧o'=.bad e y.place∧ρ x y∧Er B e)
def PR(ρ:Tok→Tok→Prop)(G B:Prop)(d N:Nat)(P P':List Tok→Nat→Out):Prop:=∀ ts ts' c,EndR ρ ts ts'→bM ts≤N→OutR ρ G B d N c (P ts c) (P' ts' (c+d))
section
variable {ρ:Tok→Tok→Prop} {G B:Prop} {d N:Nat}
theorem gV{ts ts':List Tok}{e c:Nat}(h:EndR ρ ts ts')(he:Er B e):OutR ρ G B d N c (fD e ts) (fD e ts'):=.inr ⟨e,_,_,rfl,rfl,h.hd.rel,he⟩
theorem fF(h:NodeH):NodeH.same h h=true:=by
 unfold NodeH.same;simp[uS]
theorem size_lit(v:Val):(iH v).size=1:=rfl
theorem uIF{v:Val}(h:cL v false=true)(k:Int):(iH v).right k=true:=by
 have h2:cL v (decide (k=8))=true:=by
  unfold cL at h ⊢;simp only[Bool.and_eq_true,Bool.or_eq_true,Bool.false_or]at h ⊢;exact⟨h.1,.inr h.2⟩
 have:bE ⟨0,v,[],aH,aH,0⟩ 0 [] k=true:=by
  unfold bE;rw[if_pos rfl,h2,fF];rfl
 show (bE ⟨0,v,[],aH,aH,0⟩ 0 [] k&&bN [] 0)=true;rw[this];rfl
theorem uEC{v:Val}(h1:v.kind≠0)(h2:cA v=true):(iH v).right 8=true:=by
 have h2:cL v (decide ((8:Int)=8))=true:=by
  unfold cL;simp[h1,h2]
 have:bE ⟨0,v,[],aH,aH,0⟩ 0 [] 8=true:=by
  unfold bE;rw[if_pos rfl,h2,fF];rfl
 show (bE ⟨0,v,[],aH,aH,0⟩ 0 [] 8&&bN [] 0)=true;rw[this];rfl
theorem uI{t:Tree}(h:t.right 6=true)(k:Int):t.right k=true:=by
 obtain⟨h',l⟩:=t;have e:∀ k,(Tree.mk h' l).right k=(bE h' l.length (l.map fun t=>t.h.kind) k&&bN l h'.kind):=fun _=>by rw[Tree.right]
 rw[e]at h ⊢;rw[Bool.and_eq_true]at h ⊢;refine⟨?_,h.2⟩;have h1:=h.1;unfold bE at h1 ⊢;by_cases k0:h'.kind=0
 ·rw[if_pos k0]at h1 ⊢;simp only[Bool.and_eq_true]at h1 ⊢;refine⟨⟨?_,h1.1.2⟩,h1.2⟩;have h3:=h1.1.1;unfold cL at h3 ⊢;simp only[Bool.and_eq_true,Bool.or_eq_true]at h3 ⊢;refine⟨h3.1,.inr ?_⟩;rcases h3.2 with h4 | h4
  ·simp at h4
  ·exact h4
 ·rw[if_neg k0]at h1 ⊢;by_cases k9:h'.kind=9
  ·rw[k9]at h1;simp at h1
  ·split
   ·rename_i hc;rw[if_pos hc]at h1;exact h1
   ·rename_i hc
    rw[if_neg hc]at h1
    split
    ·rename_i hc;rw[if_pos hc]at h1;exact h1
    ·rename_i hc
     rw[if_neg hc]at h1
     split
     ·rename_i hc;rw[if_pos hc]at h1;exact h1
     ·rename_i hc
      rw[if_neg hc]at h1
      split
      ·rename_i hc;rw[if_pos hc]at h1;exact h1
      ·rename_i hc
       rw[if_neg hc]at h1
       split
       ·rename_i hc;rw[if_pos hc]at h1;exact h1
       ·rename_i hc
        rw[if_neg hc]at h1
        split
        ·rename_i hc;rw[if_pos hc]at h1;exact h1
        ·rename_i hc
         rw[if_neg hc]at h1
         split
         ·rename_i hc;rw[if_pos hc]at h1;exact h1
         ·rename_i hc
          rw[if_neg hc,if_neg k9]at h1;cases h1
theorem uEB{t:Tree}(h:t.right 6=true):t.h.kind≠9:=by
 obtain⟨h',l⟩:=t;intro k9;rw[Tree.right,Bool.and_eq_true]at h;have h1:=h.1;have k9':h'.kind=9:=k9;unfold bE at h1;rw[k9']at h1;simp at h1
theorem uEM(l:List Tree)(x:Tree):dN (l++[x])=dN l+x.size:=by
 induction l with
 | nil=>simp[dN]
 | cons t l ih=>rw[List.cons_append,dN,dN,ih];omega
theorem rH(l:List Tree)(x:Tree)(k:Int):bN (l++[x]) k=(bN l k&&((decide (k≠8)||decide (x.h.kind=0))&&x.right k)):=by
 induction l with
 | nil=>simp[bN]
 | cons t l ih=>rw[List.cons_append,bN,bN,ih];simp[Bool.and_assoc]
theorem uBE{s:Bs}{t:Tree}(hs:unB s=true)(h:t.right 6=true):(tUn s t).right 6=true∧(tUn s t).size=t.size+1:=by
 refine⟨?_,rfl⟩;have e:bE ⟨5,aF,s,aH,aH,0⟩ 1 [t.h.kind] 6=true:=by
  unfold bE;simp[hs,fF]
 show (bE ⟨5,aF,s,aH,aH,0⟩ 1 [t.h.kind] 6&&((decide ((5:Int)≠8)||decide (t.h.kind=0))&&t.right 5&&bN [] 5))=true;rw[e,uI h 5];rfl
theorem uIE{s:Bs}{t x:Tree}(hs:lG s=true)(h:t.right 6=true)(h2:x.right 6=true):(tBin s t x).right 6=true∧(tBin s t x).size=t.size+x.size+1:=by
 refine⟨?_,by show t.size+(x.size+0)+1=_;omega⟩;have e:bE ⟨6,aF,s,aH,aH,0⟩ 2 [t.h.kind,x.h.kind] 6=true:=by
  unfold bE;simp[hs,fF]
 show (bE ⟨6,aF,s,aH,aH,0⟩ 2 [t.h.kind,x.h.kind] 6&&((decide ((6:Int)≠8)||decide (t.h.kind=0))&&t.right 6&&((decide ((6:Int)≠8)||decide (x.h.kind=0))&&x.right 6&&bN [] 6)))=true;rw[e,h,h2];rfl
theorem qR{t t':Tok}(h:TokR ρ t t'):cB t=cB t':=by
 unfold cB;rw[h.kind,h.fold]
theorem tH{t t':Tok}(h:TokR ρ t t'):eC t=eC t':=by
 unfold eC;rw[← h.kind,qR h,h.fold,vE h.fold];by_cases k1:t.kind=1
 ·rw[if_pos k1,if_pos k1]
 ·rw[if_neg k1,if_neg k1];by_cases k2:t.kind=2
  ·rw[h.same (.inl k2)]
  ·rw[if_neg k2,if_neg k2];by_cases k6:t.kind=6
   ·rw[h.same (.inr (.inr k6))]
   ·rw[if_neg k6,if_neg k6]
theorem tG{t:Tok}{e:Nat}(h:eC t=.error e):Er B e:=by
 unfold eC at h
 split at h
 ·split at h
  ·injection h with h;rw[← h];exact er2 B
  ·cases h
 ·split at h
  ·split at h
   ·injection h with h;rw[← h];exact er14 B
   ·cases h
  ·split at h
   ·cases h
   ·split at h
    ·cases h
    ·injection h with h;rw[← h];exact er6 B
theorem uAI{l:Bs}{q:Int×Int}(h:eE l=some q):dL q.1 q.2=true∧(aP l 0 45=false→0≤q.1):=by
 have near:∀ {neg:Bool} {n:Nat} {e:Int} {q:Int×Int},fI neg n e=some q→dL q.1 q.2=true∧(neg=false→0≤q.1):=by
  intro neg n e q h;rw[tT neg n e (dJ n e).1 (fS (dJ n e).1 (dJ n e).2).1 (dJ n e).2 (fS (dJ n e).1 (dJ n e).2).2 rfl rfl]at h
  split at h
  ·rename_i hR
   injection h with h;subst h;refine⟨hR,fun hn=>?_⟩;subst hn;exact Int.natCast_nonneg _
  ·cases h
 rw[uA]at h;unfold yE at h
 split at h
 ·cases h
 ·rw[Option.bind_eq_some_iff]at h;obtain⟨x,hx,h⟩:=h;obtain⟨h1,h2⟩:=near h;refine⟨h1,fun h0=>h2 ?_⟩;unfold nP at hx;dsimp only at hx;rw[h0]at hx;simp only[Bool.false_eq_true,if_false]at hx
  split at hx
  ·split at hx
   ·cases hx
   ·rw[Option.map_eq_some_iff]at hx;obtain⟨p,_,hx⟩:=hx;rw[← hx]
  ·split at hx
   ·cases hx
   ·rw[Option.map_eq_some_iff]at hx;obtain⟨p,_,hx⟩:=hx;rw[← hx]
theorem wR{m e:Int}(h:dL m e=true):cA (gZ m e)=true:=by simp[cA,gZ,h]
theorem yA{m e:Int}(h:dL m e=true):dL (-m) e=true:=by
 unfold dL at h ⊢;by_cases h0:m=0
 ·subst h0;exact h
 ·rw[if_neg h0]at h;rw[if_neg (by omega),Int.natAbs_neg];exact h
theorem qG{t:Tok}{v:Val}(hn:t.kind=1→aP t.text 0 45=false)(h:eC t=.ok v):t.kind≠0∧cL v false=true∧(t.kind=1→v.kind=1∧cA { v with mant:=-v.mant }=true):=by
 have key:∀ {v:Val},v.kind≠0→cA v=true→0≤v.mant→cL v false=true:=fun h1 h2 h3=>by
  unfold cL;simp[h1,h2,h3]
 unfold eC at h
 split at h
 ·rename_i k1
  split at h
  ·cases h
  ·rename_i q hq
   injection h with h;subst h;obtain⟨h1,h2⟩:=uAI hq;exact⟨by omega,key (by show (1:Int)≠0;decide) (wR h1) (h2 (hn k1)),fun _=>⟨rfl,wR (yA h1)⟩⟩
 ·rename_i k1
  split at h
  ·rename_i k2
   split at h
   ·cases h
   ·rename_i hl
    injection h with h;subst h;refine⟨by omega,?_,fun h=>absurd h k1⟩;unfold pW;rw[if_neg hl];exact key (by show (2:Int)≠0;decide) (by simp[cA];omega) (by show (0:Int)≤0;decide)
  ·rename_i k2
   split at h
   ·rename_i k6
    injection h with h;subst h;refine⟨by omega,?_,fun h=>absurd h k1⟩;refine key (by show (4:Int)≠0;decide) ?_ (by show (0:Int)≤0;decide);unfold oJ cA;simp
    split <;> omega
   ·split at h
    ·rename_i ht
     injection h with h;subst h;unfold cB at ht;simp at ht;exact⟨by omega,key (by show (3:Int)≠0;decide) (by simp[cA,lV]) (by show (0:Int)≤0;decide),fun h=>absurd h k1⟩
    ·cases h
theorem xS:PR ρ G B d N cH cH:=by
 intro ts ts' c h hN;unfold cH;have hv:=tH h.hd;rw[← hv];cases hl:eC (hd ts) with
 | error e=>exact gV h (tG hl)
 | ok v=>
  obtain⟨h1,h2,_⟩:=qG h.hd.num hl;exact .inl ⟨_,_,_,_,rfl,by rw[show c+d+1=c+1+d by omega],h.tail h1,Nat.le_trans (bK ts) hN,fun _=>⟨rfl,uIF h2 6⟩⟩
end
end Go.Proofs.YtmgjidnalpgegaaGreatDoor
