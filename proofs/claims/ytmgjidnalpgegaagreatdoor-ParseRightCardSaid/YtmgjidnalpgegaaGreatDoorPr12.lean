/-
  Lemmas, part 12: ParM ParN.
-/
import Derived.Test.YtmgjidnalpgegaaGreatDoorPr11
set_option maxHeartbeats 100000000
namespace Go.Proofs.YtmgjidnalpgegaaGreatDoor
open Go.RowKit
def Env.short(E:Env):Prop:=∀ k,(E.at k).text.length<=50000
set_option maxRecDepth 100000 in
theorem uGZ(E:Env)(hE:E.ok)(he:E.ends)(hL:E.L.length<=1000000)(hT:E.short)(op:Nat):dP E 120 (kD E.ax) op:=by
 intro k nd pl er w hI hk hn;have CC:=zh (fun k pl er W h hk=>cell_any E hE k op nd pl er W h hk hL (yv (hT k) (by decide)));have CT:=zh (fun k pl er W h hk=>bX E k op nd pl er W h hk);have CS:=zh cO;have CN:=zh (fun k pl er cs fz h1 W h=>gI E hE k op nd pl er cs fz h1 W h (by omega));have bo:=zh ((Fs.start hI).alloc 41 aA.toArray (by decide));generalize hO:kD E.ax (E.L.drop k) nd=O;have HO:Hid ((match fS E.ax (E.L.drop k) with
  | .error e=>fE e (E.L.drop k)
  | .ok a=>
   if isS (E.at (k+1)) [35] then .ok (iP 3 a aG) (E.L.drop (k+2)) (nd+1)
   else if isS (E.at (k+1)) [58] then match fS E.ax (E.L.drop (k+2)) with
    | .error e=>fE e (E.L.drop (k+2))
    | .ok b=>.ok (iP 2 a b) (E.L.drop (k+3)) (nd+1)
   else .ok (iP 1 a aG) (E.L.drop (k+1)) (nd+1))=O):=zh (by
  rw[<- hO];unfold kD;rw[List.tail_drop,List.tail_drop,List.tail_drop];rfl)
 have HF:Hid (k<E.L.length/\nd<=k):=zh ⟨hk,hn⟩;have kn:∀ k a,fS E.ax (E.L.drop k)=.ok a->(E.at k).kind≠0:=fun k a h h0=>by
  unfold fS at h;rw[if_pos (show (hd (E.L.drop k)).kind≠4 by rw[show (hd (E.L.drop k)).kind=0 from h0];decide)]at h;cases h
 have HFI:=zh kn;clear hI hO hn kn;simp only[aA]at bo
 go_enter Tryz.func120,Tryz.ntmps120
 go_upto_region 1 with fail
 generalize World.alloc _ _=W1 at bo ⊢;generalize hq:w.heap.size=q at bo ⊢;have ed:=zh (bo.out.alloc 41 aA.toArray (by decide));have HT:=zh (ed.out.there 0 rfl 22 rfl);have bw:=zh (ed.out.fill hE 0 rfl (cB 1 aG aG) rfl);have fq:=dL 1 aG aG;clear bo ed hq;simp only[List.set_cons_zero]at bw;generalize la:W1.heap.size=q4 at bw HT ⊢
 go_upto_region 3 with(first |(refine yq rfl 41 (.tmp 4) (.tmp 6) rfl q4 0 (cB 1 aG aG).toArray rfl rfl HT.out aF fq ?_;change wpList _ _ _ _ _ (World.setCells _ q4 0 (cB 1 aG aG));generalize World.setCells _ _ _ _=W2 at bw ⊢))
 clear HT fq la
 go_wp2_with fail
 have CC1:=zh (CC.out k pl er _ bw.out.ine hk);refine CC1.out.mono ?_;clear CC1;cases hR:fS E.ax (E.L.drop k) with
 |error e1=>
  have dc:Hid (O=.bad e1 (E.at k).place):=zh (by rw[<- HO.out,hR];rfl);rintro e w4 ⟨rfl,h1,h2⟩;have ak:=zh (bw.out.step h1 h2);clear h1 h2 bw hR;have x8:=(ak.out.li 0 rfl).cell 8;have xf8:=(ak.out.li 0 rfl).frozen 8;have x9:=(ak.out.li 0 rfl).cell 9;have xf9:=(ak.out.li 0 rfl).frozen 9;have x10:=(ak.out.li 0 rfl).cell 10;have xf10:=(ak.out.li 0 rfl).frozen 10;have x11:=(ak.out.li 0 rfl).cell 11;have xf11:=(ak.out.li 0 rfl).frozen 11;have x12:=(ak.out.li 0 rfl).cell 12;have xf12:=(ak.out.li 0 rfl).frozen 12;have x13:=(ak.out.li 0 rfl).cell 13;have xf13:=(ak.out.li 0 rfl).frozen 13;simp only[za,zb,zf]at x8 x9 x10 x11 x12 x13
  have az:Hid (Fs E w (k) op nd (E.at k).place e1 [(q4,41,(cB 1 aG aG).toArray),(q,41,aA.toArray)] ((((((w4.setCell ⟨q4,8,none⟩ (.int .i64 0)).setCell ⟨q4,9,none⟩ (.int .i64 0)).setCell ⟨q4,10,none⟩ (.int .i64 0)).setCell ⟨q4,11,none⟩ (.int .i64 0)).setCell ⟨q4,12,none⟩ (.bool false)).setCell ⟨q4,13,none⟩ (.bool false))):=zh ((((((ak.out.put hE 0 rfl 8 _).put hE 0 rfl 9 _).put hE 0 rfl 10 _).put hE 0 rfl 11 _).put hE 0 rfl 12 _).put hE 0 rfl 13 _);clear ak;dsimp only[iC]
  go_upto_region 5 with fail
  generalize World.setCell _ _ _=wb at az ⊢;have HT:=zh (az.out.there 1 rfl 22 rfl);have ag:=zh (az.out.fill hE 1 rfl aA rfl)
  go_wp2_with (first |(refine yq rfl 41 (.tmp 2) (.tmp 16) rfl q 0 aA.toArray rfl rfl HT.out aF aW ?_;change wpList _ _ _ _ _ (World.setCells _ q 0 aA);generalize World.setCells _ _ _ _=wz at ag ⊢))
  have HA:=zh (ag.out.li 1 rfl);refine yt (aM rfl rfl HA.out rfl) rfl ?_;rw[dc.out];exact cE ag.out rfl aW (by omega) (by omega) (by have:=HF.out.2;omega)
 |ok a=>
  have dc:Hid ((if isS (E.at (k+1)) [35] then .ok (iP 3 a aG) (E.L.drop (k+2)) (nd+1)
   else if isS (E.at (k+1)) [58] then match fS E.ax (E.L.drop (k+2)) with
    | .error e=>fE e (E.L.drop (k+2))
    | .ok b=>.ok (iP 2 a b) (E.L.drop (k+3)) (nd+1)
   else .ok (iP 1 a aG) (E.L.drop (k+1)) (nd+1))=O):=zh (by rw[<- HO.out,hR])
  have dq:=E.more he hk (HFI.out k a hR);rintro e w4 ⟨rfl,h1,h2⟩;have ak:=zh (bw.out.step h1 h2);clear h1 h2 bw hR HO;obtain⟨⟨xa,xn⟩,⟨ya,yn⟩,mfr,mfc⟩:=a;dsimp only[iC];have az:Hid (Fs E w (k+1) op nd pl er [(q4,41,(cB 1 ⟨⟨xa,xn⟩,⟨ya,yn⟩,mfr,mfc⟩ aG).toArray),(q,41,aA.toArray)] ((((((w4.setCell ⟨q4,8,none⟩ (.int .i64 xa)).setCell ⟨q4,9,none⟩ (.int .i64 xn)).setCell ⟨q4,10,none⟩ (.int .i64 ya)).setCell ⟨q4,11,none⟩ (.int .i64 yn)).setCell ⟨q4,12,none⟩ (.bool mfr)).setCell ⟨q4,13,none⟩ (.bool mfc))):=zh ((((((ak.out.put hE 0 rfl 8 _).put hE 0 rfl 9 _).put hE 0 rfl 10 _).put hE 0 rfl 11 _).put hE 0 rfl 12 _).put hE 0 rfl 13 _);have x8:=(ak.out.li 0 rfl).cell 8;have xf8:=(ak.out.li 0 rfl).frozen 8;have x9:=(ak.out.li 0 rfl).cell 9;have xf9:=(ak.out.li 0 rfl).frozen 9;have x10:=(ak.out.li 0 rfl).cell 10;have xf10:=(ak.out.li 0 rfl).frozen 10
  have x11:=(ak.out.li 0 rfl).cell 11;have xf11:=(ak.out.li 0 rfl).frozen 11;have x12:=(ak.out.li 0 rfl).cell 12;have xf12:=(ak.out.li 0 rfl).frozen 12;have x13:=(ak.out.li 0 rfl).cell 13;have xf13:=(ak.out.li 0 rfl).frozen 13;simp only[za,zb,zf]at x8 x9 x10 x11 x12 x13;clear ak
  go_upto_block 0 with fail
  generalize World.setCell _ _ _=W5 at az ⊢;clear x8 x9 x10 x11 x12 x13 xf8 xf9 xf10 xf11 xf12 xf13;by_cases b1:isS (E.at (k+1)) [35]=true
  ·rw[if_pos b1]at dc;have fm:=E.more he dq (dW b1);have CT1:=zh (CT.out (k+1) pl er _ az.out.ine dq)
   go_wp2_with fail
   refine CT1.out.mono ?_;rintro e w6a ⟨rfl,hb⟩;have v8:=zh (az.out.next hb);clear hb CT1 az;have CS1:=zh (CS.out (E.at (k+1)) [35] w6a);rw[b1]at CS1
   go_wp2_with fail
   refine CS1.out.mono ?_;rintro e w6 ⟨rfl,hb⟩;have al:=zh (v8.out.next hb);clear hb CS1 v8;have r1:=al.out.ine.rd.cell 1;have rf1:=al.out.ine.rd.frozen 1;simp only[za,zb,zf]at r1;have x0:=(al.out.li 0 rfl).cell 0;have xf0:=(al.out.li 0 rfl).frozen 0;simp only[za,zb]at x0;have ll:(k:Int)<=1000000:=by omega
   have HSr:=zh (al.out.rd hE 1 (.int .i64 ((k:Int)+1+1)) (k':=k+2) rfl);have db:Hid (Fs E w (k+2) op nd pl er [(q4,41,(cB 3 ⟨⟨xa,xn⟩,⟨ya,yn⟩,mfr,mfc⟩ aG).toArray),(q,41,aA.toArray)] ((w6.setCell ⟨E.r,1,none⟩ (.int .i64 ((k:Int)+1+1))).setCell ⟨q4,0,none⟩ (.int .i64 3))):=zh (HSr.out.put hE 0 rfl 0 _);have bp:=al.out.ner 0 rfl;clear al HSr
   go_upto_region 15 with fail
   generalize World.setCell _ _ _=w8 at db ⊢;clear r1 rf1;clear x0 xf0;replace dc:=zh dc.out.symm;have CN1:=zh (CN.out (k+2) pl er (cB 3 ⟨⟨xa,xn⟩,⟨ya,yn⟩,mfr,mfc⟩ aG) rfl (dL 3 ⟨⟨xa,xn⟩,⟨ya,yn⟩,mfr,mfc⟩ aG) _ db.out.ine);obtain⟨C,hC,ah,fd,gq⟩:=eO (nd+1) (cB 3 ⟨⟨xa,xn⟩,⟨ya,yn⟩,mfr,mfc⟩ aG) rfl (dL 3 ⟨⟨xa,xn⟩,⟨ya,yn⟩,mfr,mfc⟩ aG);rw[hC]at CN1;have yC:=zh ah;have fa:=zh fd;have m8:=zh gq;have ee:=zh (db.out.range 0 (l:=cB 3 ⟨⟨xa,xn⟩,⟨ya,yn⟩,mfr,mfc⟩ aG) rfl);clear hC ah fd gq
   go_wp2_with (first |(refine yr rfl 41 (.tmp 4) rfl q4 0 rfl (cB 3 ⟨⟨xa,xn⟩,⟨ya,yn⟩,mfr,mfc⟩ aG) _ ee.out Tryz.underlying41 rfl aF ?_))
   refine CN1.out.mono ?_;rintro e wn ⟨rfl,au,ew⟩;have ju:=zh (db.out.step au ew.X);clear au ew CN1 ee db;have HT:=zh (ju.out.there 1 rfl C.toArray.size (by rw[yd,yC.out];rfl));have ag:=zh (ju.out.fill hE 1 rfl C (by rw[yC.out];rfl));have zi:=fo yC.out
   go_wp2_with (first |(refine yq rfl 41 (.tmp 2) (.tmp 53) rfl q 0 C.toArray rfl rfl HT.out zi fa.out ?_;change wpList _ _ _ _ _ (World.setCells _ q 0 C);generalize World.setCells _ _ _ _=wz at ag ⊢))
   have HA:=zh (ag.out.li 1 rfl);refine yt (aM rfl rfl HA.out (by rw[yd,yC.out])) rfl ?_;rw[dc.out];exact iU (h:=⟨3,aD,[],⟨⟨xa,xn⟩,⟨ya,yn⟩,mfr,mfc⟩,aG,0⟩) ag.out yC.out fa.out (fun hn=>by rw[m8.out hn];rfl) (by omega) (by omega) (by have:=HF.out.2;omega) (by omega) rfl
  have b1':isS (E.at (k+1)) [35]=false:=by simpa using b1
  rw[if_neg b1]at dc;have CT1:=zh (CT.out (k+1) pl er _ az.out.ine dq)
  go_wp2_with fail
  refine CT1.out.mono ?_;rintro e w6a ⟨rfl,hb⟩;have v8:=zh (az.out.next hb);clear hb CT1 az;have CS1:=zh (CS.out (E.at (k+1)) [35] w6a);rw[b1']at CS1
  go_wp2_with fail
  refine CS1.out.mono ?_;rintro e w6 ⟨rfl,hb⟩;have al:=zh (v8.out.next hb);clear hb CS1 v8;by_cases b2:isS (E.at (k+1)) [58]=true
  ·rw[if_pos b2]at dc;have fm:=E.more he dq (dW b2);have CT1:=zh (CT.out (k+1) pl er _ al.out.ine dq)
   go_wp2_with fail
   refine CT1.out.mono ?_;rintro e w7a ⟨rfl,hb⟩;have v9:=zh (al.out.next hb);clear hb CT1 al;have CS1:=zh (CS.out (E.at (k+1)) [58] w7a);rw[b2]at CS1
   go_wp2_with fail
   refine CS1.out.mono ?_;rintro e w7 ⟨rfl,hb⟩;have c9:=zh (v9.out.next hb);clear hb CS1 v9;have r1:=c9.out.ine.rd.cell 1;have rf1:=c9.out.ine.rd.frozen 1;simp only[za,zb,zf]at r1;have x0:=(c9.out.li 0 rfl).cell 0;have xf0:=(c9.out.li 0 rfl).frozen 0;simp only[za,zb]at x0;have ll:(k:Int)<=1000000:=by omega
   have HSr:=zh (c9.out.rd hE 1 (.int .i64 ((k:Int)+1+1)) (k':=k+2) rfl);have db:Hid (Fs E w (k+2) op nd pl er [(q4,41,(cB 2 ⟨⟨xa,xn⟩,⟨ya,yn⟩,mfr,mfc⟩ aG).toArray),(q,41,aA.toArray)] ((w7.setCell ⟨E.r,1,none⟩ (.int .i64 ((k:Int)+1+1))).setCell ⟨q4,0,none⟩ (.int .i64 2))):=zh (HSr.out.put hE 0 rfl 0 _);have bp:=c9.out.ner 0 rfl;clear c9 HSr
   go_upto_region 12 with fail
   generalize World.setCell _ _ _=w8 at db ⊢;clear r1 rf1;clear x0 xf0;have CC1:=zh (CC.out (k+2) pl er _ db.out.ine fm)
   go_wp2_with fail
   refine CC1.out.mono ?_;clear CC1;cases hR:fS E.ax (E.L.drop (k+2)) with
   |error e1=>
    have gm:Hid (O=.bad e1 (E.at (k+2)).place):=zh (by rw[<- dc.out,hR];rfl);rintro e w9 ⟨rfl,h1,h2⟩;have bl:=zh (db.out.step h1 h2);clear h1 h2 db hR;have x14:=(bl.out.li 0 rfl).cell 14;have xf14:=(bl.out.li 0 rfl).frozen 14;have x15:=(bl.out.li 0 rfl).cell 15;have xf15:=(bl.out.li 0 rfl).frozen 15;have x16:=(bl.out.li 0 rfl).cell 16;have xf16:=(bl.out.li 0 rfl).frozen 16;have x17:=(bl.out.li 0 rfl).cell 17;have xf17:=(bl.out.li 0 rfl).frozen 17;have x18:=(bl.out.li 0 rfl).cell 18;have xf18:=(bl.out.li 0 rfl).frozen 18;have x19:=(bl.out.li 0 rfl).cell 19;have xf19:=(bl.out.li 0 rfl).frozen 19;simp only[za,zb,zf]at x14 x15 x16 x17 x18 x19
    have cy:Hid (Fs E w (k+2) op nd (E.at (k+2)).place e1 [(q4,41,(cB 2 ⟨⟨xa,xn⟩,⟨ya,yn⟩,mfr,mfc⟩ aG).toArray),(q,41,aA.toArray)] ((((((w9.setCell ⟨q4,14,none⟩ (.int .i64 0)).setCell ⟨q4,15,none⟩ (.int .i64 0)).setCell ⟨q4,16,none⟩ (.int .i64 0)).setCell ⟨q4,17,none⟩ (.int .i64 0)).setCell ⟨q4,18,none⟩ (.bool false)).setCell ⟨q4,19,none⟩ (.bool false))):=zh ((((((bl.out.put hE 0 rfl 14 _).put hE 0 rfl 15 _).put hE 0 rfl 16 _).put hE 0 rfl 17 _).put hE 0 rfl 18 _).put hE 0 rfl 19 _);clear bl;dsimp only[iC]
    go_upto_region 14 with fail
    generalize World.setCell _ _ _=wb at cy ⊢;have HT:=zh (cy.out.there 1 rfl 22 rfl);have ag:=zh (cy.out.fill hE 1 rfl aA rfl)
    go_wp2_with (first |(refine yq rfl 41 (.tmp 2) (.tmp 50) rfl q 0 aA.toArray rfl rfl HT.out aF aW ?_;change wpList _ _ _ _ _ (World.setCells _ q 0 aA);generalize World.setCells _ _ _ _=wz at ag ⊢))
    have HA:=zh (ag.out.li 1 rfl);refine yt (aM rfl rfl HA.out rfl) rfl ?_;rw[gm.out];exact cE ag.out rfl aW (by omega) (by omega) (by have:=HF.out.2;omega)
   |ok b=>
    have t9:=E.more he fm (HFI.out (k+2) b hR);have gm:Hid (O=.ok (iP 2 ⟨⟨xa,xn⟩,⟨ya,yn⟩,mfr,mfc⟩ b) (E.L.drop (k+3)) (nd+1)):=zh (by rw[<- dc.out,hR]);rintro e w9 ⟨rfl,h1,h2⟩;have bl:=zh (db.out.step h1 h2);clear h1 h2 db hR;obtain⟨⟨ua,un⟩,⟨va,vn⟩,nfr,nfc⟩:=b;dsimp only[iC];have cy:Hid (Fs E w (k+3) op nd pl er [(q4,41,(cB 2 ⟨⟨xa,xn⟩,⟨ya,yn⟩,mfr,mfc⟩ ⟨⟨ua,un⟩,⟨va,vn⟩,nfr,nfc⟩).toArray),(q,41,aA.toArray)] ((((((w9.setCell ⟨q4,14,none⟩ (.int .i64 ua)).setCell ⟨q4,15,none⟩ (.int .i64 un)).setCell ⟨q4,16,none⟩ (.int .i64 va)).setCell ⟨q4,17,none⟩ (.int .i64 vn)).setCell ⟨q4,18,none⟩ (.bool nfr)).setCell ⟨q4,19,none⟩ (.bool nfc))):=zh ((((((bl.out.put hE 0 rfl 14 _).put hE 0 rfl 15 _).put hE 0 rfl 16 _).put hE 0 rfl 17 _).put hE 0 rfl 18 _).put hE 0 rfl 19 _);have x14:=(bl.out.li 0 rfl).cell 14;have xf14:=(bl.out.li 0 rfl).frozen 14;have x15:=(bl.out.li 0 rfl).cell 15
    have xf15:=(bl.out.li 0 rfl).frozen 15;have x16:=(bl.out.li 0 rfl).cell 16;have xf16:=(bl.out.li 0 rfl).frozen 16;have x17:=(bl.out.li 0 rfl).cell 17;have xf17:=(bl.out.li 0 rfl).frozen 17;have x18:=(bl.out.li 0 rfl).cell 18;have xf18:=(bl.out.li 0 rfl).frozen 18;have x19:=(bl.out.li 0 rfl).cell 19;have xf19:=(bl.out.li 0 rfl).frozen 19;simp only[za,zb,zf]at x14 x15 x16 x17 x18 x19;clear bl
    go_upto_region 15 with fail
    generalize World.setCell _ _ _=wa at cy ⊢;clear x14 x15 x16 x17 x18 x19 xf14 xf15 xf16 xf17 xf18 xf19;have CN1:=zh (CN.out (k+3) pl er (cB 2 ⟨⟨xa,xn⟩,⟨ya,yn⟩,mfr,mfc⟩ ⟨⟨ua,un⟩,⟨va,vn⟩,nfr,nfc⟩) rfl (dL 2 ⟨⟨xa,xn⟩,⟨ya,yn⟩,mfr,mfc⟩ ⟨⟨ua,un⟩,⟨va,vn⟩,nfr,nfc⟩) _ cy.out.ine);obtain⟨C,hC,ah,fd,gq⟩:=eO (nd+1) (cB 2 ⟨⟨xa,xn⟩,⟨ya,yn⟩,mfr,mfc⟩ ⟨⟨ua,un⟩,⟨va,vn⟩,nfr,nfc⟩) rfl (dL 2 ⟨⟨xa,xn⟩,⟨ya,yn⟩,mfr,mfc⟩ ⟨⟨ua,un⟩,⟨va,vn⟩,nfr,nfc⟩);rw[hC]at CN1;have yC:=zh ah;have fa:=zh fd;have m8:=zh gq;have ee:=zh (cy.out.range 0 (l:=cB 2 ⟨⟨xa,xn⟩,⟨ya,yn⟩,mfr,mfc⟩ ⟨⟨ua,un⟩,⟨va,vn⟩,nfr,nfc⟩) rfl);clear hC ah fd gq
    go_wp2_with (first |(refine yr rfl 41 (.tmp 4) rfl q4 0 rfl (cB 2 ⟨⟨xa,xn⟩,⟨ya,yn⟩,mfr,mfc⟩ ⟨⟨ua,un⟩,⟨va,vn⟩,nfr,nfc⟩) _ ee.out Tryz.underlying41 rfl aF ?_))
    refine CN1.out.mono ?_;rintro e wn ⟨rfl,au,ew⟩;have ju:=zh (cy.out.step au ew.X);clear au ew CN1 ee cy;have HT:=zh (ju.out.there 1 rfl C.toArray.size (by rw[yd,yC.out];rfl));have ag:=zh (ju.out.fill hE 1 rfl C (by rw[yC.out];rfl));have zi:=fo yC.out
    go_wp2_with (first |(refine yq rfl 41 (.tmp 2) (.tmp 53) rfl q 0 C.toArray rfl rfl HT.out zi fa.out ?_;change wpList _ _ _ _ _ (World.setCells _ q 0 C);generalize World.setCells _ _ _ _=wz at ag ⊢))
    have HA:=zh (ag.out.li 1 rfl);refine yt (aM rfl rfl HA.out (by rw[yd,yC.out])) rfl ?_;rw[gm.out];exact iU (h:=⟨2,aD,[],⟨⟨xa,xn⟩,⟨ya,yn⟩,mfr,mfc⟩,⟨⟨ua,un⟩,⟨va,vn⟩,nfr,nfc⟩,0⟩) ag.out yC.out fa.out (fun hn=>by rw[m8.out hn];rfl) (by omega) (by omega) (by have:=HF.out.2;omega) (by omega) rfl
  have b2':isS (E.at (k+1)) [58]=false:=by simpa using b2
  rw[if_neg b2]at dc;have CT1:=zh (CT.out (k+1) pl er _ al.out.ine dq)
  go_wp2_with fail
  refine CT1.out.mono ?_;rintro e w7a ⟨rfl,hb⟩;have v9:=zh (al.out.next hb);clear hb CT1 al;have CS1:=zh (CS.out (E.at (k+1)) [58] w7a);rw[b2']at CS1
  go_wp2_with fail
  refine CS1.out.mono ?_;rintro e w7 ⟨rfl,hb⟩;have c9:=zh (v9.out.next hb);clear hb CS1 v9;replace dc:=zh dc.out.symm;have CN1:=zh (CN.out (k+1) pl er (cB 1 ⟨⟨xa,xn⟩,⟨ya,yn⟩,mfr,mfc⟩ aG) rfl (dL 1 ⟨⟨xa,xn⟩,⟨ya,yn⟩,mfr,mfc⟩ aG) _ c9.out.ine);obtain⟨C,hC,ah,fd,gq⟩:=eO (nd+1) (cB 1 ⟨⟨xa,xn⟩,⟨ya,yn⟩,mfr,mfc⟩ aG) rfl (dL 1 ⟨⟨xa,xn⟩,⟨ya,yn⟩,mfr,mfc⟩ aG);rw[hC]at CN1;have yC:=zh ah;have fa:=zh fd;have m8:=zh gq;have ee:=zh (c9.out.range 0 (l:=cB 1 ⟨⟨xa,xn⟩,⟨ya,yn⟩,mfr,mfc⟩ aG) rfl);clear hC ah fd gq
  go_wp2_with (first |(refine yr rfl 41 (.tmp 4) rfl q4 0 rfl (cB 1 ⟨⟨xa,xn⟩,⟨ya,yn⟩,mfr,mfc⟩ aG) _ ee.out Tryz.underlying41 rfl aF ?_))
  refine CN1.out.mono ?_;rintro e wn ⟨rfl,au,ew⟩;have ju:=zh (c9.out.step au ew.X);clear au ew CN1 ee c9;have HT:=zh (ju.out.there 1 rfl C.toArray.size (by rw[yd,yC.out];rfl));have ag:=zh (ju.out.fill hE 1 rfl C (by rw[yC.out];rfl));have zi:=fo yC.out
  go_wp2_with (first |(refine yq rfl 41 (.tmp 2) (.tmp 53) rfl q 0 C.toArray rfl rfl HT.out zi fa.out ?_;change wpList _ _ _ _ _ (World.setCells _ q 0 C);generalize World.setCells _ _ _ _=wz at ag ⊢))
  have HA:=zh (ag.out.li 1 rfl);refine yt (aM rfl rfl HA.out (by rw[yd,yC.out])) rfl ?_;rw[dc.out];exact iU (h:=⟨1,aD,[],⟨⟨xa,xn⟩,⟨ya,yn⟩,mfr,mfc⟩,aG,0⟩) ag.out yC.out fa.out (fun hn=>by rw[m8.out hn];rfl) (by omega) (by omega) (by have:=HF.out.2;omega) (by omega) rfl
theorem uHB(l:Bs):∃ (pc:Int) (isc:Bool),sA l=.tuple #[.int .i64 pc,.bool isc]/\(isc=true->∃ p:Nat,bR l=some p/\pc=p/\p<=1000000)/\(isc=false->bR l=none):=by
 unfold sA;cases h:bR l with
 |none=>exact⟨_,_,rfl,fun h=>(by cases h),fun _=>rfl⟩
 |some c=>exact⟨_,_,rfl,fun _=>⟨c,rfl,rfl,tG h⟩,fun h=>(by cases h)⟩
theorem zZ(l:Bs):∃ (mr mc:Int) (f1 f2 ism:Bool),iL l=.tuple #[jF mr mc f1 f2,.bool ism]/\(ism=true->∃ m,bA l=some m/\mr=m.row/\m.row<=100000000)/\(ism=false->bA l=none):=by
 unfold iL;cases h:bA l with
 |none=>exact⟨_,_,_,_,_,rfl,fun h=>(by cases h),fun _=>rfl⟩
 |some m=>exact⟨_,_,_,_,_,rfl,fun _=>⟨m,rfl,rfl,(qR h).1⟩,fun h=>(by cases h)⟩
theorem uGK:bA [65]=none:=by decide
structure LineO(E:Env)(tk:Nat)(tx:Bs)(row col:Bool)(O:Except Nat Cor):Prop where
 bad:tk≠1->tk≠3->tk≠4->O=.error 6
 atC:(tk=1\/tk=3\/tk=4)->col=true->∀ p,bR (Lib.trimPrefix tx [36])=some p->O=match E.ax.cols[p]? with
  |none=>.error 18
  |some x=>.ok ⟨id0,x,false,Lib.hasPrefix tx [36]⟩
 atR:(tk=1\/tk=3\/tk=4)->(col=true->bR (Lib.trimPrefix tx [36])=none)->row=true->aB ((Lib.trimPrefix tx [36]).headD 0)=true->∀ m,bA (65::Lib.trimPrefix tx [36])=some m->O=match E.ax.rows[m.row]? with
  |none=>.error 18
  |some x=>.ok ⟨x,id0,Lib.hasPrefix tx [36],false⟩
 no:(tk=1\/tk=3\/tk=4)->(col=true->bR (Lib.trimPrefix tx [36])=none)->(row=true->aB ((Lib.trimPrefix tx [36]).headD 0)=true->bA (65::Lib.trimPrefix tx [36])=none)->O=.error 6
theorem lineO(E:Env)(row col:Bool)(ts:List Tok):LineO E (hd ts).kind (hd ts).text row col (eK E.ax row col ts):=by
 have good:∀ {n:Nat},(n=1\/n=3\/n=4)->¬ (n≠1/\n≠3/\n≠4):=fun h h2=>by omega
 refine⟨fun h1 h3 h4=>?_,fun hk hc p hp=>?_,fun hk hc hr hg m hm=>?_,fun hk hc hr=>?_⟩
 ·unfold eK;rw[if_pos ⟨h1,h3,h4⟩]
 ·unfold eK;rw[if_neg (good hk)];dsimp only;rw[if_pos hc,hp];rfl
 ·unfold eK;rw[if_neg (good hk)];dsimp only;have h1:(if col=true then bR (Lib.trimPrefix (hd ts).text [36]) else none)=none:=by
   split
   ·rename_i h;exact hc h
   rfl
  rw[h1,if_pos hr,if_pos hg,hm];rfl
 unfold eK;rw[if_neg (good hk)];dsimp only;have h1:(if col=true then bR (Lib.trimPrefix (hd ts).text [36]) else none)=none:=by
  split
  ·rename_i h;exact hc h
  rfl
 have h2:(if row=true then (if aB ((Lib.trimPrefix (hd ts).text [36]).headD 0)=true then bA (65::Lib.trimPrefix (hd ts).text [36]) else none) else none)=none:=by
  split
  ·rename_i h
   split
   ·rename_i h2;exact hr h h2
   rfl
  rfl
 rw[h1,h2]
set_option maxRecDepth 100000 in
theorem line_any(E:Env)(hE:E.ok)(hL:E.L.length<=1000000)(hT:E.short)(row col:Bool)(k op nd pl er:Nat)(w:World)(hI:InE E k op nd pl er w)(hk:k<E.L.length) :
  Calls Tryz.prog 124 #[.pointer (some ⟨E.r,0,none⟩),.bool row,.bool col] w (yN E w k op nd pl er (eK E.ax row col (E.L.drop k))):=by
 have HO:=zh (lineO E row col (E.L.drop k));generalize eK E.ax row col (E.L.drop k)=O at HO ⊢;have CT:=zh (fun W h=>bX E k op nd pl er W h hk);have CW:=zh (fun W h=>eN E hE k op nd pl er 6 W h hk);have CLy:=zh (fun p l place x W h hp hl hx=>oT E hE k op nd pl er p l place x W h hp hl hx);have CLn:=zh (fun p l place W h hp hl hx=>xO E hE k op nd pl er p l place W h hp hl hx hk);have ht:=hT k;have bo:=zh ((Fs.start hI).alloc 36 bQ (by decide));have HX:=qC (E.at k).text [36];have C1:=zh (fun W=>hG (E.at k).text [36] W);have C2:=zh (fun W=>qF (Lib.trimPrefix (E.at k).text [36]) W (by omega));have C3:=zh (fun W=>gX (65::Lib.trimPrefix (E.at k).text [36]) W (by simp only[yi];omega));obtain⟨pc,isc,e1,e2,e3⟩:=uHB (Lib.trimPrefix (E.at k).text [36])
 obtain⟨mr,mc,f1,f2,ism,e4,e5,e6⟩:=zZ (65::Lib.trimPrefix (E.at k).text [36]);rw[e1]at C2;rw[e4]at C3;replace HO:Hid (LineO E (E.at k).kind (E.at k).text row col O):=HO;generalize ec:E.at k=t at *;obtain⟨tk,tx,tp⟩:=t;have ur:=zh ec;clear ec;dsimp only[tkV,jF]at CT CW C1 C2 C3 HO e2 e3 e5 e6 HX ht CLn;have HOb:=zh HO.out.bad;have HOc:=zh HO.out.atC;have HOr:=zh HO.out.atR;have HOn:=zh HO.out.no;generalize Lib.hasPrefix tx [36]=fx at *;generalize Lib.trimPrefix tx [36]=X at *;have HE2:=zh e2;have HE3:=zh e3;have HE5:=zh e5;have HE6:=zh e6;have hXl:X.length<=100000:=by omega
 clear hI e1 e2 e3 e4 e5 e6 HO HX
 go_enter Tryz.func124,Tryz.ntmps124
 go_upto_region 1 with fail
 generalize World.alloc _ _=W1 at bo ⊢;generalize hq:w.heap.size=q at bo ⊢
 go_wp2_with fail
 refine(CT.out W1 bo.out.ine).mono ?_;rintro e w1 ⟨rfl,hb⟩;have ed:=zh (bo.out.next hb);clear hb bo hq;have bw:=zh (ed.out.alloc 70 #[.int .i64 tk,.string ⟨tx.toArray⟩,.int .i64 (tp:Int)] (by decide));clear ed
 go_upto_region 2 with fail
 generalize World.alloc _ _=W3 at bw ⊢;generalize vt:w1.heap.size=q8 at bw ⊢;clear vt;by_cases ku:tk≠1/\tk≠3/\tk≠4
 ·have b1:((tk:Int) != 1)=true:=by simp;omega
  have b3:((tk:Int) != 3)=true:=by simp;omega
  have b4:((tk:Int) != 4)=true:=by simp;omega
  have b1':((tk:Int)==1)=false:=by simp;omega
  have b3':((tk:Int)==3)=false:=by simp;omega
  have b4':((tk:Int)==4)=false:=by simp;omega
  have hO:=HOb.out ku.1 ku.2.1 ku.2.2;subst hO;have x0:=(bw.out.li 0 rfl).cell 0;have xf0:=(bw.out.li 0 rfl).frozen 0;have x1:=(bw.out.li 0 rfl).cell 1;have xf1:=(bw.out.li 0 rfl).frozen 1;have x2:=(bw.out.li 0 rfl).cell 2;have xf2:=(bw.out.li 0 rfl).frozen 2;simp only[za,zb,zf]at x0 x1 x2;clear ku
  go_wp2_with fail
  refine(CW.out _ bw.out.ine).mono ?_;rintro e w4 ⟨rfl,h1,h2⟩;have ak:=zh (bw.out.step h1 h2.X);clear h1 h2 bw;have a0:=(ak.out.li 1 rfl).cell 0;have af0:=(ak.out.li 1 rfl).frozen 0;have a1:=(ak.out.li 1 rfl).cell 1;have af1:=(ak.out.li 1 rfl).frozen 1;have a2:=(ak.out.li 1 rfl).cell 2;have af2:=(ak.out.li 1 rfl).frozen 2;have a3:=(ak.out.li 1 rfl).cell 3;have af3:=(ak.out.li 1 rfl).frozen 3;have a4:=(ak.out.li 1 rfl).cell 4;have af4:=(ak.out.li 1 rfl).frozen 4;have a5:=(ak.out.li 1 rfl).cell 5;have af5:=(ak.out.li 1 rfl).frozen 5;simp only[za,zb,zf]at a0 a1 a2 a3 a4 a5
  have ag:Hid (∀ W',W'=((((((w4.setCell ⟨q,0,none⟩ (.int .i64 0)).setCell ⟨q,1,none⟩ (.int .i64 0)).setCell ⟨q,2,none⟩ (.int .i64 0)).setCell ⟨q,3,none⟩ (.int .i64 0)).setCell ⟨q,4,none⟩ (.bool false)).setCell ⟨q,5,none⟩ (.bool false))->Fs E w k op nd tp 6 [(q8,70,#[.int .i64 tk,.string ⟨tx.toArray⟩,.int .i64 (tp:Int)]),(q,36,bQ)] W'):=zh (fun W' e=>by rw[e];exact((((((ak.out.put hE 1 rfl 0 _).put hE 1 rfl 1 _).put hE 1 rfl 2 _).put hE 1 rfl 3 _).put hE 1 rfl 4 _).put hE 1 rfl 5 _));clear ak
  go_wp2_with fail
  refine yt (v:=.tuple #[.agg #[.int .i64 0,.int .i64 0,.int .i64 0,.int .i64 0,.bool false,.bool false],.bool false]) (by simp[results,Tryz.results124,go_sem,a0,a1,a2,a3,a4,a5]) rfl ?_;show StepX E w k op nd (E.at k).place _ _ _ _;rw[ur.out];exact⟨rfl,(ag.out _ rfl).ine,(ag.out _ rfl).kp⟩
 have wd:tk=1\/tk=3\/tk=4:=by omega
 have HG:=zh wd
 go_cut [31] (fun v wx=>v=.bool false/\Hid (Fs E w k op nd pl er [(q8,70,#[.int .i64 tk,.string ⟨tx.toArray⟩,.int .i64 (tp:Int)]),(q,36,bQ)] wx))
 case first=>
  have x0:=(bw.out.li 0 rfl).cell 0;have xf0:=(bw.out.li 0 rfl).frozen 0;have x1:=(bw.out.li 0 rfl).cell 1;have xf1:=(bw.out.li 0 rfl).frozen 1;have x2:=(bw.out.li 0 rfl).cell 2;have xf2:=(bw.out.li 0 rfl).frozen 2;simp only[za,zb,zf]at x0 x1 x2;rcases wd with h|h|h
  ·subst h
   go_wp2_with fail
   all_goals go_meet
   all_goals exact⟨rfl,bw⟩
  ·subst h
   go_wp2_with fail
   all_goals go_meet
   all_goals exact⟨rfl,bw⟩
  subst h
  go_wp2_with fail
  all_goals go_meet
  all_goals exact⟨rfl,bw⟩
 case rest=>
  obtain⟨rfl,ak⟩:=hcut;clear bw wd ku HOb;have x1:=(ak.out.li 0 rfl).cell 1;have xf1:=(ak.out.li 0 rfl).frozen 1;simp only[za,zb,zf]at x1
  go_wp2_with fail
  refine(C1.out wc).mono ?_;rintro e w5 ⟨rfl,hb⟩;subst hb;clear x1 xf1
  go_wp2_with fail
  refine(C2.out _).mono ?_;rintro e w6 ⟨rfl,hb⟩;have al:=zh (ak.out.next hb);clear hb ak C1 C2
  go_wp2_with fail
  refine(C3.out _).mono ?_;rintro e w7 ⟨rfl,hb⟩;have c9:=zh (al.out.next hb);clear hb al C3;have db:=zh (c9.out.alloc 150 #[.int .i64 mr,.int .i64 mc,.bool f1,.bool f2] (by decide));clear c9
  go_upto_region 7 with fail
  generalize World.alloc _ _=W8 at db ⊢;generalize hq13:w7.heap.size=q13 at db ⊢;clear hq13
  go_cut [14] (fun v wx=>v=.bool (ism&&aB (X.headD 0))/\Hid (Fs E w k op nd pl er [(q13,150,#[.int .i64 mr,.int .i64 mc,.bool f1,.bool f2]),(q8,70,#[.int .i64 tk,.string ⟨tx.toArray⟩,.int .i64 (tp:Int)]),(q,36,bQ)] wx))
  case first=>
   cases ism
   ·go_wp2_with fail
    all_goals go_meet
    all_goals exact⟨rfl,db⟩
   obtain⟨m,hm,_,_⟩:=HE5.out rfl;cases X with
   |nil=>rw[uGK]at hm;cases hm
   |cons c r=>
    by_cases g1:48<=c.toNat
    ·have g1i:(48:Int)<=(c.toNat:Int):=by omega
     by_cases g2:c.toNat<=57
     ·have g2i:(c.toNat:Int)<=57:=by omega
      go_wp2_with fail
      all_goals go_meet
      all_goals exact⟨by unfold aB;simp[g1,g2],db⟩
     have g2i:¬ (c.toNat:Int)<=57:=by omega
     go_wp2_with fail
     all_goals go_meet
     all_goals exact⟨by unfold aB;simp[g1,g2],db⟩
    have g1i:¬ (48:Int)<=(c.toNat:Int):=by omega
    go_wp2_with fail
    all_goals go_meet
    all_goals exact⟨by unfold aB;simp[g1],db⟩
  case rest=>
   obtain⟨rfl,bl⟩:=hcut;have dr:Hid ((ism&&aB (X.headD 0))=true->aB (X.headD 0)=true/\∃ m,bA (65::X)=some m/\mr=m.row/\m.row<=100000000):=zh (fun h=>by rw[yh]at h;exact⟨h.2,HE5.out h.1⟩);have tn:Hid ((ism&&aB (X.headD 0))=false->aB (X.headD 0)=true->bA (65::X)=none):=zh (fun h h2=>by rw[h2,Bool.and_true]at h;exact HE6.out h);generalize (ism&&aB (X.headD 0))=isr at *;clear db HE5 HE6;have cy:=zh (bl.out.alloc 36 bQ (by decide));clear bl
   go_upto_block 0 with fail
   generalize World.alloc _ _=Wa at cy ⊢;generalize hq15:wc.heap.size=q15 at cy ⊢;clear hq15;have ll:(k:Int)<=1000000:=by omega
   by_cases t5:col=true/\isc=true
   ·obtain⟨rfl,rfl⟩:=t5;obtain⟨p,hp,hpp,hpb⟩:=HE2.out rfl;subst hpp;have hOr:=HOc.out HG.out rfl p hp;clear HOc HOr HOn HE2 HE3 dr tn hp;cases hx:E.ax.cols[p]? with
    |none=>
     rw[hx]at hOr;have we:=zh hOr;clear hOr;have x5:=(cy.out.li 0 rfl).cell 5;have xf5:=(cy.out.li 0 rfl).frozen 5;simp only[za,zb,zf]at x5;have bj:Hid (Fs E w k op nd pl er [(q15,36,#[.int .i64 0,.int .i64 0,.int .i64 0,.int .i64 0,.bool false,.bool fx]),(q13,150,#[.int .i64 mr,.int .i64 mc,.bool f1,.bool f2]),(q8,70,#[.int .i64 tk,.string ⟨tx.toArray⟩,.int .i64 (tp:Int)]),(q,36,bQ)] (Wa.setCell ⟨q15,5,none⟩ (.bool fx))):=zh (cy.out.put hE 0 rfl 5 _);clear cy
     go_upto_region 13 with fail
     generalize World.setCell _ _ _=Wb at bj ⊢;clear x5 xf5;have r5:=bj.out.ine.rd.cell 5;simp only[za,zb,zf]at r5;have CL:=zh (CLn.out E.pb E.ax.cols p _ bj.out.ine (.inr ⟨rfl,rfl⟩) (by omega) hx)
     go_wp2_with fail
     refine CL.out.mono ?_;rintro e w6 ⟨rfl,h1,h2⟩;have iz:=zh (bj.out.step h1 h2);clear h1 h2 bj CL hx;clear r5;have x2:=(iz.out.li 0 rfl).cell 2;have xf2:=(iz.out.li 0 rfl).frozen 2;have x3:=(iz.out.li 0 rfl).cell 3;have xf3:=(iz.out.li 0 rfl).frozen 3;simp only[za,zb,zf]at x2 x3;have di:Hid (Fs E w k op nd tp 18 [(q15,36,#[.int .i64 0,.int .i64 0,.int .i64 0,.int .i64 0,.bool false,.bool fx]),(q13,150,#[.int .i64 mr,.int .i64 mc,.bool f1,.bool f2]),(q8,70,#[.int .i64 tk,.string ⟨tx.toArray⟩,.int .i64 (tp:Int)]),(q,36,bQ)] ((w6.setCell ⟨q15,2,none⟩ (.int .i64 0)).setCell ⟨q15,3,none⟩ (.int .i64 0))):=zh ((iz.out.put hE 0 rfl 2 _).put hE 0 rfl 3 _);clear iz
     go_upto_region 17 with fail
     generalize World.setCell _ _ _=Wd at di ⊢;clear x2 x3 xf2 xf3;have a0:=(di.out.li 3 rfl).cell 0;have af0:=(di.out.li 3 rfl).frozen 0;have a1:=(di.out.li 3 rfl).cell 1;have af1:=(di.out.li 3 rfl).frozen 1;have a2:=(di.out.li 3 rfl).cell 2;have af2:=(di.out.li 3 rfl).frozen 2;have a3:=(di.out.li 3 rfl).cell 3;have af3:=(di.out.li 3 rfl).frozen 3;have a4:=(di.out.li 3 rfl).cell 4;have af4:=(di.out.li 3 rfl).frozen 4;have a5:=(di.out.li 3 rfl).cell 5;have af5:=(di.out.li 3 rfl).frozen 5;simp only[za,zb,zf]at a0 a1 a2 a3 a4 a5
     have ag:Hid (∀ W',W'=((((((Wd.setCell ⟨q,0,none⟩ (.int .i64 0)).setCell ⟨q,1,none⟩ (.int .i64 0)).setCell ⟨q,2,none⟩ (.int .i64 0)).setCell ⟨q,3,none⟩ (.int .i64 0)).setCell ⟨q,4,none⟩ (.bool false)).setCell ⟨q,5,none⟩ (.bool false))->Fs E w k op nd tp 18 [(q15,36,#[.int .i64 0,.int .i64 0,.int .i64 0,.int .i64 0,.bool false,.bool fx]),(q13,150,#[.int .i64 mr,.int .i64 mc,.bool f1,.bool f2]),(q8,70,#[.int .i64 tk,.string ⟨tx.toArray⟩,.int .i64 (tp:Int)]),(q,36,bQ)] W'):=zh (fun W' e=>by rw[e];exact((((((di.out.put hE 3 rfl 0 _).put hE 3 rfl 1 _).put hE 3 rfl 2 _).put hE 3 rfl 3 _).put hE 3 rfl 4 _).put hE 3 rfl 5 _));clear di
     go_wp2_with fail
     refine yt (v:=.tuple #[.agg #[.int .i64 0,.int .i64 0,.int .i64 0,.int .i64 0,.bool false,.bool false],.bool false]) (by simp[results,Tryz.results124,go_sem,a0,a1,a2,a3,a4,a5]) rfl ?_;rw[we.out];show StepX E w k op nd (E.at k).place _ _ _ _;rw[ur.out];exact⟨rfl,(ag.out _ rfl).ine,(ag.out _ rfl).kp⟩
    |some x=>
     obtain⟨xa,xn⟩:=x;rw[hx]at hOr;have we:=zh hOr;clear hOr;have x5:=(cy.out.li 0 rfl).cell 5;have xf5:=(cy.out.li 0 rfl).frozen 5;simp only[za,zb,zf]at x5;have bj:Hid (Fs E w k op nd pl er [(q15,36,#[.int .i64 0,.int .i64 0,.int .i64 0,.int .i64 0,.bool false,.bool fx]),(q13,150,#[.int .i64 mr,.int .i64 mc,.bool f1,.bool f2]),(q8,70,#[.int .i64 tk,.string ⟨tx.toArray⟩,.int .i64 (tp:Int)]),(q,36,bQ)] (Wa.setCell ⟨q15,5,none⟩ (.bool fx))):=zh (cy.out.put hE 0 rfl 5 _);clear cy
     go_upto_region 13 with fail
     generalize World.setCell _ _ _=Wb at bj ⊢;clear x5 xf5;have r5:=bj.out.ine.rd.cell 5;simp only[za,zb,zf]at r5;have CL:=zh (CLy.out E.pb E.ax.cols p ⟨xa,xn⟩ _ bj.out.ine (.inr ⟨rfl,rfl⟩) (by omega) hx)
     go_wp2_with fail
     refine CL.out.mono ?_;rintro e w6 ⟨rfl,h1,h2⟩;have iz:=zh (bj.out.step h1 h2);clear h1 h2 bj CL hx;clear r5;have x2:=(iz.out.li 0 rfl).cell 2;have xf2:=(iz.out.li 0 rfl).frozen 2;have x3:=(iz.out.li 0 rfl).cell 3;have xf3:=(iz.out.li 0 rfl).frozen 3;simp only[za,zb,zf]at x2 x3;have di:Hid (Fs E w k op nd pl er [(q15,36,#[.int .i64 0,.int .i64 0,.int .i64 xa,.int .i64 xn,.bool false,.bool fx]),(q13,150,#[.int .i64 mr,.int .i64 mc,.bool f1,.bool f2]),(q8,70,#[.int .i64 tk,.string ⟨tx.toArray⟩,.int .i64 (tp:Int)]),(q,36,bQ)] ((w6.setCell ⟨q15,2,none⟩ (.int .i64 xa)).setCell ⟨q15,3,none⟩ (.int .i64 xn))):=zh ((iz.out.put hE 0 rfl 2 _).put hE 0 rfl 3 _);clear iz
     go_upto_region 17 with fail
     generalize World.setCell _ _ _=Wd at di ⊢;clear x2 x3 xf2 xf3;have r1:=di.out.ine.rd.cell 1;have rf1:=di.out.ine.rd.frozen 1;simp only[za,zb,zf]at r1;have dj:=zh (di.out.rd hE 1 (.int .i64 ((k:Int)+1)) (k':=k+1) rfl);clear di
     go_upto_region 20 with fail
     generalize World.setCell _ _ _=We at dj ⊢;clear r1 rf1;have y0:=(dj.out.li 0 rfl).cell 0;have y1:=(dj.out.li 0 rfl).cell 1;have y2:=(dj.out.li 0 rfl).cell 2;have y3:=(dj.out.li 0 rfl).cell 3;have y4:=(dj.out.li 0 rfl).cell 4;have y5:=(dj.out.li 0 rfl).cell 5;simp only[za,zb,zf]at y0 y1 y2 y3 y4 y5;have a0:=(dj.out.li 3 rfl).cell 0;have af0:=(dj.out.li 3 rfl).frozen 0;have a1:=(dj.out.li 3 rfl).cell 1;have af1:=(dj.out.li 3 rfl).frozen 1;have a2:=(dj.out.li 3 rfl).cell 2;have af2:=(dj.out.li 3 rfl).frozen 2;have a3:=(dj.out.li 3 rfl).cell 3;have af3:=(dj.out.li 3 rfl).frozen 3;have a4:=(dj.out.li 3 rfl).cell 4;have af4:=(dj.out.li 3 rfl).frozen 4;have a5:=(dj.out.li 3 rfl).cell 5;have af5:=(dj.out.li 3 rfl).frozen 5
     simp only[za,zb,zf]at a0 a1 a2 a3 a4 a5;have ag:Hid (∀ W',W'=((((((We.setCell ⟨q,0,none⟩ (.int .i64 0)).setCell ⟨q,1,none⟩ (.int .i64 0)).setCell ⟨q,2,none⟩ (.int .i64 xa)).setCell ⟨q,3,none⟩ (.int .i64 xn)).setCell ⟨q,4,none⟩ (.bool false)).setCell ⟨q,5,none⟩ (.bool fx))->Fs E w (k+1) op nd pl er [(q15,36,#[.int .i64 0,.int .i64 0,.int .i64 xa,.int .i64 xn,.bool false,.bool fx]),(q13,150,#[.int .i64 mr,.int .i64 mc,.bool f1,.bool f2]),(q8,70,#[.int .i64 tk,.string ⟨tx.toArray⟩,.int .i64 (tp:Int)]),(q,36,#[.int .i64 0,.int .i64 0,.int .i64 xa,.int .i64 xn,.bool false,.bool fx])] W'):=zh (fun W' e=>by rw[e];exact((((((dj.out.put hE 3 rfl 0 _).put hE 3 rfl 1 _).put hE 3 rfl 2 _).put hE 3 rfl 3 _).put hE 3 rfl 4 _).put hE 3 rfl 5 _));clear dj
     go_wp2_with fail
     refine yt (v:=.tuple #[.agg #[.int .i64 0,.int .i64 0,.int .i64 xa,.int .i64 xn,.bool false,.bool fx],.bool true]) (by simp[results,Tryz.results124,go_sem,a0,a1,a2,a3,a4,a5]) rfl ?_;rw[we.out];exact⟨rfl,(ag.out _ rfl).ine,(ag.out _ rfl).kp⟩
   have lj:Hid (col=true->bR X=none):=zh (fun h=>HE3.out (by cases isc;rfl;exact absurd ⟨h,rfl⟩ t5));have HCC:Hid (¬ (col=true/\isc=true)):=zh t5;clear t5 HE2 HE3 HOc;by_cases hrr:row=true/\isr=true
   ·obtain⟨rfl,rfl⟩:=hrr;obtain⟨hdg,m,hm,hmm,vo⟩:=dr.out rfl;have hOr:=HOr.out HG.out lj.out rfl hdg m hm;clear HOr HOn dr tn hm lj hdg;obtain⟨mrow,mcol,mfr,mfc⟩:=m;dsimp only at hOr hmm vo;subst hmm;have m9:col=false\/(col=true/\isc=false):=by have:=HCC.out;cases col <;> cases isc <;> simp_all
    clear HCC;rcases m9 with rfl|⟨rfl,rfl⟩
    ·cases hx:E.ax.rows[mrow]? with
     |none=>
      rw[hx]at hOr;have we:=zh hOr;clear hOr
      go_cut [16] (fun v wx=>v=.bool false/\Hid (Fs E w k op nd tp 18 [(q15,36,#[.int .i64 0,.int .i64 0,.int .i64 0,.int .i64 0,.bool fx,.bool false]),(q13,150,#[.int .i64 (mrow:Int),.int .i64 mc,.bool f1,.bool f2]),(q8,70,#[.int .i64 tk,.string ⟨tx.toArray⟩,.int .i64 (tp:Int)]),(q,36,bQ)] wx))
      case first=>
       have x4:=(cy.out.li 0 rfl).cell 4;have xf4:=(cy.out.li 0 rfl).frozen 4;simp only[za,zb,zf]at x4;have bj:Hid (Fs E w k op nd pl er [(q15,36,#[.int .i64 0,.int .i64 0,.int .i64 0,.int .i64 0,.bool fx,.bool false]),(q13,150,#[.int .i64 (mrow:Int),.int .i64 mc,.bool f1,.bool f2]),(q8,70,#[.int .i64 tk,.string ⟨tx.toArray⟩,.int .i64 (tp:Int)]),(q,36,bQ)] (Wa.setCell ⟨q15,4,none⟩ (.bool fx))):=zh (cy.out.put hE 0 rfl 4 _);clear cy
       go_upto_region 16 with fail
       generalize World.setCell _ _ _=Wb at bj ⊢;clear x4 xf4;have r4:=bj.out.ine.rd.cell 4;simp only[za,zb,zf]at r4;have x0:=(bj.out.li 1 rfl).cell 0;simp only[za,zb]at x0
       go_region_with ((go_at_call 134;refine(CLn.out E.pa E.ax.rows mrow Wb.drew (bj.out.next (Below.refl _ _).drew).ine (.inl ⟨rfl,rfl⟩) vo hx).mono ?_;rintro e w6 ⟨rfl,h1,h2⟩;have iz:=zh ((bj.out.next (Below.refl _ _).drew).step h1 h2);clear h1 h2;have z0:=(iz.out.li 0 rfl).cell 0;have zf0:=(iz.out.li 0 rfl).frozen 0;have z1:=(iz.out.li 0 rfl).cell 1;have zf1:=(iz.out.li 0 rfl).frozen 1;simp only[za,zb,zf]at z0 z1))
       all_goals go_wp2_with fail
       all_goals go_meet
       all_goals exact⟨rfl,zh ((iz.out.put hE 0 rfl 0 _).put hE 0 rfl 1 _)⟩
      case rest=>
       obtain⟨rfl,di⟩:=hcut;clear cy hx
       go_upto_region 17 with fail
       have a0:=(di.out.li 3 rfl).cell 0;have af0:=(di.out.li 3 rfl).frozen 0;have a1:=(di.out.li 3 rfl).cell 1;have af1:=(di.out.li 3 rfl).frozen 1;have a2:=(di.out.li 3 rfl).cell 2;have af2:=(di.out.li 3 rfl).frozen 2;have a3:=(di.out.li 3 rfl).cell 3;have af3:=(di.out.li 3 rfl).frozen 3;have a4:=(di.out.li 3 rfl).cell 4;have af4:=(di.out.li 3 rfl).frozen 4;have a5:=(di.out.li 3 rfl).cell 5;have af5:=(di.out.li 3 rfl).frozen 5;simp only[za,zb,zf]at a0 a1 a2 a3 a4 a5
       have ag:Hid (∀ W',W'=((((((wc.setCell ⟨q,0,none⟩ (.int .i64 0)).setCell ⟨q,1,none⟩ (.int .i64 0)).setCell ⟨q,2,none⟩ (.int .i64 0)).setCell ⟨q,3,none⟩ (.int .i64 0)).setCell ⟨q,4,none⟩ (.bool false)).setCell ⟨q,5,none⟩ (.bool false))->Fs E w k op nd tp 18 [(q15,36,#[.int .i64 0,.int .i64 0,.int .i64 0,.int .i64 0,.bool fx,.bool false]),(q13,150,#[.int .i64 (mrow:Int),.int .i64 mc,.bool f1,.bool f2]),(q8,70,#[.int .i64 tk,.string ⟨tx.toArray⟩,.int .i64 (tp:Int)]),(q,36,bQ)] W'):=zh (fun W' e=>by rw[e];exact((((((di.out.put hE 3 rfl 0 _).put hE 3 rfl 1 _).put hE 3 rfl 2 _).put hE 3 rfl 3 _).put hE 3 rfl 4 _).put hE 3 rfl 5 _));clear di
       go_wp2_with fail
       refine yt (v:=.tuple #[.agg #[.int .i64 0,.int .i64 0,.int .i64 0,.int .i64 0,.bool false,.bool false],.bool false]) (by simp[results,Tryz.results124,go_sem,a0,a1,a2,a3,a4,a5]) rfl ?_;rw[we.out];show StepX E w k op nd (E.at k).place _ _ _ _;rw[ur.out];exact⟨rfl,(ag.out _ rfl).ine,(ag.out _ rfl).kp⟩
     |some x=>
      obtain⟨xa,xn⟩:=x;rw[hx]at hOr;have we:=zh hOr;clear hOr
      go_cut [16] (fun v wx=>v=.bool true/\Hid (Fs E w k op nd pl er [(q15,36,#[.int .i64 xa,.int .i64 xn,.int .i64 0,.int .i64 0,.bool fx,.bool false]),(q13,150,#[.int .i64 (mrow:Int),.int .i64 mc,.bool f1,.bool f2]),(q8,70,#[.int .i64 tk,.string ⟨tx.toArray⟩,.int .i64 (tp:Int)]),(q,36,bQ)] wx))
      case first=>
       have x4:=(cy.out.li 0 rfl).cell 4;have xf4:=(cy.out.li 0 rfl).frozen 4;simp only[za,zb,zf]at x4;have bj:Hid (Fs E w k op nd pl er [(q15,36,#[.int .i64 0,.int .i64 0,.int .i64 0,.int .i64 0,.bool fx,.bool false]),(q13,150,#[.int .i64 (mrow:Int),.int .i64 mc,.bool f1,.bool f2]),(q8,70,#[.int .i64 tk,.string ⟨tx.toArray⟩,.int .i64 (tp:Int)]),(q,36,bQ)] (Wa.setCell ⟨q15,4,none⟩ (.bool fx))):=zh (cy.out.put hE 0 rfl 4 _);clear cy
       go_upto_region 16 with fail
       generalize World.setCell _ _ _=Wb at bj ⊢;clear x4 xf4;have r4:=bj.out.ine.rd.cell 4;simp only[za,zb,zf]at r4;have x0:=(bj.out.li 1 rfl).cell 0;simp only[za,zb]at x0
       go_region_with ((go_at_call 134;refine(CLy.out E.pa E.ax.rows mrow ⟨xa,xn⟩ Wb.drew (bj.out.next (Below.refl _ _).drew).ine (.inl ⟨rfl,rfl⟩) vo hx).mono ?_;rintro e w6 ⟨rfl,h1,h2⟩;have iz:=zh ((bj.out.next (Below.refl _ _).drew).step h1 h2);clear h1 h2;have z0:=(iz.out.li 0 rfl).cell 0;have zf0:=(iz.out.li 0 rfl).frozen 0;have z1:=(iz.out.li 0 rfl).cell 1;have zf1:=(iz.out.li 0 rfl).frozen 1;simp only[za,zb,zf]at z0 z1))
       all_goals go_wp2_with fail
       all_goals go_meet
       all_goals exact⟨rfl,zh ((iz.out.put hE 0 rfl 0 _).put hE 0 rfl 1 _)⟩
      case rest=>
       obtain⟨rfl,di⟩:=hcut;clear cy hx
       go_upto_region 17 with fail
       have r1:=di.out.ine.rd.cell 1;have rf1:=di.out.ine.rd.frozen 1;simp only[za,zb,zf]at r1;have dj:=zh (di.out.rd hE 1 (.int .i64 ((k:Int)+1)) (k':=k+1) rfl);clear di
       go_upto_region 20 with fail
       generalize World.setCell _ _ _=We at dj ⊢;clear r1 rf1;have y0:=(dj.out.li 0 rfl).cell 0;have y1:=(dj.out.li 0 rfl).cell 1;have y2:=(dj.out.li 0 rfl).cell 2;have y3:=(dj.out.li 0 rfl).cell 3;have y4:=(dj.out.li 0 rfl).cell 4;have y5:=(dj.out.li 0 rfl).cell 5;simp only[za,zb,zf]at y0 y1 y2 y3 y4 y5;have a0:=(dj.out.li 3 rfl).cell 0;have af0:=(dj.out.li 3 rfl).frozen 0;have a1:=(dj.out.li 3 rfl).cell 1;have af1:=(dj.out.li 3 rfl).frozen 1;have a2:=(dj.out.li 3 rfl).cell 2;have af2:=(dj.out.li 3 rfl).frozen 2;have a3:=(dj.out.li 3 rfl).cell 3;have af3:=(dj.out.li 3 rfl).frozen 3;have a4:=(dj.out.li 3 rfl).cell 4;have af4:=(dj.out.li 3 rfl).frozen 4;have a5:=(dj.out.li 3 rfl).cell 5;have af5:=(dj.out.li 3 rfl).frozen 5
       simp only[za,zb,zf]at a0 a1 a2 a3 a4 a5;have ag:Hid (∀ W',W'=((((((We.setCell ⟨q,0,none⟩ (.int .i64 xa)).setCell ⟨q,1,none⟩ (.int .i64 xn)).setCell ⟨q,2,none⟩ (.int .i64 0)).setCell ⟨q,3,none⟩ (.int .i64 0)).setCell ⟨q,4,none⟩ (.bool fx)).setCell ⟨q,5,none⟩ (.bool false))->Fs E w (k+1) op nd pl er [(q15,36,#[.int .i64 xa,.int .i64 xn,.int .i64 0,.int .i64 0,.bool fx,.bool false]),(q13,150,#[.int .i64 (mrow:Int),.int .i64 mc,.bool f1,.bool f2]),(q8,70,#[.int .i64 tk,.string ⟨tx.toArray⟩,.int .i64 (tp:Int)]),(q,36,#[.int .i64 xa,.int .i64 xn,.int .i64 0,.int .i64 0,.bool fx,.bool false])] W'):=zh (fun W' e=>by rw[e];exact((((((dj.out.put hE 3 rfl 0 _).put hE 3 rfl 1 _).put hE 3 rfl 2 _).put hE 3 rfl 3 _).put hE 3 rfl 4 _).put hE 3 rfl 5 _));clear dj
       go_wp2_with fail
       refine yt (v:=.tuple #[.agg #[.int .i64 xa,.int .i64 xn,.int .i64 0,.int .i64 0,.bool fx,.bool false],.bool true]) (by simp[results,Tryz.results124,go_sem,a0,a1,a2,a3,a4,a5]) rfl ?_;rw[we.out];exact⟨rfl,(ag.out _ rfl).ine,(ag.out _ rfl).kp⟩
    cases hx:E.ax.rows[mrow]? with
    |none=>
     rw[hx]at hOr;have we:=zh hOr;clear hOr
     go_cut [16] (fun v wx=>v=.bool false/\Hid (Fs E w k op nd tp 18 [(q15,36,#[.int .i64 0,.int .i64 0,.int .i64 0,.int .i64 0,.bool fx,.bool false]),(q13,150,#[.int .i64 (mrow:Int),.int .i64 mc,.bool f1,.bool f2]),(q8,70,#[.int .i64 tk,.string ⟨tx.toArray⟩,.int .i64 (tp:Int)]),(q,36,bQ)] wx))
     case first=>
      have x4:=(cy.out.li 0 rfl).cell 4;have xf4:=(cy.out.li 0 rfl).frozen 4;simp only[za,zb,zf]at x4;have bj:Hid (Fs E w k op nd pl er [(q15,36,#[.int .i64 0,.int .i64 0,.int .i64 0,.int .i64 0,.bool fx,.bool false]),(q13,150,#[.int .i64 (mrow:Int),.int .i64 mc,.bool f1,.bool f2]),(q8,70,#[.int .i64 tk,.string ⟨tx.toArray⟩,.int .i64 (tp:Int)]),(q,36,bQ)] (Wa.setCell ⟨q15,4,none⟩ (.bool fx))):=zh (cy.out.put hE 0 rfl 4 _);clear cy
      go_upto_region 16 with fail
      generalize World.setCell _ _ _=Wb at bj ⊢;clear x4 xf4;have r4:=bj.out.ine.rd.cell 4;simp only[za,zb,zf]at r4;have x0:=(bj.out.li 1 rfl).cell 0;simp only[za,zb]at x0
      go_region_with ((go_at_call 134;refine(CLn.out E.pa E.ax.rows mrow Wb.drew (bj.out.next (Below.refl _ _).drew).ine (.inl ⟨rfl,rfl⟩) vo hx).mono ?_;rintro e w6 ⟨rfl,h1,h2⟩;have iz:=zh ((bj.out.next (Below.refl _ _).drew).step h1 h2);clear h1 h2;have z0:=(iz.out.li 0 rfl).cell 0;have zf0:=(iz.out.li 0 rfl).frozen 0;have z1:=(iz.out.li 0 rfl).cell 1;have zf1:=(iz.out.li 0 rfl).frozen 1;simp only[za,zb,zf]at z0 z1))
      all_goals go_wp2_with fail
      all_goals go_meet
      all_goals exact⟨rfl,zh ((iz.out.put hE 0 rfl 0 _).put hE 0 rfl 1 _)⟩
     case rest=>
      obtain⟨rfl,di⟩:=hcut;clear cy hx
      go_upto_region 17 with fail
      have a0:=(di.out.li 3 rfl).cell 0;have af0:=(di.out.li 3 rfl).frozen 0;have a1:=(di.out.li 3 rfl).cell 1;have af1:=(di.out.li 3 rfl).frozen 1;have a2:=(di.out.li 3 rfl).cell 2;have af2:=(di.out.li 3 rfl).frozen 2;have a3:=(di.out.li 3 rfl).cell 3;have af3:=(di.out.li 3 rfl).frozen 3;have a4:=(di.out.li 3 rfl).cell 4;have af4:=(di.out.li 3 rfl).frozen 4;have a5:=(di.out.li 3 rfl).cell 5;have af5:=(di.out.li 3 rfl).frozen 5;simp only[za,zb,zf]at a0 a1 a2 a3 a4 a5
      have ag:Hid (∀ W',W'=((((((wc.setCell ⟨q,0,none⟩ (.int .i64 0)).setCell ⟨q,1,none⟩ (.int .i64 0)).setCell ⟨q,2,none⟩ (.int .i64 0)).setCell ⟨q,3,none⟩ (.int .i64 0)).setCell ⟨q,4,none⟩ (.bool false)).setCell ⟨q,5,none⟩ (.bool false))->Fs E w k op nd tp 18 [(q15,36,#[.int .i64 0,.int .i64 0,.int .i64 0,.int .i64 0,.bool fx,.bool false]),(q13,150,#[.int .i64 (mrow:Int),.int .i64 mc,.bool f1,.bool f2]),(q8,70,#[.int .i64 tk,.string ⟨tx.toArray⟩,.int .i64 (tp:Int)]),(q,36,bQ)] W'):=zh (fun W' e=>by rw[e];exact((((((di.out.put hE 3 rfl 0 _).put hE 3 rfl 1 _).put hE 3 rfl 2 _).put hE 3 rfl 3 _).put hE 3 rfl 4 _).put hE 3 rfl 5 _));clear di
      go_wp2_with fail
      refine yt (v:=.tuple #[.agg #[.int .i64 0,.int .i64 0,.int .i64 0,.int .i64 0,.bool false,.bool false],.bool false]) (by simp[results,Tryz.results124,go_sem,a0,a1,a2,a3,a4,a5]) rfl ?_;rw[we.out];show StepX E w k op nd (E.at k).place _ _ _ _;rw[ur.out];exact⟨rfl,(ag.out _ rfl).ine,(ag.out _ rfl).kp⟩
    |some x=>
     obtain⟨xa,xn⟩:=x;rw[hx]at hOr;have we:=zh hOr;clear hOr
     go_cut [16] (fun v wx=>v=.bool true/\Hid (Fs E w k op nd pl er [(q15,36,#[.int .i64 xa,.int .i64 xn,.int .i64 0,.int .i64 0,.bool fx,.bool false]),(q13,150,#[.int .i64 (mrow:Int),.int .i64 mc,.bool f1,.bool f2]),(q8,70,#[.int .i64 tk,.string ⟨tx.toArray⟩,.int .i64 (tp:Int)]),(q,36,bQ)] wx))
     case first=>
      have x4:=(cy.out.li 0 rfl).cell 4;have xf4:=(cy.out.li 0 rfl).frozen 4;simp only[za,zb,zf]at x4;have bj:Hid (Fs E w k op nd pl er [(q15,36,#[.int .i64 0,.int .i64 0,.int .i64 0,.int .i64 0,.bool fx,.bool false]),(q13,150,#[.int .i64 (mrow:Int),.int .i64 mc,.bool f1,.bool f2]),(q8,70,#[.int .i64 tk,.string ⟨tx.toArray⟩,.int .i64 (tp:Int)]),(q,36,bQ)] (Wa.setCell ⟨q15,4,none⟩ (.bool fx))):=zh (cy.out.put hE 0 rfl 4 _);clear cy
      go_upto_region 16 with fail
      generalize World.setCell _ _ _=Wb at bj ⊢;clear x4 xf4;have r4:=bj.out.ine.rd.cell 4;simp only[za,zb,zf]at r4;have x0:=(bj.out.li 1 rfl).cell 0;simp only[za,zb]at x0
      go_region_with ((go_at_call 134;refine(CLy.out E.pa E.ax.rows mrow ⟨xa,xn⟩ Wb.drew (bj.out.next (Below.refl _ _).drew).ine (.inl ⟨rfl,rfl⟩) vo hx).mono ?_;rintro e w6 ⟨rfl,h1,h2⟩;have iz:=zh ((bj.out.next (Below.refl _ _).drew).step h1 h2);clear h1 h2;have z0:=(iz.out.li 0 rfl).cell 0;have zf0:=(iz.out.li 0 rfl).frozen 0;have z1:=(iz.out.li 0 rfl).cell 1;have zf1:=(iz.out.li 0 rfl).frozen 1;simp only[za,zb,zf]at z0 z1))
      all_goals go_wp2_with fail
      all_goals go_meet
      all_goals exact⟨rfl,zh ((iz.out.put hE 0 rfl 0 _).put hE 0 rfl 1 _)⟩
     case rest=>
      obtain⟨rfl,di⟩:=hcut;clear cy hx
      go_upto_region 17 with fail
      have r1:=di.out.ine.rd.cell 1;have rf1:=di.out.ine.rd.frozen 1;simp only[za,zb,zf]at r1;have dj:=zh (di.out.rd hE 1 (.int .i64 ((k:Int)+1)) (k':=k+1) rfl);clear di
      go_upto_region 20 with fail
      generalize World.setCell _ _ _=We at dj ⊢;clear r1 rf1;have y0:=(dj.out.li 0 rfl).cell 0;have y1:=(dj.out.li 0 rfl).cell 1;have y2:=(dj.out.li 0 rfl).cell 2;have y3:=(dj.out.li 0 rfl).cell 3;have y4:=(dj.out.li 0 rfl).cell 4;have y5:=(dj.out.li 0 rfl).cell 5;simp only[za,zb,zf]at y0 y1 y2 y3 y4 y5;have a0:=(dj.out.li 3 rfl).cell 0;have af0:=(dj.out.li 3 rfl).frozen 0;have a1:=(dj.out.li 3 rfl).cell 1;have af1:=(dj.out.li 3 rfl).frozen 1;have a2:=(dj.out.li 3 rfl).cell 2;have af2:=(dj.out.li 3 rfl).frozen 2;have a3:=(dj.out.li 3 rfl).cell 3;have af3:=(dj.out.li 3 rfl).frozen 3;have a4:=(dj.out.li 3 rfl).cell 4;have af4:=(dj.out.li 3 rfl).frozen 4;have a5:=(dj.out.li 3 rfl).cell 5;have af5:=(dj.out.li 3 rfl).frozen 5
      simp only[za,zb,zf]at a0 a1 a2 a3 a4 a5;have ag:Hid (∀ W',W'=((((((We.setCell ⟨q,0,none⟩ (.int .i64 xa)).setCell ⟨q,1,none⟩ (.int .i64 xn)).setCell ⟨q,2,none⟩ (.int .i64 0)).setCell ⟨q,3,none⟩ (.int .i64 0)).setCell ⟨q,4,none⟩ (.bool fx)).setCell ⟨q,5,none⟩ (.bool false))->Fs E w (k+1) op nd pl er [(q15,36,#[.int .i64 xa,.int .i64 xn,.int .i64 0,.int .i64 0,.bool fx,.bool false]),(q13,150,#[.int .i64 (mrow:Int),.int .i64 mc,.bool f1,.bool f2]),(q8,70,#[.int .i64 tk,.string ⟨tx.toArray⟩,.int .i64 (tp:Int)]),(q,36,#[.int .i64 xa,.int .i64 xn,.int .i64 0,.int .i64 0,.bool fx,.bool false])] W'):=zh (fun W' e=>by rw[e];exact((((((dj.out.put hE 3 rfl 0 _).put hE 3 rfl 1 _).put hE 3 rfl 2 _).put hE 3 rfl 3 _).put hE 3 rfl 4 _).put hE 3 rfl 5 _));clear dj
      go_wp2_with fail
      refine yt (v:=.tuple #[.agg #[.int .i64 xa,.int .i64 xn,.int .i64 0,.int .i64 0,.bool fx,.bool false],.bool true]) (by simp[results,Tryz.results124,go_sem,a0,a1,a2,a3,a4,a5]) rfl ?_;rw[we.out];exact⟨rfl,(ag.out _ rfl).ine,(ag.out _ rfl).kp⟩
   have hO:=HOn.out HG.out lj.out (fun h1 h2=>tn.out (by cases isr;rfl;exact absurd ⟨h1,rfl⟩ hrr) h2);subst hO;clear HOr HOn dr tn lj;have m9:col=false\/(col=true/\isc=false):=by have:=HCC.out;cases col <;> cases isc <;> simp_all
   have hri:row=false\/(row=true/\isr=false):=by cases row <;> cases isr <;> simp_all
   clear HCC hrr;rcases m9 with rfl|⟨rfl,rfl⟩ <;> rcases hri with rfl|⟨rfl,rfl⟩
   ·go_wp2_with fail
    refine(CW.out _ cy.out.ine).mono ?_;rintro e w6 ⟨rfl,h1,h2⟩;have bj:=zh (cy.out.step h1 h2.X);clear h1 h2 cy;have a0:=(bj.out.li 3 rfl).cell 0;have af0:=(bj.out.li 3 rfl).frozen 0;have a1:=(bj.out.li 3 rfl).cell 1;have af1:=(bj.out.li 3 rfl).frozen 1;have a2:=(bj.out.li 3 rfl).cell 2;have af2:=(bj.out.li 3 rfl).frozen 2;have a3:=(bj.out.li 3 rfl).cell 3;have af3:=(bj.out.li 3 rfl).frozen 3;have a4:=(bj.out.li 3 rfl).cell 4;have af4:=(bj.out.li 3 rfl).frozen 4;have a5:=(bj.out.li 3 rfl).cell 5;have af5:=(bj.out.li 3 rfl).frozen 5;simp only[za,zb,zf]at a0 a1 a2 a3 a4 a5
    have ag:Hid (∀ W',W'=((((((w6.setCell ⟨q,0,none⟩ (.int .i64 0)).setCell ⟨q,1,none⟩ (.int .i64 0)).setCell ⟨q,2,none⟩ (.int .i64 0)).setCell ⟨q,3,none⟩ (.int .i64 0)).setCell ⟨q,4,none⟩ (.bool false)).setCell ⟨q,5,none⟩ (.bool false))->Fs E w k op nd tp 6 [(q15,36,bQ),(q13,150,#[.int .i64 mr,.int .i64 mc,.bool f1,.bool f2]),(q8,70,#[.int .i64 tk,.string ⟨tx.toArray⟩,.int .i64 (tp:Int)]),(q,36,bQ)] W'):=zh (fun W' e=>by rw[e];exact((((((bj.out.put hE 3 rfl 0 _).put hE 3 rfl 1 _).put hE 3 rfl 2 _).put hE 3 rfl 3 _).put hE 3 rfl 4 _).put hE 3 rfl 5 _));clear bj
    go_wp2_with fail
    refine yt (v:=.tuple #[.agg #[.int .i64 0,.int .i64 0,.int .i64 0,.int .i64 0,.bool false,.bool false],.bool false]) (by simp[results,Tryz.results124,go_sem,a0,a1,a2,a3,a4,a5]) rfl ?_;show StepX E w k op nd (E.at k).place _ _ _ _;rw[ur.out];exact⟨rfl,(ag.out _ rfl).ine,(ag.out _ rfl).kp⟩
   ·go_wp2_with fail
    refine(CW.out _ cy.out.ine).mono ?_;rintro e w6 ⟨rfl,h1,h2⟩;have bj:=zh (cy.out.step h1 h2.X);clear h1 h2 cy;have a0:=(bj.out.li 3 rfl).cell 0;have af0:=(bj.out.li 3 rfl).frozen 0;have a1:=(bj.out.li 3 rfl).cell 1;have af1:=(bj.out.li 3 rfl).frozen 1;have a2:=(bj.out.li 3 rfl).cell 2;have af2:=(bj.out.li 3 rfl).frozen 2;have a3:=(bj.out.li 3 rfl).cell 3;have af3:=(bj.out.li 3 rfl).frozen 3;have a4:=(bj.out.li 3 rfl).cell 4;have af4:=(bj.out.li 3 rfl).frozen 4;have a5:=(bj.out.li 3 rfl).cell 5;have af5:=(bj.out.li 3 rfl).frozen 5;simp only[za,zb,zf]at a0 a1 a2 a3 a4 a5
    have ag:Hid (∀ W',W'=((((((w6.setCell ⟨q,0,none⟩ (.int .i64 0)).setCell ⟨q,1,none⟩ (.int .i64 0)).setCell ⟨q,2,none⟩ (.int .i64 0)).setCell ⟨q,3,none⟩ (.int .i64 0)).setCell ⟨q,4,none⟩ (.bool false)).setCell ⟨q,5,none⟩ (.bool false))->Fs E w k op nd tp 6 [(q15,36,bQ),(q13,150,#[.int .i64 mr,.int .i64 mc,.bool f1,.bool f2]),(q8,70,#[.int .i64 tk,.string ⟨tx.toArray⟩,.int .i64 (tp:Int)]),(q,36,bQ)] W'):=zh (fun W' e=>by rw[e];exact((((((bj.out.put hE 3 rfl 0 _).put hE 3 rfl 1 _).put hE 3 rfl 2 _).put hE 3 rfl 3 _).put hE 3 rfl 4 _).put hE 3 rfl 5 _));clear bj
    go_wp2_with fail
    refine yt (v:=.tuple #[.agg #[.int .i64 0,.int .i64 0,.int .i64 0,.int .i64 0,.bool false,.bool false],.bool false]) (by simp[results,Tryz.results124,go_sem,a0,a1,a2,a3,a4,a5]) rfl ?_;show StepX E w k op nd (E.at k).place _ _ _ _;rw[ur.out];exact⟨rfl,(ag.out _ rfl).ine,(ag.out _ rfl).kp⟩
   ·go_wp2_with fail
    refine(CW.out _ cy.out.ine).mono ?_;rintro e w6 ⟨rfl,h1,h2⟩;have bj:=zh (cy.out.step h1 h2.X);clear h1 h2 cy;have a0:=(bj.out.li 3 rfl).cell 0;have af0:=(bj.out.li 3 rfl).frozen 0;have a1:=(bj.out.li 3 rfl).cell 1;have af1:=(bj.out.li 3 rfl).frozen 1;have a2:=(bj.out.li 3 rfl).cell 2;have af2:=(bj.out.li 3 rfl).frozen 2;have a3:=(bj.out.li 3 rfl).cell 3;have af3:=(bj.out.li 3 rfl).frozen 3;have a4:=(bj.out.li 3 rfl).cell 4;have af4:=(bj.out.li 3 rfl).frozen 4;have a5:=(bj.out.li 3 rfl).cell 5;have af5:=(bj.out.li 3 rfl).frozen 5;simp only[za,zb,zf]at a0 a1 a2 a3 a4 a5
    have ag:Hid (∀ W',W'=((((((w6.setCell ⟨q,0,none⟩ (.int .i64 0)).setCell ⟨q,1,none⟩ (.int .i64 0)).setCell ⟨q,2,none⟩ (.int .i64 0)).setCell ⟨q,3,none⟩ (.int .i64 0)).setCell ⟨q,4,none⟩ (.bool false)).setCell ⟨q,5,none⟩ (.bool false))->Fs E w k op nd tp 6 [(q15,36,bQ),(q13,150,#[.int .i64 mr,.int .i64 mc,.bool f1,.bool f2]),(q8,70,#[.int .i64 tk,.string ⟨tx.toArray⟩,.int .i64 (tp:Int)]),(q,36,bQ)] W'):=zh (fun W' e=>by rw[e];exact((((((bj.out.put hE 3 rfl 0 _).put hE 3 rfl 1 _).put hE 3 rfl 2 _).put hE 3 rfl 3 _).put hE 3 rfl 4 _).put hE 3 rfl 5 _));clear bj
    go_wp2_with fail
    refine yt (v:=.tuple #[.agg #[.int .i64 0,.int .i64 0,.int .i64 0,.int .i64 0,.bool false,.bool false],.bool false]) (by simp[results,Tryz.results124,go_sem,a0,a1,a2,a3,a4,a5]) rfl ?_;show StepX E w k op nd (E.at k).place _ _ _ _;rw[ur.out];exact⟨rfl,(ag.out _ rfl).ine,(ag.out _ rfl).kp⟩
   go_wp2_with fail
   refine(CW.out _ cy.out.ine).mono ?_;rintro e w6 ⟨rfl,h1,h2⟩;have bj:=zh (cy.out.step h1 h2.X);clear h1 h2 cy;have a0:=(bj.out.li 3 rfl).cell 0;have af0:=(bj.out.li 3 rfl).frozen 0;have a1:=(bj.out.li 3 rfl).cell 1;have af1:=(bj.out.li 3 rfl).frozen 1;have a2:=(bj.out.li 3 rfl).cell 2;have af2:=(bj.out.li 3 rfl).frozen 2;have a3:=(bj.out.li 3 rfl).cell 3;have af3:=(bj.out.li 3 rfl).frozen 3;have a4:=(bj.out.li 3 rfl).cell 4;have af4:=(bj.out.li 3 rfl).frozen 4;have a5:=(bj.out.li 3 rfl).cell 5;have af5:=(bj.out.li 3 rfl).frozen 5;simp only[za,zb,zf]at a0 a1 a2 a3 a4 a5
   have ag:Hid (∀ W',W'=((((((w6.setCell ⟨q,0,none⟩ (.int .i64 0)).setCell ⟨q,1,none⟩ (.int .i64 0)).setCell ⟨q,2,none⟩ (.int .i64 0)).setCell ⟨q,3,none⟩ (.int .i64 0)).setCell ⟨q,4,none⟩ (.bool false)).setCell ⟨q,5,none⟩ (.bool false))->Fs E w k op nd tp 6 [(q15,36,bQ),(q13,150,#[.int .i64 mr,.int .i64 mc,.bool f1,.bool f2]),(q8,70,#[.int .i64 tk,.string ⟨tx.toArray⟩,.int .i64 (tp:Int)]),(q,36,bQ)] W'):=zh (fun W' e=>by rw[e];exact((((((bj.out.put hE 3 rfl 0 _).put hE 3 rfl 1 _).put hE 3 rfl 2 _).put hE 3 rfl 3 _).put hE 3 rfl 4 _).put hE 3 rfl 5 _));clear bj
   go_wp2_with fail
   refine yt (v:=.tuple #[.agg #[.int .i64 0,.int .i64 0,.int .i64 0,.int .i64 0,.bool false,.bool false],.bool false]) (by simp[results,Tryz.results124,go_sem,a0,a1,a2,a3,a4,a5]) rfl ?_;show StepX E w k op nd (E.at k).place _ _ _ _;rw[ur.out];exact⟨rfl,(ag.out _ rfl).ine,(ag.out _ rfl).kp⟩
end Go.Proofs.YtmgjidnalpgegaaGreatDoor
