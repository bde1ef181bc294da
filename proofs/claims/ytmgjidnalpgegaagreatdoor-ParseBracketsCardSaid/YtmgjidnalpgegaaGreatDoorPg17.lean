/-
  Lemmas, part 17: ParW ParX PaH.
-/
import Derived.Test.YtmgjidnalpgegaaGreatDoorPg16
namespace Go.Proofs.YtmgjidnalpgegaaGreatDoor
open Go.RowKit
theorem uAL{E:Env}{k:Nat}(h:k+1<E.L.length):nxt (E.L.drop k)=E.at (k+1):=by
 rw[List.drop_eq_getElem_cons (by omega:k<E.L.length),List.drop_eq_getElem_cons h];show E.L[k+1]=_;rw[E.at_lt h]
theorem nx_more{E:Env}{k:Nat}(h:k+1<E.L.length):E.nx k=E.at (k+1):=uAL h
set_option maxRecDepth 100000 in
set_option maxHeartbeats 3200000 in
theorem name_any(E:Env)(hE:E.ok)(he:E.ends)(hL:E.L.length≤1000000)(hT:E.short)(hC:oM)(whole:Nat→List Tok→Nat→Out)(op:Nat)(ho:op≤64)(hp:op<64→dU E 24 (whole (op+1)) (op+1))(k nd pl er:Nat)(w:World)(hI:InE E k op nd pl er w)(hk:k<E.L.length)(hn:nd≤k)(hk1:k+1<E.L.length) :
  Calls Tryz.prog 118 #[.pointer (some ⟨E.r,0,none⟩)] w (NPost E w k op nd pl er (mR whole op (E.L.drop k) nd)):=by
 have CT:=zh (fun W h=>bT E k op nd pl er W h hk);have CX:=zh (fun W h=>uFI E k op nd pl er W h hk hL);have CS:=zh (fun t s W=>cY t s W);have CTr:=zh (fun W=>mH (E.at k) W (by have:=hT k;omega));have CFo:=zh (fun W=>kJ (E.at k).text W (by have:=hT k;unfold maxLen;omega));have CCk:=zh (hC ⟨7,aF,aG (E.at k).text,aH,aH,0⟩ · (.inr rfl) (by have:=hT k;rw[cR];omega) rfl);have CW:=zh (fun W h=>eQ E hE k op nd pl er 9 W h hk);have CC:=zh (fun W h hs=>call_any E hE he hL hT hC whole op ho hp k nd pl er W h hk hn hk1 hs);have CLi:=zh (fun W h=>mN E hE he k op nd pl er W h hk hL (by have:=hT k;omega) hn);have CN:=zh (fun k pl er cs h22 h1 W h=>gN E hE k op nd pl er cs h22 h1 W h (by omega));have HS1:=zh ((Fs.start hI).alloc 41 aB.toArray (by decide));have HF:Hid (k<E.L.length∧nd≤k∧k+1<E.L.length):=zh ⟨hk,hn,hk1⟩
 rw[nx_more hk1]at CX;generalize hO:mR whole op (E.L.drop k) nd=O;have HO:Hid ((if isS (E.at (k+1)) [40] then mQ whole op (E.L.drop k) nd else if cB (E.at k) then cH (E.L.drop k) nd else if bV (aG (E.at k).text) then .ok (uFU (aG (E.at k).text)) (E.L.drop (k+1)) (nd+1) else .bad 9 (E.at k).place)=O):=zh (by
  rw[← hO];unfold mR fD;rw[uAL hk1,List.tail_drop];rfl)
 have hpc:=uAN (aG (E.at k).text);have HPC:=zh hpc;clear hI hO hn hk hk1 hp ho hT hC hpc;obtain⟨tt,hat⟩:∃ tt,E.at k=tt:=⟨_,rfl⟩
 rw[hat]at CT CTr CFo HO HPC CCk CW;clear hat;generalize hsn:aG tt.text=s at *;obtain⟨tk,tx,tp⟩:=tt;dsimp only[tkV]at CT CTr CFo CW;clear hsn;simp only[aB]at HS1
 go_enter Tryz.func118,Tryz.ntmps118
 go_upto_region 1 with fail
 generalize World.alloc _ _=W1 at HS1 ⊢;generalize hq:w.heap.size=q at HS1 ⊢;have HQ:=zh hq;clear hq
 go_wp2_with fail
 refine(CT.out _ HS1.out.ine).mono ?_;rintro e w2 ⟨rfl,hb⟩;have HS3:=zh ((HS1.out.next hb).alloc 70 #[.int .i64 tk,.string ⟨tx.toArray⟩,.int .i64 (tp:Int)] (by decide));clear hb HS1 CT
 go_upto_region 2 with fail
 generalize World.alloc _ _=W3 at HS3 ⊢;generalize w2.heap.size=q4 at HS3 ⊢
 go_wp2_with fail
 refine(CX.out _ HS3.out.ine).mono ?_;rintro e w4 ⟨rfl,hb⟩;have HS4:=zh (HS3.out.next hb);clear hb HS3 CX;have CS1:=zh (CS.out (E.at (k+1)) [40] w4)
 go_wp2_with fail
 refine CS1.out.mono ?_;rintro e w5 ⟨rfl,hb⟩;have HS5:=zh (HS4.out.next hb);clear hb HS4 CS1;by_cases b1:isS (E.at (k+1)) [40]=true
 ·rw[if_pos b1]at HO;have CL1:=zh (CC.out _ HS5.out.ine b1);rw[b1];clear CC CLi CCk CTr CFo CW HPC;rw[HO.out]at CL1
  go_wp2_with fail
  refine CL1.out.mono ?_;cases O with
  | ok t ts c=>
   rintro e w4 ⟨k1,cs,rfl,g1,g2,g3,g4,g5,g6,g7,g8⟩;obtain⟨C,rfl⟩:∃ C:List Value,cs=C.toArray:=⟨cs.toList,by simp⟩
   have yC:Hid (C.length=22):=zh (by have:=g8.1;rwa [List.size_toArray]at this);have yo:=zh g8.2.1;have HX:=zh (⟨g1,g2,g3,g4,g5,g8⟩:k≤k1∧k1<E.L.length∧ts=E.L.drop k1∧c+k≤nd+k1∧nd≤c∧NV w4 (List.range w5.heap.size) c t C.toArray);have HS4:=zh (HS5.out.step g6 g7);have HSq:=zh (HS5.out.lt 1 rfl);clear g1 g2 g3 g4 g5 g6 g7 g8 HS5 CL1;have HT:=zh (HS4.out.there 1 rfl C.toArray.size (by rw[List.size_toArray,yC.out];rfl));have HSz:=zh (HS4.out.fill hE 1 rfl C (by rw[yC.out];rfl));have zi:=hfN yC.out
   go_wp2_with (first |(refine wpList_store_mid rfl 41 (.tmp 2) (.tmp 13) rfl q 0 C.toArray rfl rfl HT.out zi yo.out ?_;change wpList _ _ _ _ _ (World.setCells _ q 0 C);generalize hwz:World.setCells _ _ _ _=wz at HSz ⊢))
   have HA:=zh (HSz.out.li 1 rfl);refine bodyPost_ret (aK rfl rfl HA.out (by rw[List.size_toArray,yC.out])) rfl ?_;have hkq:Kp [q] w4 wz:=by rw[← hwz];exact aU (.inl (.head _)) C 0 (Kp.refl _ _)
   exact⟨k1,C.toArray,rfl,HX.out.1,HX.out.2.1,HX.out.2.2.1,HX.out.2.2.2.1,HX.out.2.2.2.2.1,HSz.out.ine,HSz.out.kp,(HX.out.2.2.2.2.2.kpX hkq (fun y hy=>by rw[List.mem_singleton.1 hy];exact List.mem_range.2 HSq.out)).anti (fun y hy _=>List.mem_range.2 (by have:=List.mem_range.1 hy;have:=HSq.out;have:=HQ.out;omega))⟩
  | bad e0 p0=>
   rintro e w4 ⟨cs,k1,op1,nd1,rfl,g1,g2,g3,g4,g5,g6,g7⟩;obtain⟨C,rfl⟩:∃ C:List Value,cs=C.toArray:=⟨cs.toList,by simp⟩
   have yC:Hid (C.length=22):=zh (by rwa [List.size_toArray]at g1);have yo:=zh g2;have HX:=zh (⟨g3,g4,g5⟩:k≤k1∧k1<E.L.length∧nd1+k≤nd+k1);have HS4:=zh (HS5.out.step g6 g7);clear g1 g2 g3 g4 g5 g6 g7 HS5 CL1;have HT:=zh (HS4.out.there 1 rfl C.toArray.size (by rw[List.size_toArray,yC.out];rfl));have HSz:=zh (HS4.out.fill hE 1 rfl C (by rw[yC.out];rfl));have zi:=hfN yC.out
   go_wp2_with (first |(refine wpList_store_mid rfl 41 (.tmp 2) (.tmp 13) rfl q 0 C.toArray rfl rfl HT.out zi yo.out ?_;change wpList _ _ _ _ _ (World.setCells _ q 0 C);generalize World.setCells _ _ _ _=wz at HSz ⊢))
   have HA:=zh (HSz.out.li 1 rfl);refine bodyPost_ret (aK rfl rfl HA.out (by rw[List.size_toArray,yC.out])) rfl ?_;exact⟨C.toArray,k1,op1,nd1,rfl,by rw[List.size_toArray,yC.out],yo.out,HX.out.1,HX.out.2.1,HX.out.2.2,HSz.out.ine,HSz.out.kp⟩
 ·have b1':isS (E.at (k+1)) [40]=false:=by simpa using b1
  rw[if_neg b1]at HO;rw[b1'];clear b1 b1' CC CS;have x0:=(HS5.out.li 0 rfl).cell 0;have x1:=(HS5.out.li 0 rfl).cell 1;have x2:=(HS5.out.li 0 rfl).cell 2;simp only[List.getElem?_toArray,List.getElem?_cons_zero,List.getElem?_cons_succ]at x0 x1 x2
  go_wp2_with fail
  refine(CTr.out _).mono ?_;rintro e w6 ⟨rfl,hb⟩;have HS6:=zh (HS5.out.next hb);clear hb HS5 CTr;clear x0 x1 x2;cases b2:cB ⟨tk,tx,tp⟩ with
  | true=>
   rw[b2,if_pos rfl]at HO;have CL1:=zh (CLi.out _ HS6.out.ine);clear CLi CCk CFo CW HPC;rw[HO.out]at CL1
   go_wp2_with fail
   refine CL1.out.mono ?_;cases O with
   | ok t ts c=>
    rintro e w4 ⟨k1,cs,rfl,g1,g2,g3,g4,g5,g6,g7,g8⟩;obtain⟨C,rfl⟩:∃ C:List Value,cs=C.toArray:=⟨cs.toList,by simp⟩
    have yC:Hid (C.length=22):=zh (by have:=g8.1;rwa [List.size_toArray]at this);have yo:=zh g8.2.1;have HX:=zh (⟨g1,g2,g3,g4,g5,g8⟩:k≤k1∧k1<E.L.length∧ts=E.L.drop k1∧c+k≤nd+k1∧nd≤c∧NV w4 (List.range w6.heap.size) c t C.toArray);have HS4:=zh (HS6.out.step g6 g7);have HSq:=zh (HS6.out.lt 1 rfl);clear g1 g2 g3 g4 g5 g6 g7 g8 HS6 CL1;have HT:=zh (HS4.out.there 1 rfl C.toArray.size (by rw[List.size_toArray,yC.out];rfl));have HSz:=zh (HS4.out.fill hE 1 rfl C (by rw[yC.out];rfl));have zi:=hfN yC.out
    go_wp2_with (first |(refine wpList_store_mid rfl 41 (.tmp 2) (.tmp 19) rfl q 0 C.toArray rfl rfl HT.out zi yo.out ?_;change wpList _ _ _ _ _ (World.setCells _ q 0 C);generalize hwz:World.setCells _ _ _ _=wz at HSz ⊢))
    have HA:=zh (HSz.out.li 1 rfl);refine bodyPost_ret (aK rfl rfl HA.out (by rw[List.size_toArray,yC.out])) rfl ?_;have hkq:Kp [q] w4 wz:=by rw[← hwz];exact aU (.inl (.head _)) C 0 (Kp.refl _ _)
    exact⟨k1,C.toArray,rfl,HX.out.1,HX.out.2.1,HX.out.2.2.1,HX.out.2.2.2.1,HX.out.2.2.2.2.1,HSz.out.ine,HSz.out.kp,(HX.out.2.2.2.2.2.kpX hkq (fun y hy=>by rw[List.mem_singleton.1 hy];exact List.mem_range.2 HSq.out)).anti (fun y hy _=>List.mem_range.2 (by have:=List.mem_range.1 hy;have:=HSq.out;have:=HQ.out;omega))⟩
   | bad e0 p0=>
    rintro e w4 ⟨cs,k1,op1,nd1,rfl,g1,g2,g3,g4,g5,g6,g7⟩;obtain⟨C,rfl⟩:∃ C:List Value,cs=C.toArray:=⟨cs.toList,by simp⟩
    have yC:Hid (C.length=22):=zh (by rwa [List.size_toArray]at g1);have yo:=zh g2;have HX:=zh (⟨g3,g4,g5⟩:k≤k1∧k1<E.L.length∧nd1+k≤nd+k1);have HS4:=zh (HS6.out.step g6 g7);clear g1 g2 g3 g4 g5 g6 g7 HS6 CL1;have HT:=zh (HS4.out.there 1 rfl C.toArray.size (by rw[List.size_toArray,yC.out];rfl));have HSz:=zh (HS4.out.fill hE 1 rfl C (by rw[yC.out];rfl));have zi:=hfN yC.out
    go_wp2_with (first |(refine wpList_store_mid rfl 41 (.tmp 2) (.tmp 19) rfl q 0 C.toArray rfl rfl HT.out zi yo.out ?_;change wpList _ _ _ _ _ (World.setCells _ q 0 C);generalize World.setCells _ _ _ _=wz at HSz ⊢))
    have HA:=zh (HSz.out.li 1 rfl);refine bodyPost_ret (aK rfl rfl HA.out (by rw[List.size_toArray,yC.out])) rfl ?_;exact⟨C.toArray,k1,op1,nd1,rfl,by rw[List.size_toArray,yC.out],yo.out,HX.out.1,HX.out.2.1,HX.out.2.2,HSz.out.ine,HSz.out.kp⟩
  | false=>
   rw[b2,if_neg (by decide)]at HO;clear b2 CLi;have x0:=(HS6.out.li 0 rfl).cell 0;have x1:=(HS6.out.li 0 rfl).cell 1;have x2:=(HS6.out.li 0 rfl).cell 2;simp only[List.getElem?_toArray,List.getElem?_cons_zero,List.getElem?_cons_succ]at x0 x1 x2
   go_wp2_with fail
   refine(CFo.out _).mono ?_;rintro e w7 ⟨rfl,hb⟩;have HS7:=zh ((HS6.out.next hb).alloc 41 aB.toArray (by decide));clear hb HS6 CFo;clear x0 x1 x2;have HT:=zh (HS7.out.there 0 rfl 22 rfl);have HS8:=zh (HS7.out.fill hE 0 rfl (cJ 7 s 0 none 0 0) rfl);have hone:=fN 7 s 0 none 0 0;clear HS7;simp only[List.set_cons_zero]at HS8;simp only[aB]at HS8 HT
   go_upto_region 7 with(first |(refine wpList_store_mid rfl 41 (.tmp 5) (.tmp 24) rfl w7.heap.size 0 (cJ 7 s 0 none 0 0).toArray rfl rfl HT.out aE hone ?_;change wpList _ _ _ _ _ (World.setCells _ w7.heap.size 0 (cJ 7 s 0 none 0 0));generalize World.setCells _ _ _ _=W8 at HS8 ⊢;generalize w7.heap.size=q5 at HS8 ⊢))
   clear HT hone;have HRg:=zh (HS8.out.range 0 (l:=cJ 7 s 0 none 0 0) rfl)
   go_wp2_with (first |(refine wpList_load_mid rfl 41 (.tmp 5) rfl q5 0 rfl (cJ 7 s 0 none 0 0) _ HRg.out Tryz.underlying41 rfl aE ?_))
   refine(CCk.out _).mono ?_;rintro e w9 ⟨rfl,hb⟩;have HS9:=zh (HS8.out.next hb);clear hb HS8 CCk HRg;rw[HPC.out];cases hcb:bV s with
   | false=>
    rw[hcb,if_neg (by decide)]at HO;have HO1:=zh HO.out.symm;rw[if_neg (by decide)];clear HO HPC
    go_wp2_with fail
    refine(CW.out _ HS9.out.ine).mono ?_;rintro e wa ⟨rfl,h1,h2⟩;have HSa:=zh (HS9.out.step h1 h2.X);clear h1 h2 HS9 CW;have HT:=zh (HSa.out.there 2 rfl 22 rfl);have HSz:=zh (HSa.out.fill hE 2 rfl aB rfl)
    go_wp2_with (first |(refine wpList_store_mid rfl 41 (.tmp 2) (.tmp 28) rfl q 0 aB.toArray rfl rfl HT.out aE aT ?_;change wpList _ _ _ _ _ (World.setCells _ q 0 aB);generalize World.setCells _ _ _ _=wz at HSz ⊢))
    have HA:=zh (HSz.out.li 2 rfl);refine bodyPost_ret (aK rfl rfl HA.out rfl) rfl ?_;rw[HO1.out];exact cK HSz.out rfl aT (Nat.le_refl _) HF.out.1 (by omega)
   | true=>
    rw[hcb,if_pos rfl]at HO;have HO1:=zh HO.out.symm;rw[if_pos rfl];clear CW HPC HO;have r1:=HS9.out.ine.rd.cell 1;have rf1:=HS9.out.ine.rd.frozen 1;simp only[List.getElem?_toArray,List.getElem?_cons_zero,List.getElem?_cons_succ]at r1;have hkb:(k:Int)≤1000000:=by have:=HF.out;omega
    have HSa:Hid (Fs E w (k+1) op nd pl er [(q5,41,(cJ 7 s 0 none 0 0).toArray),(q4,70,#[.int .i64 tk,.string ⟨tx.toArray⟩,.int .i64 (tp:Int)]),(q,41,aB.toArray)] (w9.setCell ⟨E.r,1,none⟩ (.int .i64 ((k:Int)+1)))):=zh (HS9.out.rd hE 1 _ rfl);clear HS9
    go_upto_region 10 with fail
    generalize World.setCell _ _ _=Wa at HSa ⊢;clear r1 rf1;have CN1:=zh (CN.out (k+1) pl er (cJ 7 s 0 none 0 0) rfl (fN 7 s 0 none 0 0) _ HSa.out.ine);obtain⟨C,hC,hC22,hC1,hCk⟩:=eT (nd+1) (cJ 7 s 0 none 0 0) rfl (fN 7 s 0 none 0 0);rw[hC]at CN1;have yC:=zh hC22;have HC1:=zh hC1;have HCk:=zh hCk;have HRg:=zh (HSa.out.range 0 (l:=cJ 7 s 0 none 0 0) rfl);clear hC hC22 hC1 hCk
    go_wp2_with (first |(refine wpList_load_mid rfl 41 (.tmp 5) rfl q5 0 rfl (cJ 7 s 0 none 0 0) _ HRg.out Tryz.underlying41 rfl aE ?_))
    refine CN1.out.mono ?_;rintro e wn ⟨rfl,hn1,hn2⟩;have HSn:=zh (HSa.out.step hn1 hn2.X);clear hn1 hn2 CN1 HRg HSa;have HT:=zh (HSn.out.there 2 rfl C.toArray.size (by rw[List.size_toArray,yC.out];rfl));have HSz:=zh (HSn.out.fill hE 2 rfl C (by rw[yC.out];rfl));have zi:=hfN yC.out
    go_wp2_with (first |(refine wpList_store_mid rfl 41 (.tmp 2) (.tmp 40) rfl q 0 C.toArray rfl rfl HT.out zi HC1.out ?_;change wpList _ _ _ _ _ (World.setCells _ q 0 C);generalize World.setCells _ _ _ _=wz at HSz ⊢))
    have HA:=zh (HSz.out.li 2 rfl);refine bodyPost_ret (aK rfl rfl HA.out (by rw[List.size_toArray,yC.out])) rfl ?_;rw[HO1.out];exact iO (h:=⟨7,aF,s,aH,aH,0⟩) HSz.out yC.out HC1.out (fun hn=>by rw[HCk.out hn];rfl) (by omega) HF.out.2.2 (by omega) (by omega) rfl
def Ph(zl:Array Bool):List (Nat×(World→Prop))→(World→Prop)→World→Prop
 | [],P,w=>P w
 |(m,Q)::r,P,w=>(¬ Up zl m→P w)∧(Up zl m→Ph zl r Q w)
theorem Ph.same{l l':Array Bool}:∀ {ms:List (Nat×(World→Prop))} {P:World→Prop} {w:World},(∀ m∈ms,(Up l' m.1↔Up l m.1))→Ph l ms P w→Ph l' ms P w
 | [],_,_,_,h=>h
 |(m,Q)::r,P,w,hm,h=>by
  have h0:=hm (m,Q) (.head _);exact⟨fun hn=>h.1 (fun hu=>hn (h0.2 hu)),fun hu=>Ph.same (fun m' hm'=>hm m' (.tail _ hm')) (h.2 (h0.1 hu))⟩
theorem Ph.step{l':Array Bool}{i:Nat}{Q:World→Prop}{post:List (Nat×(World→Prop))}{w1:World}(hi:Up l' i)(hpost:∀ m∈post,¬ Up l' m.1)(hQ:Q w1):∀ {pre:List (Nat×(World→Prop))} {P:World→Prop},(∀ m∈pre,Up l' m.1)→Ph l' (pre++(i,Q)::post) P w1
 | [],P,_=>⟨fun hn=>absurd hi hn,fun _=>by
  cases post with
  | nil=>exact hQ
  | cons m r=>exact⟨fun _=>hQ,fun hu=>absurd hu (hpost m (.head _))⟩⟩
 |(m,R)::r,P,hp=>⟨fun hn=>absurd (hp (m,R) (.head _)) hn,fun _=>Ph.step hi hpost hQ (fun m' hm'=>hp m' (.tail _ hm'))⟩
def uAX:List (Nat×(World→Prop))→(World→Prop)→Nat→World→Prop
 | _,P,0=>P
 | [],P,_+1=>P
 |(_,Q)::r,_,j+1=>uAX r Q j
theorem Ph.ahead{l:Array Bool}{i:Nat}{Q:World→Prop}{post:List (Nat×(World→Prop))}{w:World}(hi:¬ Up l i):∀ {pre:List (Nat×(World→Prop))} {P:World→Prop},(∀ m∈pre,Up l m.1)→Ph l (pre++(i,Q)::post) P w→uAX (pre++(i,Q)::post) P pre.length w
 | [],_,_,h=>h.1 hi
 |(m,R)::r,_,hp,h=>Ph.ahead (pre:=r) (P:=R) hi (fun m' hm'=>hp m' (.tail _ hm')) (h.2 (hp (m,R) (.head _)))
theorem Ph.low{l:Array Bool}{w:World}:∀ {ms:List (Nat×(World→Prop))} {P:World→Prop} (k:Nat),k≤ms.length→(∀ m,ms[k]?=some m→¬ Up l m.1)→Ph l ms P w→∃ j,j≤k∧uAX ms P j w
 | [],_,_,_,_,h=>⟨0,Nat.zero_le _,h⟩
 |(m,Q)::r,P,0,_,hm,h=>⟨0,Nat.le_refl _,h.1 (hm (m,Q) rfl)⟩
 |(m,Q)::r,P,k+1,hk,hm,h=>by
  by_cases hu:Up l m
  ·obtain⟨j,h1,h2⟩:=Ph.low k (by simpa using hk) (fun m' hm'=>hm m' (by simpa using hm')) (h.2 hu);exact⟨j+1,by omega,h2⟩
  ·exact⟨0,Nat.zero_le _,h.1 hu⟩
theorem Ph.last{l:Array Bool}{w:World}:∀ {ms:List (Nat×(World→Prop))} {P:World→Prop},(∀ m∈ms,Up l m.1)→Ph l ms P w→uAX ms P ms.length w
 | [],_,_,h=>h
 |(m,Q)::r,_,hp,h=>Ph.last (ms:=r) (P:=Q) (fun m' hm'=>hp m' (.tail _ hm')) (h.2 (hp (m,Q) (.head _)))
structure GU(ops:Array Oper)(S:List Nat)(T:List (Nat×Nat×Value))(ms:List (Nat×(World→Prop)))(P:World→Prop)(a0:Act)(zl:Array Bool)(a:Act)(w:World):Prop where
 off:Off S a0 a
 pt:PT T zl a
 dn:∀ i o,ops[i]?=some o→Up zl i→∀ e∈o.after,Region.binds .any e=true→Up zl e.on
 st:Ph zl ms P w
def okU(nums:List (Nat×Nat))(S:List Nat)(N:Nat):Bool :=
 nums.all (fun e=>S.contains e.2&&decide (e.2<N))&&decide (nums.Pairwise (fun p q=>p.1≠q.1∧p.2≠q.2))
def fZ(ops:Array Oper):List Nat→Bool
 | a::b::r=>jI ops 40 b a&&a != b&&fZ ops (b::r)
 | _=>true
section
variable {ops:Array Oper} {S:List Nat} {T:List (Nat×Nat×Value)} {ms:List (Nat×(World→Prop))} {P:World→Prop} {w w1:World} {N:Nat} {a0 a:Act} {zl:Array Bool} {Q:Exit→Act→World→Prop} {o:Oper} {i s:Nat} {v:Value}
theorem uFJ(hk:okU (T.map fun e=>(e.1,e.2.1)) S N=true){e:Nat×Nat×Value}(he:e∈T):e.2.1∈S∧e.2.1<N:=by
 simp only[okU,Bool.and_eq_true,List.all_eq_true,decide_eq_true_eq,List.contains_iff_mem,List.mem_map,forall_exists_index,and_imp,forall_apply_eq_imp_iff₂]at hk;exact hk.1 e he
theorem pF(hk:okU (T.map fun e=>(e.1,e.2.1)) S N=true){e e':Nat×Nat×Value}(he:e∈T)(he':e'∈T)(hs:e.1=e'.1∨e.2.1=e'.2.1):e=e':=by
 by_cases heq:e=e'
 ·exact heq
 ·exfalso
  simp only[okU,Bool.and_eq_true,decide_eq_true_eq,List.pairwise_map]at hk;have h2:=hk.2;have key:∀ l:List (Nat×Nat×Value),l.Pairwise (fun p q=>p.1≠q.1∧p.2.1≠q.2.1)→∀ x∈l,∀ y∈l,x≠y→x.1≠y.1∧x.2.1≠y.2.1:=by
   intro l
   induction l with
   | nil=>intro _ x hx;cases hx
   | cons c l ih=>
    intro hp x hx y hy hne;rw[List.pairwise_cons]at hp;rcases List.mem_cons.1 hx with ex | hx <;> rcases List.mem_cons.1 hy with ey | hy
    ·exact absurd (ex.trans ey.symm) hne
    ·rw[ex];exact hp.1 y hy
    ·rw[ey];exact⟨fun e=>(hp.1 x hx).1 e.symm,fun e=>(hp.1 x hx).2 e.symm⟩
    ·exact ih hp.2 x hx y hy hne
  have:=key T h2 e he e' he' heq;rcases hs with hs | hs
  ·exact this.1 hs
  ·exact this.2 hs
theorem GU.start(a:Act)(m:Nat)(hX:P w):GU ops S T ms P a (Array.replicate m false) a w :=
 ⟨Off.refl _ _,PT.start _ _ _,fun _ _ _ h=>absurd h (Up.none _ _),by
  cases ms with
  | nil=>exact hX
  | cons m r=>exact⟨fun _=>hX,fun h=>absurd h (Up.none _ _)⟩⟩
theorem dnU{zl:Array Bool}(hd:∀ i o,ops[i]?=some o→Up zl i→∀ e∈o.after,Region.binds .any e=true→Up zl e.on)(hun:zl.getD i true=false)(ho:ops[i]?=some o)(zd:∀ e∈o.after,Region.binds .any e=true→Up zl e.on) :
  ∀ j o',ops[j]?=some o'→Up (zl.setIfInBounds i true) j→∀ e∈o'.after,Region.binds .any e=true→Up (zl.setIfInBounds i true) e.on:=by
 intro j o' hj hu e he hb;have hi:=Up.of_false hun;rcases(Up.set hi).1 hu with rfl | hu
 ·rw[ho]at hj;injection hj with hj;subst hj;exact eF hi (zd e he hb)
 ·exact eF hi (hd j o' hj hu e he hb)
theorem wP(hd:∀ i o,ops[i]?=some o→Up zl i→∀ e∈o.after,Region.binds .any e=true→Up zl e.on)(ho:ops[i]?=some o)(zd:∀ e∈o.after,Region.binds .any e=true→Up zl e.on){b f:Nat}(hr:jI ops f i b=true)(hne:i≠b):Up zl b:=by
 cases f with
 | zero=>simp only[jI,beq_iff_eq]at hr;exact absurd hr hne
 | succ f=>
  simp only[jI,Bool.or_eq_true,beq_iff_eq]at hr;rcases hr with hr | hr
  ·exact absurd hr hne
  ·rw[ho]at hr;simp only[Option.map_some,Option.getD_some,Array.any_eq_true',Bool.and_eq_true]at hr;obtain⟨e,he,hb,hr⟩:=hr;exact kU hd f e.on b hr (zd e he hb)
theorem qA(hd:∀ i o,ops[i]?=some o→Up zl i→∀ e∈o.after,Region.binds .any e=true→Up zl e.on):∀ (pre:List Nat) (x:Nat) (post:List Nat),fZ ops (pre++x::post)=true→(∀ f b,jI ops f x b=true→x≠b→Up zl b)→∀ m∈pre,Up zl m
 | [],_,_,_,_,m,hm=>by cases hm
 | [a],x,post,hc,hx,m,hm=>by
  rw[List.mem_singleton.1 hm];simp only[List.cons_append,List.nil_append,fZ,Bool.and_eq_true,bne_iff_ne]at hc;exact hx 40 a hc.1.1 (Ne.symm hc.1.2)
 | a::b::r,x,post,hc,hx,m,hm=>by
  simp only[List.cons_append,fZ,Bool.and_eq_true,bne_iff_ne]at hc;have hrec:=qA hd (b::r) x post (by simpa using hc.2) hx;rcases List.mem_cons.1 hm with rfl | hm
  ·exact kU hd 40 b m hc.1.1 (hrec b (.head _))
  ·exact hrec m hm
theorem nU(hd:∀ i o,ops[i]?=some o→Up zl i→∀ e∈o.after,Region.binds .any e=true→Up zl e.on):∀ (post:List Nat) (x:Nat),fZ ops (x::post)=true→¬ Up zl x→∀ m∈post,¬ Up zl m
 | [],_,_,_,m,hm=>by cases hm
 | b::r,x,hc,hx,m,hm=>by
  simp only[fZ,Bool.and_eq_true,bne_iff_ne]at hc;have hb:¬ Up zl b:=fun h=>hx (kU hd 40 b x hc.1.1 h)
  rcases List.mem_cons.1 hm with rfl | hm
  ·exact hb
  ·exact nU hd r b hc.2 hb m hm
theorem lH:∀ (pre:List Nat) (l:List Nat),fZ ops (pre++l)=true→fZ ops l=true
 | [],_,h=>h
 | [a],[],_=>rfl
 | [a],b::r,h=>by
  simp only[List.cons_append,List.nil_append,fZ,Bool.and_eq_true]at h;exact h.2
 | a::b::r,l,h=>by
  simp only[List.cons_append,fZ,Bool.and_eq_true]at h;exact lH (b::r) l (by simpa using h.2)
theorem tB(hk:okU (T.map fun e=>(e.1,e.2.1)) S N=true)(hI:GU ops S T ms P a0 zl a w)(hN:N≤a0.tmps.size)(he:(i,s,v)∈T)(hm:∀ m∈ms,m.1≠i)(hun:zl.getD i true=false)(ho:ops[i]?=some o)(zd:∀ e∈o.after,Region.binds .any e=true→Up zl e.on):GU ops S T ms P a0 (zl.setIfInBounds i true) (a.put (some s) v) w:=by
 have hi:=Up.of_false hun;obtain⟨h2,h3⟩:=uFJ hk he;exact⟨hI.off.put h2 v,hI.pt.step hi (by rw[hI.off.size];exact Nat.lt_of_lt_of_le h3 hN) (fun e' he' hs=>by rw[pF hk he' he (.inr hs)]) (fun e' he' hs=>by rw[pF hk he' he (.inl hs)]),dnU hI.dn hun ho zd,hI.st.same (fun m hm'=>⟨fun h=>jL hi h (hm m hm'),fun h=>eF hi h⟩)⟩
theorem aQ(hk:okU (T.map fun e=>(e.1,e.2.1)) S N=true)(hI:GU ops S T ms P a0 zl a w)(hN:N≤a0.tmps.size)(he:(i,s,v)∈T)(hm:∀ m∈ms,m.1≠i)(hun:zl.getD i true=false)(ho:ops[i]?=some o)(zd:∀ e∈o.after,Region.binds .any e=true→Up zl e.on)(hw:Region.wanted o (yielded ops a.tmps)=true)(hd:o.dst=some s)
  (hr:(execOp a.eval o).run Tryz.prog w=.ok (.value v) w):wpOp Tryz.prog ops Q i (GU ops S T ms P a0 (zl.setIfInBounds i true)) a w:=by
 unfold wpOp;rw[ho];simp only;rw[if_pos hw];refine .inl (nF v hr ?_);rw[hd];exact tB hk hI hN he hm hun ho zd
theorem bB(hk:okU (T.map fun e=>(e.1,e.2.1)) S N=true)(hI:GU ops S T ms P a0 zl a w)(hN:N≤a0.tmps.size)(he:(i,s,undef)∈T)(hm:∀ m∈ms,m.1≠i)(hun:zl.getD i true=false)(ho:ops[i]?=some o)(zd:∀ e∈o.after,Region.binds .any e=true→Up zl e.on)(hw:Region.wanted o (yielded ops a.tmps)=false)(hd:o.dst=some s):wpOp Tryz.prog ops Q i (GU ops S T ms P a0 (zl.setIfInBounds i true)) a w:=by
 unfold wpOp;rw[ho];simp only;rw[if_neg (by rw[hw];decide),hd];exact tB hk hI hN he hm hun ho zd
theorem GU.at(hI:GU ops S T ms P a0 zl a w)(hc:fZ ops (ms.map (·.1))=true)(pre post:List (Nat×(World→Prop)))(R:World→Prop)(hms:ms=pre++(i,R)::post)(hun:zl.getD i true=false)(ho:ops[i]?=some o)(zd:∀ e∈o.after,Region.binds .any e=true→Up zl e.on):uAX ms P pre.length w∧∀ w1,R w1→Ph (zl.setIfInBounds i true) ms P w1:=by
 have hi:=Up.of_false hun;subst hms;rw[List.map_append,List.map_cons]at hc;have hpre:∀ m∈pre,Up zl m.1:=fun m hm=>qA hI.dn _ _ _ hc (fun f b hr hne=>wP hI.dn ho zd hr hne) m.1 (List.mem_map.2 ⟨m,hm,rfl⟩)
 have hpost:∀ m∈post,¬ Up zl m.1:=fun m hm=>nU hI.dn _ _ (lH _ _ hc) (gO hun) m.1 (List.mem_map.2 ⟨m,hm,rfl⟩)
 refine⟨Ph.ahead (gO hun) hpre hI.st,fun w1 hR=>Ph.step (nE hi) (fun m hm hu=>?_) hR (fun m hm=>eF hi (hpre m hm))⟩;rcases(Up.set hi).1 hu with h | h
 ·have h0:=nU (zl:=Array.replicate zl.size false) (fun _ _ _ h=>absurd h (Up.none _ _)) _ _ (lH _ _ hc) (Up.none _ _);clear h0;have hnd:∀ (l:List Nat) (x:Nat),fZ ops (x::l)=true→(∀ y∈l,¬ Up zl y)→(∀ e∈o.after,Region.binds .any e=true→Up zl e.on)→ops[x]?=some o→x∉l:=by
   intro l
   induction l with
   | nil=>intro _ _ _ _ _ hm;cases hm
   | cons y l _=>
    intro x hc' hy hd' ho' hm';have hc2:=hc';simp only[fZ,Bool.and_eq_true,bne_iff_ne]at hc2;rcases List.mem_cons.1 hm' with e | hm'
    ·exact hc2.1.2 e
    ·-- x stands behind y: it waits for y
     obtain⟨l1,l2,rfl⟩:=List.append_of_mem hm';have:=qA (ops:=ops) (zl:=zl) hI.dn (y::l1) x l2 (by simpa using hc2.2) (fun f b hr hne=>wP hI.dn ho' hd' hr hne) y (.head _);exact hy y (.head _) this
  exact hnd (post.map (·.1)) i (lH _ _ hc) (fun y hy=>by obtain⟨m',hm',rfl⟩:=List.mem_map.1 hy;exact hpost m' hm') zd ho (List.mem_map.2 ⟨m,hm,h⟩)
 ·exact hpost m hm h
theorem GU.low(hI:GU ops S T ms P a0 zl a w)(k:Nat)(hk:k≤ms.length)(hr:∀ m,ms[k]?=some m→jI ops 40 m.1 i=true)(hun:zl.getD i true=false):∃ j,j≤k∧uAX ms P j w :=
 Ph.low k hk (fun m hm hu=>gO hun (kU hI.dn 40 m.1 i (hr m hm) hu)) hI.st
theorem jS(hk:okU (T.map fun e=>(e.1,e.2.1)) S N=true)(hI:GU ops S T ms P a0 zl a w)(hN:N≤a0.tmps.size)(he:(i,s,v)∈T)(hc:fZ ops (ms.map (·.1))=true)(pre post:List (Nat×(World→Prop)))(R:World→Prop)(hms:ms=pre++(i,R)::post)(hun:zl.getD i true=false)(ho:ops[i]?=some o)(zd:∀ e∈o.after,Region.binds .any e=true→Up zl e.on)(hw:Region.wanted o (yielded ops a.tmps)=true)(hd:o.dst=some s)
  (hr:uAX ms P pre.length w→Oper.wp Tryz.prog o a w (fun a' w'=>a'=a.put o.dst v∧R w') Q):wpOp Tryz.prog ops Q i (GU ops S T ms P a0 (zl.setIfInBounds i true)) a w:=by
 have hi:=Up.of_false hun;obtain⟨h1,h2⟩:=hI.at hc pre post R hms hun ho zd;obtain⟨h3,h4⟩:=uFJ hk he;unfold wpOp;rw[ho];simp only;rw[if_pos hw];refine .inl (Oper.wp_mono (fun a' w' hh=>?_) (hr h1));obtain⟨rfl,hR⟩:=hh;rw[hd];exact⟨hI.off.put h3 v,hI.pt.step hi (by rw[hI.off.size];exact Nat.lt_of_lt_of_le h4 hN) (fun e' he' hs=>by rw[pF hk he' he (.inr hs)]) (fun e' he' hs=>by rw[pF hk he' he (.inl hs)]),dnU hI.dn hun ho zd,h2 w' hR⟩
theorem kL(hI:GU ops S T ms P a0 zl a w)(hT:∀ e∈T,e.1≠i)(hc:fZ ops (ms.map (·.1))=true)(pre post:List (Nat×(World→Prop)))(R:World→Prop)(hms:ms=pre++(i,R)::post)(hun:zl.getD i true=false)(ho:ops[i]?=some o)(zd:∀ e∈o.after,Region.binds .any e=true→Up zl e.on)(hw:Region.wanted o (yielded ops a.tmps)=true)(hd:o.dst=none)
  (hr:uAX ms P pre.length w→∃ w',(execOp a.eval o).run Tryz.prog w=.ok .skip w'∧R w'):wpOp Tryz.prog ops Q i (GU ops S T ms P a0 (zl.setIfInBounds i true)) a w:=by
 have hi:=Up.of_false hun;obtain⟨h1,h2⟩:=hI.at hc pre post R hms hun ho zd;obtain⟨w',hr1,hR⟩:=hr h1;unfold wpOp;rw[ho];simp only;rw[if_pos hw];refine .inl (oL hr1 ?_);rw[hd];exact⟨hI.off,hI.pt.skip hi hT,dnU hI.dn hun ho zd,h2 w' hR⟩
theorem iB(f:FuncId)(xs:Array Value){K:Act→World→Prop}(hr:(execOp a.eval o).run Tryz.prog w=.ok (.enter f xs) w)(hc:Calls Tryz.prog f xs w fun e w1=>e=.returned v∧K (a.put o.dst v) w1):Oper.wp Tryz.prog o a w K Q:=by
 unfold Oper.wp;rw[hr];refine hc.mono ?_;rintro e w1 ⟨rfl,h⟩;exact h
theorem aD{y:Nat→Option Bool}(h:o.guard=none):Region.wanted o y=true:=by unfold Region.wanted;rw[h]
theorem aN{g sg:Nat}{pol b:Bool}(h:o.guard=some (g,pol)){og:Oper}(hg:ops[g]?=some og)(hd:og.dst=some sg)(hv:a.eval (.tmp sg)=.bool b):Region.wanted o (yielded ops a.tmps)=(b==pol):=by
 have h1:a.tmps[sg]?=some (.bool b):=by
  have:=aA hv;cases hq:a.tmps[sg]? with
  | none=>rw[hq]at this;cases this
  | some x=>rw[hq]at this;simpa using this
 unfold Region.wanted yielded;rw[h];simp only[hg,Option.bind_some,hd,h1];cases b <;> cases pol <;> rfl
theorem bJ{id:Nat}{w0:World}(F0:Act→Prop)(S:List Nat)(T:List (Nat×Nat×Value))(ms:List (Nat×(World→Prop)))(P:World→Prop)(hm:Tryz.prog.follows .mixedOrders=true)(hb:gE ops=true)(hF0:F0 a)(hX:P w0.drew)
  (hstep:∀ a0,F0 a0→∀ zl a w i o,zl.size=ops.size→GU ops S T ms P a0 zl a w→zl.getD i true=false→ops[i]?=some o→(∀ e∈o.after,Region.binds .any e=true→Up zl e.on)→wpOp Tryz.prog ops Q i (GU ops S T ms P a0 (zl.setIfInBounds i true)) a w)
  (hdone:∀ zl a' w',GU ops S T ms P a zl a' w'→(∀ i,i<ops.size→Up zl i)→Q .normal a' w'):(Code.region id ops true).wp Tryz.prog Q a w0 :=
 fL hm hb F0 (GU ops S T ms P) hF0 (GU.start _ _ hX) hstep hdone
end
structure RG(ops:Array Oper)(S:List Nat)(T:List (Nat×Nat×Value))(P:World→Prop)(a0:Act)(N:Nat)(zl:Array Bool)(a:Act)(w:World)(i:Nat)(o:Oper):Prop where
 k:okU (T.map fun e=>(e.1,e.2.1)) S N=true
 I:GU ops S T [] P a0 zl a w
 z:N≤a0.tmps.size
 u:zl.getD i true=false
 p:ops[i]?=some o
 e:∀ e∈o.after,Region.binds .any e=true→Up zl e.on
section
variable {ops:Array Oper} {S:List Nat} {T:List (Nat×Nat×Value)} {P:World→Prop} {a0 a:Act} {zl:Array Bool} {w:World} {N i j s:Nat} {v:Value} {o:Oper} {Q:Exit→Act→World→Prop}
theorem RG.d(G:RG ops S T P a0 N zl a w j o)(n:Nat)(h:T[n]?=some (i,s,v))(hm:{ on:=i,ground:=.data }∈o.after:=by simp):a.eval (.tmp s)=v:=G.I.pt (i,s,v) (List.mem_of_getElem? h) (G.e _ hm rfl)
theorem RG.g(G:RG ops S T P a0 N zl a w j o)(n:Nat)(h:T[n]?=some (i,s,v))(hm:{ on:=i,ground:=.guard }∈o.after:=by simp):a.eval (.tmp s)=v:=G.I.pt (i,s,v) (List.mem_of_getElem? h) (G.e _ hm rfl)
theorem wq{sg:Nat}{pol b:Bool}(hq:(o.guard.bind fun gp=>(ops[gp.1]?).bind fun og=>og.dst.map fun d=>(d,gp.2))=some (sg,pol))(hv:a.eval (.tmp sg)=.bool b):Region.wanted o (yielded ops a.tmps)=(b==pol):=by
 obtain⟨⟨g,p⟩,h1,h2⟩:=Option.bind_eq_some_iff.1 hq;obtain⟨og,h3,h4⟩:=Option.bind_eq_some_iff.1 h2;obtain⟨d,h5,h6⟩:=Option.map_eq_some_iff.1 h4;cases h6;exact aN h1 h3 h5 hv
theorem RG.sk(G:RG ops S T P a0 N zl a w i o)(n:Nat)(h:T[n]?=some (i,s,undef)){sg:Nat}{pol b:Bool}(hv:a.eval (.tmp sg)=.bool b)(hq:(o.guard.bind fun gp=>(ops[gp.1]?).bind fun og=>og.dst.map fun d=>(d,gp.2))=some (sg,pol))(hb:(b==pol)=false:=by rfl)(hd:o.dst=some s:=by rfl):wpOp Tryz.prog ops Q i (GU ops S T [] P a0 (zl.setIfInBounds i true)) a w :=
 bB G.k G.I G.z (List.mem_of_getElem? h) (fun _ hm=>by cases hm) G.u G.p G.e ((wq hq hv).trans hb) hd
theorem RG.vl(G:RG ops S T P a0 N zl a w i o)(n:Nat)(h:T[n]?=some (i,s,v)){sg:Nat}{pol b:Bool}(hv:a.eval (.tmp sg)=.bool b)(hq:(o.guard.bind fun gp=>(ops[gp.1]?).bind fun og=>og.dst.map fun d=>(d,gp.2))=some (sg,pol))(hr:(execOp a.eval o).run Tryz.prog w=.ok (.value v) w)(hb:(b==pol)=true:=by rfl)(hd:o.dst=some s:=by rfl):wpOp Tryz.prog ops Q i (GU ops S T [] P a0 (zl.setIfInBounds i true)) a w :=
 aQ G.k G.I G.z (List.mem_of_getElem? h) (fun _ hm=>by cases hm) G.u G.p G.e ((wq hq hv).trans hb) hd hr
theorem RG.nl(G:RG ops S T P a0 N zl a w i o)(n:Nat)(h:T[n]?=some (i,s,v))(hr:(execOp a.eval o).run Tryz.prog w=.ok (.value v) w)(hg:o.guard=none:=by rfl)(hd:o.dst=some s:=by rfl):wpOp Tryz.prog ops Q i (GU ops S T [] P a0 (zl.setIfInBounds i true)) a w :=
 aQ G.k G.I G.z (List.mem_of_getElem? h) (fun _ hm=>by cases hm) G.u G.p G.e (aD hg) hd hr
end
section
variable {ops:Array Oper} {Q:Exit→Act→World→Prop}
theorem uBW{S:List Nat}{T:List (Nat×Nat×Value)}{ms:List (Nat×(World→Prop))}{P:World→Prop}{a0:Act}(hb:gE ops=true)
  (hstep:∀ zl a w i o,zl.size=ops.size→GU ops S T ms P a0 zl a w→zl.getD i true=false→ops[i]?=some o→(∀ e∈o.after,Region.binds .any e=true→Up zl e.on)→wpOp Tryz.prog ops Q i (GU ops S T ms P a0 (zl.setIfInBounds i true)) a w)
  (hdone:∀ zl a' w',GU ops S T ms P a0 zl a' w'→(∀ i,i<ops.size→Up zl i)→Q .normal a' w') :
  ∀ (m i:Nat) (zl:Array Bool) (a:Act) (w:World),i+m=ops.size→zl.size=ops.size→(∀ j,Up zl j↔j<i)→GU ops S T ms P a0 zl a w→wpOps Tryz.prog ops Q (List.range' i m) a w
 | 0,i,zl,a,w,hm,hs,hu,hI=>hdone zl a w hI (fun j hj=>(hu j).2 (by omega))
 | m+1,i,zl,a,w,hm,hs,hu,hI=>by
  rw[List.range'_succ,wpOps_cons];have hi:i<ops.size:=by omega
  have ho:ops[i]?=some ops[i]:=Array.getElem?_eq_getElem hi;have hun:zl.getD i true=false:=by
   cases h:zl.getD i true with
   | false=>rfl
   | true=>
    exfalso
    have hil:i<zl.size:=by omega
    have:Up zl i:=by
     unfold Up;rw[Array.getD_eq_getD_getElem?,Array.getElem?_eq_getElem hil]at h ⊢;exact h
    have:=(hu i).1 this;omega
  refine wpOp_mono (fun a' w' h'=>?_) (hstep zl a w i _ hs hI hun ho (fun e he hbd=>(hu e.on).2 (iT hb ho e he hbd)));exact uBW hb hstep hdone m (i+1) _ a' w' (by omega) (by rw[Array.size_setIfInBounds];exact hs) (fun j=>by rw[Up.set (by omega),hu j];omega) h'
theorem bA{id:Nat}{a:Act}{w0:World}(F0:Act→Prop)(S:List Nat)(T:List (Nat×Nat×Value))(ms:List (Nat×(World→Prop)))(P:World→Prop)(hb:gE ops=true)(hF0:F0 a)(hX:P w0)
  (hstep:∀ a0,F0 a0→∀ zl a w i o,zl.size=ops.size→GU ops S T ms P a0 zl a w→zl.getD i true=false→ops[i]?=some o→(∀ e∈o.after,Region.binds .any e=true→Up zl e.on)→wpOp Tryz.prog ops Q i (GU ops S T ms P a0 (zl.setIfInBounds i true)) a w)
  (hdone:∀ zl a' w',GU ops S T ms P a zl a' w'→(∀ i,i<ops.size→Up zl i)→Q .normal a' w'):(Code.region id ops false).wp Tryz.prog Q a w0:=by
 refine wp_region ?_;rw[List.range_eq_range'];exact uBW hb (hstep a hF0) hdone ops.size 0 (Array.replicate ops.size false) a w0 (by omega) (by simp) (fun j=>⟨fun h=>absurd h (Up.none _ _),fun h=>absurd h (by omega)⟩) (GU.start _ _ hX)
end
end Go.Proofs.YtmgjidnalpgegaaGreatDoor
