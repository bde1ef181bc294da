/-
  Lemmas, part 16: ParU ParV.
-/
import Derived.Test.YtmgjidnalpgegaaGreatDoorPg15
namespace Go.Proofs.YtmgjidnalpgegaaGreatDoor
open Go.RowKit
theorem isS_ne{t:Tok}{s s':Bs}(h:isS t s=true)(hne:s≠s'):isS t s'=false:=by
 unfold isS at h ⊢;simp at h;simp[h.2,hne]
set_option maxRecDepth 100000 in
set_option maxHeartbeats 3200000 in
theorem uDK(E:Env)(hE:E.ok)(he:E.ends)(hL:E.L.length≤1000000)(hT:E.short)(op k nd pl er:Nat)(w:World)(hI:InE E k op nd pl er w)(hk:k<E.L.length)(hn:nd≤k)(hs:isS (E.at k) [123]=true) :
  Calls Tryz.prog 123 #[.pointer (some ⟨E.r,0,none⟩)] w (NPost E w k op nd pl er (gP (E.L.drop k) nd)):=by
 have CTK:=zh (fun W h=>kW E hE k op nd pl er [123] W h hk hL hs);have CE:=zh (fun k nd pl er W h hk hn=>zC E hE he hL hT op k nd pl er W h hk hn);have CT:=zh (fun k nd pl er W h hk=>bT E k op nd pl er W h hk);have CS:=zh (fun t s W=>cY t s W);have CW:=zh (fun k nd pl er W h hk=>eQ E hE k op nd pl er 6 W h hk);have CN:=zh (fun k nd pl er cs h22 h1 W h hn=>gN E hE k op nd pl er cs h22 h1 W h hn);have HS1:=zh ((Fs.start hI).alloc 41 aB.toArray (by decide));have hk1:=E.more he hk (dY hs);generalize hO:gP (E.L.drop k) nd=T;have HO:Hid (eN (E.L.length-k) 0 0 1 [] (E.L.drop (k+1)) nd=T):=zh (by rw[← hO];unfold gP;rw[List.length_drop,List.tail_drop]);have HF:Hid (k<E.L.length∧nd≤k):=zh ⟨hk,hn⟩;clear hI hO hn hs;simp only[aB]at HS1
 go_enter Tryz.func123,Tryz.ntmps123
 go_upto_region 1 with fail
 generalize World.alloc _ _=W1 at HS1 ⊢;generalize hq:w.heap.size=q at HS1 ⊢;have HQ:=zh hq;have HS2:=zh (HS1.out.alloc 41 aB.toArray (by decide));have HT:=zh (HS2.out.there 0 rfl 22 rfl);have HS3:=zh (HS2.out.fill hE 0 rfl (cJ 8 [] 0 none 0 0) rfl);have hone:=fN 8 [] 0 none 0 0;have HQ4:Hid (w.heap.size≤W1.heap.size):=zh (HS2.out.ge 0 rfl);clear HS1 HS2 hq;simp only[List.set_cons_zero]at HS3;generalize hq4:W1.heap.size=q4 at HS3 HT HQ4 ⊢
 go_upto_region 2 with(first |(refine wpList_store_mid rfl 41 (.tmp 4) (.tmp 10) rfl q4 0 (cJ 8 [] 0 none 0 0).toArray rfl rfl HT.out aE hone ?_;change wpList _ _ _ _ _ (World.setCells _ q4 0 (cJ 8 [] 0 none 0 0));generalize World.setCells _ _ _ _=W2 at HS3 ⊢))
 clear HT hone hq4
 go_wp2_with fail
 refine(CTK.out _ HS3.out.ine).mono ?_;rintro e w4 ⟨rfl,h1,h2⟩;have HM:Hid (∃ k' c rows n cap A l,Mat E w k op nd pl er q q4 T k' c rows 0 1 n cap A l w4):=zh ⟨k+1,nd,0,0,0,none,[],HS3.out.step h1 h2.X,KR.nil _ _ _,Nat.le_refl _,hk1,by omega,Nat.le_refl _,by omega,by omega,by omega,by omega,_,by omega,HO.out⟩;clear h1 h2 HS3 CTK HO hk hk1
 go_wp2_with fail
 go_loopw [5,6] (fun v5 v6 wr=>∃ cols wide:Nat,v5=.int .i64 (cols:Int)∧v6=.int .i64 (wide:Int)∧Hid (∃ k' c rows n cap A l,Mat E w k op nd pl er q q4 T k' c rows cols wide n cap A l wr)) (fun _ _ wr=>E.L.length-rdAt wr E.r)
 case atStart=>exact⟨0,1,rfl,rfl,HM⟩
 case round=>
  obtain⟨cols,wide,rfl,rfl,hrel⟩:=hrel;obtain⟨k2,c,rows,n,cap,A,l,hS⟩:=hrel.out;have HS5:=zh hS.st;have HK5:=zh hS.kr;have HB:Hid (k+1≤k2∧k2<E.L.length∧c+k+1≤nd+k2∧nd≤c∧n≤c∧rows≤k2∧cols≤k2∧wide≤k2+1):=zh ⟨hS.le,hS.lt,hS.nc,hS.nn,hS.ln,hS.lr,hS.lc,hS.lw⟩;have HG:=zh hS.out;have HRD:=zh hS.st.ine.rdAt;have CE1:=zh (CE.out k2 c pl er _ HS5.out.ine HB.out.2.1 (by have:=HB.out;have:=HF.out;omega));clear hS hrel HM CE
  go_wp2_with fail
  refine CE1.out.mono ?_;clear CE1;cases hp:cU (E.L.drop k2) c with
  | bad e1 p1=>
   have HO1:Hid (T=.bad e1 p1):=zh (by obtain⟨f,_,hf⟩:=HG.out;rw[hp]at hf;exact hf.symm);rintro e w6 ⟨cs,k1,op1,nd1,rfl,g1,g2,g3,g4,g5,g6,g7⟩;obtain⟨C,rfl⟩:∃ C:List Value,cs=C.toArray:=⟨cs.toList,by simp⟩
   have yC:Hid (C.length=22):=zh (by rwa [List.size_toArray]at g1);have yo:=zh g2;have HX:=zh (⟨g3,g4,g5⟩:k2≤k1∧k1<E.L.length∧nd1+k2≤c+k1);have HS6:=zh (HS5.out.step g6 g7);clear g1 g2 g3 g4 g5 g6 g7 HS5 HK5 HG hp;have HS7:=zh (HS6.out.alloc 41 aB.toArray (by decide));clear HS6;have HT:=zh (HS7.out.there 0 rfl C.toArray.size (by rw[List.size_toArray,yC.out];rfl));have HS8:=zh (HS7.out.fill hE 0 rfl C (by rw[yC.out];rfl));have zi:=hfN yC.out;clear HS7;simp only[aB,List.set_cons_zero]at HS8 HT
   go_upto_region 8 with(first |(refine wpList_store_mid rfl 41 (.tmp 7) (.tmp 20) rfl w6.heap.size 0 C.toArray rfl rfl HT.out zi yo.out ?_;change wpList _ _ _ _ _ (World.setCells _ w6.heap.size 0 C);generalize World.setCells _ _ _ _=W8 at HS8 ⊢;generalize w6.heap.size=q7 at HS8 ⊢))
   clear HT zi;have HT:=zh (HS8.out.there 2 rfl 22 rfl);have HSz:=zh (HS8.out.fill hE 2 rfl aB rfl)
   go_wp2_with (first |(refine wpList_store_mid rfl 41 (.tmp 2) (.tmp 24) rfl q 0 aB.toArray rfl rfl HT.out aE aT ?_;change wpList _ _ _ _ _ (World.setCells _ q 0 aB);generalize World.setCells _ _ _ _=wz at HSz ⊢))
   have HA:=zh (HSz.out.li 2 rfl);refine bodyPost_ret (aK rfl rfl HA.out rfl) rfl ?_;rw[HO1.out];exact cK HSz.out rfl aT (by have:=HX.out;have:=HB.out;omega) HX.out.2.1 (by have:=HX.out;have:=HB.out;omega)
  | ok x ts1 c1=>
   rintro e w6 ⟨k1,cs,rfl,g1,g2,rfl,g4,g5,g6,g7,g8⟩;have hc1:=uAO hp;subst hc1;obtain⟨C,rfl⟩:∃ C:List Value,cs=C.toArray:=⟨cs.toList,by simp⟩
   have yC:Hid (C.length=22):=zh (by have:=g8.1;rwa [List.size_toArray]at this);have yo:=zh g8.2.1;have HX:=zh (⟨g1,g2,g4⟩:k2≤k1∧k1<E.L.length∧c+1+k2≤c+k1);have HS6:=zh (HS5.out.step g6 g7);have HQL:Hid (∀ y,(Value.slice A n cap).ownBlock=some y→q4+1≤y∧y<wr.heap.size):=zh (fun y hy=>fP HK5.out hy);have HXB:Hid (∀ y∈E.X,y<q4+1):=zh (fun y hy=>by obtain⟨k0,op0,nd0,pl0,er0,hb0⟩:=HS5.out.base;have:=hb0.xlt y hy;have:=HQ4.out;omega);have HK6:=zh (HK5.out.kp g7 (fun y hy=>.inl (HXB.out y hy)));have HV6:Hid (NV w6 (KX (q4+1) (.slice A n cap)) (c+1) x C.toArray):=zh (g8.anti (fun y hy _=>by have h4:=HS5.out.lt 0 rfl;exact(KX.mem.1 hy).elim (fun h=>List.mem_range.2 (HQL.out y h).2) (fun h=>List.mem_range.2 (by omega))))
   have HG1:Hid (∃ f,E.L.length-k2≤f+1∧(if isS (E.at k1) [44]&&(decide (rows=0)||decide (wide<cols)) then eN f rows cols (wide+1) (l++[x]) (E.L.drop (k1+1)) (c+1) else if isS (E.at k1) [59]&&(decide (rows=0)||decide (wide=cols)) then eN f (rows+1) wide 1 (l++[x]) (E.L.drop (k1+1)) (c+1) else if isS (E.at k1) [125]&&(decide (rows=0)||decide (wide=cols)) then .ok (uII (rows+1:Nat) (l++[x])) (E.L.drop (k1+1)) (c+1+1) else fD 6 (E.L.drop k1))=T):=zh (by obtain⟨f,h1,h2⟩:=HG.out;rw[hp]at h2;rw[← List.tail_drop] ;exact⟨f,h1,h2⟩);clear g1 g2 g4 g5 g6 g7 g8 HS5 HK5 HG hp HXB;have HS7:=zh (HS6.out.alloc 41 aB.toArray (by decide));have hq7g:Hid (∀ y,(Value.slice A n cap).ownBlock=some y→y≠w6.heap.size):=zh (fun y hy e=>by have:=(fP HK6.out hy).2;omega)
   have HKP:∀ W,Kp [w6.heap.size] w6 W→Hid (KR W (q4+1) (.slice A n cap) n l c∧NV W (KX (q4+1) (.slice A n cap)) (c+1) x C.toArray):=fun W hk=>zh ⟨HK6.out.kp hk (fun y hy=>.inr (by rw[List.mem_singleton.1 hy];exact Nat.le_refl _)),HV6.out.kp (hk.mono (fun y hy hl=>by rw[List.mem_singleton.1 hy]at hl;omega))⟩
   have HK8:=HKP _ (aU (.inl (.head _)) C 0 ((Kp.refl _ _).alloc (.cells aB.toArray 41)));clear HKP HK6 HV6 HS6;have HT:=zh (HS7.out.there 0 rfl C.toArray.size (by rw[List.size_toArray,yC.out];rfl));have HS8:=zh (HS7.out.fill hE 0 rfl C (by rw[yC.out];rfl));have zi:=hfN yC.out;clear HS7;simp only[aB,List.set_cons_zero]at HS8 HT HK8
   go_upto_region 9 with(first |(refine wpList_store_mid rfl 41 (.tmp 7) (.tmp 20) rfl w6.heap.size 0 C.toArray rfl rfl HT.out zi yo.out ?_;change wpList _ _ _ _ _ (World.setCells _ w6.heap.size 0 C);generalize World.setCells _ _ _ _=W8 at HS8 HK8 ⊢;generalize w6.heap.size=q7 at HS8 hq7g ⊢))
   clear HT;have r3:=HS8.out.ine.rd.cell 3;have rf3:=HS8.out.ine.rd.frozen 3;simp only[List.getElem?_toArray,List.getElem?_cons_zero,List.getElem?_cons_succ]at r3;obtain⟨bb,hbb⟩:∃ bb:Bool,decide (((c+1:Nat):Int)≤256)=bb:=⟨_,rfl⟩
   go_upto_if 29 with fail
   clear r3 rf3
   go_cut [] (fun wx=>Hid (∃ n1 cap1 A1,n1≤c+1∧Fs E w (k1) op (c+1) pl er [(q4,41,(cJ 8 [] (rows) A1 n1 cap1).toArray),(q,41,aB.toArray)] wx∧KR wx (q4+1) (.slice A1 n1 cap1) n1 (l++[x]) (c+1)))
   case first=>
    cases bb with
    | false=>
     have hc256:Hid (256<c+1):=zh (by have:=of_decide_eq_false hbb;omega);have hlt:¬ ((c+1:Nat):Int)≤256:=by have:=hc256.out;omega
     clear hbb
     go_wp2_with fail
     all_goals go_meet
     exact zh ⟨n,cap,A,by have:=HB.out;omega,HS8.out.drop1,HK8.out.1.skip hc256.out⟩
    | true=>
     have hc256:Hid (c+1≤256):=zh (by have:=of_decide_eq_true hbb;omega);have HRg:=zh (HS8.out.range 0 (l:=C) rfl);have x21:=(HS8.out.li 1 rfl).cell 21;simp only[List.getElem?_toArray,List.getElem?_cons_zero,List.getElem?_cons_succ]at x21;have zi:(Tryz.prog.info? 41).map (·.size)=some C.length:=by rw[yC.out];exact aE
     have HS9:=zh (HS8.out.alloc 41 C.toArray (by decide));have hb9:Below W8.heap.size W8 (W8.alloc (.cells C.toArray 41)):=(Below.refl _ _).alloc (Nat.le_refl _) _;have HK9:=zh ((HK8.out.1.next hb9).more (Nat.le_succ c));have HV9:=zh (HK8.out.2.kp (Kp.of_below hb9));have hb9q:Hid (∀ y,(Value.slice A n cap).ownBlock=some y→y≠W8.heap.size):=zh (fun y hy e=>by have:=(fP HK8.out.1 hy).2;omega);have HLN:∀ b∈([(W8.heap.size,41,C.toArray),(q7,41,C.toArray),(q4,41,(cJ 8 [] (rows) A n cap).toArray),(q,41,aB.toArray)]:List (Nat×TypeId×Array Value)),(Value.slice A n cap).ownBlock≠some b.1:=fun b hb e=>by
      simp only[List.mem_cons,List.not_mem_nil,or_false]at hb;rcases hb with rfl | rfl | rfl | rfl
      ·exact hb9q.out _ e rfl
      ·exact hq7g.out _ e rfl
      ·have:=(HQL.out _ e).1;omega
      ·have:=(HQL.out _ e).1;have:=HQ4.out;have:=HQ.out;omega
     replace HLN:=zh HLN;have HL9:=zh (HS9.out.li 0 rfl);have HZ:Hid (w.heap.size≤q4+1∧n≤100000∧q4+1≤(W8.alloc (.cells C.toArray 41)).heap.size):=zh ⟨by have:=HQ4.out;omega,by have:=HB.out;have:=hc256.out;omega,by have:=HS9.out.lt 2 rfl;omega⟩;clear HS8 hb9 hb9q HK8 hbb;have hle:((c+1:Nat):Int)≤256:=by have:=hc256.out;omega
     go_wp2_with (first |(refine wpList_load_mid rfl 41 (.tmp 7) rfl q7 0 rfl C _ HRg.out Tryz.underlying41 rfl zi ?_) |(refine oK rfl (.tmp 32) rfl C rfl yC.out W8.heap.size rfl (some 33) rfl ?_;generalize W8.alloc (.cells C.toArray 41)=W9 at HS9 HK9 HV9 HL9 HZ ⊢;generalize W8.heap.size=q8 at HS9 HLN HL9 ⊢) |(refine jM rfl (.tmp 31) (.tmp 33) rfl (q4+1) n (.slice A n cap) l (c+1) rfl HK9.out HZ.out.2.1 HZ.out.2.2 q8 1 C rfl yC.out HL9.out yo.out x HV9.out ?_;intro v2 w9 h1 h2 h3;obtain⟨A1,cap1,rfl⟩:=h1.form;have HS10:=zh (HS9.out.grow hE HK9.out HZ.out.1 HLN.out h2);have HK10:=zh h1;clear h1 h2 h3 HS9 HK9 HV9 HL9 HLN HZ x21;have y21:=(HS10.out.li 2 rfl).cell 21;have yf21:=(HS10.out.li 2 rfl).frozen 21;simp only[List.getElem?_toArray,List.getElem?_cons_zero,List.getElem?_cons_succ]at y21))
     all_goals go_meet
     exact zh ⟨n+1,cap1,A1,by have:=HB.out;omega,(HS10.out.put hE 2 rfl 21 (.slice A1 (n+1) cap1)).drop1.drop1,HK10.out.kp ((Kp.refl [q4] _).set (.inl (.head _)) 21 _) (fun y hy=>.inl (by rw[List.mem_singleton.1 hy];omega))⟩
   case rest=>
    obtain⟨n1,cap1,A1,hn1,hF,hK⟩:=hcut.out;have HS9:=zh hF;have HK9:=zh hK;have HN1:=zh hn1;clear hcut hF hK hn1 HS8 HK8 hq7g HQL hbb yo zi yC;have CT1:=zh (CT.out k1 (c+1) pl er _ HS9.out.ine HX.out.2.1);have HEN:Hid ((E.at k1).kind≠0→k1+1<E.L.length):=zh (fun h=>E.more he HX.out.2.1 h);have HOW:Hid (∀ W,InE E k1 op (c+1) pl er W→Calls Tryz.prog 26 #[.pointer (some ⟨E.r,0,none⟩),.int .i64 6] W (Step E W k1 op (c+1) (E.at k1).place 6 (.bool false))):=zh (fun W h=>CW.out k1 (c+1) pl er W h HX.out.2.1)
    have HG2:Hid (∃ f,E.L.length-k2≤f+1∧(if isS (E.at k1) [44]&&(decide (rows=0)||decide (wide<cols)) then eN f rows cols (wide+1) (l++[x]) (E.L.drop (k1+1)) (c+1) else if isS (E.at k1) [59]&&(decide (rows=0)||decide (wide=cols)) then eN f (rows+1) wide 1 (l++[x]) (E.L.drop (k1+1)) (c+1) else if isS (E.at k1) [125]&&(decide (rows=0)||decide (wide=cols)) then .ok (uII (rows+1:Nat) (l++[x])) (E.L.drop (k1+1)) (c+1+1) else .bad 6 (E.at k1).place)=T):=HG1;clear HG1 CW CT;obtain⟨tt,hat⟩:∃ tt,E.at k1=tt:=⟨_,rfl⟩
    rw[hat]at CT1 HEN HOW HG2;clear hat;obtain⟨tk,tx,tp⟩:=tt;dsimp only[tkV]at CT1
    go_wp2_with fail
    refine CT1.out.mono ?_;rintro e w10 ⟨rfl,hb⟩;have HS10:=zh ((HS9.out.next hb).alloc 70 #[.int .i64 tk,.string ⟨tx.toArray⟩,.int .i64 (tp:Int)] (by decide));have HK10:=zh ((HK9.out.next hb).next (W':=w10.alloc (.cells #[.int .i64 tk,.string ⟨tx.toArray⟩,.int .i64 (tp:Int)] 70)) ((Below.refl _ _).alloc (Nat.le_refl _) _));clear hb CT1 HS9 HK9
    go_upto_region 13 with fail
    generalize World.alloc _ _=W11 at HS10 HK10 ⊢;generalize w10.heap.size=q9 at HS10 ⊢;obtain⟨b1,hb1⟩:∃ b1,(isS ⟨tk,tx,tp⟩ [44]&&(decide (rows=0)||decide (wide<cols)))=b1:=⟨_,rfl⟩
    have HB1:=zh hb1;clear hb1
    go_cut [41] (fun v wx=>v=.bool b1∧Hid (Fs E w (k1) op (c+1) pl er [(q9,70,#[.int .i64 tk,.string ⟨tx.toArray⟩,.int .i64 (tp:Int)]),(q4,41,(cJ 8 [] (rows) A1 n1 cap1).toArray),(q,41,aB.toArray)] wx∧KR wx (q4+1) (.slice A1 n1 cap1) n1 (l++[x]) (c+1)))
    case first=>
     have x0:=(HS10.out.li 0 rfl).cell 0;have x1:=(HS10.out.li 0 rfl).cell 1;have x2:=(HS10.out.li 0 rfl).cell 2;simp only[List.getElem?_toArray,List.getElem?_cons_zero,List.getElem?_cons_succ]at x0 x1 x2;have CS1:=zh (CS.out ⟨tk,tx,tp⟩ [44] W11)
     go_wp2_with fail
     refine CS1.out.mono ?_;rintro e w12 ⟨rfl,hb⟩;have HS10':=zh (HS10.out.next hb);have HK10':=zh (HK10.out.next hb);clear hb CS1 HS10 HK10;have y20:=(HS10'.out.li 1 rfl).cell 20;simp only[List.getElem?_toArray,List.getElem?_cons_zero,List.getElem?_cons_succ]at y20;cases hb44:isS ⟨tk,tx,tp⟩ [44] with
     | false=>
      have e1:b1=false:=by rw[← HB1.out,hb44];rfl
      subst e1
      go_wp2_with fail
      all_goals go_meet
      exact⟨rfl,zh ⟨HS10'.out,HK10'.out⟩⟩
     | true=>
      by_cases h0:rows=0
      ·have e1:b1=true:=by rw[← HB1.out,hb44,h0];rfl
       subst e1;have n0:((rows:Int)==0)=true:=by simp[h0]
       go_wp2_with fail
       all_goals go_meet
       exact⟨rfl,zh ⟨HS10'.out,HK10'.out⟩⟩
      ·have n0:((rows:Int)==0)=false:=by simp;omega
       have e1:b1=decide (wide<cols):=by rw[← HB1.out,hb44];simp[h0]
       by_cases hw:wide<cols
       ·have hwi:(wide:Int)<(cols:Int):=by omega
        have e2:b1=true:=by rw[e1];simp[hw]
        subst e2;clear e1 hw
        go_wp2_with fail
        all_goals go_meet
        exact⟨rfl,zh ⟨HS10'.out,HK10'.out⟩⟩
       ·have hwi:¬ (wide:Int)<(cols:Int):=by omega
        have e2:b1=false:=by rw[e1];simp[hw]
        subst e2;clear e1 hw
        go_wp2_with fail
        all_goals go_meet
        exact⟨by first | rfl |(simp;omega),zh ⟨HS10'.out,HK10'.out⟩⟩
    case rest=>
     obtain⟨rfl,hcut⟩:=hcut;have HS11:=zh hcut.out.1;have HK11:=zh hcut.out.2;clear hcut HS10 HK10;have hwb:(wide:Int)≤1000001:=by have:=HB.out;omega
     have hrb:(rows:Int)≤1000000:=by have:=HB.out;omega
     cases b1 with
     | true=>
      have h44:isS ⟨tk,tx,tp⟩ [44]=true:=by have:=HB1.out;simp at this;exact this.1
      have h125:=isS_ne h44 (by decide:([44]:Bs)≠[125]);have hk2':=HEN.out (dY h44);have HG3:Hid (∃ f,E.L.length-k2≤f+1∧eN f rows cols (wide+1) (l++[x]) (E.L.drop (k1+1)) (c+1)=T):=zh (by obtain⟨f,h1,h2⟩:=HG2.out;rw[HB1.out,if_pos rfl]at h2;exact⟨f,h1,h2⟩);clear HB1 HG2 HEN h44 HOW;have r1:=HS11.out.ine.rd.cell 1;have rf1:=HS11.out.ine.rd.frozen 1;simp only[List.getElem?_toArray,List.getElem?_cons_zero,List.getElem?_cons_succ]at r1;have hkb:(k1:Int)≤1000000:=by have:=HX.out;omega
      have HS12:Hid (Fs E w (k1+1) op (c+1) pl er [(q9,70,#[.int .i64 tk,.string ⟨tx.toArray⟩,.int .i64 (tp:Int)]),(q4,41,(cJ 8 [] (rows) A1 n1 cap1).toArray),(q,41,aB.toArray)] (wc.setCell ⟨E.r,1,none⟩ (.int .i64 ((k1:Int)+1)))):=zh (HS11.out.rd hE 1 _ rfl);have HK12:=zh (HK11.out.kp ((Kp.refl [E.r] _).set (.inl (.head _)) 1 (.int .i64 ((k1:Int)+1))) (fun y hy=>.inl (by obtain⟨k0,op0,nd0,pl0,er0,hb0⟩:=HS11.out.base;have:=hb0.rd.lt;rw[List.mem_singleton.1 hy];have:=HQ4.out;omega)));clear HS11 HK11
      go_upto_region 18 with fail
      generalize World.setCell _ _ _=W12 at HS12 HK12 ⊢;clear r1 rf1;have x0:=(HS12.out.li 0 rfl).cell 0;have x1:=(HS12.out.li 0 rfl).cell 1;have x2:=(HS12.out.li 0 rfl).cell 2;simp only[List.getElem?_toArray,List.getElem?_cons_zero,List.getElem?_cons_succ]at x0 x1 x2;have CS1:=zh (CS.out ⟨tk,tx,tp⟩ [125] W12);rw[h125]at CS1
      go_wp2_with fail
      refine CS1.out.mono ?_;rintro e w13 ⟨rfl,hb⟩;have HS12':=zh (HS12.out.next hb);have HK12':=zh (HK12.out.next hb);clear hb CS1 HS12 HK12
      go_wp2_with fail
      go_roundw
      case rel=>exact⟨cols,wide+1,rfl,rfl,zh ⟨k1+1,c+1,rows,n1,cap1,A1,l++[x],HS12'.out.drop1,HK12'.out,by have:=HB.out;have:=HX.out;omega,hk2',by have:=HB.out;have:=HX.out;omega,by have:=HB.out;omega,HN1.out,by have:=HB.out;have:=HX.out;omega,by have:=HB.out;have:=HX.out;omega,by have:=HB.out;have:=HX.out;omega,by obtain⟨f,h1,h2⟩:=HG3.out;exact⟨f,by have:=HX.out;omega,h2⟩⟩⟩
      case measure=>rw[HRD.out,HS12'.out.ine.rdAt];have:=HX.out;omega
     | false=>
      have HB2:Hid (∃ f,E.L.length-k2≤f+1∧(if isS ⟨tk,tx,tp⟩ [59]&&(decide (rows=0)||decide (wide=cols)) then eN f (rows+1) wide 1 (l++[x]) (E.L.drop (k1+1)) (c+1) else if isS ⟨tk,tx,tp⟩ [125]&&(decide (rows=0)||decide (wide=cols)) then .ok (uII (rows+1:Nat) (l++[x])) (E.L.drop (k1+1)) (c+1+1) else .bad 6 tp)=T):=zh (by obtain⟨f,h1,h2⟩:=HG2.out;rw[HB1.out,if_neg (by decide)]at h2;exact⟨f,h1,h2⟩);clear HB1 HG2;obtain⟨b2,hb2⟩:∃ b2,((isS ⟨tk,tx,tp⟩ [59]||isS ⟨tk,tx,tp⟩ [125])&&(decide (rows=0)||decide (wide=cols)))=b2:=⟨_,rfl⟩
      have HB3:=zh hb2;clear hb2
      go_upto_region 14 with fail
      go_cut [54] (fun v wx=>v=.bool b2∧Hid (Fs E w (k1) op (c+1) pl er [(q9,70,#[.int .i64 tk,.string ⟨tx.toArray⟩,.int .i64 (tp:Int)]),(q4,41,(cJ 8 [] (rows) A1 n1 cap1).toArray),(q,41,aB.toArray)] wx∧KR wx (q4+1) (.slice A1 n1 cap1) n1 (l++[x]) (c+1)))
      case first=>
       have x0:=(HS11.out.li 0 rfl).cell 0;have x1:=(HS11.out.li 0 rfl).cell 1;have x2:=(HS11.out.li 0 rfl).cell 2;simp only[List.getElem?_toArray,List.getElem?_cons_zero,List.getElem?_cons_succ]at x0 x1 x2;have CS1:=zh (CS.out ⟨tk,tx,tp⟩ [59] wc)
       go_wp2_with fail
       refine CS1.out.mono ?_;rintro e w12 ⟨rfl,hb⟩;have HS11':=zh (HS11.out.next hb);have HK11':=zh (HK11.out.next hb);clear hb CS1 HS11 HK11;cases hbb:isS ⟨tk,tx,tp⟩ [59] with
       | true=>
        have y20:=(HS11'.out.li 1 rfl).cell 20;simp only[List.getElem?_toArray,List.getElem?_cons_zero,List.getElem?_cons_succ]at y20;by_cases h0:rows=0
        ·have e1:b2=true:=by rw[← HB3.out];simp[hbb,h0]
         subst e1;have n0:((rows:Int)==0)=true:=by simp[h0]
         go_wp2_with fail
         all_goals go_meet
         exact⟨rfl,zh ⟨HS11'.out,HK11'.out⟩⟩
        ·have n0:((rows:Int)==0)=false:=by simp;omega
         by_cases hw:wide=cols
         ·have hwi:((wide:Int)==(cols:Int))=true:=by simp[hw]
          have e2:b2=true:=by rw[← HB3.out];simp[hbb,hw]
          subst e2;clear hw
          go_wp2_with fail
          all_goals go_meet
          exact⟨rfl,zh ⟨HS11'.out,HK11'.out⟩⟩
         ·have hwi:((wide:Int)==(cols:Int))=false:=by simp;omega
          have e2:b2=false:=by rw[← HB3.out];simp[hw,h0]
          subst e2;clear hw
          go_wp2_with fail
          all_goals go_meet
          exact⟨rfl,zh ⟨HS11'.out,HK11'.out⟩⟩
       | false=>
        have x0:=(HS11'.out.li 0 rfl).cell 0;have x1:=(HS11'.out.li 0 rfl).cell 1;have x2:=(HS11'.out.li 0 rfl).cell 2;simp only[List.getElem?_toArray,List.getElem?_cons_zero,List.getElem?_cons_succ]at x0 x1 x2;have hbc:=hbb;clear hbb;have CS1:=zh (CS.out ⟨tk,tx,tp⟩ [125] w12)
        go_wp2_with fail
        refine CS1.out.mono ?_;rintro e w14 ⟨rfl,hb⟩;have HS11'':=zh (HS11'.out.next hb);have HK11'':=zh (HK11'.out.next hb);clear hb CS1 HS11' HK11';clear x0 x1 x2;cases hbb:isS ⟨tk,tx,tp⟩ [125] with
        | true=>
         have y20:=(HS11''.out.li 1 rfl).cell 20;simp only[List.getElem?_toArray,List.getElem?_cons_zero,List.getElem?_cons_succ]at y20;by_cases h0:rows=0
         ·have e1:b2=true:=by rw[← HB3.out];simp[hbb,h0]
          subst e1;have n0:((rows:Int)==0)=true:=by simp[h0]
          go_wp2_with fail
          all_goals go_meet
          exact⟨rfl,zh ⟨HS11''.out,HK11''.out⟩⟩
         ·have n0:((rows:Int)==0)=false:=by simp;omega
          by_cases hw:wide=cols
          ·have hwi:((wide:Int)==(cols:Int))=true:=by simp[hw]
           have e2:b2=true:=by rw[← HB3.out];simp[hbb,hw]
           subst e2;clear hw
           go_wp2_with fail
           all_goals go_meet
           exact⟨rfl,zh ⟨HS11''.out,HK11''.out⟩⟩
          ·have hwi:((wide:Int)==(cols:Int))=false:=by simp;omega
           have e2:b2=false:=by rw[← HB3.out];simp[hw,h0]
           subst e2;clear hw
           go_wp2_with fail
           all_goals go_meet
           exact⟨rfl,zh ⟨HS11''.out,HK11''.out⟩⟩
        | false=>
         have e1:b2=false:=by rw[← HB3.out,hbc,hbb];rfl
         subst e1
         go_wp2_with fail
         all_goals go_meet
         exact⟨rfl,zh ⟨HS11''.out,HK11''.out⟩⟩
      case rest=>
       obtain⟨rfl,hcut⟩:=hcut;have HS11a:=zh hcut.out.1;have HK11a:=zh hcut.out.2;clear hcut HS11 HK11;cases b2 with
       | false=>
        have HO1:Hid (T=.bad 6 tp):=zh (by obtain⟨f,h1,h2⟩:=HB2.out;rw[← h2];have h3:=HB3.out;cases ha:isS ⟨tk,tx,tp⟩ [59] <;> cases hb:isS ⟨tk,tx,tp⟩ [125] <;> rw[ha,hb]at h3 <;> simp at h3 ⊢ <;> simp[h3]);have HOW1:=zh (HOW.out _ HS11a.out.ine);clear HB2 HB3 HEN
        go_wp2_with fail
        refine HOW1.out.mono ?_;rintro e w15 ⟨rfl,h1,h2⟩;have HS15:=zh (HS11a.out.step h1 h2.X);clear h1 h2 HS11a HOW1 HOW HK11a;have HT:=zh (HS15.out.there 2 rfl 22 rfl);have HSz:=zh (HS15.out.fill hE 2 rfl aB rfl)
        go_wp2_with (first |(refine wpList_store_mid rfl 41 (.tmp 2) (.tmp 38) rfl q 0 aB.toArray rfl rfl HT.out aE aT ?_;change wpList _ _ _ _ _ (World.setCells _ q 0 aB);generalize World.setCells _ _ _ _=wz at HSz ⊢))
        have HA:=zh (HSz.out.li 2 rfl);refine bodyPost_ret (aK rfl rfl HA.out rfl) rfl ?_;rw[HO1.out];exact cK HSz.out rfl aT (by have:=HX.out;have:=HB.out;omega) HX.out.2.1 (by have:=HX.out;have:=HB.out;omega)
       | true=>
        have y20:=(HS11a.out.li 1 rfl).cell 20;have yf20:=(HS11a.out.li 1 rfl).frozen 20;simp only[List.getElem?_toArray,List.getElem?_cons_zero,List.getElem?_cons_succ]at y20;have HS11:Hid (Fs E w (k1) op (c+1) pl er [(q9,70,#[.int .i64 tk,.string ⟨tx.toArray⟩,.int .i64 (tp:Int)]),(q4,41,(cJ 8 [] ((rows:Int)+1) A1 n1 cap1).toArray),(q,41,aB.toArray)] (wc.setCell ⟨q4,20,none⟩ (.int .i64 ((rows:Int)+1)))):=zh (HS11a.out.put hE 1 rfl 20 _);have HK11:=zh (HK11a.out.kp ((Kp.refl [q4] _).set (.inl (.head _)) 20 (.int .i64 ((rows:Int)+1))) (fun y hy=>.inl (by rw[List.mem_singleton.1 hy];omega)));clear HS11a HK11a
        go_upto_region 17 with fail
        generalize World.setCell _ _ _=W11b at HS11 HK11 ⊢;clear y20 yf20;have h2:isS ⟨tk,tx,tp⟩ [59]=true∨isS ⟨tk,tx,tp⟩ [125]=true:=by have:=HB3.out;simp at this;exact this.1
        have hk2':=HEN.out (h2.elim dY dY);clear h2;cases hb59:isS ⟨tk,tx,tp⟩ [59] with
        | true=>
         have h125:=isS_ne hb59 (by decide:([59]:Bs)≠[125]);have HG3:Hid (∃ f,E.L.length-k2≤f+1∧eN f (rows+1) wide 1 (l++[x]) (E.L.drop (k1+1)) (c+1)=T):=zh (by obtain⟨f,h1,h2⟩:=HB2.out;have h3:=HB3.out;rw[hb59]at h2 h3;simp only[Bool.true_or]at h3;rw[h3,if_pos rfl]at h2;exact⟨f,h1,h2⟩);clear HB2 HB3 HEN HOW hb59;have r1:=HS11.out.ine.rd.cell 1;have rf1:=HS11.out.ine.rd.frozen 1;simp only[List.getElem?_toArray,List.getElem?_cons_zero,List.getElem?_cons_succ]at r1;have hkb:(k1:Int)≤1000000:=by have:=HX.out;omega
         have HS12:Hid (Fs E w (k1+1) op (c+1) pl er [(q9,70,#[.int .i64 tk,.string ⟨tx.toArray⟩,.int .i64 (tp:Int)]),(q4,41,(cJ 8 [] ((rows:Int)+1) A1 n1 cap1).toArray),(q,41,aB.toArray)] (W11b.setCell ⟨E.r,1,none⟩ (.int .i64 ((k1:Int)+1)))):=zh (HS11.out.rd hE 1 _ rfl);have HK12:=zh (HK11.out.kp ((Kp.refl [E.r] _).set (.inl (.head _)) 1 (.int .i64 ((k1:Int)+1))) (fun y hy=>.inl (by obtain⟨k0,op0,nd0,pl0,er0,hb0⟩:=HS11.out.base;have:=hb0.rd.lt;rw[List.mem_singleton.1 hy];have:=HQ4.out;omega)));clear HS11 HK11
         go_upto_region 18 with fail
         generalize World.setCell _ _ _=W12 at HS12 HK12 ⊢;clear r1 rf1;have x0:=(HS12.out.li 0 rfl).cell 0;have x1:=(HS12.out.li 0 rfl).cell 1;have x2:=(HS12.out.li 0 rfl).cell 2;simp only[List.getElem?_toArray,List.getElem?_cons_zero,List.getElem?_cons_succ]at x0 x1 x2;have CS1:=zh (CS.out ⟨tk,tx,tp⟩ [125] W12);rw[h125]at CS1
         go_wp2_with fail
         refine CS1.out.mono ?_;rintro e w13 ⟨rfl,hb⟩;have HS12':=zh (HS12.out.next hb);have HK12':=zh (HK12.out.next hb);clear hb CS1 HS12 HK12
         go_wp2_with fail
         go_roundw
         case rel=>exact⟨wide,1,rfl,rfl,zh ⟨k1+1,c+1,rows+1,n1,cap1,A1,l++[x],HS12'.out.drop1,HK12'.out,by have:=HB.out;have:=HX.out;omega,hk2',by have:=HB.out;have:=HX.out;omega,by have:=HB.out;omega,HN1.out,by have:=HB.out;have:=HX.out;omega,by have:=HB.out;have:=HX.out;omega,by have:=HB.out;have:=HX.out;omega,by obtain⟨f,h1,h2⟩:=HG3.out;exact⟨f,by have:=HX.out;omega,h2⟩⟩⟩
         case measure=>rw[HRD.out,HS12'.out.ine.rdAt];have:=HX.out;omega
        | false=>
         have h125:isS ⟨tk,tx,tp⟩ [125]=true:=by have:=HB3.out;rw[hb59]at this;simp at this;exact this.1
         have HO1:Hid (T=.ok (uII (rows+1:Nat) (l++[x])) (E.L.drop (k1+1)) (c+1+1)):=zh (by obtain⟨f,h1,h2⟩:=HB2.out;have h3:=HB3.out;rw[hb59,h125]at h2 h3;simp only[Bool.false_or,Bool.true_and,Bool.false_and]at h3 h2;rw[h3]at h2;exact h2.symm);clear HB2 HB3 HEN HOW hb59;have r1:=HS11.out.ine.rd.cell 1;have rf1:=HS11.out.ine.rd.frozen 1;simp only[List.getElem?_toArray,List.getElem?_cons_zero,List.getElem?_cons_succ]at r1;have hkb:(k1:Int)≤1000000:=by have:=HX.out;omega
         have HS12:Hid (Fs E w (k1+1) op (c+1) pl er [(q9,70,#[.int .i64 tk,.string ⟨tx.toArray⟩,.int .i64 (tp:Int)]),(q4,41,(cJ 8 [] ((rows:Int)+1) A1 n1 cap1).toArray),(q,41,aB.toArray)] (W11b.setCell ⟨E.r,1,none⟩ (.int .i64 ((k1:Int)+1)))):=zh (HS11.out.rd hE 1 _ rfl);have HK12:=zh (HK11.out.kp ((Kp.refl [E.r] _).set (.inl (.head _)) 1 (.int .i64 ((k1:Int)+1))) (fun y hy=>.inl (by obtain⟨k0,op0,nd0,pl0,er0,hb0⟩:=HS11.out.base;have:=hb0.rd.lt;rw[List.mem_singleton.1 hy];have:=HQ4.out;omega)));clear HS11 HK11
         go_upto_region 18 with fail
         generalize World.setCell _ _ _=W12 at HS12 HK12 ⊢;clear r1 rf1;have x0:=(HS12.out.li 0 rfl).cell 0;have x1:=(HS12.out.li 0 rfl).cell 1;have x2:=(HS12.out.li 0 rfl).cell 2;simp only[List.getElem?_toArray,List.getElem?_cons_zero,List.getElem?_cons_succ]at x0 x1 x2;have CS1:=zh (CS.out ⟨tk,tx,tp⟩ [125] W12);rw[h125]at CS1
         go_wp2_with fail
         refine CS1.out.mono ?_;rintro e w13 ⟨rfl,hb⟩;have HS12':=zh (HS12.out.next hb);have HK12':=zh (HK12.out.next hb);clear hb CS1 HS12 HK12;have CN1:=zh (CN.out (k1+1) (c+1) pl er (cJ 8 [] ((rows:Int)+1) A1 n1 cap1) rfl (fN _ _ _ _ _ _) _ HS12'.out.ine (by have:=HB.out;have:=HF.out;have:=HX.out;omega));obtain⟨D,hC,hC22,hC1,hCk⟩:=eT (c+1+1) (cJ 8 [] ((rows:Int)+1) A1 n1 cap1) rfl (fN _ _ _ _ _ _);rw[hC]at CN1;have yC:=zh hC22;have HC1:=zh hC1;have HCk:=zh hCk;have HRg:=zh (HS12'.out.range 1 (l:=cJ 8 [] ((rows:Int)+1) A1 n1 cap1) rfl);clear hC hC22 hC1 hCk
         go_wp2_with (first |(refine wpList_load_mid rfl 41 (.tmp 4) rfl q4 0 rfl (cJ 8 [] ((rows:Int)+1) A1 n1 cap1) _ HRg.out Tryz.underlying41 rfl aE ?_))
         refine CN1.out.mono ?_;rintro e wn ⟨rfl,hn1,hn2⟩;have HSn:=zh (HS12'.out.step hn1 hn2.X);have HKn:=zh (HK12'.out.kp hn2 (fun y hy=>.inl (by obtain⟨k0,op0,nd0,pl0,er0,hb0⟩:=HS12'.out.base;have:=hb0.rd.lt;rw[List.mem_singleton.1 hy];have:=HQ4.out;omega)));clear hn1 hn2 CN1 HRg HS12' HK12';have HT:=zh (HSn.out.there 2 rfl D.toArray.size (by rw[List.size_toArray,yC.out];rfl));have HSz:=zh (HSn.out.fill hE 2 rfl D (by rw[yC.out];rfl));have HKz:=zh ((HKn.out.kp (aU (Y:=[q]) (.inl (.head _)) D 0 (Kp.refl _ _)) (fun y hy=>.inl (by rw[List.mem_singleton.1 hy];have:=HQ4.out;have:=HQ.out;omega))).more (Nat.le_succ (c+1)));have zi:(Tryz.prog.info? 41).map (·.size)=some D.toArray.size:=by rw[List.size_toArray,yC.out];exact aE
         clear HSn HKn
         go_wp2_with (first |(refine wpList_store_mid rfl 41 (.tmp 2) (.tmp 87) rfl q 0 D.toArray rfl rfl HT.out zi HC1.out ?_;change wpList _ _ _ _ _ (World.setCells _ q 0 D);generalize World.setCells _ _ _ _=wz at HSz HKz ⊢))
         have HA:=zh (HSz.out.li 2 rfl);refine bodyPost_ret (aK rfl rfl HA.out (by rw[List.size_toArray,yC.out])) rfl ?_;rw[HO1.out];refine vY HSz.out yC.out HC1.out (fun hn=>?_) (by have:=HX.out;have:=HB.out;omega) hk2' (by have:=HX.out;have:=HB.out;omega) (by have:=HB.out;omega) rfl;obtain⟨h4,h5⟩:=HKz.out.kids hn (X:=List.range w.heap.size) (fun y hy=>by have:=List.mem_range.1 hy;have:=HQ4.out;omega);exact⟨A1,cap1,by rw[HCk.out hn,h4];rfl,h5⟩
def oM:Prop:=∀ (h:NodeH) (W:World),(h.kind=4∨h.kind=7)→h.name.length≤100000→h=⟨h.kind,aF,h.name,aH,aH,0⟩→Calls Tryz.prog 27 #[dS h none 0 0] W fun e w'=>e=.returned (.int .i64 (dV (.mk h []):Nat))∧Below W.heap.size W w'
theorem uAM(s:Bs):dV (uBK s [])=if cE s then 0 else 6:=by
 have h1:cW aF aF=true:=by rfl
 unfold dV;simp[Tree.size,dN,Tree.depth,lJ,Tree.right,bN,bE,NodeH.same,h1]
theorem uAN(s:Bs):dV (uFU s)=if bV s then 0 else 6:=by
 have h1:cW aF aF=true:=by rfl
 unfold dV;simp[Tree.size,dN,Tree.depth,lJ,Tree.right,bN,bE,NodeH.same,h1]
def uCD(s:Bs):kB→Out
 | .bad e p=>.bad e p
 | .ok l ts1 c1=>.ok (uBK s l) ts1.tail (c1+1)
structure Arg(E:Env)(w:World)(k op nd pl er q q4:Nat)(s:Bs)(wh:List Tok→Nat→Out)(R:kB)(k' c n cap:Nat)(A:Option Addr)(l:List Tree)(W:World):Prop where
 st:Fs E w k' (op+1) c pl er [(q4,41,(cJ 4 s 0 A n cap).toArray),(q,41,aB.toArray)] W
 kr:KR W (q4+1) (.slice A n cap) n l c
 len:n=l.length
 le:k≤k'
 lt:k'<E.L.length
 nn:nd≤c
structure ArgA(E:Env)(w:World)(k op nd pl er q q4:Nat)(s:Bs)(wh:List Tok→Nat→Out)(R:kB)(k' c n cap:Nat)(A:Option Addr)(l:List Tree)(W:World):Prop extends Arg E w k op nd pl er q q4 s wh R k' c n cap A l W where
 nc:c+k+1≤nd+k'
 few:n<32
 go:∃ f,E.L.length-k'≤f∧bS wh f l (E.L.drop k') c=R
structure ArgZ(E:Env)(w:World)(k op nd pl er q q4:Nat)(s:Bs)(wh:List Tok→Nat→Out)(R:kB)(k' c n cap:Nat)(A:Option Addr)(l:List Tree)(W:World):Prop extends Arg E w k op nd pl er q q4 s wh R k' c n cap A l W where
 nc:c+k≤nd+k'
 few:n≤32
 cl:isS (E.at k') [41]=true
 go:R=.ok l (E.L.drop k') c
theorem ArgA.out{E:Env}{w:World}{k op nd pl er q q4:Nat}{s:Bs}{wh:List Tok→Nat→Out}{R:kB}{k' c n cap:Nat}{A:Option Addr}{l:List Tree}{W:World}(h:ArgA E w k op nd pl er q q4 s wh R k' c n cap A l W) :
  ∃ f,E.L.length-k'≤f+1∧(match kQ wh (E.L.drop k') c with
   | .bad e p=>kB.bad e p
   | .ok x ts1 c1=>
    if isS (hd ts1) [41] then .ok (l++[x]) ts1 c1
    else if isS (hd ts1) [44] then if 32≤l.length+1 then .bad 10 (hd ts1).place else bS wh f (l++[x]) ts1.tail c1
    else .bad 6 (hd ts1).place)=R:=by
 obtain⟨f,h1,h2⟩:=h.go;have:=h.lt;cases f with
 | zero=>omega
 | succ f=>exact⟨f,h1,h2⟩
set_option maxRecDepth 100000 in
set_option maxHeartbeats 3200000 in
theorem call_any(E:Env)(hE:E.ok)(he:E.ends)(hL:E.L.length≤1000000)(hT:E.short)(hC:oM)(whole:Nat→List Tok→Nat→Out)(op:Nat)(ho:op≤64)(hp:op<64→dU E 24 (whole (op+1)) (op+1))(k nd pl er:Nat)(w:World)(hI:InE E k op nd pl er w)(hk:k<E.L.length)(hn:nd≤k)(hk1:k+1<E.L.length)(hs:isS (E.at (k+1)) [40]=true) :
  Calls Tryz.prog 129 #[.pointer (some ⟨E.r,0,none⟩)] w (NPost E w k op nd pl er (mQ whole op (E.L.drop k) nd)):=by
 have hk2:=E.more he hk1 (dY hs);have CT:=zh (fun k op nd pl er W h hk=>bT E k op nd pl er W h hk);have CS:=zh (fun t s W=>cY t s W);have CFo:=zh (fun W=>kJ (E.at k).text W (by have:=hT k;unfold maxLen;omega));have CCk:=zh (hC ⟨4,aF,aG (E.at k).text,aH,aH,0⟩ · (.inl rfl) (by have:=hT k;rw[cR];omega) rfl);have CW:=zh (fun W h=>eQ E hE k op nd pl er 9 W h hk);have CEy:=zh (fun W h=>vR E hE (k+1) op nd pl er W h hk1 hL hs);have CEd:=zh (fun W h ho=>sQ E hE (k+1) op nd pl er W h hk1 ho (by omega));have CA:=zh (fun ho k nd pl er W h hk hn=>wZ E hE (whole (op+1)) (op+1) (hp ho) k nd pl er W h hk hn hL);have CCf:=zh (fun k nd pl er n W h hk hs hn=>uCG E hE k (op+1) nd pl er n W h hk hs hn);have CCy:=zh (fun k nd pl er n W h hk hs hn=>uGQ E hE k (op+1) nd pl er n W h hk hL hs hn)
 have CCn:=zh (fun k nd pl er n W h hk hs=>comma_no E hE k (op+1) nd pl er n W h hk hs);have CN:=zh (fun k nd pl er cs h22 h1 W h hn=>gN E hE k (op+1) nd pl er cs h22 h1 W h hn);have CLv:=zh (fun k nd pl er W h hk hs=>vZ E hE k op nd pl er W h hk hL hs ho);have HS1:=zh ((Fs.start hI).alloc 41 aB.toArray (by decide));have HF:Hid (k<E.L.length∧nd≤k∧k+1<E.L.length∧k+2<E.L.length∧op≤64):=zh ⟨hk,hn,hk1,hk2,ho⟩;generalize hO:mQ whole op (E.L.drop k) nd=T;have HO:Hid ((if !cE (aG (E.at k).text) then .bad 9 (E.at k).place else if 64≤op then .bad 8 (E.at (k+1)).place else uCD (aG (E.at k).text) (if isS (E.at (k+2)) [41] then .ok [] (E.L.drop (k+2)) nd else bS (whole (op+1)) (E.L.length-k) [] (E.L.drop (k+2)) nd))=T):=zh (by
  rw[← hO];unfold mQ fD uCD;rw[List.tail_drop,List.tail_drop,List.length_drop];rfl)
 have hpc:=uAM (aG (E.at k).text);clear hI hO hn hs hk hk1 hk2 hp ho hT hC;generalize hsn:aG (E.at k).text=s at *;have HPC:=zh hpc;clear hpc hsn;have CT1:=zh (CT.out k op nd pl er · · HF.out.1);generalize hat:E.at k=tt at *;obtain⟨tk,tx,tp⟩:=tt;dsimp only[tkV]at *;have hf1:=mX;clear hat;simp only[aB]at HS1
 go_enter Tryz.func129,Tryz.ntmps129
 go_upto_region 1 with fail
 generalize World.alloc _ _=W1 at HS1 ⊢;generalize hq:w.heap.size=q at HS1 ⊢;have HQ:=zh hq;clear hq
 go_wp2_with fail
 refine(CT1.out _ HS1.out.ine).mono ?_;rintro e w2 ⟨rfl,hb⟩;have HS2:=zh (HS1.out.next hb);clear hb HS1 CT1
 go_wp2_with fail
 refine(CFo.out _).mono ?_;rintro e w3 ⟨rfl,hb⟩;have HS3:=zh ((HS2.out.next hb).alloc 41 aB.toArray (by decide));have HQ4:Hid (q<w3.heap.size∧w.heap.size≤w3.heap.size):=zh (by have:=(HS2.out.next hb).lt 0 rfl;exact⟨this,by have:=HQ.out;omega⟩);clear hb HS2 CFo hf1;have HT:=zh (HS3.out.there 0 rfl 22 rfl);have HS4:=zh (HS3.out.fill hE 0 rfl (cJ 4 s 0 none 0 0) rfl);have hone:=fN 4 s 0 none 0 0;clear HS3;simp only[List.set_cons_zero]at HS4;simp only[aB]at HS4 HT
 go_upto_region 2 with(first |(refine wpList_store_mid rfl 41 (.tmp 4) (.tmp 12) rfl w3.heap.size 0 (cJ 4 s 0 none 0 0).toArray rfl rfl HT.out aE hone ?_;change wpList _ _ _ _ _ (World.setCells _ w3.heap.size 0 (cJ 4 s 0 none 0 0));generalize World.setCells _ _ _ _=W4 at HS4 ⊢;generalize w3.heap.size=q4 at HS4 HQ4 ⊢))
 clear HT hone;have HRg:=zh (HS4.out.range 0 (l:=cJ 4 s 0 none 0 0) rfl)
 go_wp2_with (first |(refine wpList_load_mid rfl 41 (.tmp 4) rfl q4 0 rfl (cJ 4 s 0 none 0 0) _ HRg.out Tryz.underlying41 rfl aE ?_))
 refine(CCk.out _).mono ?_;rintro e w5 ⟨rfl,hb⟩;have HS5:=zh (HS4.out.next hb);clear hb HS4 CCk HRg;rw[HPC.out];cases hcb:cE s with
 | false=>
  have HO1:Hid (T=.bad 9 tp):=zh (by rw[← HO.out,hcb];rfl);rw[if_neg (by decide)];clear HO HPC
  go_wp2_with fail
  refine(CW.out _ HS5.out.ine).mono ?_;rintro e w6 ⟨rfl,h1,h2⟩;have HS6:=zh (HS5.out.step h1 h2.X);clear h1 h2 HS5 CW;have HT:=zh (HS6.out.there 1 rfl 22 rfl);have HSz:=zh (HS6.out.fill hE 1 rfl aB rfl)
  go_wp2_with (first |(refine wpList_store_mid rfl 41 (.tmp 2) (.tmp 16) rfl q 0 aB.toArray rfl rfl HT.out aE aT ?_;change wpList _ _ _ _ _ (World.setCells _ q 0 aB);generalize World.setCells _ _ _ _=wz at HSz ⊢))
  have HA:=zh (HSz.out.li 1 rfl);refine bodyPost_ret (aK rfl rfl HA.out rfl) rfl ?_;rw[HO1.out];exact cK HSz.out rfl aT (Nat.le_refl _) HF.out.1 (by omega)
 | true=>
  rw[if_pos rfl];clear CW HPC;have HO2:Hid ((if 64≤op then .bad 8 (E.at (k+1)).place else uCD s (if isS (E.at (k+2)) [41] then .ok [] (E.L.drop (k+2)) nd else bS (whole (op+1)) (E.L.length-k) [] (E.L.drop (k+2)) nd))=T):=zh (by rw[← HO.out,hcb];rfl);clear HO hcb;have r1:=HS5.out.ine.rd.cell 1;have rf1:=HS5.out.ine.rd.frozen 1;simp only[List.getElem?_toArray,List.getElem?_cons_zero,List.getElem?_cons_succ]at r1;have hkb:(k:Int)≤1000000:=by have:=HF.out;omega
  have HS6:Hid (Fs E w (k+1) (op) (nd) pl er [(q4,41,(cJ 4 s 0 none 0 0).toArray),(q,41,aB.toArray)] (w5.setCell ⟨E.r,1,none⟩ (.int .i64 ((k:Int)+1)))):=zh (HS5.out.rd hE 1 _ rfl);clear HS5
  go_upto_region 5 with fail
  generalize World.setCell _ _ _=W6 at HS6 ⊢;clear r1 rf1;by_cases hop:64≤op
  ·rw[if_pos hop]at HO2;have HO3:=zh HO2.out.symm
   go_wp2_with fail
   refine(CEd.out _ HS6.out.ine hop).mono ?_;rintro e w7 ⟨rfl,h1,h2⟩;have HS7:=zh (HS6.out.step h1 h2.X);clear h1 h2 HS6 CEd hop;have HT:=zh (HS7.out.there 1 rfl 22 rfl);have HSz:=zh (HS7.out.fill hE 1 rfl aB rfl)
   go_wp2_with (first |(refine wpList_store_mid rfl 41 (.tmp 2) (.tmp 29) rfl q 0 aB.toArray rfl rfl HT.out aE aT ?_;change wpList _ _ _ _ _ (World.setCells _ q 0 aB);generalize World.setCells _ _ _ _=wz at HSz ⊢))
   have HA:=zh (HSz.out.li 1 rfl);refine bodyPost_ret (aK rfl rfl HA.out rfl) rfl ?_;rw[HO3.out];exact cK HSz.out rfl aT (by omega) HF.out.2.2.1 (by omega)
  ·rw[if_neg hop]at HO2;have hop':op<64:=by omega
   have CA1:=zh (CA.out hop');clear hop CA CEd;generalize whole (op+1)=wh at HO2 CA1
   go_wp2_with fail
   refine(CEy.out _ HS6.out.ine hop').mono ?_;rintro e w7 ⟨rfl,h1,h2⟩;have HS7:=zh (HS6.out.step h1 h2.X);clear h1 h2 HS6 CEy hop';have CT1:=zh (CT.out (k+2) (op+1) nd pl er _ HS7.out.ine HF.out.2.2.2.1);have HEN:Hid ((E.at (k+2)).kind≠0→k+3<E.L.length):=zh (fun h=>E.more he HF.out.2.2.2.1 h);obtain⟨R,hR⟩:∃ R,(if isS (E.at (k+2)) [41] then kB.ok [] (E.L.drop (k+2)) nd else bS wh (E.L.length-k) [] (E.L.drop (k+2)) nd)=R:=⟨_,rfl⟩
   rw[hR]at HO2;have HR:=zh hR;clear hR
   go_wp2_with fail
   refine CT1.out.mono ?_;rintro e w8 ⟨rfl,hb⟩;have HS8:=zh (HS7.out.next hb);clear hb HS7 CT1;have CS1:=zh (CS.out (E.at (k+2)) [41] w8)
   go_wp2_with fail
   refine CS1.out.mono ?_;rintro e w9 ⟨rfl,hb⟩;have HS9:=zh (HS8.out.next hb);clear hb HS8 CS1;have HM:Hid ((isS (E.at (k+2)) [41]=false∧ArgA E w k op nd pl er q q4 s wh R (k+2) nd 0 0 none [] w9)∨(isS (E.at (k+2)) [41]=true∧ArgZ E w k op nd pl er q q4 s wh R (k+2) nd 0 0 none [] w9)):=zh (by
    have hA:Arg E w k op nd pl er q q4 s wh R (k+2) nd 0 0 none [] w9:=⟨HS9.out,KR.nil _ _ _,rfl,by omega,HF.out.2.2.2.1,Nat.le_refl _⟩
    cases hb:isS (E.at (k+2)) [41] with
    | false=>exact .inl ⟨rfl,{ toArg:=hA,nc:=by omega,few:=by omega,go:=⟨E.L.length-k,by omega,by have:=HR.out;rw[hb]at this;exact this⟩ }⟩
    | true=>exact .inr ⟨rfl,{ toArg:=hA,nc:=by omega,few:=by omega,cl:=hb,go:=by have:=HR.out;rw[hb,if_pos rfl]at this;exact this.symm }⟩)
   clear HS9 HR HEN;generalize isS (E.at (k+2)) [41]=b0 at HM ⊢
   go_wp2_with fail
   go_loopw [5] (fun v wr=>(v=.bool true∧Hid (∃ k' c n cap A l,ArgA E w k op nd pl er q q4 s wh R k' c n cap A l wr))∨(v=.bool false∧Hid (∃ k' c n cap A l,ArgZ E w k op nd pl er q q4 s wh R k' c n cap A l wr))) (fun v wr=>onM v (E.L.length-rdAt wr E.r))
   case atStart=>
    rcases HM.out with⟨rfl,h⟩ | ⟨rfl,h⟩
    ·exact .inl ⟨rfl,zh ⟨_,_,_,_,_,_,h⟩⟩
    ·exact .inr ⟨rfl,zh ⟨_,_,_,_,_,_,h⟩⟩
   case round=>
    clear HM;rcases hrel with⟨rfl,hrel⟩ | ⟨rfl,hrel⟩
    ·obtain⟨k2,c,n,cap,A,l,hS⟩:=hrel.out;have HS10:=zh hS.st;have HK10:=zh hS.kr;have HB:Hid (k≤k2∧k2<E.L.length∧c+k+1≤nd+k2∧nd≤c∧n=l.length∧n<32):=zh ⟨hS.le,hS.lt,hS.nc,hS.nn,hS.len,hS.few⟩;have HG:=zh hS.out;have HRD:=zh hS.st.ine.rdAt;have CA2:=zh (CA1.out k2 c pl er _ HS10.out.ine HB.out.2.1 (by have:=HB.out;have:=HF.out;omega));clear hS hrel CA1
     go_wp2_with fail
     refine CA2.out.mono ?_;clear CA2;cases hp:kQ wh (E.L.drop k2) c with
     | bad e1 p1=>
      have HO1:Hid (T=.bad e1 p1):=zh (by obtain⟨f,_,hf⟩:=HG.out;rw[hp]at hf;rw[← HO2.out,← hf];rfl);rintro e w6 ⟨cs,k1,op1,nd1,rfl,g1,g2,g3,g4,g5,g6,g7⟩;obtain⟨C,rfl⟩:∃ C:List Value,cs=C.toArray:=⟨cs.toList,by simp⟩
      have yC:Hid (C.length=22):=zh (by rwa [List.size_toArray]at g1);have yo:=zh g2;have HX:=zh (⟨g3,g4,g5⟩:k2≤k1∧k1<E.L.length∧nd1+k2≤c+k1);have HS6:=zh (HS10.out.step g6 g7);clear g1 g2 g3 g4 g5 g6 g7 HS10 HK10 HG hp;have HS7:=zh (HS6.out.alloc 41 aB.toArray (by decide));clear HS6;have HT:=zh (HS7.out.there 0 rfl C.toArray.size (by rw[List.size_toArray,yC.out];rfl));have HS8:=zh (HS7.out.fill hE 0 rfl C (by rw[yC.out];rfl));have zi:=hfN yC.out;clear HS7;simp only[aB,List.set_cons_zero]at HS8 HT
      go_upto_region 11 with(first |(refine wpList_store_mid rfl 41 (.tmp 6) (.tmp 38) rfl w6.heap.size 0 C.toArray rfl rfl HT.out zi yo.out ?_;change wpList _ _ _ _ _ (World.setCells _ w6.heap.size 0 C);generalize World.setCells _ _ _ _=W8 at HS8 ⊢;generalize w6.heap.size=q7 at HS8 ⊢))
      clear HT zi;have HT:=zh (HS8.out.there 2 rfl 22 rfl);have HSz:=zh (HS8.out.fill hE 2 rfl aB rfl)
      go_wp2_with (first |(refine wpList_store_mid rfl 41 (.tmp 2) (.tmp 42) rfl q 0 aB.toArray rfl rfl HT.out aE aT ?_;change wpList _ _ _ _ _ (World.setCells _ q 0 aB);generalize World.setCells _ _ _ _=wz at HSz ⊢))
      have HA:=zh (HSz.out.li 2 rfl);refine bodyPost_ret (aK rfl rfl HA.out rfl) rfl ?_;rw[HO1.out];exact cK HSz.out rfl aT (by have:=HX.out;have:=HB.out;omega) HX.out.2.1 (by have:=HX.out;have:=HB.out;omega)
     | ok x ts1 c1=>
      rintro e w6 ⟨k1,cs,rfl,g1,g2,rfl,g4,g5,g6,g7,g8⟩;obtain⟨C,rfl⟩:∃ C:List Value,cs=C.toArray:=⟨cs.toList,by simp⟩
      have yC:Hid (C.length=22):=zh (by have:=g8.1;rwa [List.size_toArray]at this);have yo:=zh g8.2.1;have HX:=zh (⟨g1,g2,g4,g5⟩:k2≤k1∧k1<E.L.length∧c1+k2≤c+k1+1∧c≤c1);have HS6:=zh (HS10.out.step g6 g7);have HQL:Hid (∀ y,(Value.slice A n cap).ownBlock=some y→q4+1≤y∧y<wr.heap.size):=zh (fun y hy=>fP HK10.out hy);have HXB:Hid (∀ y∈E.X,y<q4+1):=zh (fun y hy=>by obtain⟨k0,op0,nd0,pl0,er0,hb0⟩:=HS10.out.base;have:=hb0.xlt y hy;have:=HQ4.out;omega);have HK6:=zh (HK10.out.kp g7 (fun y hy=>.inl (HXB.out y hy)));have HV6:Hid (NV w6 (KX (q4+1) (.slice A n cap)) c1 x C.toArray):=zh (g8.anti (fun y hy _=>by have h4:=HS10.out.lt 0 rfl;exact(KX.mem.1 hy).elim (fun h=>List.mem_range.2 (HQL.out y h).2) (fun h=>List.mem_range.2 (by omega))))
      have HG1:Hid (∃ f,E.L.length-k2≤f+1∧(if isS (E.at k1) [41] then kB.ok (l++[x]) (E.L.drop k1) c1 else if isS (E.at k1) [44] then if 32≤l.length+1 then .bad 10 (E.at k1).place else bS wh f (l++[x]) (E.L.drop (k1+1)) c1 else .bad 6 (E.at k1).place)=R):=zh (by obtain⟨f,h1,h2⟩:=HG.out;rw[hp]at h2;rw[← List.tail_drop];exact⟨f,h1,h2⟩);clear g1 g2 g4 g5 g6 g7 g8 HS10 HK10 HG hp HXB;have HS7:=zh (HS6.out.alloc 41 aB.toArray (by decide));have hq7g:Hid (∀ y,(Value.slice A n cap).ownBlock=some y→y≠w6.heap.size):=zh (fun y hy e=>by have:=(fP HK6.out hy).2;omega);have HKP:∀ W,Kp [w6.heap.size] w6 W→Hid (KR W (q4+1) (.slice A n cap) n l c∧NV W (KX (q4+1) (.slice A n cap)) c1 x C.toArray):=fun W hk=>zh ⟨HK6.out.kp hk (fun y hy=>.inr (by rw[List.mem_singleton.1 hy];exact Nat.le_refl _)),HV6.out.kp (hk.mono (fun y hy hl=>by rw[List.mem_singleton.1 hy]at hl;omega))⟩
      have HK8:=HKP _ (aU (.inl (.head _)) C 0 ((Kp.refl _ _).alloc (.cells aB.toArray 41)));clear HKP HK6 HV6 HS6;have HT:=zh (HS7.out.there 0 rfl C.toArray.size (by rw[List.size_toArray,yC.out];rfl));have HS8:=zh (HS7.out.fill hE 0 rfl C (by rw[yC.out];rfl));have zi:=hfN yC.out;clear HS7;simp only[aB,List.set_cons_zero]at HS8 HT HK8
      go_upto_region 12 with(first |(refine wpList_store_mid rfl 41 (.tmp 6) (.tmp 38) rfl w6.heap.size 0 C.toArray rfl rfl HT.out zi yo.out ?_;change wpList _ _ _ _ _ (World.setCells _ w6.heap.size 0 C);generalize World.setCells _ _ _ _=W8 at HS8 HK8 ⊢;generalize w6.heap.size=q7 at HS8 hq7g ⊢))
      clear HT
      go_cut [] (fun wx=>Hid (∃ cap1 A1,Fs E w (k1) (op+1) (c1) pl er [(q4,41,(cJ 4 s 0 A1 (n+1) cap1).toArray),(q,41,aB.toArray)] wx∧KR wx (q4+1) (.slice A1 (n+1) cap1) (n+1) (l++[x]) c1))
      case first=>
       have HRg:=zh (HS8.out.range 0 (l:=C) rfl);have x21:=(HS8.out.li 1 rfl).cell 21;simp only[List.getElem?_toArray,List.getElem?_cons_zero,List.getElem?_cons_succ]at x21;have zi:(Tryz.prog.info? 41).map (·.size)=some C.length:=by rw[yC.out];exact aE
       have HS9:=zh (HS8.out.alloc 41 C.toArray (by decide));have hb9:Below W8.heap.size W8 (W8.alloc (.cells C.toArray 41)):=(Below.refl _ _).alloc (Nat.le_refl _) _;have HK9:=zh ((HK8.out.1.next hb9).more HX.out.2.2.2);have HV9:=zh (HK8.out.2.kp (Kp.of_below hb9));have hb9q:Hid (∀ y,(Value.slice A n cap).ownBlock=some y→y≠W8.heap.size):=zh (fun y hy e=>by have:=(fP HK8.out.1 hy).2;omega);have HLN:∀ b∈([(W8.heap.size,41,C.toArray),(q7,41,C.toArray),(q4,41,(cJ 4 s 0 A n cap).toArray),(q,41,aB.toArray)]:List (Nat×TypeId×Array Value)),(Value.slice A n cap).ownBlock≠some b.1:=fun b hb e=>by
        simp only[List.mem_cons,List.not_mem_nil,or_false]at hb;rcases hb with rfl | rfl | rfl | rfl
        ·exact hb9q.out _ e rfl
        ·exact hq7g.out _ e rfl
        ·have:=(HQL.out _ e).1;omega
        ·have:=(HQL.out _ e).1;have:=HQ4.out;have:=HQ.out;omega
       replace HLN:=zh HLN;have HL9:=zh (HS9.out.li 0 rfl);have HZ:Hid (w.heap.size≤q4+1∧n≤100000∧q4+1≤(W8.alloc (.cells C.toArray 41)).heap.size):=zh ⟨by have:=HQ4.out;omega,by have:=HB.out;omega,by have:=HS9.out.lt 2 rfl;omega⟩;clear HS8 hb9 hb9q HK8
       go_wp2_with (first |(refine wpList_load_mid rfl 41 (.tmp 6) rfl q7 0 rfl C _ HRg.out Tryz.underlying41 rfl zi ?_) |(refine oK rfl (.tmp 45) rfl C rfl yC.out W8.heap.size rfl (some 46) rfl ?_;generalize W8.alloc (.cells C.toArray 41)=W9 at HS9 HK9 HV9 HL9 HZ ⊢;generalize W8.heap.size=q8 at HS9 HLN HL9 ⊢) |(refine jM rfl (.tmp 44) (.tmp 46) rfl (q4+1) n (.slice A n cap) l c1 rfl HK9.out HZ.out.2.1 HZ.out.2.2 q8 1 C rfl yC.out HL9.out yo.out x HV9.out ?_;intro v2 w9 h1 h2 h3;obtain⟨A1,cap1,rfl⟩:=h1.form;have HS10:=zh (HS9.out.grow hE HK9.out HZ.out.1 HLN.out h2);have HK10:=zh h1;clear h1 h2 h3 HS9 HK9 HV9 HL9 HLN HZ x21;have y21:=(HS10.out.li 2 rfl).cell 21;have yf21:=(HS10.out.li 2 rfl).frozen 21;simp only[List.getElem?_toArray,List.getElem?_cons_zero,List.getElem?_cons_succ]at y21))
       all_goals go_meet
       exact zh ⟨cap1,A1,(HS10.out.put hE 2 rfl 21 (.slice A1 (n+1) cap1)).drop1.drop1,HK10.out.kp ((Kp.refl [q4] _).set (.inl (.head _)) 21 _) (fun y hy=>.inl (by rw[List.mem_singleton.1 hy];omega))⟩
      case rest=>
       obtain⟨cap1,A1,hF,hK⟩:=hcut.out;have HS9:=zh hF;have HK9:=zh hK;clear hcut hF hK HS8 HK8 hq7g HQL yo zi yC;have CT1:=zh (CT.out k1 (op+1) c1 pl er _ HS9.out.ine HX.out.2.1)
       go_wp2_with fail
       refine CT1.out.mono ?_;rintro e w10 ⟨rfl,hb⟩;have HS10:=zh (HS9.out.next hb);have HK10:=zh (HK9.out.next hb);clear hb HS9 HK9 CT1;have CS1:=zh (CS.out (E.at k1) [41] w10)
       go_wp2_with fail
       refine CS1.out.mono ?_;rintro e w11 ⟨rfl,hb⟩;have HS11:=zh (HS10.out.next hb);have HK11:=zh (HK10.out.next hb);clear hb HS10 HK10 CS1;have HAr:Hid (∀ W,Fs E w (k1) (op+1) (c1) pl er [(q4,41,(cJ 4 s 0 A1 (n+1) cap1).toArray),(q,41,aB.toArray)] W→KR W (q4+1) (.slice A1 (n+1) cap1) (n+1) (l++[x]) c1→Arg E w k op nd pl er q q4 s wh R k1 c1 (n+1) cap1 A1 (l++[x]) W):=zh (fun W h1 h2=>⟨h1,h2,by have:=HB.out;simp;omega,by have:=HB.out;have:=HX.out;omega,HX.out.2.1,by have:=HB.out;have:=HX.out;omega⟩);cases hb41:isS (E.at k1) [41] with
       | true=>
        have HG3:Hid (R=.ok (l++[x]) (E.L.drop k1) c1):=zh (by obtain⟨f,h1,h2⟩:=HG1.out;rw[hb41,if_pos rfl]at h2;exact h2.symm);have HZ:Hid (ArgZ E w k op nd pl er q q4 s wh R k1 c1 (n+1) cap1 A1 (l++[x]) w11):=zh { toArg:=HAr.out _ HS11.out HK11.out,nc:=by have:=HB.out;have:=HX.out;omega,few:=by have:=HB.out;omega,cl:=hb41,go:=HG3.out };clear HG3 HG1 HAr HS11 HK11 hb41
        go_wp2_with fail
        go_roundw
        case rel=>exact .inr ⟨rfl,zh ⟨_,_,_,_,_,_,HZ.out⟩⟩
        case measure=>
         show onM (.bool false) _<onM (.bool true) _;unfold onM;simp only;omega
       | false=>
        have HG2:Hid (∃ f,E.L.length-k2≤f+1∧(if isS (E.at k1) [44] then if 32≤l.length+1 then .bad 10 (E.at k1).place else bS wh f (l++[x]) (E.L.drop (k1+1)) c1 else .bad 6 (E.at k1).place)=R):=zh (by obtain⟨f,h1,h2⟩:=HG1.out;rw[hb41]at h2;exact⟨f,h1,h2⟩);clear HG1;cases hb44:isS (E.at k1) [44] with
        | true=>
         by_cases hfull:32≤n+1
         ·skip
          have x21:=(HS11.out.li 0 rfl).cell 21;simp only[List.getElem?_toArray,List.getElem?_cons_zero,List.getElem?_cons_succ]at x21;have HO1:Hid (T=.bad 10 (E.at k1).place):=zh (by obtain⟨f,h1,h2⟩:=HG2.out;rw[hb44]at h2;rw[← HO2.out,← h2];have h3:=HB.out;simp only[if_true];rw[if_pos (by omega)];rfl);have CC1:=zh (CCf.out k1 c1 pl er (n+1) _ HS11.out.ine HX.out.2.1 hb44 hfull)
          go_wp2_with fail
          refine CC1.out.mono ?_;rintro e w12 ⟨rfl,h1,h2⟩;have HS12:=zh (HS11.out.step h1 h2.X);clear h1 h2 HS11 HK11 CC1 HAr x21;have HT:=zh (HS12.out.there 1 rfl 22 rfl);have HSz:=zh (HS12.out.fill hE 1 rfl aB rfl)
          go_wp2_with (first |(refine wpList_store_mid rfl 41 (.tmp 2) (.tmp 62) rfl q 0 aB.toArray rfl rfl HT.out aE aT ?_;change wpList _ _ _ _ _ (World.setCells _ q 0 aB);generalize World.setCells _ _ _ _=wz at HSz ⊢))
          have HA:=zh (HSz.out.li 1 rfl);refine bodyPost_ret (aK rfl rfl HA.out rfl) rfl ?_;rw[HO1.out];exact cK HSz.out rfl aT (by have:=HX.out;have:=HB.out;omega) HX.out.2.1 (by have:=HX.out;have:=HB.out;omega)
         ·skip
          have x21:=(HS11.out.li 0 rfl).cell 21;simp only[List.getElem?_toArray,List.getElem?_cons_zero,List.getElem?_cons_succ]at x21;have hk3:=E.more he HX.out.2.1 (dY hb44);have HG3:Hid (∃ f,E.L.length-k2≤f+1∧bS wh f (l++[x]) (E.L.drop (k1+1)) c1=R):=zh (by obtain⟨f,h1,h2⟩:=HG2.out;rw[hb44,if_pos rfl,if_neg (by have h3:=HB.out;omega)]at h2;exact⟨f,h1,h2⟩);have CC1:=zh (CCy.out k1 c1 pl er (n+1) _ HS11.out.ine HX.out.2.1 hb44 (by omega))
          go_wp2_with fail
          refine CC1.out.mono ?_;rintro e w12 ⟨rfl,h1,h2⟩;have HS12:=zh (HS11.out.step h1 h2.X);have HK12:=zh (HK11.out.kp h2 (fun y hy=>.inl (by obtain⟨k0,op0,nd0,pl0,er0,hb0⟩:=HS11.out.base;have:=hb0.rd.lt;rw[List.mem_singleton.1 hy];have:=HQ4.out;omega)));clear h1 h2 HS11 HK11 CC1 x21 HG2;have HZ:Hid (ArgA E w k op nd pl er q q4 s wh R (k1+1) c1 (n+1) cap1 A1 (l++[x]) w12):=zh { st:=HS12.out,kr:=HK12.out,len:=by have:=HB.out;simp;omega,le:=by have:=HB.out;have:=HX.out;omega,lt:=hk3,nn:=by have:=HB.out;have:=HX.out;omega,nc:=by have:=HB.out;have:=HX.out;omega,few:=by omega,go:=by obtain⟨f,h1,h2⟩:=HG3.out;exact⟨f,by have:=HX.out;omega,h2⟩ };clear HG3 HAr HS12 HK12 hb44
          go_wp2_with fail
          go_roundw
          case rel=>exact .inl ⟨rfl,zh ⟨_,_,_,_,_,_,HZ.out⟩⟩
          case measure=>
           show onM (.bool true) _<onM (.bool true) _;unfold onM;simp only;rw[HRD.out,HZ.out.st.ine.rdAt];have:=HX.out;omega
        | false=>
         have x21:=(HS11.out.li 0 rfl).cell 21;simp only[List.getElem?_toArray,List.getElem?_cons_zero,List.getElem?_cons_succ]at x21;have HO1:Hid (T=.bad 6 (E.at k1).place):=zh (by obtain⟨f,h1,h2⟩:=HG2.out;rw[hb44]at h2;rw[← HO2.out,← h2];rfl);have CC1:=zh (CCn.out k1 c1 pl er (n+1) _ HS11.out.ine HX.out.2.1 hb44)
         go_wp2_with fail
         refine CC1.out.mono ?_;rintro e w12 ⟨rfl,h1,h2⟩;have HS12:=zh (HS11.out.step h1 h2.X);clear h1 h2 HS11 HK11 CC1 HAr x21;have HT:=zh (HS12.out.there 1 rfl 22 rfl);have HSz:=zh (HS12.out.fill hE 1 rfl aB rfl)
         go_wp2_with (first |(refine wpList_store_mid rfl 41 (.tmp 2) (.tmp 62) rfl q 0 aB.toArray rfl rfl HT.out aE aT ?_;change wpList _ _ _ _ _ (World.setCells _ q 0 aB);generalize World.setCells _ _ _ _=wz at HSz ⊢))
         have HA:=zh (HSz.out.li 1 rfl);refine bodyPost_ret (aK rfl rfl HA.out rfl) rfl ?_;rw[HO1.out];exact cK HSz.out rfl aT (by have:=HX.out;have:=HB.out;omega) HX.out.2.1 (by have:=HX.out;have:=HB.out;omega)
    ·obtain⟨k2,c,n,cap,A,l,hS⟩:=hrel.out;have HS10:=zh hS.st;have HK10:=zh hS.kr;have HB:Hid (k≤k2∧k2<E.L.length∧c+k≤nd+k2∧nd≤c):=zh ⟨hS.le,hS.lt,hS.nc,hS.nn⟩;have HCL:=zh hS.cl;have hk3:=E.more he hS.lt (dY hS.cl);have HO1:Hid (T=.ok (uBK s l) (E.L.drop (k2+1)) (c+1)):=zh (by rw[← HO2.out,hS.go];show Out.ok _ (E.L.drop k2).tail _=_;rw[List.tail_drop]);clear hS hrel CA1;have CN1:=zh (CN.out k2 c pl er (cJ 4 s 0 A n cap) rfl (fN _ _ _ _ _ _) _ HS10.out.ine (by have:=HB.out;have:=HF.out;omega));obtain⟨D,hC,hC22,hC1,hCk⟩:=eT (c+1) (cJ 4 s 0 A n cap) rfl (fN _ _ _ _ _ _);rw[hC]at CN1;have yC:=zh hC22;have HC1:=zh hC1;have HCk:=zh hCk;have HRg:=zh (HS10.out.range 0 (l:=cJ 4 s 0 A n cap) rfl);clear hC hC22 hC1 hCk
     go_wp2_with (first |(refine wpList_load_mid rfl 41 (.tmp 4) rfl q4 0 rfl (cJ 4 s 0 A n cap) _ HRg.out Tryz.underlying41 rfl aE ?_))
     refine CN1.out.mono ?_;rintro e wn ⟨rfl,hn1,hn2⟩;have HSn:=zh (HS10.out.step hn1 hn2.X);have HER:Hid (∀ y∈[E.r],y<q4+1):=zh (fun y hy=>by obtain⟨k0,op0,nd0,pl0,er0,hb0⟩:=HS10.out.base;have:=hb0.rd.lt;rw[List.mem_singleton.1 hy];have:=HQ4.out;omega);have HKn:=zh (HK10.out.kp hn2 (fun y hy=>.inl (HER.out y hy)));clear hn1 hn2 CN1 HRg HS10 HK10;have CL1:=zh (CLv.out k2 (c+1) pl er _ HSn.out.ine HB.out.2.1 HCL.out)
     go_wp2_with fail
     refine CL1.out.mono ?_;rintro e wl ⟨rfl,hn1,hn2⟩;have HSl:=zh (HSn.out.step hn1 hn2.X);have HKl:=zh (HKn.out.kp hn2 (fun y hy=>.inl (HER.out y hy)));clear hn1 hn2 CL1 HSn HKn;have HT:=zh (HSl.out.there 1 rfl D.toArray.size (by rw[List.size_toArray,yC.out];rfl));have HSz:=zh (HSl.out.fill hE 1 rfl D (by rw[yC.out];rfl));have HKz:=zh ((HKl.out.kp (aU (Y:=[q]) (.inl (.head _)) D 0 (Kp.refl _ _)) (fun y hy=>.inl (by rw[List.mem_singleton.1 hy];have:=HQ4.out;omega))).more (Nat.le_succ c));have zi:(Tryz.prog.info? 41).map (·.size)=some D.toArray.size:=by rw[List.size_toArray,yC.out];exact aE
     clear HSl HKl
     go_wp2_with (first |(refine wpList_store_mid rfl 41 (.tmp 2) (.tmp 65) rfl q 0 D.toArray rfl rfl HT.out zi HC1.out ?_;change wpList _ _ _ _ _ (World.setCells _ q 0 D);generalize World.setCells _ _ _ _=wz at HSz HKz ⊢))
     have HA:=zh (HSz.out.li 1 rfl);refine bodyPost_ret (aK rfl rfl HA.out (by rw[List.size_toArray,yC.out])) rfl ?_;rw[HO1.out];refine vY HSz.out yC.out HC1.out (fun hn=>?_) (by have:=HB.out;omega) hk3 (by have:=HB.out;omega) (by have:=HB.out;omega) rfl;obtain⟨h4,h5⟩:=HKz.out.kids hn (X:=List.range w.heap.size) (fun y hy=>by have:=List.mem_range.1 hy;have:=HQ4.out;omega);exact⟨A,cap,by rw[HCk.out hn,h4];rfl,h5⟩
end Go.Proofs.YtmgjidnalpgegaaGreatDoor
