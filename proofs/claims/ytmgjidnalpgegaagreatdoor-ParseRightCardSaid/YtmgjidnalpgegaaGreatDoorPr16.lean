/-
  Lemmas, part 16: ParW ParX PaH.
-/
import Derived.Test.YtmgjidnalpgegaaGreatDoorPr15
set_option maxHeartbeats 100000000
namespace Go.Proofs.YtmgjidnalpgegaaGreatDoor
open Go.RowKit
theorem uAH{E:Env}{k:Nat}(h:k+1<E.L.length):nxt (E.L.drop k)=E.at (k+1):=by
 rw[yx (by omega:k<E.L.length),yx h];show E.L[k+1]=_;rw[E.at_lt h]
theorem nx_more{E:Env}{k:Nat}(h:k+1<E.L.length):E.nx k=E.at (k+1):=uAH h
set_option maxRecDepth 100000 in
theorem name_any(E:Env)(hE:E.ok)(he:E.ends)(hL:E.L.length<=1000000)(hT:E.short)(hC:oD)(whole:Nat->List Tok->Nat->Out)(op:Nat)(ho:op<=64)(hp:op<64->dP E 24 (whole (op+1)) (op+1))(k nd pl er:Nat)(w:World)(hI:InE E k op nd pl er w)(hk:k<E.L.length)(hn:nd<=k)(dq:k+1<E.L.length) :
  Calls Tryz.prog 118 #[.pointer (some ⟨E.r,0,none⟩)] w (NPost E w k op nd pl er (nH whole op (E.L.drop k) nd)):=by
 have CT:=zh (fun W h=>bX E k op nd pl er W h hk);have CX:=zh (fun W h=>uFV E k op nd pl er W h hk hL);have CS:=zh (fun t s W=>cO t s W);have CTr:=zh (fun W=>mC (E.at k) W (by have:=hT k;omega));have CFo:=zh (fun W=>kG (E.at k).text W (by have:=hT k;unfold maxLen;omega));have CCk:=zh (hC ⟨7,aD,aO (E.at k).text,aG,aG,0⟩ · (.inr rfl) (by have:=hT k;rw[eW];omega) rfl);have CW:=zh (fun W h=>eN E hE k op nd pl er 9 W h hk);have CC:=zh (fun W h hs=>call_any E hE he hL hT hC whole op ho hp k nd pl er W h hk hn dq hs);have CLi:=zh (fun W h=>mF E hE he k op nd pl er W h hk hL (by have:=hT k;omega) hn);have CN:=zh (fun k pl er cs fz h1 W h=>gI E hE k op nd pl er cs fz h1 W h (by omega));have bo:=zh ((Fs.start hI).alloc 41 aA.toArray (by decide));have HF:Hid (k<E.L.length/\nd<=k/\k+1<E.L.length):=zh ⟨hk,hn,dq⟩
 rw[nx_more dq]at CX;generalize hO:nH whole op (E.L.drop k) nd=O;have HO:Hid ((if isS (E.at (k+1)) [40] then nG whole op (E.L.drop k) nd else if cM (E.at k) then cX (E.L.drop k) nd else if bM (aO (E.at k).text) then .ok (uGF (aO (E.at k).text)) (E.L.drop (k+1)) (nd+1) else .bad 9 (E.at k).place)=O):=zh (by
  rw[<- hO];unfold nH fE;rw[uAH dq,List.tail_drop];rfl)
 have rv:=uAJ (aO (E.at k).text);have uv:=zh rv;clear hI hO hn hk dq hp ho hT hC rv;obtain⟨tt,ec⟩:∃ tt,E.at k=tt:=⟨_,rfl⟩
 rw[ec]at CT CTr CFo HO uv CCk CW;clear ec;generalize hsn:aO tt.text=s at *;obtain⟨tk,tx,tp⟩:=tt;dsimp only[tkV]at CT CTr CFo CW;clear hsn;simp only[aA]at bo
 go_enter Tryz.func118,Tryz.ntmps118
 go_upto_region 1 with fail
 generalize World.alloc _ _=W1 at bo ⊢;generalize hq:w.heap.size=q at bo ⊢;have HQ:=zh hq;clear hq
 go_wp2_with fail
 refine(CT.out _ bo.out.ine).mono ?_;rintro e w2 ⟨rfl,hb⟩;have bw:=zh ((bo.out.next hb).alloc 70 #[.int .i64 tk,.string ⟨tx.toArray⟩,.int .i64 (tp:Int)] (by decide));clear hb bo CT
 go_upto_region 2 with fail
 generalize World.alloc _ _=W3 at bw ⊢;generalize w2.heap.size=q4 at bw ⊢
 go_wp2_with fail
 refine(CX.out _ bw.out.ine).mono ?_;rintro e w4 ⟨rfl,hb⟩;have ak:=zh (bw.out.next hb);clear hb bw CX;have CS1:=zh (CS.out (E.at (k+1)) [40] w4)
 go_wp2_with fail
 refine CS1.out.mono ?_;rintro e w5 ⟨rfl,hb⟩;have az:=zh (ak.out.next hb);clear hb ak CS1;by_cases b1:isS (E.at (k+1)) [40]=true
 ·rw[if_pos b1]at HO;have CL1:=zh (CC.out _ az.out.ine b1);rw[b1];clear CC CLi CCk CTr CFo CW uv;rw[HO.out]at CL1
  go_wp2_with fail
  refine CL1.out.mono ?_;cases O with
  |ok t ts c=>
   rintro e w4 ⟨k1,cs,rfl,g1,g2,g3,g4,g5,g6,g7,g8⟩;obtain⟨C,rfl⟩:∃ C:List Value,cs=C.toArray:=⟨cs.toList,by simp⟩
   have yC:Hid (C.length=22):=zh (by have:=g8.1;rwa [yd]at this);have yo:=zh g8.2.1;have HX:=zh (⟨g1,g2,g3,g4,g5,g8⟩:k<=k1/\k1<E.L.length/\ts=E.L.drop k1/\c+k<=nd+k1/\nd<=c/\NV w4 (List.range w5.heap.size) c t C.toArray);have ak:=zh (az.out.step g6 g7);have ir:=zh (az.out.lt 1 rfl);clear g1 g2 g3 g4 g5 g6 g7 g8 az CL1;have HT:=zh (ak.out.there 1 rfl C.toArray.size (by rw[yd,yC.out];rfl));have ag:=zh (ak.out.fill hE 1 rfl C (by rw[yC.out];rfl));have zi:=fo yC.out
   go_wp2_with (first |(refine yq rfl 41 (.tmp 2) (.tmp 13) rfl q 0 C.toArray rfl rfl HT.out zi yo.out ?_;change wpList _ _ _ _ _ (World.setCells _ q 0 C);generalize lf:World.setCells _ _ _ _=wz at ag ⊢))
   have HA:=zh (ag.out.li 1 rfl);refine yt (aM rfl rfl HA.out (by rw[yd,yC.out])) rfl ?_;have bn:Kp [q] w4 wz:=by rw[<- lf];exact aT (.inl (.head _)) C 0 (Kp.refl _ _)
   exact⟨k1,C.toArray,rfl,HX.out.1,HX.out.2.1,HX.out.2.2.1,HX.out.2.2.2.1,HX.out.2.2.2.2.1,ag.out.ine,ag.out.kp,(HX.out.2.2.2.2.2.kpX bn (fun y hy=>by rw[yf.1 hy];exact yg.2 ir.out)).anti (fun y hy _=>yg.2 (by have:=yg.1 hy;have:=ir.out;have:=HQ.out;omega))⟩
  |bad e0 p0=>
   rintro e w4 ⟨cs,k1,op1,nd1,rfl,g1,g2,g3,g4,g5,g6,g7⟩;obtain⟨C,rfl⟩:∃ C:List Value,cs=C.toArray:=⟨cs.toList,by simp⟩
   have yC:Hid (C.length=22):=zh (by rwa [yd]at g1);have yo:=zh g2;have HX:=zh (⟨g3,g4,g5⟩:k<=k1/\k1<E.L.length/\nd1+k<=nd+k1);have ak:=zh (az.out.step g6 g7);clear g1 g2 g3 g4 g5 g6 g7 az CL1;have HT:=zh (ak.out.there 1 rfl C.toArray.size (by rw[yd,yC.out];rfl));have ag:=zh (ak.out.fill hE 1 rfl C (by rw[yC.out];rfl));have zi:=fo yC.out
   go_wp2_with (first |(refine yq rfl 41 (.tmp 2) (.tmp 13) rfl q 0 C.toArray rfl rfl HT.out zi yo.out ?_;change wpList _ _ _ _ _ (World.setCells _ q 0 C);generalize World.setCells _ _ _ _=wz at ag ⊢))
   have HA:=zh (ag.out.li 1 rfl);refine yt (aM rfl rfl HA.out (by rw[yd,yC.out])) rfl ?_;exact⟨C.toArray,k1,op1,nd1,rfl,by rw[yd,yC.out],yo.out,HX.out.1,HX.out.2.1,HX.out.2.2,ag.out.ine,ag.out.kp⟩
 have b1':isS (E.at (k+1)) [40]=false:=by simpa using b1
 rw[if_neg b1]at HO;rw[b1'];clear b1 b1' CC CS;have x0:=(az.out.li 0 rfl).cell 0;have x1:=(az.out.li 0 rfl).cell 1;have x2:=(az.out.li 0 rfl).cell 2;simp only[za,zb,zf]at x0 x1 x2
 go_wp2_with fail
 refine(CTr.out _).mono ?_;rintro e w6 ⟨rfl,hb⟩;have al:=zh (az.out.next hb);clear hb az CTr;clear x0 x1 x2;cases b2:cM ⟨tk,tx,tp⟩ with
 |true=>
  rw[b2,if_pos rfl]at HO;have CL1:=zh (CLi.out _ al.out.ine);clear CLi CCk CFo CW uv;rw[HO.out]at CL1
  go_wp2_with fail
  refine CL1.out.mono ?_;cases O with
  |ok t ts c=>
   rintro e w4 ⟨k1,cs,rfl,g1,g2,g3,g4,g5,g6,g7,g8⟩;obtain⟨C,rfl⟩:∃ C:List Value,cs=C.toArray:=⟨cs.toList,by simp⟩
   have yC:Hid (C.length=22):=zh (by have:=g8.1;rwa [yd]at this);have yo:=zh g8.2.1;have HX:=zh (⟨g1,g2,g3,g4,g5,g8⟩:k<=k1/\k1<E.L.length/\ts=E.L.drop k1/\c+k<=nd+k1/\nd<=c/\NV w4 (List.range w6.heap.size) c t C.toArray);have ak:=zh (al.out.step g6 g7);have ir:=zh (al.out.lt 1 rfl);clear g1 g2 g3 g4 g5 g6 g7 g8 al CL1;have HT:=zh (ak.out.there 1 rfl C.toArray.size (by rw[yd,yC.out];rfl));have ag:=zh (ak.out.fill hE 1 rfl C (by rw[yC.out];rfl));have zi:=fo yC.out
   go_wp2_with (first |(refine yq rfl 41 (.tmp 2) (.tmp 19) rfl q 0 C.toArray rfl rfl HT.out zi yo.out ?_;change wpList _ _ _ _ _ (World.setCells _ q 0 C);generalize lf:World.setCells _ _ _ _=wz at ag ⊢))
   have HA:=zh (ag.out.li 1 rfl);refine yt (aM rfl rfl HA.out (by rw[yd,yC.out])) rfl ?_;have bn:Kp [q] w4 wz:=by rw[<- lf];exact aT (.inl (.head _)) C 0 (Kp.refl _ _)
   exact⟨k1,C.toArray,rfl,HX.out.1,HX.out.2.1,HX.out.2.2.1,HX.out.2.2.2.1,HX.out.2.2.2.2.1,ag.out.ine,ag.out.kp,(HX.out.2.2.2.2.2.kpX bn (fun y hy=>by rw[yf.1 hy];exact yg.2 ir.out)).anti (fun y hy _=>yg.2 (by have:=yg.1 hy;have:=ir.out;have:=HQ.out;omega))⟩
  |bad e0 p0=>
   rintro e w4 ⟨cs,k1,op1,nd1,rfl,g1,g2,g3,g4,g5,g6,g7⟩;obtain⟨C,rfl⟩:∃ C:List Value,cs=C.toArray:=⟨cs.toList,by simp⟩
   have yC:Hid (C.length=22):=zh (by rwa [yd]at g1);have yo:=zh g2;have HX:=zh (⟨g3,g4,g5⟩:k<=k1/\k1<E.L.length/\nd1+k<=nd+k1);have ak:=zh (al.out.step g6 g7);clear g1 g2 g3 g4 g5 g6 g7 al CL1;have HT:=zh (ak.out.there 1 rfl C.toArray.size (by rw[yd,yC.out];rfl));have ag:=zh (ak.out.fill hE 1 rfl C (by rw[yC.out];rfl));have zi:=fo yC.out
   go_wp2_with (first |(refine yq rfl 41 (.tmp 2) (.tmp 19) rfl q 0 C.toArray rfl rfl HT.out zi yo.out ?_;change wpList _ _ _ _ _ (World.setCells _ q 0 C);generalize World.setCells _ _ _ _=wz at ag ⊢))
   have HA:=zh (ag.out.li 1 rfl);refine yt (aM rfl rfl HA.out (by rw[yd,yC.out])) rfl ?_;exact⟨C.toArray,k1,op1,nd1,rfl,by rw[yd,yC.out],yo.out,HX.out.1,HX.out.2.1,HX.out.2.2,ag.out.ine,ag.out.kp⟩
 |false=>
  rw[b2,if_neg (by decide)]at HO;clear b2 CLi;have x0:=(al.out.li 0 rfl).cell 0;have x1:=(al.out.li 0 rfl).cell 1;have x2:=(al.out.li 0 rfl).cell 2;simp only[za,zb,zf]at x0 x1 x2
  go_wp2_with fail
  refine(CFo.out _).mono ?_;rintro e w7 ⟨rfl,hb⟩;have c9:=zh ((al.out.next hb).alloc 41 aA.toArray (by decide));clear hb al CFo;clear x0 x1 x2;have HT:=zh (c9.out.there 0 rfl 22 rfl);have db:=zh (c9.out.fill hE 0 rfl (cD 7 s 0 none 0 0) rfl);have fq:=fI 7 s 0 none 0 0;clear c9;simp only[List.set_cons_zero]at db;simp only[aA]at db HT
  go_upto_region 7 with(first |(refine yq rfl 41 (.tmp 5) (.tmp 24) rfl w7.heap.size 0 (cD 7 s 0 none 0 0).toArray rfl rfl HT.out aF fq ?_;change wpList _ _ _ _ _ (World.setCells _ w7.heap.size 0 (cD 7 s 0 none 0 0));generalize World.setCells _ _ _ _=W8 at db ⊢;generalize w7.heap.size=q5 at db ⊢))
  clear HT fq;have ee:=zh (db.out.range 0 (l:=cD 7 s 0 none 0 0) rfl)
  go_wp2_with (first |(refine yr rfl 41 (.tmp 5) rfl q5 0 rfl (cD 7 s 0 none 0 0) _ ee.out Tryz.underlying41 rfl aF ?_))
  refine(CCk.out _).mono ?_;rintro e w9 ⟨rfl,hb⟩;have bl:=zh (db.out.next hb);clear hb db CCk ee;rw[uv.out];cases pm:bM s with
  |false=>
   rw[pm,if_neg (by decide)]at HO;have dc:=zh HO.out.symm;rw[if_neg (by decide)];clear HO uv
   go_wp2_with fail
   refine(CW.out _ bl.out.ine).mono ?_;rintro e wa ⟨rfl,h1,h2⟩;have cy:=zh (bl.out.step h1 h2.X);clear h1 h2 bl CW;have HT:=zh (cy.out.there 2 rfl 22 rfl);have ag:=zh (cy.out.fill hE 2 rfl aA rfl)
   go_wp2_with (first |(refine yq rfl 41 (.tmp 2) (.tmp 28) rfl q 0 aA.toArray rfl rfl HT.out aF aW ?_;change wpList _ _ _ _ _ (World.setCells _ q 0 aA);generalize World.setCells _ _ _ _=wz at ag ⊢))
   have HA:=zh (ag.out.li 2 rfl);refine yt (aM rfl rfl HA.out rfl) rfl ?_;rw[dc.out];exact cE ag.out rfl aW zr HF.out.1 (by omega)
  |true=>
   rw[pm,if_pos rfl]at HO;have dc:=zh HO.out.symm;rw[if_pos rfl];clear CW uv HO;have r1:=bl.out.ine.rd.cell 1;have rf1:=bl.out.ine.rd.frozen 1;simp only[za,zb,zf]at r1;have ll:(k:Int)<=1000000:=by have:=HF.out;omega
   have cy:Hid (Fs E w (k+1) op nd pl er [(q5,41,(cD 7 s 0 none 0 0).toArray),(q4,70,#[.int .i64 tk,.string ⟨tx.toArray⟩,.int .i64 (tp:Int)]),(q,41,aA.toArray)] (w9.setCell ⟨E.r,1,none⟩ (.int .i64 ((k:Int)+1)))):=zh (bl.out.rd hE 1 _ rfl);clear bl
   go_upto_region 10 with fail
   generalize World.setCell _ _ _=Wa at cy ⊢;clear r1 rf1;have CN1:=zh (CN.out (k+1) pl er (cD 7 s 0 none 0 0) rfl (fI 7 s 0 none 0 0) _ cy.out.ine);obtain⟨C,hC,ah,fd,gq⟩:=eO (nd+1) (cD 7 s 0 none 0 0) rfl (fI 7 s 0 none 0 0);rw[hC]at CN1;have yC:=zh ah;have fa:=zh fd;have m8:=zh gq;have ee:=zh (cy.out.range 0 (l:=cD 7 s 0 none 0 0) rfl);clear hC ah fd gq
   go_wp2_with (first |(refine yr rfl 41 (.tmp 5) rfl q5 0 rfl (cD 7 s 0 none 0 0) _ ee.out Tryz.underlying41 rfl aF ?_))
   refine CN1.out.mono ?_;rintro e wn ⟨rfl,au,ew⟩;have ju:=zh (cy.out.step au ew.X);clear au ew CN1 ee cy;have HT:=zh (ju.out.there 2 rfl C.toArray.size (by rw[yd,yC.out];rfl));have ag:=zh (ju.out.fill hE 2 rfl C (by rw[yC.out];rfl));have zi:=fo yC.out
   go_wp2_with (first |(refine yq rfl 41 (.tmp 2) (.tmp 40) rfl q 0 C.toArray rfl rfl HT.out zi fa.out ?_;change wpList _ _ _ _ _ (World.setCells _ q 0 C);generalize World.setCells _ _ _ _=wz at ag ⊢))
   have HA:=zh (ag.out.li 2 rfl);refine yt (aM rfl rfl HA.out (by rw[yd,yC.out])) rfl ?_;rw[dc.out];exact iU (h:=⟨7,aD,s,aG,aG,0⟩) ag.out yC.out fa.out (fun hn=>by rw[m8.out hn];rfl) (by omega) HF.out.2.2 (by omega) (by omega) rfl
def Ph(zl:Array Bool):List (Nat×(World->Prop))->(World->Prop)->World->Prop
 | [],P,w=>P w
 |(m,Q)::r,P,w=>(¬ Up zl m->P w)/\(Up zl m->Ph zl r Q w)
theorem Ph.same{l l':Array Bool}:∀ {ms:List (Nat×(World->Prop))} {P:World->Prop} {w:World},(∀ m∈ms,(Up l' m.1↔Up l m.1))->Ph l ms P w->Ph l' ms P w
 | [],_,_,_,h=>h
 |(m,Q)::r,P,w,hm,h=>by
  have h0:=hm (m,Q) (.head _);exact⟨fun hn=>h.1 (fun hu=>hn (h0.2 hu)),fun hu=>Ph.same (fun m' mf=>hm m' (.tail _ mf)) (h.2 (h0.1 hu))⟩
theorem Ph.step{l':Array Bool}{i:Nat}{Q:World->Prop}{post:List (Nat×(World->Prop))}{w1:World}(hi:Up l' i)(qj:∀ m∈post,¬ Up l' m.1)(hQ:Q w1):∀ {pre:List (Nat×(World->Prop))} {P:World->Prop},(∀ m∈pre,Up l' m.1)->Ph l' (pre++(i,Q)::post) P w1
 | [],P,_=>⟨fun hn=>absurd hi hn,fun _=>by
  cases post with
  |nil=>exact hQ
  |cons m r=>exact⟨fun _=>hQ,fun hu=>absurd hu (qj m (.head _))⟩⟩
 |(m,R)::r,P,hp=>⟨fun hn=>absurd (hp (m,R) (.head _)) hn,fun _=>Ph.step hi qj hQ (fun m' mf=>hp m' (.tail _ mf))⟩
def uAV:List (Nat×(World->Prop))->(World->Prop)->Nat->World->Prop
 |_,P,0=>P
 | [],P,_+1=>P
 |(_,Q)::r,_,j+1=>uAV r Q j
theorem Ph.ahead{l:Array Bool}{i:Nat}{Q:World->Prop}{post:List (Nat×(World->Prop))}{w:World}(hi:¬ Up l i):∀ {pre:List (Nat×(World->Prop))} {P:World->Prop},(∀ m∈pre,Up l m.1)->Ph l (pre++(i,Q)::post) P w->uAV (pre++(i,Q)::post) P pre.length w
 | [],_,_,h=>h.1 hi
 |(m,R)::r,_,hp,h=>Ph.ahead (pre:=r) (P:=R) hi (fun m' mf=>hp m' (.tail _ mf)) (h.2 (hp (m,R) (.head _)))
theorem Ph.low{l:Array Bool}{w:World}:∀ {ms:List (Nat×(World->Prop))} {P:World->Prop} (k:Nat),k<=ms.length->(∀ m,ms[k]?=some m->¬ Up l m.1)->Ph l ms P w->∃ j,j<=k/\uAV ms P j w
 | [],_,_,_,_,h=>⟨0,zm _,h⟩
 |(m,Q)::r,P,0,_,hm,h=>⟨0,zr,h.1 (hm (m,Q) rfl)⟩
 |(m,Q)::r,P,k+1,hk,hm,h=>by
  by_cases hu:Up l m
  ·obtain⟨j,h1,h2⟩:=Ph.low k (by simpa using hk) (fun m' mf=>hm m' (by simpa using mf)) (h.2 hu);exact⟨j+1,by omega,h2⟩
  exact⟨0,zm _,h.1 hu⟩
theorem Ph.last{l:Array Bool}{w:World}:∀ {ms:List (Nat×(World->Prop))} {P:World->Prop},(∀ m∈ms,Up l m.1)->Ph l ms P w->uAV ms P ms.length w
 | [],_,_,h=>h
 |(m,Q)::r,_,hp,h=>Ph.last (ms:=r) (P:=Q) (fun m' mf=>hp m' (.tail _ mf)) (h.2 (hp (m,Q) (.head _)))
structure GU(ops:Array Oper)(S:List Nat)(T:List (Nat×Nat×Value))(ms:List (Nat×(World->Prop)))(P:World->Prop)(a0:Act)(zl:Array Bool)(a:Act)(w:World):Prop where
 off:Off S a0 a
 pt:PT T zl a
 dn:∀ i o,ops[i]?=some o->Up zl i->∀ e∈o.after,Region.binds .any e=true->Up zl e.on
 st:Ph zl ms P w
def okU(nums:List (Nat×Nat))(S:List Nat)(N:Nat):Bool :=
 nums.all (fun e=>S.contains e.2&&decide (e.2<N))&&decide (nums.Pairwise (fun p q=>p.1≠q.1/\p.2≠q.2))
def fY(ops:Array Oper):List Nat->Bool
 |a::b::r=>jL ops 40 b a&&a != b&&fY ops (b::r)
 |_=>true
section
variable {ops:Array Oper} {S:List Nat} {T:List (Nat×Nat×Value)} {ms:List (Nat×(World->Prop))} {P:World->Prop} {w w1:World} {N:Nat} {a0 a:Act} {zl:Array Bool} {Q:Exit->Act->World->Prop} {o:Oper} {i s:Nat} {v:Value}
theorem uFW(hk:okU (T.map fun e=>(e.1,e.2.1)) S N=true){e:Nat×Nat×Value}(he:e∈T):e.2.1∈S/\e.2.1<N:=by
 simp only[okU,yh,List.all_eq_true,decide_eq_true_eq,List.contains_iff_mem,yj,forall_exists_index,and_imp,forall_apply_eq_imp_iff₂]at hk;exact hk.1 e he
theorem oY(hk:okU (T.map fun e=>(e.1,e.2.1)) S N=true){e e':Nat×Nat×Value}(he:e∈T)(gr:e'∈T)(hs:e.1=e'.1\/e.2.1=e'.2.1):e=e':=by
 by_cases heq:e=e'
 ·exact heq
 exfalso
 simp only[okU,yh,decide_eq_true_eq,List.pairwise_map]at hk;have h2:=hk.2;have key:∀ l:List (Nat×Nat×Value),l.Pairwise (fun p q=>p.1≠q.1/\p.2.1≠q.2.1)->∀ x∈l,∀ y∈l,x≠y->x.1≠y.1/\x.2.1≠y.2.1:=by
  intro l
  induction l with
  |nil=>intro _ x hx;cases hx
  |cons c l ih=>
   intro hp x hx y hy bp;rw[List.pairwise_cons]at hp;rcases ym.1 hx with ex|hx <;> rcases ym.1 hy with ey|hy
   ·exact absurd (ex.trans ey.symm) bp
   ·rw[ex];exact hp.1 y hy
   ·rw[ey];exact⟨fun e=>(hp.1 x hx).1 e.symm,fun e=>(hp.1 x hx).2 e.symm⟩
   exact ih hp.2 x hx y hy bp
 have:=key T h2 e he e' gr heq;rcases hs with hs|hs
 ·exact this.1 hs
 exact this.2 hs
theorem GU.start(a:Act)(m:Nat)(hX:P w):GU ops S T ms P a (Array.replicate m false) a w :=
 ⟨Off.refl _ _,PT.start _ _ _,fun _ _ _ h=>absurd h (Up.none _ _),by
  cases ms with
  |nil=>exact hX
  |cons m r=>exact⟨fun _=>hX,fun h=>absurd h (Up.none _ _)⟩⟩
theorem dnU{zl:Array Bool}(hd:∀ i o,ops[i]?=some o->Up zl i->∀ e∈o.after,Region.binds .any e=true->Up zl e.on)(aa:zl.getD i true=false)(ho:ops[i]?=some o)(zd:∀ e∈o.after,Region.binds .any e=true->Up zl e.on) :
  ∀ j o',ops[j]?=some o'->Up (zl.setIfInBounds i true) j->∀ e∈o'.after,Region.binds .any e=true->Up (zl.setIfInBounds i true) e.on:=by
 intro j o' hj hu e he hb;have hi:=Up.of_false aa;rcases(Up.set hi).1 hu with rfl|hu
 ·rw[ho]at hj;injection hj with hj;subst hj;exact eC hi (zd e he hb)
 exact eC hi (hd j o' hj hu e he hb)
theorem wJ(hd:∀ i o,ops[i]?=some o->Up zl i->∀ e∈o.after,Region.binds .any e=true->Up zl e.on)(ho:ops[i]?=some o)(zd:∀ e∈o.after,Region.binds .any e=true->Up zl e.on){b f:Nat}(hr:jL ops f i b=true)(bp:i≠b):Up zl b:=by
 cases f with
 |zero=>simp only[jL,beq_iff_eq]at hr;exact absurd hr bp
 |succ f=>
  simp only[jL,Bool.or_eq_true,beq_iff_eq]at hr;rcases hr with hr|hr
  ·exact absurd hr bp
  rw[ho]at hr;simp only[Option.map_some,Option.getD_some,Array.any_eq_true',yh]at hr;obtain⟨e,he,hb,hr⟩:=hr;exact kP hd f e.on b hr (zd e he hb)
theorem pO(hd:∀ i o,ops[i]?=some o->Up zl i->∀ e∈o.after,Region.binds .any e=true->Up zl e.on):∀ (pre:List Nat) (x:Nat) (post:List Nat),fY ops (pre++x::post)=true->(∀ f b,jL ops f x b=true->x≠b->Up zl b)->∀ m∈pre,Up zl m
 | [],_,_,_,_,m,hm=>by cases hm
 | [a],x,post,hc,hx,m,hm=>by
  rw[yf.1 hm];simp only[yp,List.nil_append,fY,yh,bne_iff_ne]at hc;exact hx 40 a hc.1.1 (Ne.symm hc.1.2)
 |a::b::r,x,post,hc,hx,m,hm=>by
  simp only[yp,fY,yh,bne_iff_ne]at hc;have hrec:=pO hd (b::r) x post (by simpa using hc.2) hx;rcases ym.1 hm with rfl|hm
  ·exact kP hd 40 b m hc.1.1 (hrec b (.head _))
  exact hrec m hm
theorem nN(hd:∀ i o,ops[i]?=some o->Up zl i->∀ e∈o.after,Region.binds .any e=true->Up zl e.on):∀ (post:List Nat) (x:Nat),fY ops (x::post)=true->¬ Up zl x->∀ m∈post,¬ Up zl m
 | [],_,_,_,m,hm=>by cases hm
 |b::r,x,hc,hx,m,hm=>by
  simp only[fY,yh,bne_iff_ne]at hc;have hb:¬ Up zl b:=fun h=>hx (kP hd 40 b x hc.1.1 h)
  rcases ym.1 hm with rfl|hm
  ·exact hb
  exact nN hd r b hc.2 hb m hm
theorem kW:∀ (pre:List Nat) (l:List Nat),fY ops (pre++l)=true->fY ops l=true
 | [],_,h=>h
 | [a],[],_=>rfl
 | [a],b::r,h=>by
  simp only[yp,List.nil_append,fY,yh]at h;exact h.2
 |a::b::r,l,h=>by
  simp only[yp,fY,yh]at h;exact kW (b::r) l (by simpa using h.2)
theorem sR(hk:okU (T.map fun e=>(e.1,e.2.1)) S N=true)(hI:GU ops S T ms P a0 zl a w)(hN:N<=a0.tmps.size)(he:(i,s,v)∈T)(hm:∀ m∈ms,m.1≠i)(aa:zl.getD i true=false)(ho:ops[i]?=some o)(zd:∀ e∈o.after,Region.binds .any e=true->Up zl e.on):GU ops S T ms P a0 (zl.setIfInBounds i true) (a.put (some s) v) w:=by
 have hi:=Up.of_false aa;obtain⟨h2,h3⟩:=uFW hk he;exact⟨hI.off.put h2 v,hI.pt.step hi (by rw[hI.off.size];exact yu h3 hN) (fun e' gr hs=>by rw[oY hk gr he (.inr hs)]) (fun e' gr hs=>by rw[oY hk gr he (.inl hs)]),dnU hI.dn aa ho zd,hI.st.same (fun m mf=>⟨fun h=>jO hi h (hm m mf),fun h=>eC hi h⟩)⟩
theorem aQ(hk:okU (T.map fun e=>(e.1,e.2.1)) S N=true)(hI:GU ops S T ms P a0 zl a w)(hN:N<=a0.tmps.size)(he:(i,s,v)∈T)(hm:∀ m∈ms,m.1≠i)(aa:zl.getD i true=false)(ho:ops[i]?=some o)(zd:∀ e∈o.after,Region.binds .any e=true->Up zl e.on)(hw:Region.wanted o (yielded ops a.tmps)=true)(hd:o.dst=some s)
  (hr:(execOp a.eval o).run Tryz.prog w=.ok (.value v) w):wpOp Tryz.prog ops Q i (GU ops S T ms P a0 (zl.setIfInBounds i true)) a w:=by
 unfold wpOp;rw[ho];simp only;rw[if_pos hw];refine .inl (mV v hr ?_);rw[hd];exact sR hk hI hN he hm aa ho zd
theorem aZ(hk:okU (T.map fun e=>(e.1,e.2.1)) S N=true)(hI:GU ops S T ms P a0 zl a w)(hN:N<=a0.tmps.size)(he:(i,s,undef)∈T)(hm:∀ m∈ms,m.1≠i)(aa:zl.getD i true=false)(ho:ops[i]?=some o)(zd:∀ e∈o.after,Region.binds .any e=true->Up zl e.on)(hw:Region.wanted o (yielded ops a.tmps)=false)(hd:o.dst=some s):wpOp Tryz.prog ops Q i (GU ops S T ms P a0 (zl.setIfInBounds i true)) a w:=by
 unfold wpOp;rw[ho];simp only;rw[if_neg (by rw[hw];decide),hd];exact sR hk hI hN he hm aa ho zd
theorem GU.at(hI:GU ops S T ms P a0 zl a w)(hc:fY ops (ms.map (·.1))=true)(pre post:List (Nat×(World->Prop)))(R:World->Prop)(hms:ms=pre++(i,R)::post)(aa:zl.getD i true=false)(ho:ops[i]?=some o)(zd:∀ e∈o.after,Region.binds .any e=true->Up zl e.on):uAV ms P pre.length w/\∀ w1,R w1->Ph (zl.setIfInBounds i true) ms P w1:=by
 have hi:=Up.of_false aa;subst hms;rw[List.map_append,List.map_cons]at hc;have hpre:∀ m∈pre,Up zl m.1:=fun m hm=>pO hI.dn _ _ _ hc (fun f b hr bp=>wJ hI.dn ho zd hr bp) m.1 (yj.2 ⟨m,hm,rfl⟩)
 have qj:∀ m∈post,¬ Up zl m.1:=fun m hm=>nN hI.dn _ _ (kW _ _ hc) (gJ aa) m.1 (yj.2 ⟨m,hm,rfl⟩)
 refine⟨Ph.ahead (gJ aa) hpre hI.st,fun w1 hR=>Ph.step (mU hi) (fun m hm hu=>?_) hR (fun m hm=>eC hi (hpre m hm))⟩;rcases(Up.set hi).1 hu with h|h
 ·have h0:=nN (zl:=Array.replicate zl.size false) (fun _ _ _ h=>absurd h (Up.none _ _)) _ _ (kW _ _ hc) (Up.none _ _);clear h0;have hnd:∀ (l:List Nat) (x:Nat),fY ops (x::l)=true->(∀ y∈l,¬ Up zl y)->(∀ e∈o.after,Region.binds .any e=true->Up zl e.on)->ops[x]?=some o->x∉l:=by
   intro l
   induction l with
   |nil=>intro _ _ _ _ _ hm;cases hm
   |cons y l _=>
    intro x hc' hy hd' ho' mf;have gw:=hc';simp only[fY,yh,bne_iff_ne]at gw;rcases ym.1 mf with e|mf
    ·exact gw.1.2 e
    -- x stands behind y: it waits for y
    obtain⟨l1,l2,rfl⟩:=List.append_of_mem mf;have:=pO (ops:=ops) (zl:=zl) hI.dn (y::l1) x l2 (by simpa using gw.2) (fun f b hr bp=>wJ hI.dn ho' hd' hr bp) y (.head _);exact hy y (.head _) this
  exact hnd (post.map (·.1)) i (kW _ _ hc) (fun y hy=>by obtain⟨m',mf,rfl⟩:=yj.1 hy;exact qj m' mf) zd ho (yj.2 ⟨m,hm,h⟩)
 exact qj m hm h
theorem GU.low(hI:GU ops S T ms P a0 zl a w)(k:Nat)(hk:k<=ms.length)(hr:∀ m,ms[k]?=some m->jL ops 40 m.1 i=true)(aa:zl.getD i true=false):∃ j,j<=k/\uAV ms P j w :=
 Ph.low k hk (fun m hm hu=>gJ aa (kP hI.dn 40 m.1 i (hr m hm) hu)) hI.st
theorem iQ(hk:okU (T.map fun e=>(e.1,e.2.1)) S N=true)(hI:GU ops S T ms P a0 zl a w)(hN:N<=a0.tmps.size)(he:(i,s,v)∈T)(hc:fY ops (ms.map (·.1))=true)(pre post:List (Nat×(World->Prop)))(R:World->Prop)(hms:ms=pre++(i,R)::post)(aa:zl.getD i true=false)(ho:ops[i]?=some o)(zd:∀ e∈o.after,Region.binds .any e=true->Up zl e.on)(hw:Region.wanted o (yielded ops a.tmps)=true)(hd:o.dst=some s)
  (hr:uAV ms P pre.length w->Oper.wp Tryz.prog o a w (fun a' w'=>a'=a.put o.dst v/\R w') Q):wpOp Tryz.prog ops Q i (GU ops S T ms P a0 (zl.setIfInBounds i true)) a w:=by
 have hi:=Up.of_false aa;obtain⟨h1,h2⟩:=hI.at hc pre post R hms aa ho zd;obtain⟨h3,h4⟩:=uFW hk he;unfold wpOp;rw[ho];simp only;rw[if_pos hw];refine .inl (Oper.wp_mono (fun a' w' hh=>?_) (hr h1));obtain⟨rfl,hR⟩:=hh;rw[hd];exact⟨hI.off.put h3 v,hI.pt.step hi (by rw[hI.off.size];exact yu h4 hN) (fun e' gr hs=>by rw[oY hk gr he (.inr hs)]) (fun e' gr hs=>by rw[oY hk gr he (.inl hs)]),dnU hI.dn aa ho zd,h2 w' hR⟩
theorem kI(hI:GU ops S T ms P a0 zl a w)(hT:∀ e∈T,e.1≠i)(hc:fY ops (ms.map (·.1))=true)(pre post:List (Nat×(World->Prop)))(R:World->Prop)(hms:ms=pre++(i,R)::post)(aa:zl.getD i true=false)(ho:ops[i]?=some o)(zd:∀ e∈o.after,Region.binds .any e=true->Up zl e.on)(hw:Region.wanted o (yielded ops a.tmps)=true)(hd:o.dst=none)
  (hr:uAV ms P pre.length w->∃ w',(execOp a.eval o).run Tryz.prog w=.ok .skip w'/\R w'):wpOp Tryz.prog ops Q i (GU ops S T ms P a0 (zl.setIfInBounds i true)) a w:=by
 have hi:=Up.of_false aa;obtain⟨h1,h2⟩:=hI.at hc pre post R hms aa ho zd;obtain⟨w',i7,hR⟩:=hr h1;unfold wpOp;rw[ho];simp only;rw[if_pos hw];refine .inl (oC i7 ?_);rw[hd];exact⟨hI.off,hI.pt.skip hi hT,dnU hI.dn aa ho zd,h2 w' hR⟩
theorem iG(f:FuncId)(xs:Array Value){K:Act->World->Prop}(hr:(execOp a.eval o).run Tryz.prog w=.ok (.enter f xs) w)(hc:Calls Tryz.prog f xs w fun e w1=>e=.returned v/\K (a.put o.dst v) w1):Oper.wp Tryz.prog o a w K Q:=by
 unfold Oper.wp;rw[hr];refine hc.mono ?_;rintro e w1 ⟨rfl,h⟩;exact h
theorem aC{y:Nat->Option Bool}(h:o.guard=none):Region.wanted o y=true:=by unfold Region.wanted;rw[h]
theorem aH{g sg:Nat}{pol b:Bool}(h:o.guard=some (g,pol)){og:Oper}(hg:ops[g]?=some og)(hd:og.dst=some sg)(hv:a.eval (.tmp sg)=.bool b):Region.wanted o (yielded ops a.tmps)=(b==pol):=by
 have h1:a.tmps[sg]?=some (.bool b):=by
  have:=aE hv;cases hq:a.tmps[sg]? with
  |none=>rw[hq]at this;cases this
  |some x=>rw[hq]at this;simpa using this
 unfold Region.wanted yielded;rw[h];simp only[hg,Option.bind_some,hd,h1];cases b <;> cases pol <;> rfl
theorem bC{id:Nat}{w0:World}(F0:Act->Prop)(S:List Nat)(T:List (Nat×Nat×Value))(ms:List (Nat×(World->Prop)))(P:World->Prop)(hm:Tryz.prog.follows .mixedOrders=true)(hb:gD ops=true)(vk:F0 a)(hX:P w0.drew)
  (cr:∀ a0,F0 a0->∀ zl a w i o,zl.size=ops.size->GU ops S T ms P a0 zl a w->zl.getD i true=false->ops[i]?=some o->(∀ e∈o.after,Region.binds .any e=true->Up zl e.on)->wpOp Tryz.prog ops Q i (GU ops S T ms P a0 (zl.setIfInBounds i true)) a w)
  (da:∀ zl a' w',GU ops S T ms P a zl a' w'->(∀ i,i<ops.size->Up zl i)->Q .normal a' w'):(Code.region id ops true).wp Tryz.prog Q a w0 :=
 fH hm hb F0 (GU ops S T ms P) vk (GU.start _ _ hX) cr da
end
structure RG(ops:Array Oper)(S:List Nat)(T:List (Nat×Nat×Value))(P:World->Prop)(a0:Act)(N:Nat)(zl:Array Bool)(a:Act)(w:World)(i:Nat)(o:Oper):Prop where
 k:okU (T.map fun e=>(e.1,e.2.1)) S N=true
 I:GU ops S T [] P a0 zl a w
 z:N<=a0.tmps.size
 u:zl.getD i true=false
 p:ops[i]?=some o
 e:∀ e∈o.after,Region.binds .any e=true->Up zl e.on
section
variable {ops:Array Oper} {S:List Nat} {T:List (Nat×Nat×Value)} {P:World->Prop} {a0 a:Act} {zl:Array Bool} {w:World} {N i j s:Nat} {v:Value} {o:Oper} {Q:Exit->Act->World->Prop}
theorem RG.d(G:RG ops S T P a0 N zl a w j o)(n:Nat)(h:T[n]?=some (i,s,v))(hm:{ on:=i,ground:=.data }∈o.after:=by simp):a.eval (.tmp s)=v:=G.I.pt (i,s,v) (List.mem_of_getElem? h) (G.e _ hm rfl)
theorem RG.g(G:RG ops S T P a0 N zl a w j o)(n:Nat)(h:T[n]?=some (i,s,v))(hm:{ on:=i,ground:=.guard }∈o.after:=by simp):a.eval (.tmp s)=v:=G.I.pt (i,s,v) (List.mem_of_getElem? h) (G.e _ hm rfl)
theorem wq{sg:Nat}{pol b:Bool}(hq:(o.guard.bind fun gp=>(ops[gp.1]?).bind fun og=>og.dst.map fun d=>(d,gp.2))=some (sg,pol))(hv:a.eval (.tmp sg)=.bool b):Region.wanted o (yielded ops a.tmps)=(b==pol):=by
 obtain⟨⟨g,p⟩,h1,h2⟩:=Option.bind_eq_some_iff.1 hq;obtain⟨og,h3,h4⟩:=Option.bind_eq_some_iff.1 h2;obtain⟨d,h5,h6⟩:=Option.map_eq_some_iff.1 h4;cases h6;exact aH h1 h3 h5 hv
theorem RG.sk(G:RG ops S T P a0 N zl a w i o)(n:Nat)(h:T[n]?=some (i,s,undef)){sg:Nat}{pol b:Bool}(hv:a.eval (.tmp sg)=.bool b)(hq:(o.guard.bind fun gp=>(ops[gp.1]?).bind fun og=>og.dst.map fun d=>(d,gp.2))=some (sg,pol))(hb:(b==pol)=false:=by rfl)(hd:o.dst=some s:=by rfl):wpOp Tryz.prog ops Q i (GU ops S T [] P a0 (zl.setIfInBounds i true)) a w :=
 aZ G.k G.I G.z (List.mem_of_getElem? h) (fun _ hm=>by cases hm) G.u G.p G.e ((wq hq hv).trans hb) hd
theorem RG.vl(G:RG ops S T P a0 N zl a w i o)(n:Nat)(h:T[n]?=some (i,s,v)){sg:Nat}{pol b:Bool}(hv:a.eval (.tmp sg)=.bool b)(hq:(o.guard.bind fun gp=>(ops[gp.1]?).bind fun og=>og.dst.map fun d=>(d,gp.2))=some (sg,pol))(hr:(execOp a.eval o).run Tryz.prog w=.ok (.value v) w)(hb:(b==pol)=true:=by rfl)(hd:o.dst=some s:=by rfl):wpOp Tryz.prog ops Q i (GU ops S T [] P a0 (zl.setIfInBounds i true)) a w :=
 aQ G.k G.I G.z (List.mem_of_getElem? h) (fun _ hm=>by cases hm) G.u G.p G.e ((wq hq hv).trans hb) hd hr
theorem RG.nl(G:RG ops S T P a0 N zl a w i o)(n:Nat)(h:T[n]?=some (i,s,v))(hr:(execOp a.eval o).run Tryz.prog w=.ok (.value v) w)(hg:o.guard=none:=by rfl)(hd:o.dst=some s:=by rfl):wpOp Tryz.prog ops Q i (GU ops S T [] P a0 (zl.setIfInBounds i true)) a w :=
 aQ G.k G.I G.z (List.mem_of_getElem? h) (fun _ hm=>by cases hm) G.u G.p G.e (aC hg) hd hr
theorem RG.t(G:RG ops S T P a0 N zl a w j o)(n:Nat)(h:T[n]?=some (i,s,v))(hm:{ on:=i,ground:=.data }∈o.after:=by simp):a.tmps[s]?.getD undef=v:=aE (RG.d G n h hm)
theorem RG.gv(G:RG ops S T P a0 N zl a w i o)(g n:Nat){jg sg:Nat}{b:Bool}(hg:T[g]?=some (jg,sg,.bool b))(h:T[n]?=some (i,s,bif b then v else undef))(hq:(o.guard.bind fun gp=>(ops[gp.1]?).bind fun og=>og.dst.map fun d=>(d,gp.2))=some (sg,true))(hr:b=true->(execOp a.eval o).run Tryz.prog w=.ok (.value v) w)(hm:{ on:=jg,ground:=.guard }∈o.after:=by simp)(hd:o.dst=some s:=by rfl):wpOp Tryz.prog ops Q i (GU ops S T [] P a0 (zl.setIfInBounds i true)) a w:=by
 have pg:=RG.g G g hg hm;cases b
 ·exact RG.sk G n h pg hq rfl hd
 exact RG.vl G n h pg hq (hr rfl) rfl hd
theorem RG.gn(G:RG ops S T P a0 N zl a w i o)(g n:Nat){jg sg:Nat}{b:Bool}(hg:T[g]?=some (jg,sg,.bool b))(h:T[n]?=some (i,s,bif b then undef else v))(hq:(o.guard.bind fun gp=>(ops[gp.1]?).bind fun og=>og.dst.map fun d=>(d,gp.2))=some (sg,false))(hr:b=false->(execOp a.eval o).run Tryz.prog w=.ok (.value v) w)(hm:{ on:=jg,ground:=.guard }∈o.after:=by simp)(hd:o.dst=some s:=by rfl):wpOp Tryz.prog ops Q i (GU ops S T [] P a0 (zl.setIfInBounds i true)) a w:=by
 have pg:=RG.g G g hg hm;cases b
 ·exact RG.vl G n h pg hq (hr rfl) rfl hd
 exact RG.sk G n h pg hq rfl hd
theorem RG.gz(G:RG ops S T P a0 N zl a w i o)(g n:Nat){jg sg:Nat}{b:Bool}(hg:T[g]?=some (jg,sg,.bool (!b)))(h:T[n]?=some (i,s,bif b then undef else v))(hq:(o.guard.bind fun gp=>(ops[gp.1]?).bind fun og=>og.dst.map fun d=>(d,gp.2))=some (sg,true))(hr:b=false->(execOp a.eval o).run Tryz.prog w=.ok (.value v) w)(hm:{ on:=jg,ground:=.guard }∈o.after:=by simp)(hd:o.dst=some s:=by rfl):wpOp Tryz.prog ops Q i (GU ops S T [] P a0 (zl.setIfInBounds i true)) a w:=by
 have pg:=RG.g G g hg hm;cases b
 ·exact RG.vl G n h pg hq (hr rfl) rfl hd
 exact RG.sk G n h pg hq rfl hd
end
section
variable {ops:Array Oper} {Q:Exit->Act->World->Prop}
theorem uBV{S:List Nat}{T:List (Nat×Nat×Value)}{ms:List (Nat×(World->Prop))}{P:World->Prop}{a0:Act}(hb:gD ops=true)
  (cr:∀ zl a w i o,zl.size=ops.size->GU ops S T ms P a0 zl a w->zl.getD i true=false->ops[i]?=some o->(∀ e∈o.after,Region.binds .any e=true->Up zl e.on)->wpOp Tryz.prog ops Q i (GU ops S T ms P a0 (zl.setIfInBounds i true)) a w)
  (da:∀ zl a' w',GU ops S T ms P a0 zl a' w'->(∀ i,i<ops.size->Up zl i)->Q .normal a' w') :
  ∀ (m i:Nat) (zl:Array Bool) (a:Act) (w:World),i+m=ops.size->zl.size=ops.size->(∀ j,Up zl j↔j<i)->GU ops S T ms P a0 zl a w->wpOps Tryz.prog ops Q (List.range' i m) a w
 |0,i,zl,a,w,hm,hs,hu,hI=>da zl a w hI (fun j hj=>(hu j).2 (by omega))
 |m+1,i,zl,a,w,hm,hs,hu,hI=>by
  rw[List.range'_succ,wpOps_cons];have hi:i<ops.size:=by omega
  have ho:ops[i]?=some ops[i]:=Array.getElem?_eq_getElem hi;have aa:zl.getD i true=false:=by
   cases h:zl.getD i true with
   |false=>rfl
   |true=>
    exfalso
    have ox:i<zl.size:=by omega
    have:Up zl i:=by
     unfold Up;rw[Array.getD_eq_getD_getElem?,Array.getElem?_eq_getElem ox]at h ⊢;exact h
    have:=(hu i).1 this;omega
  refine wpOp_mono (fun a' w' h'=>?_) (cr zl a w i _ hs hI aa ho (fun e he vj=>(hu e.on).2 (iW hb ho e he vj)));exact uBV hb cr da m (i+1) _ a' w' (by omega) (by rw[Array.size_setIfInBounds];exact hs) (fun j=>by rw[Up.set (by omega),hu j];omega) h'
theorem bD{id:Nat}{a:Act}{w0:World}(F0:Act->Prop)(S:List Nat)(T:List (Nat×Nat×Value))(ms:List (Nat×(World->Prop)))(P:World->Prop)(hb:gD ops=true)(vk:F0 a)(hX:P w0)
  (cr:∀ a0,F0 a0->∀ zl a w i o,zl.size=ops.size->GU ops S T ms P a0 zl a w->zl.getD i true=false->ops[i]?=some o->(∀ e∈o.after,Region.binds .any e=true->Up zl e.on)->wpOp Tryz.prog ops Q i (GU ops S T ms P a0 (zl.setIfInBounds i true)) a w)
  (da:∀ zl a' w',GU ops S T ms P a zl a' w'->(∀ i,i<ops.size->Up zl i)->Q .normal a' w'):(Code.region id ops false).wp Tryz.prog Q a w0:=by
 refine wp_region ?_;rw[List.range_eq_range'];exact uBV hb (cr a vk) da ops.size 0 (Array.replicate ops.size false) a w0 (by omega) (by simp) (fun j=>⟨fun h=>absurd h (Up.none _ _),fun h=>absurd h (by omega)⟩) (GU.start _ _ hX)
end
end Go.Proofs.YtmgjidnalpgegaaGreatDoor
