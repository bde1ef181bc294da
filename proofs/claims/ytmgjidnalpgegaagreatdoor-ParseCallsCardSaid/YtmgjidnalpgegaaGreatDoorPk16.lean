/-
  Lemmas, part 16: ParW ParX PaH.
-/
import Derived.Test.YtmgjidnalpgegaaGreatDoorPk15
set_option maxHeartbeats 100000000
namespace Go.Proofs.YtmgjidnalpgegaaGreatDoor
open Go.RowKit
theorem uBY{E:Env}{k:Nat}(h:k+1<E.L.length):nxt (E.L.drop k)=E.at (k+1):=by
 rw[yx (by omega:k<E.L.length),yx h];show E.L[k+1]=_;rw[E.at_lt h]
theorem nx_more{E:Env}{k:Nat}(h:k+1<E.L.length):E.nx k=E.at (k+1):=uBY h
set_option maxRecDepth 100000 in
theorem name_any(E:Env)(hE:E.ok)(he:E.ends)(hL:E.L.length<=1000000)(hT:E.short)(hC:pI)(whole:Nat->List Tok->Nat->Out)(op:Nat)(ho:op<=64)(hp:op<64->eE E 24 (whole (op+1)) (op+1))(k nd pl er:Nat)(w:World)(hI:InE E k op nd pl er w)(hk:k<E.L.length)(hn:nd<=k)(dc:k+1<E.L.length) :
  Calls Tryz.prog 118 #[.pointer (some ⟨E.r,0,none⟩)] w (NPost E w k op nd pl er (nN whole op (E.L.drop k) nd)):=by
 have CT:=zh (fun W h=>cE E k op nd pl er W h hk);have CX:=zh (fun W h=>uHR E k op nd pl er W h hk hL);have CS:=zh (fun t s W=>dF t s W);have CTr:=zh (fun W=>nG (E.at k) W (by have:=hT k;omega));have CFo:=zh (fun W=>lG (E.at k).text W (by have:=hT k;unfold maxLen;omega));have CCk:=zh (hC ⟨7,aC,aN (E.at k).text,aG,aG,0⟩ · (.inr rfl) (by have:=hT k;rw[fL];omega) rfl);have CW:=zh (fun W h=>fB E hE k op nd pl er 9 W h hk);have CC:=zh (fun W h hs=>call_any E hE he hL hT hC whole op ho hp k nd pl er W h hk hn dc hs);have CLi:=zh (fun W h=>nJ E hE he k op nd pl er W h hk hL (by have:=hT k;omega) hn);have CN:=zh (fun k pl er cs fb h1 W h=>iJ E hE k op nd pl er cs fb h1 W h (by omega));have bo:=zh ((Fs.start hI).alloc 41 aA.toArray (by decide));have HF:Hid (k<E.L.length/\nd<=k/\k+1<E.L.length):=zh ⟨hk,hn,dc⟩
 rw[nx_more dc]at CX;generalize hO:nN whole op (E.L.drop k) nd=O;have HO:Hid ((if isS (E.at (k+1)) [40] then nM whole op (E.L.drop k) nd else if cJ (E.at k) then cN (E.L.drop k) nd else if bS (aN (E.at k).text) then .ok (uID (aN (E.at k).text)) (E.L.drop (k+1)) (nd+1) else .bad 9 (E.at k).place)=O):=zh (by
  rw[<- hO];unfold nN fU;rw[uBY dc,List.tail_drop];rfl)
 have rq:=uCB (aN (E.at k).text);have HPC:=zh rq;clear hI hO hn hk dc hp ho hT hC rq;obtain⟨tt,ed⟩:∃ tt,E.at k=tt:=⟨_,rfl⟩
 rw[ed]at CT CTr CFo HO HPC CCk CW;clear ed;generalize hsn:aN tt.text=s at *;obtain⟨tk,tx,tp⟩:=tt;dsimp only[tkV]at CT CTr CFo CW;clear hsn;simp only[aA]at bo
 go_enter Tryz.func118,Tryz.ntmps118
 go_upto_region 1 with fail
 generalize World.alloc _ _=W1 at bo ⊢;generalize hq:w.heap.size=q at bo ⊢;have HQ:=zh hq;clear hq
 go_wp2_with fail
 refine(CT.out _ bo.out.ine).mono ?_;rintro e w2 ⟨rfl,hb⟩;have bt:=zh ((bo.out.next hb).alloc 70 #[.int .i64 tk,.string ⟨tx.toArray⟩,.int .i64 (tp:Int)] (by decide));clear hb bo CT
 go_upto_region 2 with fail
 generalize World.alloc _ _=W3 at bt ⊢;generalize w2.heap.size=q4 at bt ⊢
 go_wp2_with fail
 refine(CX.out _ bt.out.ine).mono ?_;rintro e w4 ⟨rfl,hb⟩;have ak:=zh (bt.out.next hb);clear hb bt CX;have CS1:=zh (CS.out (E.at (k+1)) [40] w4)
 go_wp2_with fail
 refine CS1.out.mono ?_;rintro e w5 ⟨rfl,hb⟩;have az:=zh (ak.out.next hb);clear hb ak CS1;by_cases b1:isS (E.at (k+1)) [40]=true
 ·rw[if_pos b1]at HO;have CL1:=zh (CC.out _ az.out.ine b1);rw[b1];clear CC CLi CCk CTr CFo CW HPC;rw[HO.out]at CL1
  go_wp2_with fail
  refine CL1.out.mono ?_;cases O with
  |ok t ts c=>
   rintro e w4 ⟨k1,cs,rfl,g1,g2,g3,g4,g5,g6,g7,g8⟩;obtain⟨C,rfl⟩:∃ C:List Value,cs=C.toArray:=⟨cs.toList,by simp⟩
   have yC:Hid (C.length=22):=zh (by have:=g8.1;rwa [yd]at this);have yo:=zh g8.2.1;have HX:=zh (⟨g1,g2,g3,g4,g5,g8⟩:k<=k1/\k1<E.L.length/\ts=E.L.drop k1/\c+k<=nd+k1/\nd<=c/\NV w4 (List.range w5.heap.size) c t C.toArray);have ak:=zh (az.out.step g6 g7);have iu:=zh (az.out.lt 1 rfl);clear g1 g2 g3 g4 g5 g6 g7 g8 az CL1;have HT:=zh (ak.out.there 1 rfl C.toArray.size (by rw[yd,yC.out];rfl));have ag:=zh (ak.out.fill hE 1 rfl C (by rw[yC.out];rfl));have zi:=fv yC.out
   go_wp2_with (first |(refine yq rfl 41 (.tmp 2) (.tmp 13) rfl q 0 C.toArray rfl rfl HT.out zi yo.out ?_;change wpList _ _ _ _ _ (World.setCells _ q 0 C);generalize kz:World.setCells _ _ _ _=wz at ag ⊢))
   have HA:=zh (ag.out.li 1 rfl);refine yt (aO rfl rfl HA.out (by rw[yd,yC.out])) rfl ?_;have bn:Kp [q] w4 wz:=by rw[<- kz];exact aQ (.inl (.head _)) C 0 (Kp.refl _ _)
   exact⟨k1,C.toArray,rfl,HX.out.1,HX.out.2.1,HX.out.2.2.1,HX.out.2.2.2.1,HX.out.2.2.2.2.1,ag.out.ine,ag.out.kp,(HX.out.2.2.2.2.2.kpX bn (fun y hy=>by rw[yf.1 hy];exact yg.2 iu.out)).anti (fun y hy _=>yg.2 (by have:=yg.1 hy;have:=iu.out;have:=HQ.out;omega))⟩
  |bad e0 p0=>
   rintro e w4 ⟨cs,k1,op1,nd1,rfl,g1,g2,g3,g4,g5,g6,g7⟩;obtain⟨C,rfl⟩:∃ C:List Value,cs=C.toArray:=⟨cs.toList,by simp⟩
   have yC:Hid (C.length=22):=zh (by rwa [yd]at g1);have yo:=zh g2;have HX:=zh (⟨g3,g4,g5⟩:k<=k1/\k1<E.L.length/\nd1+k<=nd+k1);have ak:=zh (az.out.step g6 g7);clear g1 g2 g3 g4 g5 g6 g7 az CL1;have HT:=zh (ak.out.there 1 rfl C.toArray.size (by rw[yd,yC.out];rfl));have ag:=zh (ak.out.fill hE 1 rfl C (by rw[yC.out];rfl));have zi:=fv yC.out
   go_wp2_with (first |(refine yq rfl 41 (.tmp 2) (.tmp 13) rfl q 0 C.toArray rfl rfl HT.out zi yo.out ?_;change wpList _ _ _ _ _ (World.setCells _ q 0 C);generalize World.setCells _ _ _ _=wz at ag ⊢))
   have HA:=zh (ag.out.li 1 rfl);refine yt (aO rfl rfl HA.out (by rw[yd,yC.out])) rfl ?_;exact⟨C.toArray,k1,op1,nd1,rfl,by rw[yd,yC.out],yo.out,HX.out.1,HX.out.2.1,HX.out.2.2,ag.out.ine,ag.out.kp⟩
 have b1':isS (E.at (k+1)) [40]=false:=by simpa using b1
 rw[if_neg b1]at HO;rw[b1'];clear b1 b1' CC CS;have x0:=(az.out.li 0 rfl).cell 0;have x1:=(az.out.li 0 rfl).cell 1;have x2:=(az.out.li 0 rfl).cell 2;simp only[za,zb,zf]at x0 x1 x2
 go_wp2_with fail
 refine(CTr.out _).mono ?_;rintro e w6 ⟨rfl,hb⟩;have am:=zh (az.out.next hb);clear hb az CTr;clear x0 x1 x2;cases b2:cJ ⟨tk,tx,tp⟩ with
 |true=>
  rw[b2,if_pos rfl]at HO;have CL1:=zh (CLi.out _ am.out.ine);clear CLi CCk CFo CW HPC;rw[HO.out]at CL1
  go_wp2_with fail
  refine CL1.out.mono ?_;cases O with
  |ok t ts c=>
   rintro e w4 ⟨k1,cs,rfl,g1,g2,g3,g4,g5,g6,g7,g8⟩;obtain⟨C,rfl⟩:∃ C:List Value,cs=C.toArray:=⟨cs.toList,by simp⟩
   have yC:Hid (C.length=22):=zh (by have:=g8.1;rwa [yd]at this);have yo:=zh g8.2.1;have HX:=zh (⟨g1,g2,g3,g4,g5,g8⟩:k<=k1/\k1<E.L.length/\ts=E.L.drop k1/\c+k<=nd+k1/\nd<=c/\NV w4 (List.range w6.heap.size) c t C.toArray);have ak:=zh (am.out.step g6 g7);have iu:=zh (am.out.lt 1 rfl);clear g1 g2 g3 g4 g5 g6 g7 g8 am CL1;have HT:=zh (ak.out.there 1 rfl C.toArray.size (by rw[yd,yC.out];rfl));have ag:=zh (ak.out.fill hE 1 rfl C (by rw[yC.out];rfl));have zi:=fv yC.out
   go_wp2_with (first |(refine yq rfl 41 (.tmp 2) (.tmp 19) rfl q 0 C.toArray rfl rfl HT.out zi yo.out ?_;change wpList _ _ _ _ _ (World.setCells _ q 0 C);generalize kz:World.setCells _ _ _ _=wz at ag ⊢))
   have HA:=zh (ag.out.li 1 rfl);refine yt (aO rfl rfl HA.out (by rw[yd,yC.out])) rfl ?_;have bn:Kp [q] w4 wz:=by rw[<- kz];exact aQ (.inl (.head _)) C 0 (Kp.refl _ _)
   exact⟨k1,C.toArray,rfl,HX.out.1,HX.out.2.1,HX.out.2.2.1,HX.out.2.2.2.1,HX.out.2.2.2.2.1,ag.out.ine,ag.out.kp,(HX.out.2.2.2.2.2.kpX bn (fun y hy=>by rw[yf.1 hy];exact yg.2 iu.out)).anti (fun y hy _=>yg.2 (by have:=yg.1 hy;have:=iu.out;have:=HQ.out;omega))⟩
  |bad e0 p0=>
   rintro e w4 ⟨cs,k1,op1,nd1,rfl,g1,g2,g3,g4,g5,g6,g7⟩;obtain⟨C,rfl⟩:∃ C:List Value,cs=C.toArray:=⟨cs.toList,by simp⟩
   have yC:Hid (C.length=22):=zh (by rwa [yd]at g1);have yo:=zh g2;have HX:=zh (⟨g3,g4,g5⟩:k<=k1/\k1<E.L.length/\nd1+k<=nd+k1);have ak:=zh (am.out.step g6 g7);clear g1 g2 g3 g4 g5 g6 g7 am CL1;have HT:=zh (ak.out.there 1 rfl C.toArray.size (by rw[yd,yC.out];rfl));have ag:=zh (ak.out.fill hE 1 rfl C (by rw[yC.out];rfl));have zi:=fv yC.out
   go_wp2_with (first |(refine yq rfl 41 (.tmp 2) (.tmp 19) rfl q 0 C.toArray rfl rfl HT.out zi yo.out ?_;change wpList _ _ _ _ _ (World.setCells _ q 0 C);generalize World.setCells _ _ _ _=wz at ag ⊢))
   have HA:=zh (ag.out.li 1 rfl);refine yt (aO rfl rfl HA.out (by rw[yd,yC.out])) rfl ?_;exact⟨C.toArray,k1,op1,nd1,rfl,by rw[yd,yC.out],yo.out,HX.out.1,HX.out.2.1,HX.out.2.2,ag.out.ine,ag.out.kp⟩
 |false=>
  rw[b2,if_neg (by decide)]at HO;clear b2 CLi;have x0:=(am.out.li 0 rfl).cell 0;have x1:=(am.out.li 0 rfl).cell 1;have x2:=(am.out.li 0 rfl).cell 2;simp only[za,zb,zf]at x0 x1 x2
  go_wp2_with fail
  refine(CFo.out _).mono ?_;rintro e w7 ⟨rfl,hb⟩;have c8:=zh ((am.out.next hb).alloc 41 aA.toArray (by decide));clear hb am CFo;clear x0 x1 x2;have HT:=zh (c8.out.there 0 rfl 22 rfl);have da:=zh (c8.out.fill hE 0 rfl (cQ 7 s 0 none 0 0) rfl);have f9:=gF 7 s 0 none 0 0;clear c8;simp only[List.set_cons_zero]at da;simp only[aA]at da HT
  go_upto_region 7 with(first |(refine yq rfl 41 (.tmp 5) (.tmp 24) rfl w7.heap.size 0 (cQ 7 s 0 none 0 0).toArray rfl rfl HT.out aE f9 ?_;change wpList _ _ _ _ _ (World.setCells _ w7.heap.size 0 (cQ 7 s 0 none 0 0));generalize World.setCells _ _ _ _=W8 at da ⊢;generalize w7.heap.size=q5 at da ⊢))
  clear HT f9;have fm:=zh (da.out.range 0 (l:=cQ 7 s 0 none 0 0) rfl)
  go_wp2_with (first |(refine yr rfl 41 (.tmp 5) rfl q5 0 rfl (cQ 7 s 0 none 0 0) _ fm.out Tryz.underlying41 rfl aE ?_))
  refine(CCk.out _).mono ?_;rintro e w9 ⟨rfl,hb⟩;have bl:=zh (da.out.next hb);clear hb da CCk fm;rw[HPC.out];cases vy:bS s with
  |false=>
   rw[vy,if_neg (by decide)]at HO;have db:=zh HO.out.symm;rw[if_neg (by decide)];clear HO HPC
   go_wp2_with fail
   refine(CW.out _ bl.out.ine).mono ?_;rintro e wa ⟨rfl,h1,h2⟩;have cx:=zh (bl.out.step h1 h2.X);clear h1 h2 bl CW;have HT:=zh (cx.out.there 2 rfl 22 rfl);have ag:=zh (cx.out.fill hE 2 rfl aA rfl)
   go_wp2_with (first |(refine yq rfl 41 (.tmp 2) (.tmp 28) rfl q 0 aA.toArray rfl rfl HT.out aE bB ?_;change wpList _ _ _ _ _ (World.setCells _ q 0 aA);generalize World.setCells _ _ _ _=wz at ag ⊢))
   have HA:=zh (ag.out.li 2 rfl);refine yt (aO rfl rfl HA.out rfl) rfl ?_;rw[db.out];exact cR ag.out rfl bB zr HF.out.1 (by omega)
  |true=>
   rw[vy,if_pos rfl]at HO;have db:=zh HO.out.symm;rw[if_pos rfl];clear CW HPC HO;have r1:=bl.out.ine.rd.cell 1;have rf1:=bl.out.ine.rd.frozen 1;simp only[za,zb,zf]at r1;have ol:(k:Int)<=1000000:=by have:=HF.out;omega
   have cx:Hid (Fs E w (k+1) op nd pl er [(q5,41,(cQ 7 s 0 none 0 0).toArray),(q4,70,#[.int .i64 tk,.string ⟨tx.toArray⟩,.int .i64 (tp:Int)]),(q,41,aA.toArray)] (w9.setCell ⟨E.r,1,none⟩ (.int .i64 ((k:Int)+1)))):=zh (bl.out.rd hE 1 _ rfl);clear bl
   go_upto_region 10 with fail
   generalize World.setCell _ _ _=Wa at cx ⊢;clear r1 rf1;have CN1:=zh (CN.out (k+1) pl er (cQ 7 s 0 none 0 0) rfl (gF 7 s 0 none 0 0) _ cx.out.ine);obtain⟨C,hC,ai,ec,ii⟩:=fD (nd+1) (cQ 7 s 0 none 0 0) rfl (gF 7 s 0 none 0 0);rw[hC]at CN1;have yC:=zh ai;have dx:=zh ec;have mw:=zh ii;have fm:=zh (cx.out.range 0 (l:=cQ 7 s 0 none 0 0) rfl);clear hC ai ec ii
   go_wp2_with (first |(refine yr rfl 41 (.tmp 5) rfl q5 0 rfl (cQ 7 s 0 none 0 0) _ fm.out Tryz.underlying41 rfl aE ?_))
   refine CN1.out.mono ?_;rintro e wn ⟨rfl,av,ep⟩;have jv:=zh (cx.out.step av ep.X);clear av ep CN1 fm cx;have HT:=zh (jv.out.there 2 rfl C.toArray.size (by rw[yd,yC.out];rfl));have ag:=zh (jv.out.fill hE 2 rfl C (by rw[yC.out];rfl));have zi:=fv yC.out
   go_wp2_with (first |(refine yq rfl 41 (.tmp 2) (.tmp 40) rfl q 0 C.toArray rfl rfl HT.out zi dx.out ?_;change wpList _ _ _ _ _ (World.setCells _ q 0 C);generalize World.setCells _ _ _ _=wz at ag ⊢))
   have HA:=zh (ag.out.li 2 rfl);refine yt (aO rfl rfl HA.out (by rw[yd,yC.out])) rfl ?_;rw[db.out];exact jS (h:=⟨7,aC,s,aG,aG,0⟩) ag.out yC.out dx.out (fun hn=>by rw[mw.out hn];rfl) (by omega) HF.out.2.2 (by omega) (by omega) rfl
def Ph(zl:Array Bool):List (Nat×(World->Prop))->(World->Prop)->World->Prop
 | [],P,w=>P w
 |(m,Q)::r,P,w=>(¬ Up zl m->P w)/\(Up zl m->Ph zl r Q w)
theorem Ph.same{l l':Array Bool}:∀ {ms:List (Nat×(World->Prop))} {P:World->Prop} {w:World},(∀ m∈ms,(Up l' m.1↔Up l m.1))->Ph l ms P w->Ph l' ms P w
 | [],_,_,_,h=>h
 |(m,Q)::r,P,w,hm,h=>by
  have h0:=hm (m,Q) (.head _);exact⟨fun hn=>h.1 (fun hu=>hn (h0.2 hu)),fun hu=>Ph.same (fun m' l9=>hm m' (.tail _ l9)) (h.2 (h0.1 hu))⟩
theorem Ph.step{l':Array Bool}{i:Nat}{Q:World->Prop}{post:List (Nat×(World->Prop))}{w1:World}(hi:Up l' i)(pz:∀ m∈post,¬ Up l' m.1)(hQ:Q w1):∀ {pre:List (Nat×(World->Prop))} {P:World->Prop},(∀ m∈pre,Up l' m.1)->Ph l' (pre++(i,Q)::post) P w1
 | [],P,_=>⟨fun hn=>absurd hi hn,fun _=>by
  cases post with
  |nil=>exact hQ
  |cons m r=>exact⟨fun _=>hQ,fun hu=>absurd hu (pz m (.head _))⟩⟩
 |(m,R)::r,P,hp=>⟨fun hn=>absurd (hp (m,R) (.head _)) hn,fun _=>Ph.step hi pz hQ (fun m' l9=>hp m' (.tail _ l9))⟩
def uCN:List (Nat×(World->Prop))->(World->Prop)->Nat->World->Prop
 |_,P,0=>P
 | [],P,_+1=>P
 |(_,Q)::r,_,j+1=>uCN r Q j
theorem Ph.ahead{l:Array Bool}{i:Nat}{Q:World->Prop}{post:List (Nat×(World->Prop))}{w:World}(hi:¬ Up l i):∀ {pre:List (Nat×(World->Prop))} {P:World->Prop},(∀ m∈pre,Up l m.1)->Ph l (pre++(i,Q)::post) P w->uCN (pre++(i,Q)::post) P pre.length w
 | [],_,_,h=>h.1 hi
 |(m,R)::r,_,hp,h=>Ph.ahead (pre:=r) (P:=R) hi (fun m' l9=>hp m' (.tail _ l9)) (h.2 (hp (m,R) (.head _)))
theorem Ph.low{l:Array Bool}{w:World}:∀ {ms:List (Nat×(World->Prop))} {P:World->Prop} (k:Nat),k<=ms.length->(∀ m,ms[k]?=some m->¬ Up l m.1)->Ph l ms P w->∃ j,j<=k/\uCN ms P j w
 | [],_,_,_,_,h=>⟨0,zm _,h⟩
 |(m,Q)::r,P,0,_,hm,h=>⟨0,zr,h.1 (hm (m,Q) rfl)⟩
 |(m,Q)::r,P,k+1,hk,hm,h=>by
  by_cases hu:Up l m
  ·obtain⟨j,h1,h2⟩:=Ph.low k (by simpa using hk) (fun m' l9=>hm m' (by simpa using l9)) (h.2 hu);exact⟨j+1,by omega,h2⟩
  exact⟨0,zm _,h.1 hu⟩
theorem Ph.last{l:Array Bool}{w:World}:∀ {ms:List (Nat×(World->Prop))} {P:World->Prop},(∀ m∈ms,Up l m.1)->Ph l ms P w->uCN ms P ms.length w
 | [],_,_,h=>h
 |(m,Q)::r,_,hp,h=>Ph.last (ms:=r) (P:=Q) (fun m' l9=>hp m' (.tail _ l9)) (h.2 (hp (m,Q) (.head _)))
structure GU(ops:Array Oper)(S:List Nat)(T:List (Nat×Nat×Value))(ms:List (Nat×(World->Prop)))(P:World->Prop)(a0:Act)(zl:Array Bool)(a:Act)(w:World):Prop where
 off:Off S a0 a
 pt:PT T zl a
 dn:∀ i o,ops[i]?=some o->Up zl i->∀ e∈o.after,Region.binds .any e=true->Up zl e.on
 st:Ph zl ms P w
def okU(nums:List (Nat×Nat))(S:List Nat)(N:Nat):Bool :=
 nums.all (fun e=>S.contains e.2&&decide (e.2<N))&&decide (nums.Pairwise (fun p q=>p.1≠q.1/\p.2≠q.2))
def gU(ops:Array Oper):List Nat->Bool
 |a::b::r=>kG ops 40 b a&&a != b&&gU ops (b::r)
 |_=>true
section
variable {ops:Array Oper} {S:List Nat} {T:List (Nat×Nat×Value)} {ms:List (Nat×(World->Prop))} {P:World->Prop} {w w1:World} {N:Nat} {a0 a:Act} {zl:Array Bool} {Q:Exit->Act->World->Prop} {o:Oper} {i s:Nat} {v:Value}
theorem uHS(hk:okU (T.map fun e=>(e.1,e.2.1)) S N=true){e:Nat×Nat×Value}(he:e∈T):e.2.1∈S/\e.2.1<N:=by
 simp only[okU,yh,List.all_eq_true,decide_eq_true_eq,List.contains_iff_mem,yj,forall_exists_index,and_imp,forall_apply_eq_imp_iff₂]at hk;exact hk.1 e he
theorem qC(hk:okU (T.map fun e=>(e.1,e.2.1)) S N=true){e e':Nat×Nat×Value}(he:e∈T)(gb:e'∈T)(hs:e.1=e'.1\/e.2.1=e'.2.1):e=e':=by
 by_cases heq:e=e'
 ·exact heq
 exfalso
 simp only[okU,yh,decide_eq_true_eq,List.pairwise_map]at hk;have h2:=hk.2;have key:∀ l:List (Nat×Nat×Value),l.Pairwise (fun p q=>p.1≠q.1/\p.2.1≠q.2.1)->∀ x∈l,∀ y∈l,x≠y->x.1≠y.1/\x.2.1≠y.2.1:=by
  intro l
  induction l with
  |nil=>intro _ x hx;cases hx
  |cons c l ih=>
   intro hp x hx y hy bp;rw[List.pairwise_cons]at hp;rcases ym.1 hx with ex|hx <;> rcases ym.1 hy with ey|hy
   ·exact absurd (ex.trans ey.symm) bp
   ·rw[ex];exact hp.1 y hy
   ·rw[ey];exact⟨fun e=>(hp.1 x hx).1 e.symm,fun e=>(hp.1 x hx).2 e.symm⟩
   exact ih hp.2 x hx y hy bp
 have:=key T h2 e he e' gb heq;rcases hs with hs|hs
 ·exact this.1 hs
 exact this.2 hs
theorem GU.start(a:Act)(m:Nat)(hX:P w):GU ops S T ms P a (Array.replicate m false) a w :=
 ⟨Off.refl _ _,PT.start _ _ _,fun _ _ _ h=>absurd h (Up.none _ _),by
  cases ms with
  |nil=>exact hX
  |cons m r=>exact⟨fun _=>hX,fun h=>absurd h (Up.none _ _)⟩⟩
theorem dnU{zl:Array Bool}(hd:∀ i o,ops[i]?=some o->Up zl i->∀ e∈o.after,Region.binds .any e=true->Up zl e.on)(aa:zl.getD i true=false)(ho:ops[i]?=some o)(zd:∀ e∈o.after,Region.binds .any e=true->Up zl e.on) :
  ∀ j o',ops[j]?=some o'->Up (zl.setIfInBounds i true) j->∀ e∈o'.after,Region.binds .any e=true->Up (zl.setIfInBounds i true) e.on:=by
 intro j o' hj hu e he hb;have hi:=Up.of_false aa;rcases(Up.set hi).1 hu with rfl|hu
 ·rw[ho]at hj;injection hj with hj;subst hj;exact eP hi (zd e he hb)
 exact eP hi (hd j o' hj hu e he hb)
theorem xW(hd:∀ i o,ops[i]?=some o->Up zl i->∀ e∈o.after,Region.binds .any e=true->Up zl e.on)(ho:ops[i]?=some o)(zd:∀ e∈o.after,Region.binds .any e=true->Up zl e.on){b f:Nat}(hr:kG ops f i b=true)(bp:i≠b):Up zl b:=by
 cases f with
 |zero=>simp only[kG,beq_iff_eq]at hr;exact absurd hr bp
 |succ f=>
  simp only[kG,Bool.or_eq_true,beq_iff_eq]at hr;rcases hr with hr|hr
  ·exact absurd hr bp
  rw[ho]at hr;simp only[Option.map_some,Option.getD_some,Array.any_eq_true',yh]at hr;obtain⟨e,he,hb,hr⟩:=hr;exact lO hd f e.on b hr (zd e he hb)
theorem qY(hd:∀ i o,ops[i]?=some o->Up zl i->∀ e∈o.after,Region.binds .any e=true->Up zl e.on):∀ (pre:List Nat) (x:Nat) (post:List Nat),gU ops (pre++x::post)=true->(∀ f b,kG ops f x b=true->x≠b->Up zl b)->∀ m∈pre,Up zl m
 | [],_,_,_,_,m,hm=>by cases hm
 | [a],x,post,hc,hx,m,hm=>by
  rw[yf.1 hm];simp only[yp,List.nil_append,gU,yh,bne_iff_ne]at hc;exact hx 40 a hc.1.1 (Ne.symm hc.1.2)
 |a::b::r,x,post,hc,hx,m,hm=>by
  simp only[yp,gU,yh,bne_iff_ne]at hc;have hrec:=qY hd (b::r) x post (by simpa using hc.2) hx;rcases ym.1 hm with rfl|hm
  ·exact lO hd 40 b m hc.1.1 (hrec b (.head _))
  exact hrec m hm
theorem oR(hd:∀ i o,ops[i]?=some o->Up zl i->∀ e∈o.after,Region.binds .any e=true->Up zl e.on):∀ (post:List Nat) (x:Nat),gU ops (x::post)=true->¬ Up zl x->∀ m∈post,¬ Up zl m
 | [],_,_,_,m,hm=>by cases hm
 |b::r,x,hc,hx,m,hm=>by
  simp only[gU,yh,bne_iff_ne]at hc;have hb:¬ Up zl b:=fun h=>hx (lO hd 40 b x hc.1.1 h)
  rcases ym.1 hm with rfl|hm
  ·exact hb
  exact oR hd r b hc.2 hb m hm
theorem lX:∀ (pre:List Nat) (l:List Nat),gU ops (pre++l)=true->gU ops l=true
 | [],_,h=>h
 | [a],[],_=>rfl
 | [a],b::r,h=>by
  simp only[yp,List.nil_append,gU,yh]at h;exact h.2
 |a::b::r,l,h=>by
  simp only[yp,gU,yh]at h;exact lX (b::r) l (by simpa using h.2)
theorem uD(hk:okU (T.map fun e=>(e.1,e.2.1)) S N=true)(hI:GU ops S T ms P a0 zl a w)(hN:N<=a0.tmps.size)(he:(i,s,v)∈T)(hm:∀ m∈ms,m.1≠i)(aa:zl.getD i true=false)(ho:ops[i]?=some o)(zd:∀ e∈o.after,Region.binds .any e=true->Up zl e.on):GU ops S T ms P a0 (zl.setIfInBounds i true) (a.put (some s) v) w:=by
 have hi:=Up.of_false aa;obtain⟨h2,h3⟩:=uHS hk he;exact⟨hI.off.put h2 v,hI.pt.step hi (by rw[hI.off.size];exact yu h3 hN) (fun e' gb hs=>by rw[qC hk gb he (.inr hs)]) (fun e' gb hs=>by rw[qC hk gb he (.inl hs)]),dnU hI.dn aa ho zd,hI.st.same (fun m l9=>⟨fun h=>kJ hi h (hm m l9),fun h=>eP hi h⟩)⟩
theorem aX(hk:okU (T.map fun e=>(e.1,e.2.1)) S N=true)(hI:GU ops S T ms P a0 zl a w)(hN:N<=a0.tmps.size)(he:(i,s,v)∈T)(hm:∀ m∈ms,m.1≠i)(aa:zl.getD i true=false)(ho:ops[i]?=some o)(zd:∀ e∈o.after,Region.binds .any e=true->Up zl e.on)(hw:Region.wanted o (yielded ops a.tmps)=true)(hd:o.dst=some s)
  (hr:(execOp a.eval o).run Tryz.prog w=.ok (.value v) w):wpOp Tryz.prog ops Q i (GU ops S T ms P a0 (zl.setIfInBounds i true)) a w:=by
 unfold wpOp;rw[ho];simp only;rw[if_pos hw];refine .inl (oC v hr ?_);rw[hd];exact uD hk hI hN he hm aa ho zd
theorem bF(hk:okU (T.map fun e=>(e.1,e.2.1)) S N=true)(hI:GU ops S T ms P a0 zl a w)(hN:N<=a0.tmps.size)(he:(i,s,undef)∈T)(hm:∀ m∈ms,m.1≠i)(aa:zl.getD i true=false)(ho:ops[i]?=some o)(zd:∀ e∈o.after,Region.binds .any e=true->Up zl e.on)(hw:Region.wanted o (yielded ops a.tmps)=false)(hd:o.dst=some s):wpOp Tryz.prog ops Q i (GU ops S T ms P a0 (zl.setIfInBounds i true)) a w:=by
 unfold wpOp;rw[ho];simp only;rw[if_neg (by rw[hw];decide),hd];exact uD hk hI hN he hm aa ho zd
theorem GU.at(hI:GU ops S T ms P a0 zl a w)(hc:gU ops (ms.map (·.1))=true)(pre post:List (Nat×(World->Prop)))(R:World->Prop)(hms:ms=pre++(i,R)::post)(aa:zl.getD i true=false)(ho:ops[i]?=some o)(zd:∀ e∈o.after,Region.binds .any e=true->Up zl e.on):uCN ms P pre.length w/\∀ w1,R w1->Ph (zl.setIfInBounds i true) ms P w1:=by
 have hi:=Up.of_false aa;subst hms;rw[List.map_append,List.map_cons]at hc;have hpre:∀ m∈pre,Up zl m.1:=fun m hm=>qY hI.dn _ _ _ hc (fun f b hr bp=>xW hI.dn ho zd hr bp) m.1 (yj.2 ⟨m,hm,rfl⟩)
 have pz:∀ m∈post,¬ Up zl m.1:=fun m hm=>oR hI.dn _ _ (lX _ _ hc) (iK aa) m.1 (yj.2 ⟨m,hm,rfl⟩)
 refine⟨Ph.ahead (iK aa) hpre hI.st,fun w1 hR=>Ph.step (oB hi) (fun m hm hu=>?_) hR (fun m hm=>eP hi (hpre m hm))⟩;rcases(Up.set hi).1 hu with h|h
 ·have h0:=oR (zl:=Array.replicate zl.size false) (fun _ _ _ h=>absurd h (Up.none _ _)) _ _ (lX _ _ hc) (Up.none _ _);clear h0;have hnd:∀ (l:List Nat) (x:Nat),gU ops (x::l)=true->(∀ y∈l,¬ Up zl y)->(∀ e∈o.after,Region.binds .any e=true->Up zl e.on)->ops[x]?=some o->x∉l:=by
   intro l
   induction l with
   |nil=>intro _ _ _ _ _ hm;cases hm
   |cons y l _=>
    intro x hc' hy hd' ho' l9;have fi:=hc';simp only[gU,yh,bne_iff_ne]at fi;rcases ym.1 l9 with e|l9
    ·exact fi.1.2 e
    -- x stands behind y: it waits for y
    obtain⟨l1,l2,rfl⟩:=List.append_of_mem l9;have:=qY (ops:=ops) (zl:=zl) hI.dn (y::l1) x l2 (by simpa using fi.2) (fun f b hr bp=>xW hI.dn ho' hd' hr bp) y (.head _);exact hy y (.head _) this
  exact hnd (post.map (·.1)) i (lX _ _ hc) (fun y hy=>by obtain⟨m',l9,rfl⟩:=yj.1 hy;exact pz m' l9) zd ho (yj.2 ⟨m,hm,h⟩)
 exact pz m hm h
theorem GU.low(hI:GU ops S T ms P a0 zl a w)(k:Nat)(hk:k<=ms.length)(hr:∀ m,ms[k]?=some m->kG ops 40 m.1 i=true)(aa:zl.getD i true=false):∃ j,j<=k/\uCN ms P j w :=
 Ph.low k hk (fun m hm hu=>iK aa (lO hI.dn 40 m.1 i (hr m hm) hu)) hI.st
theorem kR(hk:okU (T.map fun e=>(e.1,e.2.1)) S N=true)(hI:GU ops S T ms P a0 zl a w)(hN:N<=a0.tmps.size)(he:(i,s,v)∈T)(hc:gU ops (ms.map (·.1))=true)(pre post:List (Nat×(World->Prop)))(R:World->Prop)(hms:ms=pre++(i,R)::post)(aa:zl.getD i true=false)(ho:ops[i]?=some o)(zd:∀ e∈o.after,Region.binds .any e=true->Up zl e.on)(hw:Region.wanted o (yielded ops a.tmps)=true)(hd:o.dst=some s)
  (hr:uCN ms P pre.length w->Oper.wp Tryz.prog o a w (fun a' w'=>a'=a.put o.dst v/\R w') Q):wpOp Tryz.prog ops Q i (GU ops S T ms P a0 (zl.setIfInBounds i true)) a w:=by
 have hi:=Up.of_false aa;obtain⟨h1,h2⟩:=hI.at hc pre post R hms aa ho zd;obtain⟨h3,h4⟩:=uHS hk he;unfold wpOp;rw[ho];simp only;rw[if_pos hw];refine .inl (Oper.wp_mono (fun a' w' hh=>?_) (hr h1));obtain⟨rfl,hR⟩:=hh;rw[hd];exact⟨hI.off.put h3 v,hI.pt.step hi (by rw[hI.off.size];exact yu h4 hN) (fun e' gb hs=>by rw[qC hk gb he (.inr hs)]) (fun e' gb hs=>by rw[qC hk gb he (.inl hs)]),dnU hI.dn aa ho zd,h2 w' hR⟩
theorem lI(hI:GU ops S T ms P a0 zl a w)(hT:∀ e∈T,e.1≠i)(hc:gU ops (ms.map (·.1))=true)(pre post:List (Nat×(World->Prop)))(R:World->Prop)(hms:ms=pre++(i,R)::post)(aa:zl.getD i true=false)(ho:ops[i]?=some o)(zd:∀ e∈o.after,Region.binds .any e=true->Up zl e.on)(hw:Region.wanted o (yielded ops a.tmps)=true)(hd:o.dst=none)
  (hr:uCN ms P pre.length w->∃ w',(execOp a.eval o).run Tryz.prog w=.ok .skip w'/\R w'):wpOp Tryz.prog ops Q i (GU ops S T ms P a0 (zl.setIfInBounds i true)) a w:=by
 have hi:=Up.of_false aa;obtain⟨h1,h2⟩:=hI.at hc pre post R hms aa ho zd;obtain⟨w',jq,hR⟩:=hr h1;unfold wpOp;rw[ho];simp only;rw[if_pos hw];refine .inl (pH jq ?_);rw[hd];exact⟨hI.off,hI.pt.skip hi hT,dnU hI.dn aa ho zd,h2 w' hR⟩
theorem jG(f:FuncId)(xs:Array Value){K:Act->World->Prop}(hr:(execOp a.eval o).run Tryz.prog w=.ok (.enter f xs) w)(hc:Calls Tryz.prog f xs w fun e w1=>e=.returned v/\K (a.put o.dst v) w1):Oper.wp Tryz.prog o a w K Q:=by
 unfold Oper.wp;rw[hr];refine hc.mono ?_;rintro e w1 ⟨rfl,h⟩;exact h
theorem aD{y:Nat->Option Bool}(h:o.guard=none):Region.wanted o y=true:=by unfold Region.wanted;rw[h]
theorem aH{g sg:Nat}{pol b:Bool}(h:o.guard=some (g,pol)){og:Oper}(hg:ops[g]?=some og)(hd:og.dst=some sg)(hv:a.eval (.tmp sg)=.bool b):Region.wanted o (yielded ops a.tmps)=(b==pol):=by
 have h1:a.tmps[sg]?=some (.bool b):=by
  have:=aF hv;cases hq:a.tmps[sg]? with
  |none=>rw[hq]at this;cases this
  |some x=>rw[hq]at this;simpa using this
 unfold Region.wanted yielded;rw[h];simp only[hg,Option.bind_some,hd,h1];cases b <;> cases pol <;> rfl
theorem bO{id:Nat}{w0:World}(F0:Act->Prop)(S:List Nat)(T:List (Nat×Nat×Value))(ms:List (Nat×(World->Prop)))(P:World->Prop)(hm:Tryz.prog.follows .mixedOrders=true)(hb:gY ops=true)(vz:F0 a)(hX:P w0.drew)
  (bw:∀ a0,F0 a0->∀ zl a w i o,zl.size=ops.size->GU ops S T ms P a0 zl a w->zl.getD i true=false->ops[i]?=some o->(∀ e∈o.after,Region.binds .any e=true->Up zl e.on)->wpOp Tryz.prog ops Q i (GU ops S T ms P a0 (zl.setIfInBounds i true)) a w)
  (c9:∀ zl a' w',GU ops S T ms P a zl a' w'->(∀ i,i<ops.size->Up zl i)->Q .normal a' w'):(Code.region id ops true).wp Tryz.prog Q a w0 :=
 gC hm hb F0 (GU ops S T ms P) vz (GU.start _ _ hX) bw c9
end
structure RG(ops:Array Oper)(S:List Nat)(T:List (Nat×Nat×Value))(P:World->Prop)(a0:Act)(N:Nat)(zl:Array Bool)(a:Act)(w:World)(i:Nat)(o:Oper):Prop where
 k:okU (T.map fun e=>(e.1,e.2.1)) S N=true
 I:GU ops S T [] P a0 zl a w
 z:N<=a0.tmps.size
 u:zl.getD i true=false
 p:ops[i]?=some o
 e:∀ e∈o.after,Region.binds .any e=true->Up zl e.on
section
variable {ops:Array Oper} {S:List Nat} {T:List (Nat×Nat×Value)} {P:World->Prop} {a0 a:Act} {zl:Array Bool} {w:World} {N i j s:Nat} {v:Value} {o:Oper} {Q:Exit->Act->World->Prop}
theorem RG.d(G:RG ops S T P a0 N zl a w j o)(n:Nat)(h:T[n]?=some (i,s,v))(hm:{ on:=i,ground:=.data }∈o.after:=by simp):a.eval (.tmp s)=v:=G.I.pt (i,s,v) (List.mem_of_getElem? h) (G.e _ hm rfl)
theorem RG.g(G:RG ops S T P a0 N zl a w j o)(n:Nat)(h:T[n]?=some (i,s,v))(hm:{ on:=i,ground:=.guard }∈o.after:=by simp):a.eval (.tmp s)=v:=G.I.pt (i,s,v) (List.mem_of_getElem? h) (G.e _ hm rfl)
theorem wq{sg:Nat}{pol b:Bool}(hq:(o.guard.bind fun gp=>(ops[gp.1]?).bind fun og=>og.dst.map fun d=>(d,gp.2))=some (sg,pol))(hv:a.eval (.tmp sg)=.bool b):Region.wanted o (yielded ops a.tmps)=(b==pol):=by
 obtain⟨⟨g,p⟩,h1,h2⟩:=Option.bind_eq_some_iff.1 hq;obtain⟨og,h3,h4⟩:=Option.bind_eq_some_iff.1 h2;obtain⟨d,h5,h6⟩:=Option.map_eq_some_iff.1 h4;cases h6;exact aH h1 h3 h5 hv
theorem RG.sk(G:RG ops S T P a0 N zl a w i o)(n:Nat)(h:T[n]?=some (i,s,undef)){sg:Nat}{pol b:Bool}(hv:a.eval (.tmp sg)=.bool b)(hq:(o.guard.bind fun gp=>(ops[gp.1]?).bind fun og=>og.dst.map fun d=>(d,gp.2))=some (sg,pol))(hb:(b==pol)=false:=by rfl)(hd:o.dst=some s:=by rfl):wpOp Tryz.prog ops Q i (GU ops S T [] P a0 (zl.setIfInBounds i true)) a w :=
 bF G.k G.I G.z (List.mem_of_getElem? h) (fun _ hm=>by cases hm) G.u G.p G.e ((wq hq hv).trans hb) hd
theorem RG.vl(G:RG ops S T P a0 N zl a w i o)(n:Nat)(h:T[n]?=some (i,s,v)){sg:Nat}{pol b:Bool}(hv:a.eval (.tmp sg)=.bool b)(hq:(o.guard.bind fun gp=>(ops[gp.1]?).bind fun og=>og.dst.map fun d=>(d,gp.2))=some (sg,pol))(hr:(execOp a.eval o).run Tryz.prog w=.ok (.value v) w)(hb:(b==pol)=true:=by rfl)(hd:o.dst=some s:=by rfl):wpOp Tryz.prog ops Q i (GU ops S T [] P a0 (zl.setIfInBounds i true)) a w :=
 aX G.k G.I G.z (List.mem_of_getElem? h) (fun _ hm=>by cases hm) G.u G.p G.e ((wq hq hv).trans hb) hd hr
theorem RG.nl(G:RG ops S T P a0 N zl a w i o)(n:Nat)(h:T[n]?=some (i,s,v))(hr:(execOp a.eval o).run Tryz.prog w=.ok (.value v) w)(hg:o.guard=none:=by rfl)(hd:o.dst=some s:=by rfl):wpOp Tryz.prog ops Q i (GU ops S T [] P a0 (zl.setIfInBounds i true)) a w :=
 aX G.k G.I G.z (List.mem_of_getElem? h) (fun _ hm=>by cases hm) G.u G.p G.e (aD hg) hd hr
theorem RG.t(G:RG ops S T P a0 N zl a w j o)(n:Nat)(h:T[n]?=some (i,s,v))(hm:{ on:=i,ground:=.data }∈o.after:=by simp):a.tmps[s]?.getD undef=v:=aF (RG.d G n h hm)
theorem RG.gv(G:RG ops S T P a0 N zl a w i o)(g n:Nat){jg sg:Nat}{b:Bool}(hg:T[g]?=some (jg,sg,.bool b))(h:T[n]?=some (i,s,bif b then v else undef))(hq:(o.guard.bind fun gp=>(ops[gp.1]?).bind fun og=>og.dst.map fun d=>(d,gp.2))=some (sg,true))(hr:b=true->(execOp a.eval o).run Tryz.prog w=.ok (.value v) w)(hm:{ on:=jg,ground:=.guard }∈o.after:=by simp)(hd:o.dst=some s:=by rfl):wpOp Tryz.prog ops Q i (GU ops S T [] P a0 (zl.setIfInBounds i true)) a w:=by
 have pg:=RG.g G g hg hm;cases b
 ·exact RG.sk G n h pg hq rfl hd
 exact RG.vl G n h pg hq (hr rfl) rfl hd
theorem RG.gn(G:RG ops S T P a0 N zl a w i o)(g n:Nat){jg sg:Nat}{b:Bool}(hg:T[g]?=some (jg,sg,.bool b))(h:T[n]?=some (i,s,bif b then undef else v))(hq:(o.guard.bind fun gp=>(ops[gp.1]?).bind fun og=>og.dst.map fun d=>(d,gp.2))=some (sg,false))(hr:b=false->(execOp a.eval o).run Tryz.prog w=.ok (.value v) w)(hm:{ on:=jg,ground:=.guard }∈o.after:=by simp)(hd:o.dst=some s:=by rfl):wpOp Tryz.prog ops Q i (GU ops S T [] P a0 (zl.setIfInBounds i true)) a w:=by
 have pg:=RG.g G g hg hm;cases b
 ·exact RG.vl G n h pg hq (hr rfl) rfl hd
 exact RG.sk G n h pg hq rfl hd
end
section
variable {ops:Array Oper} {Q:Exit->Act->World->Prop}
theorem uDQ{S:List Nat}{T:List (Nat×Nat×Value)}{ms:List (Nat×(World->Prop))}{P:World->Prop}{a0:Act}(hb:gY ops=true)
  (bw:∀ zl a w i o,zl.size=ops.size->GU ops S T ms P a0 zl a w->zl.getD i true=false->ops[i]?=some o->(∀ e∈o.after,Region.binds .any e=true->Up zl e.on)->wpOp Tryz.prog ops Q i (GU ops S T ms P a0 (zl.setIfInBounds i true)) a w)
  (c9:∀ zl a' w',GU ops S T ms P a0 zl a' w'->(∀ i,i<ops.size->Up zl i)->Q .normal a' w') :
  ∀ (m i:Nat) (zl:Array Bool) (a:Act) (w:World),i+m=ops.size->zl.size=ops.size->(∀ j,Up zl j↔j<i)->GU ops S T ms P a0 zl a w->wpOps Tryz.prog ops Q (List.range' i m) a w
 |0,i,zl,a,w,hm,hs,hu,hI=>c9 zl a w hI (fun j hj=>(hu j).2 (by omega))
 |m+1,i,zl,a,w,hm,hs,hu,hI=>by
  rw[List.range'_succ,wpOps_cons];have hi:i<ops.size:=by omega
  have ho:ops[i]?=some ops[i]:=Array.getElem?_eq_getElem hi;have aa:zl.getD i true=false:=by
   cases h:zl.getD i true with
   |false=>rfl
   |true=>
    exfalso
    have qr:i<zl.size:=by omega
    have:Up zl i:=by
     unfold Up;rw[Array.getD_eq_getD_getElem?,Array.getElem?_eq_getElem qr]at h ⊢;exact h
    have:=(hu i).1 this;omega
  refine wpOp_mono (fun a' w' h'=>?_) (bw zl a w i _ hs hI aa ho (fun e he vx=>(hu e.on).2 (jT hb ho e he vx)));exact uDQ hb bw c9 m (i+1) _ a' w' (by omega) (by rw[Array.size_setIfInBounds];exact hs) (fun j=>by rw[Up.set (by omega),hu j];omega) h'
theorem bI{id:Nat}{a:Act}{w0:World}(F0:Act->Prop)(S:List Nat)(T:List (Nat×Nat×Value))(ms:List (Nat×(World->Prop)))(P:World->Prop)(hb:gY ops=true)(vz:F0 a)(hX:P w0)
  (bw:∀ a0,F0 a0->∀ zl a w i o,zl.size=ops.size->GU ops S T ms P a0 zl a w->zl.getD i true=false->ops[i]?=some o->(∀ e∈o.after,Region.binds .any e=true->Up zl e.on)->wpOp Tryz.prog ops Q i (GU ops S T ms P a0 (zl.setIfInBounds i true)) a w)
  (c9:∀ zl a' w',GU ops S T ms P a zl a' w'->(∀ i,i<ops.size->Up zl i)->Q .normal a' w'):(Code.region id ops false).wp Tryz.prog Q a w0:=by
 refine wp_region ?_;rw[List.range_eq_range'];exact uDQ hb (bw a vz) c9 ops.size 0 (Array.replicate ops.size false) a w0 (by omega) (by simp) (fun j=>⟨fun h=>absurd h (Up.none _ _),fun h=>absurd h (by omega)⟩) (GU.start _ _ hX)
end
end Go.Proofs.YtmgjidnalpgegaaGreatDoor
