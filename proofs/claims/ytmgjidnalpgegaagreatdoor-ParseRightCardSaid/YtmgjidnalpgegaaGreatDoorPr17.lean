/-
  Lemmas, part 17: ParY.
-/
import Derived.Test.YtmgjidnalpgegaaGreatDoorPr16
set_option maxHeartbeats 100000000
namespace Go.Proofs.YtmgjidnalpgegaaGreatDoor
open Go.RowKit
set_option maxRecDepth 100000 in
theorem leave_no(E:Env)(hE:E.ok)(k op nd pl er:Nat)(w:World)(hI:InE E k (op+1) nd pl er w)(hk:k<E.L.length)(hs:isS (E.at k) [41]=false)(ho:op<=64) :
  Calls Tryz.prog 122 #[.pointer (some ⟨E.r,0,none⟩)] w (Step E w k op nd (E.at k).place 6 (.bool false)):=by
 have CT:=zh (fun W h=>tZ E hE k op nd pl er [41] W h hk hs);have HP:Hid (∀ W',Kp [E.r] w W'->Lies W' E.r 66 (rdC E k op nd pl er)->InE E k op nd pl er W'):=zh (fun W' h1 h2=>hI.wrote hE h1 h2);have HF:Hid (∀ w1 v e w',Kp [E.r] w w1->Step E w1 k op nd (E.at k).place 6 v e w'->Step E w k op nd (E.at k).place 6 v e w'):=zh (fun w1 v e w' h1 h2=>h2.from h1);have hR:=hI.rd;have hoj:(op:Int)<=64:=by omega
 have nr:(((op+1:Nat):Int))-1=(op:Int):=by omega
 clear hs ho;generalize hr:E.r=r at *;have HR:=zh hR;have x2:=HR.out.cell 2;have f2:=HR.out.frozen 2;simp only[za,zb,zf]at x2;clear hR hI
 go_enter Tryz.func122,Tryz.ntmps122
 go_wp2_with fail
 have dz:Hid (Kp [r] w (w.setCell ⟨r,2,none⟩ (.int .i64 (op:Int)))):=zh ((Kp.refl _ w).set (.inl (.head _)) 2 _);have ip:Hid (InE E k op nd pl er (w.setCell ⟨r,2,none⟩ (.int .i64 (op:Int)))):=zh (HP.out _ dz.out (HR.out.put 2 _));refine(CT.out _ ip.out).mono ?_;rintro e w2 ⟨rfl,h1,h2⟩;have HS:=zh (HF.out _ (.bool false) (.returned (.bool false)) _ dz.out ⟨rfl,h1,h2⟩);clear h1 h2 dz ip CT HP HF HR x2 f2
 go_wp2_with fail
 go_ret
 exact HS.out
theorem aL{o:Oper}{a:Act}{w:World}(ty:TypeId)(x:Operand)(ho:o.op=.load ty x)(b o':Nat)(hx:a.eval x=.pointer (some ⟨b,o',none⟩))(cs:List Value)(d:TypeDesc)(hc:w.rangeAt b o' cs)(hu:Tryz.prog.underlying ty=some d)(hd:d.isRow=true)(hi:(Tryz.prog.info? ty).map (·.size)=some cs.length) :
  (execOp a.eval o).run Tryz.prog w=.ok (.value (.agg cs.toArray)) w:=by
 unfold execOp;simp only[ho,hx,Instr.loadAt,Instr.sureAddr,Sem.run_bind,Sem.run_pure,Result.andThen_ok,run_loadVar_mid w b o' ty cs d hc hu hd hi]
theorem eI{o:Oper}{a:Act}{w:World}(ty:TypeId)(x y:Operand)(ho:o.op=.store ty x y)(b o':Nat)(cells:Array Value)(hx:a.eval x=.pointer (some ⟨b,o',none⟩))(hy:a.eval y=.agg cells)(ht:w.there b o' cells.size)(hi:(Tryz.prog.info? ty).map (·.size)=some cells.size)(h1:cells.all (·.oneCell')=true) :
  (execOp a.eval o).run Tryz.prog w=.ok .skip (w.setCells b o' cells.toList):=by
 unfold execOp;simp only[ho,hx,hy,Instr.storeAt,Instr.sureAddr,Sem.run_bind,Sem.run_pure,Result.andThen_ok,run_storeVar_mid w b o' ty cells ht hi h1]
set_option maxRecDepth 100000 in
theorem part_any(E:Env)(hE:E.ok)(he:E.ends)(hL:E.L.length<=1000000)(hT:E.short)(hC:oD)(whole:Nat->List Tok->Nat->Out)(op:Nat)(ho:op<=64)(hp:op<64->dP E 24 (whole (op+1)) (op+1)):dP E 113 (lN whole E.ax op) op:=by
 intro k nd pl er w hI hk hn;have CT:=zh (fun W h=>bX E k op nd pl er W h hk);have CX:=zh (fun W h=>uFV E k op nd pl er W h hk hL);have CS:=zh (fun t s W=>cO t s W);have CP:=zh (fun W=>gX (E.at k).text W (by have:=hT k;omega));have CLi:=zh (fun W h=>mF E hE he k op nd pl er W h hk hL (by have:=hT k;omega) hn);have CLn:=zh (fun W h=>uHU E hE he hL hT op k nd pl er W h hk hn);have CCe:=zh (fun W h=>uGZ E hE he hL hT op k nd pl er W h hk hn);have CNa:=zh (fun h3 W h=>name_any E hE he hL hT hC whole op ho hp k nd pl er W h hk hn (E.more he hk h3));have CMa:=zh (fun hs W h=>uDP E hE he hL hT op k nd pl er W h hk hn hs);have CW:=zh (fun W h=>eN E hE k op nd pl er 6 W h hk);have CEy:=zh (fun hs ho W h=>vK E hE k op nd pl er W h hk hL hs ho);have CEd:=zh (fun ho W h=>sH E hE k op nd pl er W h hk ho (by omega))
 have CWh:=zh (fun ho dq W h=>hp ho (k+1) nd pl er W h dq (by omega));have CLy:=zh (fun k nd pl er W h hk hs=>vT E hE k op nd pl er W h hk hL hs ho);have CLo:=zh (fun k nd pl er W h hk hs=>leave_no E hE k op nd pl er W h hk hs ho);have qd:Hid (∀ k,k<E.L.length->(E.at k).kind≠0->k+1<E.L.length):=zh (fun k hk h=>E.more he hk h);have bo:=zh ((Fs.start hI).alloc 41 aA.toArray (by decide));have HF:Hid (k<E.L.length/\nd<=k/\op<=64):=zh ⟨hk,hn,ho⟩;generalize hO:lN whole E.ax op (E.L.drop k) nd=O;have HO:Hid ((if (E.at k).kind=1 then if isS (E.nx k) [58] then gK E.ax (E.L.drop k) nd else cX (E.L.drop k) nd
  else if (E.at k).kind=2\/(E.at k).kind=6 then cX (E.L.drop k) nd
  else if (E.at k).kind=3 then if isS (E.nx k) [58] then gK E.ax (E.L.drop k) nd else nH whole op (E.L.drop k) nd
  else if (E.at k).kind=4 then if (bA (E.at k).text).isSome then kD E.ax (E.L.drop k) nd else gK E.ax (E.L.drop k) nd
  else if isS (E.at k) [40] then
   if 64<=op then .bad 8 (E.at k).place
   else match whole (op+1) (E.L.drop (k+1)) nd with
    | .bad e p=>.bad e p
    | .ok x av c1=>if isS (hd av) [41] then .ok x av.tail c1 else fE 6 av
  else if isS (E.at k) [123] then jW (E.L.drop k) nd
  else .bad 6 (E.at k).place)=O):=zh (by
  rw[<- hO];unfold lN;rw[List.tail_drop];rfl)
 clear hI hO hn hk hp ho hT hC;generalize mq:E.nx k=nt at *;clear mq;obtain⟨tt,ec⟩:∃ tt,E.at k=tt:=⟨_,rfl⟩
 rw[ec]at CT CP HO CNa CMa CW CEy CEd;have ur:=zh ec;clear ec;obtain⟨tk,tx,tp⟩:=tt;dsimp only[tkV]at CT CX CP CNa CMa CW CEy CEd HO;simp only[aA]at bo
 go_enter Tryz.func113,Tryz.ntmps113
 go_upto_region 1 with fail
 generalize World.alloc _ _=W1 at bo ⊢;generalize hq:w.heap.size=q at bo ⊢;have HQ:=zh hq;clear hq
 go_wp2_with fail
 refine(CT.out _ bo.out.ine).mono ?_;rintro e w2 ⟨rfl,hb⟩;have bw:=zh ((bo.out.next hb).alloc 70 #[.int .i64 tk,.string ⟨tx.toArray⟩,.int .i64 (tp:Int)] (by decide));clear hb bo CT
 go_upto_region 2 with fail
 generalize World.alloc _ _=W3 at bw ⊢;generalize w2.heap.size=q4 at bw ⊢
 go_wp2_with fail
 refine(CX.out _ bw.out.ine).mono ?_;rintro e w4 ⟨rfl,hb⟩;have ak:=zh (bw.out.next hb);clear hb bw CX;have CS1:=zh (CS.out nt [58] w4)
 go_wp2_with fail
 refine CS1.out.mono ?_;rintro e w5 ⟨rfl,hb⟩;have az:=zh (ak.out.next hb);clear hb ak CS1;generalize isS nt [58]=b58 at *;have x0:=(az.out.li 0 rfl).cell 0;have x1:=(az.out.li 0 rfl).cell 1;have x2:=(az.out.li 0 rfl).cell 2;simp only[za,zb,zf]at x0 x1 x2;by_cases h1:tk=1
 ·subst h1;rw[if_pos rfl]at HO;cases b58
  ·rw[if_neg (by decide)]at HO;have CL1:=zh (CLi.out _ az.out.ine);rw[HO.out]at CL1;clear CP CLi CLn CCe CNa CMa CW CEy CEd CWh CLy CLo
   go_wp2_with fail
   refine CL1.out.mono ?_;clear x0 x1 x2;cases O with
   |ok t ts c=>
    rintro e w4 ⟨k1,cs,rfl,g1,g2,g3,g4,g5,g6,g7,g8⟩;obtain⟨C,rfl⟩:∃ C:List Value,cs=C.toArray:=⟨cs.toList,by simp⟩
    have yC:Hid (C.length=22):=zh (by have:=g8.1;rwa [yd]at this);have yo:=zh g8.2.1;have HX:=zh (⟨g1,g2,g3,g4,g5,g8⟩:k<=k1/\k1<E.L.length/\ts=E.L.drop k1/\c+k<=nd+k1/\nd<=c/\NV w4 (List.range w5.heap.size) c t C.toArray);have ak:=zh (az.out.step g6 g7);have ir:=zh (az.out.lt 1 rfl);clear g1 g2 g3 g4 g5 g6 g7 g8 az CL1;have HT:=zh (ak.out.there 1 rfl C.toArray.size (by rw[yd,yC.out];rfl));have ag:=zh (ak.out.fill hE 1 rfl C (by rw[yC.out];rfl));have zi:=fo yC.out
    go_wp2_with (first |(refine yq rfl 41 (.tmp 2) (.tmp 26) rfl q 0 C.toArray rfl rfl HT.out zi yo.out ?_;change wpList _ _ _ _ _ (World.setCells _ q 0 C);generalize lf:World.setCells _ _ _ _=wz at ag ⊢))
    have HA:=zh (ag.out.li 1 rfl);refine yt (aM rfl rfl HA.out (by rw[yd,yC.out])) rfl ?_;have bn:Kp [q] w4 wz:=by rw[<- lf];exact aT (.inl (.head _)) C 0 (Kp.refl _ _)
    exact⟨k1,C.toArray,rfl,HX.out.1,HX.out.2.1,HX.out.2.2.1,HX.out.2.2.2.1,HX.out.2.2.2.2.1,ag.out.ine,ag.out.kp,(HX.out.2.2.2.2.2.kpX bn (fun y hy=>by rw[yf.1 hy];exact yg.2 ir.out)).anti (fun y hy _=>yg.2 (by have:=yg.1 hy;have:=ir.out;have:=HQ.out;omega))⟩
   |bad e0 p0=>
    rintro e w4 ⟨cs,k1,op1,nd1,rfl,g1,g2,g3,g4,g5,g6,g7⟩;obtain⟨C,rfl⟩:∃ C:List Value,cs=C.toArray:=⟨cs.toList,by simp⟩
    have yC:Hid (C.length=22):=zh (by rwa [yd]at g1);have yo:=zh g2;have HX:=zh (⟨g3,g4,g5⟩:k<=k1/\k1<E.L.length/\nd1+k<=nd+k1);have ak:=zh (az.out.step g6 g7);clear g1 g2 g3 g4 g5 g6 g7 az CL1;have HT:=zh (ak.out.there 1 rfl C.toArray.size (by rw[yd,yC.out];rfl));have ag:=zh (ak.out.fill hE 1 rfl C (by rw[yC.out];rfl));have zi:=fo yC.out
    go_wp2_with (first |(refine yq rfl 41 (.tmp 2) (.tmp 26) rfl q 0 C.toArray rfl rfl HT.out zi yo.out ?_;change wpList _ _ _ _ _ (World.setCells _ q 0 C);generalize World.setCells _ _ _ _=wz at ag ⊢))
    have HA:=zh (ag.out.li 1 rfl);refine yt (aM rfl rfl HA.out (by rw[yd,yC.out])) rfl ?_;exact⟨C.toArray,k1,op1,nd1,rfl,by rw[yd,yC.out],yo.out,HX.out.1,HX.out.2.1,HX.out.2.2,ag.out.ine,ag.out.kp⟩
  rw[if_pos rfl]at HO;have CL1:=zh (CLn.out _ az.out.ine);rw[HO.out]at CL1;clear CP CLi CLn CCe CNa CMa CW CEy CEd CWh CLy CLo
  go_wp2_with fail
  refine CL1.out.mono ?_;clear x0 x1 x2;cases O with
  |ok t ts c=>
   rintro e w4 ⟨k1,cs,rfl,g1,g2,g3,g4,g5,g6,g7,g8⟩;obtain⟨C,rfl⟩:∃ C:List Value,cs=C.toArray:=⟨cs.toList,by simp⟩
   have yC:Hid (C.length=22):=zh (by have:=g8.1;rwa [yd]at this);have yo:=zh g8.2.1;have HX:=zh (⟨g1,g2,g3,g4,g5,g8⟩:k<=k1/\k1<E.L.length/\ts=E.L.drop k1/\c+k<=nd+k1/\nd<=c/\NV w4 (List.range w5.heap.size) c t C.toArray);have ak:=zh (az.out.step g6 g7);have ir:=zh (az.out.lt 1 rfl);clear g1 g2 g3 g4 g5 g6 g7 g8 az CL1;have HT:=zh (ak.out.there 1 rfl C.toArray.size (by rw[yd,yC.out];rfl));have ag:=zh (ak.out.fill hE 1 rfl C (by rw[yC.out];rfl));have zi:=fo yC.out
   go_wp2_with (first |(refine yq rfl 41 (.tmp 2) (.tmp 22) rfl q 0 C.toArray rfl rfl HT.out zi yo.out ?_;change wpList _ _ _ _ _ (World.setCells _ q 0 C);generalize lf:World.setCells _ _ _ _=wz at ag ⊢))
   have HA:=zh (ag.out.li 1 rfl);refine yt (aM rfl rfl HA.out (by rw[yd,yC.out])) rfl ?_;have bn:Kp [q] w4 wz:=by rw[<- lf];exact aT (.inl (.head _)) C 0 (Kp.refl _ _)
   exact⟨k1,C.toArray,rfl,HX.out.1,HX.out.2.1,HX.out.2.2.1,HX.out.2.2.2.1,HX.out.2.2.2.2.1,ag.out.ine,ag.out.kp,(HX.out.2.2.2.2.2.kpX bn (fun y hy=>by rw[yf.1 hy];exact yg.2 ir.out)).anti (fun y hy _=>yg.2 (by have:=yg.1 hy;have:=ir.out;have:=HQ.out;omega))⟩
  |bad e0 p0=>
   rintro e w4 ⟨cs,k1,op1,nd1,rfl,g1,g2,g3,g4,g5,g6,g7⟩;obtain⟨C,rfl⟩:∃ C:List Value,cs=C.toArray:=⟨cs.toList,by simp⟩
   have yC:Hid (C.length=22):=zh (by rwa [yd]at g1);have yo:=zh g2;have HX:=zh (⟨g3,g4,g5⟩:k<=k1/\k1<E.L.length/\nd1+k<=nd+k1);have ak:=zh (az.out.step g6 g7);clear g1 g2 g3 g4 g5 g6 g7 az CL1;have HT:=zh (ak.out.there 1 rfl C.toArray.size (by rw[yd,yC.out];rfl));have ag:=zh (ak.out.fill hE 1 rfl C (by rw[yC.out];rfl));have zi:=fo yC.out
   go_wp2_with (first |(refine yq rfl 41 (.tmp 2) (.tmp 22) rfl q 0 C.toArray rfl rfl HT.out zi yo.out ?_;change wpList _ _ _ _ _ (World.setCells _ q 0 C);generalize World.setCells _ _ _ _=wz at ag ⊢))
   have HA:=zh (ag.out.li 1 rfl);refine yt (aM rfl rfl HA.out (by rw[yd,yC.out])) rfl ?_;exact⟨C.toArray,k1,op1,nd1,rfl,by rw[yd,yC.out],yo.out,HX.out.1,HX.out.2.1,HX.out.2.2,ag.out.ine,ag.out.kp⟩
 rw[if_neg h1]at HO;have n1:((tk:Int)==1)=false:=by simp;omega
 by_cases h26:tk=2\/tk=6
 ·rw[if_pos h26]at HO;rcases h26 with rfl|rfl
  ·skip
   have CL1:=zh (CLi.out _ az.out.ine);rw[HO.out]at CL1;clear CP CLi CLn CCe CNa CMa CW CEy CEd CWh CLy CLo
   go_wp2_with fail
   refine CL1.out.mono ?_;clear x0 x1 x2;cases O with
   |ok t ts c=>
    rintro e w4 ⟨k1,cs,rfl,g1,g2,g3,g4,g5,g6,g7,g8⟩;obtain⟨C,rfl⟩:∃ C:List Value,cs=C.toArray:=⟨cs.toList,by simp⟩
    have yC:Hid (C.length=22):=zh (by have:=g8.1;rwa [yd]at this);have yo:=zh g8.2.1;have HX:=zh (⟨g1,g2,g3,g4,g5,g8⟩:k<=k1/\k1<E.L.length/\ts=E.L.drop k1/\c+k<=nd+k1/\nd<=c/\NV w4 (List.range w5.heap.size) c t C.toArray);have ak:=zh (az.out.step g6 g7);have ir:=zh (az.out.lt 1 rfl);clear g1 g2 g3 g4 g5 g6 g7 g8 az CL1;have HT:=zh (ak.out.there 1 rfl C.toArray.size (by rw[yd,yC.out];rfl));have ag:=zh (ak.out.fill hE 1 rfl C (by rw[yC.out];rfl));have zi:=fo yC.out
    go_wp2_with (first |(refine yq rfl 41 (.tmp 2) (.tmp 33) rfl q 0 C.toArray rfl rfl HT.out zi yo.out ?_;change wpList _ _ _ _ _ (World.setCells _ q 0 C);generalize lf:World.setCells _ _ _ _=wz at ag ⊢))
    have HA:=zh (ag.out.li 1 rfl);refine yt (aM rfl rfl HA.out (by rw[yd,yC.out])) rfl ?_;have bn:Kp [q] w4 wz:=by rw[<- lf];exact aT (.inl (.head _)) C 0 (Kp.refl _ _)
    exact⟨k1,C.toArray,rfl,HX.out.1,HX.out.2.1,HX.out.2.2.1,HX.out.2.2.2.1,HX.out.2.2.2.2.1,ag.out.ine,ag.out.kp,(HX.out.2.2.2.2.2.kpX bn (fun y hy=>by rw[yf.1 hy];exact yg.2 ir.out)).anti (fun y hy _=>yg.2 (by have:=yg.1 hy;have:=ir.out;have:=HQ.out;omega))⟩
   |bad e0 p0=>
    rintro e w4 ⟨cs,k1,op1,nd1,rfl,g1,g2,g3,g4,g5,g6,g7⟩;obtain⟨C,rfl⟩:∃ C:List Value,cs=C.toArray:=⟨cs.toList,by simp⟩
    have yC:Hid (C.length=22):=zh (by rwa [yd]at g1);have yo:=zh g2;have HX:=zh (⟨g3,g4,g5⟩:k<=k1/\k1<E.L.length/\nd1+k<=nd+k1);have ak:=zh (az.out.step g6 g7);clear g1 g2 g3 g4 g5 g6 g7 az CL1;have HT:=zh (ak.out.there 1 rfl C.toArray.size (by rw[yd,yC.out];rfl));have ag:=zh (ak.out.fill hE 1 rfl C (by rw[yC.out];rfl));have zi:=fo yC.out
    go_wp2_with (first |(refine yq rfl 41 (.tmp 2) (.tmp 33) rfl q 0 C.toArray rfl rfl HT.out zi yo.out ?_;change wpList _ _ _ _ _ (World.setCells _ q 0 C);generalize World.setCells _ _ _ _=wz at ag ⊢))
    have HA:=zh (ag.out.li 1 rfl);refine yt (aM rfl rfl HA.out (by rw[yd,yC.out])) rfl ?_;exact⟨C.toArray,k1,op1,nd1,rfl,by rw[yd,yC.out],yo.out,HX.out.1,HX.out.2.1,HX.out.2.2,ag.out.ine,ag.out.kp⟩
  skip
  have CL1:=zh (CLi.out _ az.out.ine);rw[HO.out]at CL1;clear CP CLi CLn CCe CNa CMa CW CEy CEd CWh CLy CLo
  go_wp2_with fail
  refine CL1.out.mono ?_;clear x0 x1 x2;cases O with
  |ok t ts c=>
   rintro e w4 ⟨k1,cs,rfl,g1,g2,g3,g4,g5,g6,g7,g8⟩;obtain⟨C,rfl⟩:∃ C:List Value,cs=C.toArray:=⟨cs.toList,by simp⟩
   have yC:Hid (C.length=22):=zh (by have:=g8.1;rwa [yd]at this);have yo:=zh g8.2.1;have HX:=zh (⟨g1,g2,g3,g4,g5,g8⟩:k<=k1/\k1<E.L.length/\ts=E.L.drop k1/\c+k<=nd+k1/\nd<=c/\NV w4 (List.range w5.heap.size) c t C.toArray);have ak:=zh (az.out.step g6 g7);have ir:=zh (az.out.lt 1 rfl);clear g1 g2 g3 g4 g5 g6 g7 g8 az CL1;have HT:=zh (ak.out.there 1 rfl C.toArray.size (by rw[yd,yC.out];rfl));have ag:=zh (ak.out.fill hE 1 rfl C (by rw[yC.out];rfl));have zi:=fo yC.out
   go_wp2_with (first |(refine yq rfl 41 (.tmp 2) (.tmp 33) rfl q 0 C.toArray rfl rfl HT.out zi yo.out ?_;change wpList _ _ _ _ _ (World.setCells _ q 0 C);generalize lf:World.setCells _ _ _ _=wz at ag ⊢))
   have HA:=zh (ag.out.li 1 rfl);refine yt (aM rfl rfl HA.out (by rw[yd,yC.out])) rfl ?_;have bn:Kp [q] w4 wz:=by rw[<- lf];exact aT (.inl (.head _)) C 0 (Kp.refl _ _)
   exact⟨k1,C.toArray,rfl,HX.out.1,HX.out.2.1,HX.out.2.2.1,HX.out.2.2.2.1,HX.out.2.2.2.2.1,ag.out.ine,ag.out.kp,(HX.out.2.2.2.2.2.kpX bn (fun y hy=>by rw[yf.1 hy];exact yg.2 ir.out)).anti (fun y hy _=>yg.2 (by have:=yg.1 hy;have:=ir.out;have:=HQ.out;omega))⟩
  |bad e0 p0=>
   rintro e w4 ⟨cs,k1,op1,nd1,rfl,g1,g2,g3,g4,g5,g6,g7⟩;obtain⟨C,rfl⟩:∃ C:List Value,cs=C.toArray:=⟨cs.toList,by simp⟩
   have yC:Hid (C.length=22):=zh (by rwa [yd]at g1);have yo:=zh g2;have HX:=zh (⟨g3,g4,g5⟩:k<=k1/\k1<E.L.length/\nd1+k<=nd+k1);have ak:=zh (az.out.step g6 g7);clear g1 g2 g3 g4 g5 g6 g7 az CL1;have HT:=zh (ak.out.there 1 rfl C.toArray.size (by rw[yd,yC.out];rfl));have ag:=zh (ak.out.fill hE 1 rfl C (by rw[yC.out];rfl));have zi:=fo yC.out
   go_wp2_with (first |(refine yq rfl 41 (.tmp 2) (.tmp 33) rfl q 0 C.toArray rfl rfl HT.out zi yo.out ?_;change wpList _ _ _ _ _ (World.setCells _ q 0 C);generalize World.setCells _ _ _ _=wz at ag ⊢))
   have HA:=zh (ag.out.li 1 rfl);refine yt (aM rfl rfl HA.out (by rw[yd,yC.out])) rfl ?_;exact⟨C.toArray,k1,op1,nd1,rfl,by rw[yd,yC.out],yo.out,HX.out.1,HX.out.2.1,HX.out.2.2,ag.out.ine,ag.out.kp⟩
 rw[if_neg h26]at HO;have n2:((tk:Int)==2)=false:=by simp;omega
 have n6:((tk:Int)==6)=false:=by simp;omega
 by_cases h3:tk=3
 ·subst h3;rw[if_pos rfl]at HO;clear n1 n2 n6 h1 h26;cases b58
  ·rw[if_neg (by decide)]at HO;have CL1:=zh (CNa.out (by decide) _ az.out.ine);rw[HO.out]at CL1;clear CP CLi CLn CCe CNa CMa CW CEy CEd CWh CLy CLo
   go_wp2_with fail
   refine CL1.out.mono ?_;clear x0 x1 x2;cases O with
   |ok t ts c=>
    rintro e w4 ⟨k1,cs,rfl,g1,g2,g3,g4,g5,g6,g7,g8⟩;obtain⟨C,rfl⟩:∃ C:List Value,cs=C.toArray:=⟨cs.toList,by simp⟩
    have yC:Hid (C.length=22):=zh (by have:=g8.1;rwa [yd]at this);have yo:=zh g8.2.1;have HX:=zh (⟨g1,g2,g3,g4,g5,g8⟩:k<=k1/\k1<E.L.length/\ts=E.L.drop k1/\c+k<=nd+k1/\nd<=c/\NV w4 (List.range w5.heap.size) c t C.toArray);have ak:=zh (az.out.step g6 g7);have ir:=zh (az.out.lt 1 rfl);clear g1 g2 g3 g4 g5 g6 g7 g8 az CL1;have HT:=zh (ak.out.there 1 rfl C.toArray.size (by rw[yd,yC.out];rfl));have ag:=zh (ak.out.fill hE 1 rfl C (by rw[yC.out];rfl));have zi:=fo yC.out
    go_wp2_with (first |(refine yq rfl 41 (.tmp 2) (.tmp 44) rfl q 0 C.toArray rfl rfl HT.out zi yo.out ?_;change wpList _ _ _ _ _ (World.setCells _ q 0 C);generalize lf:World.setCells _ _ _ _=wz at ag ⊢))
    have HA:=zh (ag.out.li 1 rfl);refine yt (aM rfl rfl HA.out (by rw[yd,yC.out])) rfl ?_;have bn:Kp [q] w4 wz:=by rw[<- lf];exact aT (.inl (.head _)) C 0 (Kp.refl _ _)
    exact⟨k1,C.toArray,rfl,HX.out.1,HX.out.2.1,HX.out.2.2.1,HX.out.2.2.2.1,HX.out.2.2.2.2.1,ag.out.ine,ag.out.kp,(HX.out.2.2.2.2.2.kpX bn (fun y hy=>by rw[yf.1 hy];exact yg.2 ir.out)).anti (fun y hy _=>yg.2 (by have:=yg.1 hy;have:=ir.out;have:=HQ.out;omega))⟩
   |bad e0 p0=>
    rintro e w4 ⟨cs,k1,op1,nd1,rfl,g1,g2,g3,g4,g5,g6,g7⟩;obtain⟨C,rfl⟩:∃ C:List Value,cs=C.toArray:=⟨cs.toList,by simp⟩
    have yC:Hid (C.length=22):=zh (by rwa [yd]at g1);have yo:=zh g2;have HX:=zh (⟨g3,g4,g5⟩:k<=k1/\k1<E.L.length/\nd1+k<=nd+k1);have ak:=zh (az.out.step g6 g7);clear g1 g2 g3 g4 g5 g6 g7 az CL1;have HT:=zh (ak.out.there 1 rfl C.toArray.size (by rw[yd,yC.out];rfl));have ag:=zh (ak.out.fill hE 1 rfl C (by rw[yC.out];rfl));have zi:=fo yC.out
    go_wp2_with (first |(refine yq rfl 41 (.tmp 2) (.tmp 44) rfl q 0 C.toArray rfl rfl HT.out zi yo.out ?_;change wpList _ _ _ _ _ (World.setCells _ q 0 C);generalize World.setCells _ _ _ _=wz at ag ⊢))
    have HA:=zh (ag.out.li 1 rfl);refine yt (aM rfl rfl HA.out (by rw[yd,yC.out])) rfl ?_;exact⟨C.toArray,k1,op1,nd1,rfl,by rw[yd,yC.out],yo.out,HX.out.1,HX.out.2.1,HX.out.2.2,ag.out.ine,ag.out.kp⟩
  rw[if_pos rfl]at HO;have CL1:=zh (CLn.out _ az.out.ine);rw[HO.out]at CL1;clear CP CLi CLn CCe CNa CMa CW CEy CEd CWh CLy CLo
  go_wp2_with fail
  refine CL1.out.mono ?_;clear x0 x1 x2;cases O with
  |ok t ts c=>
   rintro e w4 ⟨k1,cs,rfl,g1,g2,g3,g4,g5,g6,g7,g8⟩;obtain⟨C,rfl⟩:∃ C:List Value,cs=C.toArray:=⟨cs.toList,by simp⟩
   have yC:Hid (C.length=22):=zh (by have:=g8.1;rwa [yd]at this);have yo:=zh g8.2.1;have HX:=zh (⟨g1,g2,g3,g4,g5,g8⟩:k<=k1/\k1<E.L.length/\ts=E.L.drop k1/\c+k<=nd+k1/\nd<=c/\NV w4 (List.range w5.heap.size) c t C.toArray);have ak:=zh (az.out.step g6 g7);have ir:=zh (az.out.lt 1 rfl);clear g1 g2 g3 g4 g5 g6 g7 g8 az CL1;have HT:=zh (ak.out.there 1 rfl C.toArray.size (by rw[yd,yC.out];rfl));have ag:=zh (ak.out.fill hE 1 rfl C (by rw[yC.out];rfl));have zi:=fo yC.out
   go_wp2_with (first |(refine yq rfl 41 (.tmp 2) (.tmp 40) rfl q 0 C.toArray rfl rfl HT.out zi yo.out ?_;change wpList _ _ _ _ _ (World.setCells _ q 0 C);generalize lf:World.setCells _ _ _ _=wz at ag ⊢))
   have HA:=zh (ag.out.li 1 rfl);refine yt (aM rfl rfl HA.out (by rw[yd,yC.out])) rfl ?_;have bn:Kp [q] w4 wz:=by rw[<- lf];exact aT (.inl (.head _)) C 0 (Kp.refl _ _)
   exact⟨k1,C.toArray,rfl,HX.out.1,HX.out.2.1,HX.out.2.2.1,HX.out.2.2.2.1,HX.out.2.2.2.2.1,ag.out.ine,ag.out.kp,(HX.out.2.2.2.2.2.kpX bn (fun y hy=>by rw[yf.1 hy];exact yg.2 ir.out)).anti (fun y hy _=>yg.2 (by have:=yg.1 hy;have:=ir.out;have:=HQ.out;omega))⟩
  |bad e0 p0=>
   rintro e w4 ⟨cs,k1,op1,nd1,rfl,g1,g2,g3,g4,g5,g6,g7⟩;obtain⟨C,rfl⟩:∃ C:List Value,cs=C.toArray:=⟨cs.toList,by simp⟩
   have yC:Hid (C.length=22):=zh (by rwa [yd]at g1);have yo:=zh g2;have HX:=zh (⟨g3,g4,g5⟩:k<=k1/\k1<E.L.length/\nd1+k<=nd+k1);have ak:=zh (az.out.step g6 g7);clear g1 g2 g3 g4 g5 g6 g7 az CL1;have HT:=zh (ak.out.there 1 rfl C.toArray.size (by rw[yd,yC.out];rfl));have ag:=zh (ak.out.fill hE 1 rfl C (by rw[yC.out];rfl));have zi:=fo yC.out
   go_wp2_with (first |(refine yq rfl 41 (.tmp 2) (.tmp 40) rfl q 0 C.toArray rfl rfl HT.out zi yo.out ?_;change wpList _ _ _ _ _ (World.setCells _ q 0 C);generalize World.setCells _ _ _ _=wz at ag ⊢))
   have HA:=zh (ag.out.li 1 rfl);refine yt (aM rfl rfl HA.out (by rw[yd,yC.out])) rfl ?_;exact⟨C.toArray,k1,op1,nd1,rfl,by rw[yd,yC.out],yo.out,HX.out.1,HX.out.2.1,HX.out.2.2,ag.out.ine,ag.out.kp⟩
 rw[if_neg h3]at HO;have n3:((tk:Int)==3)=false:=by simp;omega
 by_cases h4:tk=4
 ·subst h4;rw[if_pos rfl]at HO;clear n1 n2 n3 n6 h1 h26 h3;unfold iL at CP;cases hm:bA tx with
  |none=>
   rw[hm]at HO CP;simp only[Option.isSome_none,Bool.false_eq_true,if_false]at HO;dsimp only[jF]at CP
   go_wp2_with fail
   refine(CP.out _).mono ?_;rintro e w6 ⟨rfl,hb⟩;have al:=zh ((az.out.next hb).alloc 150 #[.int .i64 0,.int .i64 0,.bool false,.bool false] (by decide));clear hb az CP;clear x0 x1 x2
   go_upto_region 17 with fail
   generalize World.alloc _ _=W6 at al ⊢;have CL1:=zh (CLn.out _ al.out.ine);rw[HO.out]at CL1;clear CLi CLn CCe CNa CMa CW CEy CEd CWh CLy CLo
   go_wp2_with fail
   refine CL1.out.mono ?_;cases O with
   |ok t ts c=>
    rintro e w4 ⟨k1,cs,rfl,g1,g2,g3,g4,g5,g6,g7,g8⟩;obtain⟨C,rfl⟩:∃ C:List Value,cs=C.toArray:=⟨cs.toList,by simp⟩
    have yC:Hid (C.length=22):=zh (by have:=g8.1;rwa [yd]at this);have yo:=zh g8.2.1;have HX:=zh (⟨g1,g2,g3,g4,g5,g8⟩:k<=k1/\k1<E.L.length/\ts=E.L.drop k1/\c+k<=nd+k1/\nd<=c/\NV w4 (List.range W6.heap.size) c t C.toArray);have ak:=zh (al.out.step g6 g7);have ir:=zh (al.out.lt 2 rfl);clear g1 g2 g3 g4 g5 g6 g7 g8 al CL1;have HT:=zh (ak.out.there 2 rfl C.toArray.size (by rw[yd,yC.out];rfl));have ag:=zh (ak.out.fill hE 2 rfl C (by rw[yC.out];rfl));have zi:=fo yC.out
    go_wp2_with (first |(refine yq rfl 41 (.tmp 2) (.tmp 61) rfl q 0 C.toArray rfl rfl HT.out zi yo.out ?_;change wpList _ _ _ _ _ (World.setCells _ q 0 C);generalize lf:World.setCells _ _ _ _=wz at ag ⊢))
    have HA:=zh (ag.out.li 2 rfl);refine yt (aM rfl rfl HA.out (by rw[yd,yC.out])) rfl ?_;have bn:Kp [q] w4 wz:=by rw[<- lf];exact aT (.inl (.head _)) C 0 (Kp.refl _ _)
    exact⟨k1,C.toArray,rfl,HX.out.1,HX.out.2.1,HX.out.2.2.1,HX.out.2.2.2.1,HX.out.2.2.2.2.1,ag.out.ine,ag.out.kp,(HX.out.2.2.2.2.2.kpX bn (fun y hy=>by rw[yf.1 hy];exact yg.2 ir.out)).anti (fun y hy _=>yg.2 (by have:=yg.1 hy;have:=ir.out;have:=HQ.out;omega))⟩
   |bad e0 p0=>
    rintro e w4 ⟨cs,k1,op1,nd1,rfl,g1,g2,g3,g4,g5,g6,g7⟩;obtain⟨C,rfl⟩:∃ C:List Value,cs=C.toArray:=⟨cs.toList,by simp⟩
    have yC:Hid (C.length=22):=zh (by rwa [yd]at g1);have yo:=zh g2;have HX:=zh (⟨g3,g4,g5⟩:k<=k1/\k1<E.L.length/\nd1+k<=nd+k1);have ak:=zh (al.out.step g6 g7);clear g1 g2 g3 g4 g5 g6 g7 al CL1;have HT:=zh (ak.out.there 2 rfl C.toArray.size (by rw[yd,yC.out];rfl));have ag:=zh (ak.out.fill hE 2 rfl C (by rw[yC.out];rfl));have zi:=fo yC.out
    go_wp2_with (first |(refine yq rfl 41 (.tmp 2) (.tmp 61) rfl q 0 C.toArray rfl rfl HT.out zi yo.out ?_;change wpList _ _ _ _ _ (World.setCells _ q 0 C);generalize World.setCells _ _ _ _=wz at ag ⊢))
    have HA:=zh (ag.out.li 2 rfl);refine yt (aM rfl rfl HA.out (by rw[yd,yC.out])) rfl ?_;exact⟨C.toArray,k1,op1,nd1,rfl,by rw[yd,yC.out],yo.out,HX.out.1,HX.out.2.1,HX.out.2.2,ag.out.ine,ag.out.kp⟩
  |some m=>
   rw[hm]at HO CP;simp only[Option.isSome_some,if_true]at HO;dsimp only[jF]at CP
   go_wp2_with fail
   refine(CP.out _).mono ?_;rintro e w6 ⟨rfl,hb⟩;have al:=zh ((az.out.next hb).alloc 150 #[.int .i64 (m.row:Int),.int .i64 (m.col:Int),.bool m.fr,.bool m.fc] (by decide));clear hb az CP;clear x0 x1 x2
   go_upto_region 17 with fail
   generalize World.alloc _ _=W6 at al ⊢;have CL1:=zh (CCe.out _ al.out.ine);rw[HO.out]at CL1;clear CLi CLn CCe CNa CMa CW CEy CEd CWh CLy CLo
   go_wp2_with fail
   refine CL1.out.mono ?_;cases O with
   |ok t ts c=>
    rintro e w4 ⟨k1,cs,rfl,g1,g2,g3,g4,g5,g6,g7,g8⟩;obtain⟨C,rfl⟩:∃ C:List Value,cs=C.toArray:=⟨cs.toList,by simp⟩
    have yC:Hid (C.length=22):=zh (by have:=g8.1;rwa [yd]at this);have yo:=zh g8.2.1;have HX:=zh (⟨g1,g2,g3,g4,g5,g8⟩:k<=k1/\k1<E.L.length/\ts=E.L.drop k1/\c+k<=nd+k1/\nd<=c/\NV w4 (List.range W6.heap.size) c t C.toArray);have ak:=zh (al.out.step g6 g7);have ir:=zh (al.out.lt 2 rfl);clear g1 g2 g3 g4 g5 g6 g7 g8 al CL1;have HT:=zh (ak.out.there 2 rfl C.toArray.size (by rw[yd,yC.out];rfl));have ag:=zh (ak.out.fill hE 2 rfl C (by rw[yC.out];rfl));have zi:=fo yC.out
    go_wp2_with (first |(refine yq rfl 41 (.tmp 2) (.tmp 57) rfl q 0 C.toArray rfl rfl HT.out zi yo.out ?_;change wpList _ _ _ _ _ (World.setCells _ q 0 C);generalize lf:World.setCells _ _ _ _=wz at ag ⊢))
    have HA:=zh (ag.out.li 2 rfl);refine yt (aM rfl rfl HA.out (by rw[yd,yC.out])) rfl ?_;have bn:Kp [q] w4 wz:=by rw[<- lf];exact aT (.inl (.head _)) C 0 (Kp.refl _ _)
    exact⟨k1,C.toArray,rfl,HX.out.1,HX.out.2.1,HX.out.2.2.1,HX.out.2.2.2.1,HX.out.2.2.2.2.1,ag.out.ine,ag.out.kp,(HX.out.2.2.2.2.2.kpX bn (fun y hy=>by rw[yf.1 hy];exact yg.2 ir.out)).anti (fun y hy _=>yg.2 (by have:=yg.1 hy;have:=ir.out;have:=HQ.out;omega))⟩
   |bad e0 p0=>
    rintro e w4 ⟨cs,k1,op1,nd1,rfl,g1,g2,g3,g4,g5,g6,g7⟩;obtain⟨C,rfl⟩:∃ C:List Value,cs=C.toArray:=⟨cs.toList,by simp⟩
    have yC:Hid (C.length=22):=zh (by rwa [yd]at g1);have yo:=zh g2;have HX:=zh (⟨g3,g4,g5⟩:k<=k1/\k1<E.L.length/\nd1+k<=nd+k1);have ak:=zh (al.out.step g6 g7);clear g1 g2 g3 g4 g5 g6 g7 al CL1;have HT:=zh (ak.out.there 2 rfl C.toArray.size (by rw[yd,yC.out];rfl));have ag:=zh (ak.out.fill hE 2 rfl C (by rw[yC.out];rfl));have zi:=fo yC.out
    go_wp2_with (first |(refine yq rfl 41 (.tmp 2) (.tmp 57) rfl q 0 C.toArray rfl rfl HT.out zi yo.out ?_;change wpList _ _ _ _ _ (World.setCells _ q 0 C);generalize World.setCells _ _ _ _=wz at ag ⊢))
    have HA:=zh (ag.out.li 2 rfl);refine yt (aM rfl rfl HA.out (by rw[yd,yC.out])) rfl ?_;exact⟨C.toArray,k1,op1,nd1,rfl,by rw[yd,yC.out],yo.out,HX.out.1,HX.out.2.1,HX.out.2.2,ag.out.ine,ag.out.kp⟩
 rw[if_neg h4]at HO;have n4:((tk:Int)==4)=false:=by simp;omega
 have CS1:=zh (CS.out ⟨tk,tx,tp⟩ [40] w5);clear CP CLi CLn CCe CNa h1 h26 h3 h4
 go_wp2_with fail
 refine CS1.out.mono ?_;rintro e w6 ⟨rfl,hb⟩;have al:=zh (az.out.next hb);clear hb az CS1 n1 n2 n3 n4 n6;clear x0 x1 x2;cases hb40:isS ⟨tk,tx,tp⟩ [40] with
 |false=>
  rw[hb40,if_neg (by decide)]at HO;clear CEy CEd CWh CLy CLo;have x0:=(al.out.li 0 rfl).cell 0;have x1:=(al.out.li 0 rfl).cell 1;have x2:=(al.out.li 0 rfl).cell 2;simp only[za,zb,zf]at x0 x1 x2;have CS1:=zh (CS.out ⟨tk,tx,tp⟩ [123] w6)
  go_wp2_with fail
  refine CS1.out.mono ?_;rintro e w7 ⟨rfl,hb⟩;have c9:=zh (al.out.next hb);clear hb al CS1;clear x0 x1 x2;cases wj:isS ⟨tk,tx,tp⟩ [123] with
  |true=>
   rw[wj,if_pos rfl]at HO;have CL1:=zh (CMa.out wj _ c9.out.ine);rw[HO.out]at CL1;clear CMa CW
   go_wp2_with fail
   refine CL1.out.mono ?_;cases O with
   |ok t ts c=>
    rintro e w4 ⟨k1,cs,rfl,g1,g2,g3,g4,g5,g6,g7,g8⟩;obtain⟨C,rfl⟩:∃ C:List Value,cs=C.toArray:=⟨cs.toList,by simp⟩
    have yC:Hid (C.length=22):=zh (by have:=g8.1;rwa [yd]at this);have yo:=zh g8.2.1;have HX:=zh (⟨g1,g2,g3,g4,g5,g8⟩:k<=k1/\k1<E.L.length/\ts=E.L.drop k1/\c+k<=nd+k1/\nd<=c/\NV w4 (List.range w7.heap.size) c t C.toArray);have ak:=zh (c9.out.step g6 g7);have ir:=zh (c9.out.lt 1 rfl);clear g1 g2 g3 g4 g5 g6 g7 g8 c9 CL1;have HT:=zh (ak.out.there 1 rfl C.toArray.size (by rw[yd,yC.out];rfl));have ag:=zh (ak.out.fill hE 1 rfl C (by rw[yC.out];rfl));have zi:=fo yC.out
    go_wp2_with (first |(refine yq rfl 41 (.tmp 2) (.tmp 86) rfl q 0 C.toArray rfl rfl HT.out zi yo.out ?_;change wpList _ _ _ _ _ (World.setCells _ q 0 C);generalize lf:World.setCells _ _ _ _=wz at ag ⊢))
    have HA:=zh (ag.out.li 1 rfl);refine yt (aM rfl rfl HA.out (by rw[yd,yC.out])) rfl ?_;have bn:Kp [q] w4 wz:=by rw[<- lf];exact aT (.inl (.head _)) C 0 (Kp.refl _ _)
    exact⟨k1,C.toArray,rfl,HX.out.1,HX.out.2.1,HX.out.2.2.1,HX.out.2.2.2.1,HX.out.2.2.2.2.1,ag.out.ine,ag.out.kp,(HX.out.2.2.2.2.2.kpX bn (fun y hy=>by rw[yf.1 hy];exact yg.2 ir.out)).anti (fun y hy _=>yg.2 (by have:=yg.1 hy;have:=ir.out;have:=HQ.out;omega))⟩
   |bad e0 p0=>
    rintro e w4 ⟨cs,k1,op1,nd1,rfl,g1,g2,g3,g4,g5,g6,g7⟩;obtain⟨C,rfl⟩:∃ C:List Value,cs=C.toArray:=⟨cs.toList,by simp⟩
    have yC:Hid (C.length=22):=zh (by rwa [yd]at g1);have yo:=zh g2;have HX:=zh (⟨g3,g4,g5⟩:k<=k1/\k1<E.L.length/\nd1+k<=nd+k1);have ak:=zh (c9.out.step g6 g7);clear g1 g2 g3 g4 g5 g6 g7 c9 CL1;have HT:=zh (ak.out.there 1 rfl C.toArray.size (by rw[yd,yC.out];rfl));have ag:=zh (ak.out.fill hE 1 rfl C (by rw[yC.out];rfl));have zi:=fo yC.out
    go_wp2_with (first |(refine yq rfl 41 (.tmp 2) (.tmp 86) rfl q 0 C.toArray rfl rfl HT.out zi yo.out ?_;change wpList _ _ _ _ _ (World.setCells _ q 0 C);generalize World.setCells _ _ _ _=wz at ag ⊢))
    have HA:=zh (ag.out.li 1 rfl);refine yt (aM rfl rfl HA.out (by rw[yd,yC.out])) rfl ?_;exact⟨C.toArray,k1,op1,nd1,rfl,by rw[yd,yC.out],yo.out,HX.out.1,HX.out.2.1,HX.out.2.2,ag.out.ine,ag.out.kp⟩
  |false=>
   rw[wj,if_neg (by decide)]at HO;have dc:=zh HO.out.symm;clear CMa HO
   go_wp2_with fail
   refine(CW.out _ c9.out.ine).mono ?_;rintro e wa ⟨rfl,h1,h2⟩;have cy:=zh (c9.out.step h1 h2.X);clear h1 h2 c9 CW;have HT:=zh (cy.out.there 1 rfl 22 rfl);have ag:=zh (cy.out.fill hE 1 rfl aA rfl)
   go_wp2_with (first |(refine yq rfl 41 (.tmp 2) (.tmp 88) rfl q 0 aA.toArray rfl rfl HT.out aF aW ?_;change wpList _ _ _ _ _ (World.setCells _ q 0 aA);generalize World.setCells _ _ _ _=wz at ag ⊢))
   have HA:=zh (ag.out.li 1 rfl);refine yt (aM rfl rfl HA.out rfl) rfl ?_;rw[dc.out];exact cE ag.out rfl aW zr HF.out.1 (by omega)
 |true=>
  rw[hb40,if_pos rfl]at HO;clear CMa CW;by_cases rp:64<=op
  ·rw[if_pos rp]at HO;have dc:=zh HO.out.symm;clear HO CEy CWh CLy CLo
   go_wp2_with fail
   refine(CEd.out rp _ al.out.ine).mono ?_;rintro e wa ⟨rfl,h1,h2⟩;have cy:=zh (al.out.step h1 h2.X);clear h1 h2 al CEd rp;have HT:=zh (cy.out.there 1 rfl 22 rfl);have ag:=zh (cy.out.fill hE 1 rfl aA rfl)
   go_wp2_with (first |(refine yq rfl 41 (.tmp 2) (.tmp 69) rfl q 0 aA.toArray rfl rfl HT.out aF aW ?_;change wpList _ _ _ _ _ (World.setCells _ q 0 aA);generalize World.setCells _ _ _ _=wz at ag ⊢))
   have HA:=zh (ag.out.li 1 rfl);refine yt (aM rfl rfl HA.out rfl) rfl ?_;rw[dc.out];exact cE ag.out rfl aW zr HF.out.1 (by omega)
  rw[if_neg rp]at HO;have sd:op<64:=by omega
  have dq:=qd.out k HF.out.1 (by rw[ur.out];exact dW hb40);have CWh1:=zh (CWh.out sd dq);have CEy1:=zh (CEy.out hb40 sd);clear CWh CEy CEd rp sd
  go_wp2_with fail
  refine(CEy1.out _ al.out.ine).mono ?_;rintro e w7 ⟨rfl,h1,h2⟩;have c9:=zh (al.out.step h1 h2.X);clear h1 h2 al CEy1;have CWh2:=zh (CWh1.out _ c9.out.ine);clear CWh1
  go_wp2_with fail
  refine CWh2.out.mono ?_;clear CWh2;cases hw:whole (op+1) (E.L.drop (k+1)) nd with
  |bad e1 p1=>
   rw[hw]at HO;have gm:Hid (Out.bad e1 p1=O):=HO;clear hw HO CLy CLo;rintro e w8 ⟨cs,k1,op1,nd1,rfl,g1,g2,g3,g4,g5,g6,g7⟩;obtain⟨C,rfl⟩:∃ C:List Value,cs=C.toArray:=⟨cs.toList,by simp⟩
   have yC:Hid (C.length=22):=zh (by rwa [yd]at g1);have yo:=zh g2;have HX:=zh (⟨by omega,g4,by omega⟩:k<=k1/\k1<E.L.length/\nd1+k<=nd+k1);have bj:=zh ((c9.out.step g6 g7).alloc 41 aA.toArray (by decide));clear g1 g2 g3 g4 g5 g6 g7 c9;have HT:=zh (bj.out.there 0 rfl C.toArray.size (by rw[yd,yC.out];rfl));have bl:=zh (bj.out.fill hE 0 rfl C (by rw[yC.out];rfl));have zi:=fo yC.out;have gb:(Tryz.prog.info? 41).map (·.size)=some C.length:=by rw[yC.out];exact aF
   simp only[aA,List.set_cons_zero]at bl HT
   go_upto_region 24 with(first |(refine yq rfl 41 (.tmp 8) (.tmp 73) rfl w8.heap.size 0 C.toArray rfl rfl HT.out zi yo.out ?_;change wpList _ _ _ _ _ (World.setCells _ w8.heap.size 0 C);generalize World.setCells _ _ _ _=W9 at bl ⊢;generalize w8.heap.size=q8 at bl ⊢))
   clear HT bj;obtain⟨P0,j4⟩:∃ R:World->Prop,∀ w',R w'↔(Fs E w k1 (op1) nd1 p1 e1 [(q8,41,C.toArray),(q4,70,#[.int .i64 tk,.string ⟨tx.toArray⟩,.int .i64 (tp:Int)]),(q,41,aA.toArray)] w'):=⟨_,fun _=>Iff.rfl⟩
   have ev:=zh j4;clear j4;obtain⟨R2,vi⟩:∃ R:World->Prop,∀ w',R w'↔(Fs E w k1 op1 nd1 p1 e1 [(q8,41,C.toArray),(q4,70,#[.int .i64 tk,.string ⟨tx.toArray⟩,.int .i64 (tp:Int)]),(q,41,C.toArray)] w'):=⟨_,fun _=>Iff.rfl⟩
   have c6:=zh vi;clear vi;obtain⟨TT,ae⟩:∃ TT:List (Nat×Nat×Value),TT=[(0,75,.agg C.toArray),(1,76,.bool false),(2,77,.bool false),(3,78,undef),(4,79,undef),(5,80,.bool false),(7,3,.bool false)]:=⟨_,rfl⟩
   have am:=zh ae;clear ae;refine bC (fun a0=>91<=a0.tmps.size/\a0.eval (.tmp 0)=.pointer (some ⟨E.r,0,none⟩)/\a0.eval (.tmp 2)=.pointer (some ⟨q,0,none⟩)/\a0.eval (.tmp 8)=.pointer (some ⟨q8,0,none⟩)/\a0.eval (.tmp 9)=.bool false) [75,76,77,78,79,80,3] TT [(6,R2)] P0 (by kernel_rfl) (by kernel_rfl) ⟨by simp,rfl,rfl,rfl,rfl⟩ ((ev.out _).2 (bl.out.next (Below.refl _ _).drew)) ?_ ?_
   ·rintro a0 ⟨hs,dh,ls,vt,hq9⟩ zl a1 w1 zj o bg hI aa ho zd;have ae:=am.out;subst ae;have hk:okU (([(0,75,.agg C.toArray),(1,76,.bool false),(2,77,.bool false),(3,78,undef),(4,79,undef),(5,80,.bool false),(7,3,.bool false)]:List (Nat×Nat×Value)).map fun e=>(e.1,e.2.1)) [75,76,77,78,79,80,3] 91=true:=by rfl
    have hj:=Up.of_false aa;have hj12:zj<8:=by rw[bg]at hj;exact hj
    have e0x:a1.eval (.tmp 0)=.pointer (some ⟨E.r,0,none⟩):=(hI.off.eval (by decide)).trans dh;have e2x:a1.eval (.tmp 2)=.pointer (some ⟨q,0,none⟩):=(hI.off.eval (by decide)).trans ls;have e8x:a1.eval (.tmp 8)=.pointer (some ⟨q8,0,none⟩):=(hI.off.eval (by decide)).trans vt;have e9x:a1.eval (.tmp 9)=.bool false:=(hI.off.eval (by decide)).trans hq9;(iterate 7 rcases zq hj12 with hj12|rfl);obtain rfl:=cz hj12;all_goals obtain rfl:=oi ho
    ·have hq:w1.rangeAt q8 0 C:=by
      obtain⟨jj,oo,hP⟩:=hI.low 0 (by simp) (fun m hm=>by obtain rfl:=Option.some.inj hm;kernel_rfl) aa;rcases(by omega:jj=0) with rfl;have hP:P0 w1:=hP;exact((ev.out _).1 hP).range 0 (l:=C) rfl
     exact aQ hk hI hs (.head _) (by simp) aa ho zd (aC rfl) rfl (aL 41 (.tmp 8) rfl q8 0 e8x C _ hq Tryz.underlying41 rfl gb)
    ·exact aQ hk hI hs (.tail _ (.head _)) (by simp) aa ho zd (aC rfl) rfl (by simp[execOp,go_sem,aE e9x])
    ·have d1:=ud zd 1;have p1:=pk hI.pt 1 rfl d1;exact aQ hk hI hs (mm 2 rfl) (by simp) aa ho zd (aC rfl) rfl (by simp[execOp,go_sem,aE p1])
    ·have d2:Up zl 2:=zd ⟨2,.guard⟩ (by simp) rfl;have p2:=pk hI.pt 2 rfl d2;exact aZ hk hI hs (mm 3 rfl) (by simp) aa ho zd (Eq.trans (aH rfl rfl rfl p2) rfl) rfl
    ·have d3:=ud zd 3;have p3:=pk hI.pt 3 rfl d3;have d2:Up zl 2:=zd ⟨2,.guard⟩ (by simp) rfl;have p2:=pk hI.pt 2 rfl d2;exact aZ hk hI hs (mm 4 rfl) (by simp) aa ho zd (Eq.trans (aH rfl rfl rfl p2) rfl) rfl
    ·have d2:=ud zd 2;have p2:=pk hI.pt 2 rfl d2;have d4:=ud zd 4;have p4:=pk hI.pt 4 rfl d4;exact aQ hk hI hs (mm 5 rfl) (by simp) aa ho zd (aC rfl) rfl (by simp[execOp,go_sem,aE p2,aE p4])
    ·have d0:=ud zd 0;have p0:=pk hI.pt 0 rfl d0;refine kI hI (by simp) (by kernel_rfl) [] [] R2 rfl aa ho zd (aC rfl) rfl (fun hP=>?_);have hP:P0 w1:=hP;have h:=(ev.out _).1 hP;have ht:=h.there 2 (cs:=aA.toArray) rfl C.toArray.size (by rw[yd,yC.out];rfl);refine⟨w1.setCells q 0 C,eI 41 (.tmp 2) (.tmp 75) rfl q 0 C.toArray e2x p0 ht zi yo.out,(c6.out _).2 (h.fill hE 2 rfl C (by rw[yC.out];rfl))⟩
    have d5:=ud zd 5;have p5:=pk hI.pt 5 rfl d5;exact aQ hk hI hs (mm 6 rfl) (by simp) aa ho zd (aC rfl) rfl (by simp[execOp,go_sem,aE p5])
   intro zl a1 w1 hI ap;have ae:=am.out;subst ae;have hF:R2 w1:=hI.st.last (fun m hm=>ap m.1 (by simp only[ym,List.not_mem_nil,or_false]at hm;rcases hm with rfl;all_goals simp));have z3:a1.eval (.tmp 3)=.bool false:=hI.pt (7,3,.bool false) (mm 6 rfl) (ap 7 (by decide));obtain⟨ff,rfl,hf⟩:=hI.off.forms;rw[<- hf 3]at z3;clear hI;simp only[List.foldl,Act.put,yz,List.set];rw[z3];have ml:=(c6.out _).1 hF;have HA:=zh (ml.li 2 rfl);simp only[Exit.then]
   go_step
   repeat go_step
   refine yt (aM rfl rfl HA.out (by rw[yd,yC.out])) rfl ?_;rw[<- gm.out];exact cE ml yC.out yo.out (by have:=HX.out;omega) HX.out.2.1 (by have:=HX.out;omega)
  |ok x av c1=>
   rw[hw]at HO;rintro e w8 ⟨k1,cs,rfl,g1,g2,rfl,g4,g5,g6,g7,g8⟩;obtain⟨C,rfl⟩:∃ C:List Value,cs=C.toArray:=⟨cs.toList,by simp⟩
   have yC:Hid (C.length=22):=zh (by have:=g8.1;rwa [yd]at this);have yo:=zh g8.2.1;have HX:=zh (⟨by omega,g2,by omega,g5⟩:k+1<=k1/\k1<E.L.length/\c1+k+1<=nd+k1/\nd<=c1);have bj:=zh ((c9.out.step g6 g7).alloc 41 aA.toArray (by decide));have HV8:Hid (NV w8 (List.range (q+1)) c1 x C.toArray):=zh (g8.anti (fun y hy _=>by have:=c9.out.lt 1 rfl;exact yg.2 (by have:=yg.1 hy;omega)));have om:=zh (HV8.out.kp ((aT (Y:=List.range (q+1)) (.inr zr) C 0 ((Kp.refl _ _).alloc (.cells aA.toArray 41)))));have gm:Hid ((if isS (E.at k1) [41] then .ok x (E.L.drop (k1+1)) c1 else .bad 6 (E.at k1).place)=O):=zh (by rw[<- List.tail_drop];exact HO.out);clear g1 g2 g4 g5 g6 g7 g8 c9 HV8 HO hw;have HT:=zh (bj.out.there 0 rfl C.toArray.size (by rw[yd,yC.out];rfl));have bl:=zh (bj.out.fill hE 0 rfl C (by rw[yC.out];rfl))
   have zi:=fo yC.out;have gb:(Tryz.prog.info? 41).map (·.size)=some C.length:=by rw[yC.out];exact aF
   simp only[aA,List.set_cons_zero]at bl HT;simp only[aA]at om
   go_upto_region 24 with(first |(refine yq rfl 41 (.tmp 8) (.tmp 73) rfl w8.heap.size 0 C.toArray rfl rfl HT.out zi yo.out ?_;change wpList _ _ _ _ _ (World.setCells _ w8.heap.size 0 C);generalize World.setCells _ _ _ _=W9 at bl om ⊢;generalize w8.heap.size=q8 at bl ⊢))
   clear HT bj;cases kf:isS (E.at k1) [41] with
   |true=>
    rw[kf,if_pos rfl]at gm;have t9:=qd.out k1 HX.out.2.1 (dW kf);have CLv1:=zh (fun W h=>CLy.out k1 c1 pl er W h HX.out.2.1 kf);clear CLy CLo;obtain⟨P0,j4⟩:∃ R:World->Prop,∀ w',R w'↔(Fs E w k1 (op+1) c1 pl er [(q8,41,C.toArray),(q4,70,#[.int .i64 tk,.string ⟨tx.toArray⟩,.int .i64 (tp:Int)]),(q,41,aA.toArray)] w'/\NV w' (List.range (q+1)) c1 x C.toArray):=⟨_,fun _=>Iff.rfl⟩
    have ev:=zh j4;clear j4;obtain⟨R1,hR1⟩:∃ R:World->Prop,∀ w',R w'↔(Fs E w (k1+1) op c1 pl er [(q8,41,C.toArray),(q4,70,#[.int .i64 tk,.string ⟨tx.toArray⟩,.int .i64 (tp:Int)]),(q,41,aA.toArray)] w'/\NV w' (List.range (q+1)) c1 x C.toArray):=⟨_,fun _=>Iff.rfl⟩
    have dr:=zh hR1;clear hR1;obtain⟨R2,vi⟩:∃ R:World->Prop,∀ w',R w'↔(Fs E w (k1+1) op c1 pl er [(q8,41,C.toArray),(q4,70,#[.int .i64 tk,.string ⟨tx.toArray⟩,.int .i64 (tp:Int)]),(q,41,C.toArray)] w'/\NV w' (List.range (q+1)) c1 x C.toArray):=⟨_,fun _=>Iff.rfl⟩
    have c6:=zh vi;clear vi;obtain⟨TT,ae⟩:∃ TT:List (Nat×Nat×Value),TT=[(0,75,.agg C.toArray),(1,76,.bool true),(2,77,.bool true),(3,78,.pointer (some ⟨E.r,0,none⟩)),(4,79,.bool true),(5,80,.bool true),(7,3,.bool true)]:=⟨_,rfl⟩
    have am:=zh ae;clear ae;refine bC (fun a0=>91<=a0.tmps.size/\a0.eval (.tmp 0)=.pointer (some ⟨E.r,0,none⟩)/\a0.eval (.tmp 2)=.pointer (some ⟨q,0,none⟩)/\a0.eval (.tmp 8)=.pointer (some ⟨q8,0,none⟩)/\a0.eval (.tmp 9)=.bool true) [75,76,77,78,79,80,3] TT [(4,R1),(6,R2)] P0 (by kernel_rfl) (by kernel_rfl) ⟨by simp,rfl,rfl,rfl,rfl⟩ ((ev.out _).2 ⟨bl.out.next (Below.refl _ _).drew,om.out.kp (Kp.of_below (Below.refl _ _).drew)⟩) ?_ ?_
    ·rintro a0 ⟨hs,dh,ls,vt,hq9⟩ zl a1 w1 zj o bg hI aa ho zd;have ae:=am.out;subst ae;have hk:okU (([(0,75,.agg C.toArray),(1,76,.bool true),(2,77,.bool true),(3,78,.pointer (some ⟨E.r,0,none⟩)),(4,79,.bool true),(5,80,.bool true),(7,3,.bool true)]:List (Nat×Nat×Value)).map fun e=>(e.1,e.2.1)) [75,76,77,78,79,80,3] 91=true:=by rfl
     have hj:=Up.of_false aa;have hj12:zj<8:=by rw[bg]at hj;exact hj
     have e0x:a1.eval (.tmp 0)=.pointer (some ⟨E.r,0,none⟩):=(hI.off.eval (by decide)).trans dh;have e2x:a1.eval (.tmp 2)=.pointer (some ⟨q,0,none⟩):=(hI.off.eval (by decide)).trans ls;have e8x:a1.eval (.tmp 8)=.pointer (some ⟨q8,0,none⟩):=(hI.off.eval (by decide)).trans vt;have e9x:a1.eval (.tmp 9)=.bool true:=(hI.off.eval (by decide)).trans hq9;(iterate 7 rcases zq hj12 with hj12|rfl);obtain rfl:=cz hj12;all_goals obtain rfl:=oi ho
     ·have hq:w1.rangeAt q8 0 C:=by
       obtain⟨jj,oo,hP⟩:=hI.low 1 (by simp) (fun m hm=>by obtain rfl:=Option.some.inj hm;kernel_rfl) aa;rcases(by omega:jj=0\/jj=1) with rfl|rfl
       ·have hP:P0 w1:=hP;exact((ev.out _).1 hP).1.range 0 (l:=C) rfl
       have hP:R1 w1:=hP;exact((dr.out _).1 hP).1.range 0 (l:=C) rfl
      exact aQ hk hI hs (.head _) (by simp) aa ho zd (aC rfl) rfl (aL 41 (.tmp 8) rfl q8 0 e8x C _ hq Tryz.underlying41 rfl gb)
     ·exact aQ hk hI hs (.tail _ (.head _)) (by simp) aa ho zd (aC rfl) rfl (by simp[execOp,go_sem,aE e9x])
     ·have d1:=ud zd 1;have p1:=pk hI.pt 1 rfl d1;exact aQ hk hI hs (mm 2 rfl) (by simp) aa ho zd (aC rfl) rfl (by simp[execOp,go_sem,aE p1])
     ·have d2:Up zl 2:=zd ⟨2,.guard⟩ (by simp) rfl;have p2:=pk hI.pt 2 rfl d2;exact aQ hk hI hs (mm 3 rfl) (by simp) aa ho zd (Eq.trans (aH rfl rfl rfl p2) rfl) rfl (by simp[execOp,go_sem,aE e0x])
     ·have d3:=ud zd 3;have p3:=pk hI.pt 3 rfl d3;have d2:Up zl 2:=zd ⟨2,.guard⟩ (by simp) rfl;have p2:=pk hI.pt 2 rfl d2;refine iQ hk hI hs (mm 4 rfl) (by kernel_rfl) [] [(6,R2)] R1 rfl aa ho zd (Eq.trans (aH rfl rfl rfl p2) rfl) rfl (fun hP=>?_);have hP:P0 w1:=hP;refine iG (v:=.bool true) 122 #[.pointer (some ⟨E.r,0,none⟩)] (by simp[go_sem,aE p3]) ?_;have h:=(ev.out _).1 hP;refine(CLv1.out w1 h.1.ine).mono ?_;rintro e w2 ⟨rfl,h1,h2⟩;exact⟨rfl,rfl,(dr.out _).2 ⟨h.1.step h1 h2.X,h.2.kpX h2 (fun y hy=>by obtain⟨k0,op0,nd0,pl0,er0,ct⟩:=h.1.base;have:=ct.rd.lt;rw[yf.1 hy];exact yg.2 (by have:=HQ.out;omega))⟩⟩
     ·have d2:=ud zd 2;have p2:=pk hI.pt 2 rfl d2;have d4:=ud zd 4;have p4:=pk hI.pt 4 rfl d4;exact aQ hk hI hs (mm 5 rfl) (by simp) aa ho zd (aC rfl) rfl (by simp[execOp,go_sem,aE p2,aE p4])
     ·have d0:=ud zd 0;have p0:=pk hI.pt 0 rfl d0;refine kI hI (by simp) (by kernel_rfl) [(4,R1)] [] R2 rfl aa ho zd (aC rfl) rfl (fun hP=>?_);have hP:R1 w1:=hP;have h:=(dr.out _).1 hP;have ht:=h.1.there 2 (cs:=aA.toArray) rfl C.toArray.size (by rw[yd,yC.out];rfl);refine⟨w1.setCells q 0 C,eI 41 (.tmp 2) (.tmp 75) rfl q 0 C.toArray e2x p0 ht zi yo.out,(c6.out _).2 ⟨h.1.fill hE 2 rfl C (by rw[yC.out];rfl),h.2.kpX (aT (Y:=[q]) (.inl (.head _)) C 0 (Kp.refl _ _)) (fun y hy=>by rw[yf.1 hy];exact yg.2 (by omega))⟩⟩
     have d5:=ud zd 5;have p5:=pk hI.pt 5 rfl d5;exact aQ hk hI hs (mm 6 rfl) (by simp) aa ho zd (aC rfl) rfl (by simp[execOp,go_sem,aE p5])
    intro zl a1 w1 hI ap;have ae:=am.out;subst ae;have hF:R2 w1:=hI.st.last (fun m hm=>ap m.1 (by simp only[ym,List.not_mem_nil,or_false]at hm;rcases hm with rfl|rfl;all_goals simp));have z3:a1.eval (.tmp 3)=.bool true:=hI.pt (7,3,.bool true) (mm 6 rfl) (ap 7 (by decide));obtain⟨ff,rfl,hf⟩:=hI.off.forms;rw[<- hf 3]at z3;clear hI;simp only[List.foldl,Act.put,yz,List.set];rw[z3];have ml:=(c6.out _).1 hF;have HA:=zh (ml.1.li 2 rfl);simp only[Exit.then]
    go_step
    repeat go_step
    refine yt (aM rfl rfl HA.out (by rw[yd,yC.out])) rfl ?_;rw[<- gm.out];exact⟨k1+1,C.toArray,rfl,by have:=HX.out;omega,t9,rfl,by have:=HX.out;omega,by have:=HX.out;omega,ml.1.ine,ml.1.kp,ml.2.anti (fun y hy _=>yg.2 (by have:=yg.1 hy;have:=HQ.out;omega))⟩
   |false=>
    rw[kf,if_neg (by decide)]at gm;have CLv1:=zh (fun W h=>CLo.out k1 c1 pl er W h HX.out.2.1 kf);clear CLy CLo;obtain⟨P0,j4⟩:∃ R:World->Prop,∀ w',R w'↔(Fs E w k1 (op+1) c1 pl er [(q8,41,C.toArray),(q4,70,#[.int .i64 tk,.string ⟨tx.toArray⟩,.int .i64 (tp:Int)]),(q,41,aA.toArray)] w'/\NV w' (List.range (q+1)) c1 x C.toArray):=⟨_,fun _=>Iff.rfl⟩
    have ev:=zh j4;clear j4;obtain⟨R1,hR1⟩:∃ R:World->Prop,∀ w',R w'↔(Fs E w k1 op c1 (E.at k1).place 6 [(q8,41,C.toArray),(q4,70,#[.int .i64 tk,.string ⟨tx.toArray⟩,.int .i64 (tp:Int)]),(q,41,aA.toArray)] w'/\NV w' (List.range (q+1)) c1 x C.toArray):=⟨_,fun _=>Iff.rfl⟩
    have dr:=zh hR1;clear hR1;obtain⟨R2,vi⟩:∃ R:World->Prop,∀ w',R w'↔(Fs E w k1 op c1 (E.at k1).place 6 [(q8,41,C.toArray),(q4,70,#[.int .i64 tk,.string ⟨tx.toArray⟩,.int .i64 (tp:Int)]),(q,41,C.toArray)] w'/\NV w' (List.range (q+1)) c1 x C.toArray):=⟨_,fun _=>Iff.rfl⟩
    have c6:=zh vi;clear vi;obtain⟨TT,ae⟩:∃ TT:List (Nat×Nat×Value),TT=[(0,75,.agg C.toArray),(1,76,.bool true),(2,77,.bool true),(3,78,.pointer (some ⟨E.r,0,none⟩)),(4,79,.bool false),(5,80,.bool false),(7,3,.bool false)]:=⟨_,rfl⟩
    have am:=zh ae;clear ae;refine bC (fun a0=>91<=a0.tmps.size/\a0.eval (.tmp 0)=.pointer (some ⟨E.r,0,none⟩)/\a0.eval (.tmp 2)=.pointer (some ⟨q,0,none⟩)/\a0.eval (.tmp 8)=.pointer (some ⟨q8,0,none⟩)/\a0.eval (.tmp 9)=.bool true) [75,76,77,78,79,80,3] TT [(4,R1),(6,R2)] P0 (by kernel_rfl) (by kernel_rfl) ⟨by simp,rfl,rfl,rfl,rfl⟩ ((ev.out _).2 ⟨bl.out.next (Below.refl _ _).drew,om.out.kp (Kp.of_below (Below.refl _ _).drew)⟩) ?_ ?_
    ·rintro a0 ⟨hs,dh,ls,vt,hq9⟩ zl a1 w1 zj o bg hI aa ho zd;have ae:=am.out;subst ae;have hk:okU (([(0,75,.agg C.toArray),(1,76,.bool true),(2,77,.bool true),(3,78,.pointer (some ⟨E.r,0,none⟩)),(4,79,.bool false),(5,80,.bool false),(7,3,.bool false)]:List (Nat×Nat×Value)).map fun e=>(e.1,e.2.1)) [75,76,77,78,79,80,3] 91=true:=by rfl
     have hj:=Up.of_false aa;have hj12:zj<8:=by rw[bg]at hj;exact hj
     have e0x:a1.eval (.tmp 0)=.pointer (some ⟨E.r,0,none⟩):=(hI.off.eval (by decide)).trans dh;have e2x:a1.eval (.tmp 2)=.pointer (some ⟨q,0,none⟩):=(hI.off.eval (by decide)).trans ls;have e8x:a1.eval (.tmp 8)=.pointer (some ⟨q8,0,none⟩):=(hI.off.eval (by decide)).trans vt;have e9x:a1.eval (.tmp 9)=.bool true:=(hI.off.eval (by decide)).trans hq9;(iterate 7 rcases zq hj12 with hj12|rfl);obtain rfl:=cz hj12;all_goals obtain rfl:=oi ho
     ·have hq:w1.rangeAt q8 0 C:=by
       obtain⟨jj,oo,hP⟩:=hI.low 1 (by simp) (fun m hm=>by obtain rfl:=Option.some.inj hm;kernel_rfl) aa;rcases(by omega:jj=0\/jj=1) with rfl|rfl
       ·have hP:P0 w1:=hP;exact((ev.out _).1 hP).1.range 0 (l:=C) rfl
       have hP:R1 w1:=hP;exact((dr.out _).1 hP).1.range 0 (l:=C) rfl
      exact aQ hk hI hs (.head _) (by simp) aa ho zd (aC rfl) rfl (aL 41 (.tmp 8) rfl q8 0 e8x C _ hq Tryz.underlying41 rfl gb)
     ·exact aQ hk hI hs (.tail _ (.head _)) (by simp) aa ho zd (aC rfl) rfl (by simp[execOp,go_sem,aE e9x])
     ·have d1:=ud zd 1;have p1:=pk hI.pt 1 rfl d1;exact aQ hk hI hs (mm 2 rfl) (by simp) aa ho zd (aC rfl) rfl (by simp[execOp,go_sem,aE p1])
     ·have d2:Up zl 2:=zd ⟨2,.guard⟩ (by simp) rfl;have p2:=pk hI.pt 2 rfl d2;exact aQ hk hI hs (mm 3 rfl) (by simp) aa ho zd (Eq.trans (aH rfl rfl rfl p2) rfl) rfl (by simp[execOp,go_sem,aE e0x])
     ·have d3:=ud zd 3;have p3:=pk hI.pt 3 rfl d3;have d2:Up zl 2:=zd ⟨2,.guard⟩ (by simp) rfl;have p2:=pk hI.pt 2 rfl d2;refine iQ hk hI hs (mm 4 rfl) (by kernel_rfl) [] [(6,R2)] R1 rfl aa ho zd (Eq.trans (aH rfl rfl rfl p2) rfl) rfl (fun hP=>?_);have hP:P0 w1:=hP;refine iG (v:=.bool false) 122 #[.pointer (some ⟨E.r,0,none⟩)] (by simp[go_sem,aE p3]) ?_;have h:=(ev.out _).1 hP;refine(CLv1.out w1 h.1.ine).mono ?_;rintro e w2 ⟨rfl,h1,h2⟩;exact⟨rfl,rfl,(dr.out _).2 ⟨h.1.step h1 h2.X,h.2.kpX h2 (fun y hy=>by obtain⟨k0,op0,nd0,pl0,er0,ct⟩:=h.1.base;have:=ct.rd.lt;rw[yf.1 hy];exact yg.2 (by have:=HQ.out;omega))⟩⟩
     ·have d2:=ud zd 2;have p2:=pk hI.pt 2 rfl d2;have d4:=ud zd 4;have p4:=pk hI.pt 4 rfl d4;exact aQ hk hI hs (mm 5 rfl) (by simp) aa ho zd (aC rfl) rfl (by simp[execOp,go_sem,aE p2,aE p4])
     ·have d0:=ud zd 0;have p0:=pk hI.pt 0 rfl d0;refine kI hI (by simp) (by kernel_rfl) [(4,R1)] [] R2 rfl aa ho zd (aC rfl) rfl (fun hP=>?_);have hP:R1 w1:=hP;have h:=(dr.out _).1 hP;have ht:=h.1.there 2 (cs:=aA.toArray) rfl C.toArray.size (by rw[yd,yC.out];rfl);refine⟨w1.setCells q 0 C,eI 41 (.tmp 2) (.tmp 75) rfl q 0 C.toArray e2x p0 ht zi yo.out,(c6.out _).2 ⟨h.1.fill hE 2 rfl C (by rw[yC.out];rfl),h.2.kpX (aT (Y:=[q]) (.inl (.head _)) C 0 (Kp.refl _ _)) (fun y hy=>by rw[yf.1 hy];exact yg.2 (by omega))⟩⟩
     have d5:=ud zd 5;have p5:=pk hI.pt 5 rfl d5;exact aQ hk hI hs (mm 6 rfl) (by simp) aa ho zd (aC rfl) rfl (by simp[execOp,go_sem,aE p5])
    intro zl a1 w1 hI ap;have ae:=am.out;subst ae;have hF:R2 w1:=hI.st.last (fun m hm=>ap m.1 (by simp only[ym,List.not_mem_nil,or_false]at hm;rcases hm with rfl|rfl;all_goals simp));have z3:a1.eval (.tmp 3)=.bool false:=hI.pt (7,3,.bool false) (mm 6 rfl) (ap 7 (by decide));obtain⟨ff,rfl,hf⟩:=hI.off.forms;rw[<- hf 3]at z3;clear hI;simp only[List.foldl,Act.put,yz,List.set];rw[z3];have ml:=(c6.out _).1 hF;have HA:=zh (ml.1.li 2 rfl);simp only[Exit.then]
    go_step
    repeat go_step
    refine yt (aM rfl rfl HA.out (by rw[yd,yC.out])) rfl ?_;rw[<- gm.out];exact cE ml.1 yC.out yo.out (by have:=HX.out;omega) HX.out.2.1 (by have:=HX.out;omega)
end Go.Proofs.YtmgjidnalpgegaaGreatDoor
