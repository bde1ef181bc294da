/-
  Lemmas, part 14: ParQ ParR ParS ParT.
-/
import Derived.Test.YtmgjidnalpgegaaGreatDoorPr13
set_option maxHeartbeats 100000000
namespace Go.Proofs.YtmgjidnalpgegaaGreatDoor
open Go.RowKit
theorem uBD{m e:Int}(h:cC m e=true):-1000000000000000<m/\m<1000000000000000:=by
 by_cases h0:m=0
 ·subst h0;omega
 have:=(wB h h0).1;omega
theorem uHW(E:Env)(hE:E.ok)(he:E.ends)(hL:E.L.length<=1000000)(hT:E.short)(k op nd pl er:Nat)(w:World)(hI:InE E k op nd pl er w)(hk:k<E.L.length)(hn:nd<=k)(h1:(E.at k).kind=1) :
  Calls Tryz.prog 117 #[.pointer (some ⟨E.r,0,none⟩)] w fun e w'=>∃ u b k2 nd2 pl2 er2,e=.returned (.tuple #[.agg (mW u).toArray,.bool b])/\InE E k2 op nd2 pl2 er2 w'/\Kp E.X w w'/\cC u.mant u.exp=true /\
   ((b=true/\∃ v,fJ (E.at k)=.ok v/\k2=k+1/\nd2=nd+1/\pl2=pl/\er2=er/\(nd+1<=256->u=v))\/(b=false/\∃ e',fJ (E.at k)=.error e'/\k2=k/\nd2=nd/\pl2=(E.at k).place/\er2=e')):=by
 have ht:=yv (hT k) (by decide:50000<=100000);cases hv:fJ (E.at k) with
 |error e'=>
  refine(oS E hE k op nd pl er w hI hk ht e' hv).mono ?_;rintro e w' ⟨rfl,g1,g2⟩;exact⟨aD,false,k,nd,_,e',rfl,g1,g2,rfl,.inr ⟨rfl,e',rfl,rfl,rfl,rfl,rfl⟩⟩
 |ok v=>
  have hr:cC v.mant v.exp=true:=by
   unfold fJ at hv;rw[if_pos h1]at hv
   split at hv
   ·cases hv
   rename_i q hq
   injection hv with hv;rw[<- hv];exact(uAE hq).1
  refine(qM E hE k op nd pl er w hI (E.more he hk (pT hv)) hL ht hn v hv).mono ?_;rintro e w' ⟨rfl,g1,g2⟩;by_cases hb:256<nd+1
  ·rw[if_pos hb];exact⟨aD,true,k+1,nd+1,pl,er,rfl,g1,g2,rfl,.inl ⟨rfl,v,rfl,rfl,rfl,rfl,rfl,fun h=>by omega⟩⟩
  rw[if_neg hb];exact⟨v,true,k+1,nd+1,pl,er,rfl,g1,g2,hr,.inl ⟨rfl,v,rfl,rfl,rfl,rfl,rfl,fun _=>rfl⟩⟩
set_option maxRecDepth 100000 in
theorem yW(E:Env)(hE:E.ok)(he:E.ends)(hL:E.L.length<=1000000)(hT:E.short)(op:Nat):dP E 133 eJ op:=by
 intro k nd pl er w hI hk hn;have CT:=zh (fun k pl er W h hk=>bX E k op nd pl er W h hk);have CS:=zh cO;have CW:=zh (fun k pl er W h hk=>eN E hE k op nd pl er 6 W h hk);have CL:=zh (fun W h=>mF E hE he k op nd pl er W h hk hL (yv (hT k) (by decide)) hn);have CU:=zh (fun W h hk h1=>uHW E hE he hL hT (k+1) op nd pl er W h hk (by omega) h1);have CG:=zh uIC;have bo:=zh ((Fs.start hI).alloc 41 aA.toArray (by decide));generalize hO:eJ (E.L.drop k) nd=O;have HO:Hid ((if isS (E.at k) [45] then
  if (E.at (k+1)).kind≠1 then .bad 6 (E.at (k+1)).place
  else match fJ (E.at (k+1)) with
   | .error e=>.bad e (E.at (k+1)).place
   | .ok v=>.ok (iK { v with mant:=-v.mant }) (E.L.drop (k+2)) (nd+1)
 else cX (E.L.drop k) nd)=O):=zh (by
  rw[<- hO];unfold eJ;rw[List.tail_drop,List.tail_drop];rfl)
 have HF:Hid (k<E.L.length/\nd<=k):=zh ⟨hk,hn⟩;clear hI hO hn;simp only[aA]at bo
 go_enter Tryz.func133,Tryz.ntmps133
 go_upto_region 1 with fail
 generalize World.alloc _ _=W1 at bo ⊢;generalize hq:w.heap.size=q at bo ⊢;have HQ:=zh hq;clear hq;have CT1:=zh (CT.out k pl er _ bo.out.ine hk)
 go_wp2_with fail
 refine CT1.out.mono ?_;rintro e w2 ⟨rfl,hb⟩;have ed:=zh (bo.out.next hb);clear hb bo CT1;by_cases b1:isS (E.at k) [45]=true
 ·rw[if_pos b1]at HO;have dq:=E.more he hk (dW b1);have CS1:=zh (CS.out (E.at (k)) [45] w2);rw[b1]at CS1
  go_wp2_with fail
  refine CS1.out.mono ?_;rintro e w3 ⟨rfl,hb⟩;have bw:=zh (ed.out.next hb);clear hb CS1 ed;have r1:=bw.out.ine.rd.cell 1;have rf1:=bw.out.ine.rd.frozen 1;simp only[za,zb,zf]at r1;have ll:(k:Int)<=1000000:=by omega
  have ak:=zh (bw.out.rd hE 1 (.int .i64 ((k:Int)+1)) (k':=k+1) rfl);clear bw
  go_upto_region 4 with fail
  generalize World.setCell _ _ _=W4 at ak ⊢;clear r1 rf1;have CT1:=zh (CT.out (k+1) pl er _ ak.out.ine dq);have CW1:=zh (fun W h=>CW.out (k+1) pl er W h dq);have xz:=lK;by_cases h1:(E.at (k+1)).kind≠1
  ·rw[if_pos h1]at HO;have dc:Hid (O=.bad 6 (E.at (k+1)).place):=zh HO.out.symm;have n1:(((E.at (k+1)).kind:Int) != 1)=true:=by simp;omega
   have n2:(((E.at (k+1)).kind:Int)==1)=false:=by simp;omega
   generalize ec:E.at (k+1)=t at *;obtain⟨tk,tx,tp⟩:=t;dsimp only[tkV]at CT1 n1 n2 dc CW1;clear HO h1 ec
   go_wp2_with fail
   refine CT1.out.mono ?_;rintro e w5 ⟨rfl,hb⟩;have az:=zh (ak.out.next hb);clear hb ak CT1
   go_wp2_with fail
   refine(CW1.out _ az.out.ine).mono ?_;rintro e w6 ⟨rfl,g1,g2⟩;have al:=zh (az.out.step g1 g2.X);clear g1 g2 az;have HT:=zh (al.out.there 0 rfl 22 rfl);have ag:=zh (al.out.fill hE 0 rfl aA rfl)
   go_wp2_with (first |(refine yq rfl 41 (.tmp 2) (.tmp 25) rfl q 0 aA.toArray rfl rfl HT.out aF aW ?_;change wpList _ _ _ _ _ (World.setCells _ q 0 aA);generalize World.setCells _ _ _ _=wz at ag ⊢))
   have HA:=zh (ag.out.li 0 rfl);refine yt (aM rfl rfl HA.out rfl) rfl ?_;rw[dc.out];exact cE ag.out rfl aW (by omega) (by omega) (by have:=HF.out.2;omega)
  have yc:(E.at (k+1)).kind=1:=Decidable.not_not.1 h1;rw[if_neg h1]at HO;have n1:(((E.at (k+1)).kind:Int) != 1)=false:=by simp;omega
  have n2:(((E.at (k+1)).kind:Int)==1)=true:=by simp;omega
  have CU1:=zh (fun W h=>CU.out W h dq yc);have qd:Hid (∀ v,fJ (E.at (k+1))=.ok v->k+2<E.L.length):=zh (fun v hv=>E.more he dq (pT hv));generalize ec:E.at (k+1)=t at *;obtain⟨tk,tx,tp⟩:=t;dsimp only[tkV]at CT1 n1 n2 yc HO CU1;subst yc;clear h1 ec CW1 CW
  go_wp2_with fail
  refine CT1.out.mono ?_;rintro e w5 ⟨rfl,hb⟩;have az:=zh (ak.out.next hb);clear hb ak CT1
  go_wp2_with fail
  refine(CU1.out _ az.out.ine).mono ?_;rintro e w6 ⟨u,b,k2,nd2,pl2,er2,rfl,g1,g2,hr,hc⟩;have al:=zh (az.out.step g1 g2);have HC:=zh hc;have HR:=zh hr;clear g1 g2 az hc hr CU1 CU CL;obtain⟨uk,um,ue,ut,utr,uf⟩:=u;dsimp only at HR;have c9:=zh (al.out.alloc 41 aA.toArray (by decide));have HT:=zh (c9.out.there 0 rfl 22 rfl);have db:=zh (c9.out.fill hE 0 rfl (mW ⟨uk,um,ue,ut,utr,uf⟩) rfl);have fq:=mE ⟨uk,um,ue,ut,utr,uf⟩;clear al c9;simp only[List.set_cons_zero]at db;generalize la:w6.heap.size=q4 at db HT ⊢
  go_upto_region 7 with(first |(refine yq rfl 41 (.tmp 4) (.tmp 31) rfl q4 0 (mW ⟨uk,um,ue,ut,utr,uf⟩).toArray rfl rfl HT.out aF fq ?_;change wpList _ _ _ _ _ (World.setCells _ q4 0 (mW ⟨uk,um,ue,ut,utr,uf⟩));generalize World.setCells _ _ _ _=W8 at db ⊢))
  clear HT fq la;have x2:=(db.out.li 0 rfl).cell 2;have xf2:=(db.out.li 0 rfl).frozen 2;have x3:=(db.out.li 0 rfl).cell 3;have xf3:=(db.out.li 0 rfl).frozen 3;simp only[za,zb,zf]at x2 x3;obtain⟨xy,ug⟩:=uBD HR.out
  go_wp2_with fail
  refine(CG.out um ue _ (by omega) (by omega) HR.out).mono ?_;rintro e w9 ⟨rfl,hb⟩;have bl:=zh (db.out.next hb);clear hb db;clear x2 x3 xf2 xf3;have x2:=(bl.out.li 0 rfl).cell 2;have xf2:=(bl.out.li 0 rfl).frozen 2;have x3:=(bl.out.li 0 rfl).cell 3;have xf3:=(bl.out.li 0 rfl).frozen 3;simp only[za,zb,zf]at x2 x3;have cy:Hid (Fs E w k2 op nd2 pl2 er2 [(q4,41,(mW ⟨uk,-um,ue,ut,utr,uf⟩).toArray),(q,41,aA.toArray)] ((w9.setCell ⟨q4,2,none⟩ (.int .i64 (-um))).setCell ⟨q4,3,none⟩ (.int .i64 ue))):=zh ((bl.out.put hE 0 rfl 2 _).put hE 0 rfl 3 _);clear bl
  go_upto_region 8 with fail
  generalize World.setCell _ _ _=Wa at cy ⊢;clear x2 x3 xf2 xf3;have ee:=zh (cy.out.range 0 (l:=mW ⟨uk,-um,ue,ut,utr,uf⟩) rfl);have HT:=zh (cy.out.there 1 rfl 22 rfl);have ag:=zh (cy.out.fill hE 1 rfl (mW ⟨uk,-um,ue,ut,utr,uf⟩) rfl);have fq:=mE ⟨uk,-um,ue,ut,utr,uf⟩;clear cy
  go_wp2_with (first |(refine yr rfl 41 (.tmp 4) rfl q4 0 rfl (mW ⟨uk,-um,ue,ut,utr,uf⟩) _ ee.out Tryz.underlying41 rfl aF ?_) |(refine yq rfl 41 (.tmp 2) (.tmp 39) rfl q 0 (mW ⟨uk,-um,ue,ut,utr,uf⟩).toArray rfl rfl HT.out aF fq ?_;change wpList _ _ _ _ _ (World.setCells _ q 0 (mW ⟨uk,-um,ue,ut,utr,uf⟩));generalize World.setCells _ _ _ _=wz at ag ⊢))
  have HA:=zh (ag.out.li 1 rfl);refine yt (aM rfl rfl HA.out rfl) rfl ?_;rcases HC.out with⟨rfl,v,hv,rfl,rfl,rfl,rfl,huv⟩|⟨rfl,e',hv,rfl,rfl,rfl,rfl⟩
  ·rw[hv]at HO;rw[<- HO.out];refine iU (h:=(iK { v with mant:=-v.mant }).h) ag.out rfl fq (fun hn=>?_) (by omega) (qd.out v hv) (by have:=HF.out.2;omega) (by omega) rfl;rw[<- huv hn];rfl
  rw[hv]at HO;rw[<- HO.out];exact cE ag.out rfl fq (by omega) (by omega) (by have:=HF.out.2;omega)
 have b1':isS (E.at k) [45]=false:=by simpa using b1
 rw[if_neg b1]at HO;have CS1:=zh (CS.out (E.at (k)) [45] w2);rw[b1']at CS1
 go_wp2_with fail
 refine CS1.out.mono ?_;rintro e w3 ⟨rfl,hb⟩;have bw:=zh (ed.out.next hb);clear hb CS1 ed
 go_wp2_with fail
 have CL1:=zh (CL.out _ bw.out.ine);rw[HO.out]at CL1;refine CL1.out.mono ?_;cases O with
 |ok t ts c=>
  rintro e w4 ⟨k1,cs,rfl,g1,g2,g3,g4,g5,g6,g7,g8⟩;obtain⟨C,rfl⟩:∃ C:List Value,cs=C.toArray:=⟨cs.toList,by simp⟩
  have yC:Hid (C.length=22):=zh (by have:=g8.1;rwa [yd]at this);have yo:=zh g8.2.1;have HX:=zh (⟨g1,g2,g3,g4,g5,g8⟩:k<=k1/\k1<E.L.length/\ts=E.L.drop k1/\c+k<=nd+k1/\nd<=c/\NV w4 (List.range w3.heap.size) c t C.toArray);have ak:=zh (bw.out.step g6 g7);have ir:=zh (bw.out.lt 0 rfl);clear g1 g2 g3 g4 g5 g6 g7 g8 bw CL1;have HT:=zh (ak.out.there 0 rfl C.toArray.size (by rw[yd,yC.out];rfl));have ag:=zh (ak.out.fill hE 0 rfl C (by rw[yC.out];rfl));have zi:=fo yC.out
  go_wp2_with (first |(refine yq rfl 41 (.tmp 2) (.tmp 12) rfl q 0 C.toArray rfl rfl HT.out zi yo.out ?_;change wpList _ _ _ _ _ (World.setCells _ q 0 C);generalize lf:World.setCells _ _ _ _=wz at ag ⊢))
  have HA:=zh (ag.out.li 0 rfl);refine yt (aM rfl rfl HA.out (by rw[yd,yC.out])) rfl ?_;have bn:Kp [q] w4 wz:=by rw[<- lf];exact aT (.inl (.head _)) C 0 (Kp.refl _ _)
  exact⟨k1,C.toArray,rfl,HX.out.1,HX.out.2.1,HX.out.2.2.1,HX.out.2.2.2.1,HX.out.2.2.2.2.1,ag.out.ine,ag.out.kp,(HX.out.2.2.2.2.2.kpX bn (fun y hy=>by rw[yf.1 hy];exact yg.2 ir.out)).anti (fun y hy _=>yg.2 (by have:=yg.1 hy;have:=ir.out;have:=HQ.out;omega))⟩
 |bad e0 p0=>
  rintro e w4 ⟨cs,k1,op1,nd1,rfl,g1,g2,g3,g4,g5,g6,g7⟩;obtain⟨C,rfl⟩:∃ C:List Value,cs=C.toArray:=⟨cs.toList,by simp⟩
  have yC:Hid (C.length=22):=zh (by rwa [yd]at g1);have yo:=zh g2;have HX:=zh (⟨g3,g4,g5⟩:k<=k1/\k1<E.L.length/\nd1+k<=nd+k1);have ak:=zh (bw.out.step g6 g7);clear g1 g2 g3 g4 g5 g6 g7 bw CL1;have HT:=zh (ak.out.there 0 rfl C.toArray.size (by rw[yd,yC.out];rfl));have ag:=zh (ak.out.fill hE 0 rfl C (by rw[yC.out];rfl));have zi:=fo yC.out
  go_wp2_with (first |(refine yq rfl 41 (.tmp 2) (.tmp 12) rfl q 0 C.toArray rfl rfl HT.out zi yo.out ?_;change wpList _ _ _ _ _ (World.setCells _ q 0 C);generalize World.setCells _ _ _ _=wz at ag ⊢))
  have HA:=zh (ag.out.li 0 rfl);refine yt (aM rfl rfl HA.out (by rw[yd,yC.out])) rfl ?_;exact⟨C.toArray,k1,op1,nd1,rfl,by rw[yd,yC.out],yo.out,HX.out.1,HX.out.2.1,HX.out.2.2,ag.out.ine,ag.out.kp⟩
set_option maxRecDepth 100000 in
theorem uCI(E:Env)(hE:E.ok)(k op nd pl er n:Nat)(w:World)(hI:InE E k op nd pl er w)(hk:k<E.L.length)(hs:isS (E.at k) [44]=true)(hn:32<=n) :
  Calls Tryz.prog 138 #[.pointer (some ⟨E.r,0,none⟩),.int .i64 (n:Int)] w (Step E w k op nd (E.at k).place 10 (.bool false)):=by
 have CT:=zh (bX E k op nd pl er w hI hk);have CS:=zh (fun W=>cO (E.at k) [44] W);rw[hs]at CS;have CW:=zh (fun W h=>eN E hE k op nd pl er 10 W h hk);have HI:=zh hI;have hni:(32:Int)<=(n:Int):=by omega
 clear hI hs
 go_enter Tryz.func138,Tryz.ntmps138
 go_wp2_with fail
 refine CT.out.mono ?_;rintro e w1 ⟨rfl,hb⟩;have dz:Hid (Kp [E.r] w w1):=zh (Kp.of_below hb);have ip:=zh (HI.out.next hb);clear hb CT HI
 go_wp2_with fail
 refine(CS.out _).mono ?_;rintro e w2 ⟨rfl,hb⟩;have bq:Hid (Kp [E.r] w w2):=zh (dz.out.trans (Kp.of_below hb));have dg:=zh (ip.out.next hb);clear hb CS dz ip
 go_wp2_with fail
 refine(CW.out _ dg.out).mono ?_;rintro e w3 ⟨rfl,h1,h2⟩;have HS:Hid (Step E w k op nd (E.at k).place 10 (.bool false) (.returned (.bool false)) w3):=zh ⟨rfl,h1,bq.out.trans h2⟩;clear h1 h2
 go_wp2_with fail
 go_ret
 exact HS.out
set_option maxRecDepth 100000 in
theorem uHE(E:Env)(hE:E.ok)(k op nd pl er n:Nat)(w:World)(hI:InE E k op nd pl er w)(hk:k<E.L.length)(hL:E.L.length<=1000000)(hs:isS (E.at k) [44]=true)(hn:n<32) :
  Calls Tryz.prog 138 #[.pointer (some ⟨E.r,0,none⟩),.int .i64 (n:Int)] w (Step E w (k+1) op nd pl er (.bool true)):=by
 have CT:=zh (bX E k op nd pl er w hI hk);have CS:=zh (fun W=>cO (E.at k) [44] W);rw[hs]at CS;have CW:=zh (fun W h=>kR E hE k op nd pl er [44] W h hk hL hs);have HI:=zh hI;have hni:¬ (32:Int)<=(n:Int):=by omega
 clear hI hs
 go_enter Tryz.func138,Tryz.ntmps138
 go_wp2_with fail
 refine CT.out.mono ?_;rintro e w1 ⟨rfl,hb⟩;have dz:Hid (Kp [E.r] w w1):=zh (Kp.of_below hb);have ip:=zh (HI.out.next hb);clear hb CT HI
 go_wp2_with fail
 refine(CS.out _).mono ?_;rintro e w2 ⟨rfl,hb⟩;have bq:Hid (Kp [E.r] w w2):=zh (dz.out.trans (Kp.of_below hb));have dg:=zh (ip.out.next hb);clear hb CS dz ip
 go_wp2_with fail
 refine(CW.out _ dg.out).mono ?_;rintro e w3 ⟨rfl,h1,h2⟩;have HS:Hid (Step E w (k+1) op nd pl er (.bool true) (.returned (.bool true)) w3):=zh ⟨rfl,h1,bq.out.trans h2⟩;clear h1 h2
 go_wp2_with fail
 go_ret
 exact HS.out
set_option maxRecDepth 100000 in
theorem comma_no(E:Env)(hE:E.ok)(k op nd pl er n:Nat)(w:World)(hI:InE E k op nd pl er w)(hk:k<E.L.length)(hs:isS (E.at k) [44]=false) :
  Calls Tryz.prog 138 #[.pointer (some ⟨E.r,0,none⟩),.int .i64 (n:Int)] w (Step E w k op nd (E.at k).place 6 (.bool false)):=by
 have CT:=zh (bX E k op nd pl er w hI hk);have CS:=zh (fun W=>cO (E.at k) [44] W);rw[hs]at CS;have CW:=zh (fun W h=>tZ E hE k op nd pl er [44] W h hk hs);have HI:=zh hI;clear hI hs
 go_enter Tryz.func138,Tryz.ntmps138
 go_wp2_with fail
 refine CT.out.mono ?_;rintro e w1 ⟨rfl,hb⟩;have dz:Hid (Kp [E.r] w w1):=zh (Kp.of_below hb);have ip:=zh (HI.out.next hb);clear hb CT HI
 go_wp2_with fail
 refine(CS.out _).mono ?_;rintro e w2 ⟨rfl,hb⟩;have bq:Hid (Kp [E.r] w w2):=zh (dz.out.trans (Kp.of_below hb));have dg:=zh (ip.out.next hb);clear hb CS dz ip
 go_wp2_with fail
 refine(CW.out _ dg.out).mono ?_;rintro e w3 ⟨rfl,h1,h2⟩;have HS:Hid (Step E w k op nd (E.at k).place 6 (.bool false) (.returned (.bool false)) w3):=zh ⟨rfl,h1,bq.out.trans h2⟩;clear h1 h2
 go_wp2_with fail
 go_ret
 exact HS.out
def APost(E:Env)(w:World)(k op nd pl er:Nat)(o:Out)(e:Ending)(w':World):Prop:=match o with
 | .ok t ts c=>∃ k' cs,e=.returned (.tuple #[.agg cs,.bool true])/\k<=k'/\k'<E.L.length/\ts=E.L.drop k'/\c+k<=nd+k'+1/\nd<=c/\InE E k' op c pl er w'/\Kp E.X w w'/\NV w' (List.range w.heap.size) c t cs
 | .bad er' p=>∃ cs k' op' nd',e=.returned (.tuple #[.agg cs,.bool false])/\cs.size=22/\cs.all (·.oneCell')=true/\k<=k'/\k'<E.L.length/\nd'+k<=nd+k'/\InE E k' op' nd' p er' w'/\Kp E.X w w'
theorem NPost.arg{E:Env}{w:World}{k op nd pl er:Nat}{o:Out}{e:Ending}{w':World}(h:NPost E w k op nd pl er o e w'):APost E w k op nd pl er o e w':=by
 cases o with
 |ok t ts c=>
  obtain⟨k',cs,h1,h2,h3,h4,h5,h6⟩:=h;exact⟨k',cs,h1,h2,h3,h4,by omega,h6⟩
 |bad e p=>exact h
set_option maxRecDepth 100000 in
theorem wV(E:Env)(hE:E.ok)(whole:List Tok->Nat->Out)(op:Nat)(hp:dP E 24 whole op)(k nd pl er:Nat)(w:World)(hI:InE E k op nd pl er w)(hk:k<E.L.length)(hn:nd<=k)(hL:E.L.length<=1000000) :
  Calls Tryz.prog 137 #[.pointer (some ⟨E.r,0,none⟩)] w (APost E w k op nd pl er (rK whole (E.L.drop k) nd)):=by
 have CT:=zh (fun W h=>bX E k op nd pl er W h hk);have CS:=zh cO;have CN:=zh (fun W h=>gI E hE k op nd pl er (cB 9 aG aG) rfl (dL 9 aG aG) W h (by omega));have CL:=zh (fun W h=>hp k nd pl er W h hk hn);have bo:=zh ((Fs.start hI).alloc 41 aA.toArray (by decide));generalize hO:rK whole (E.L.drop k) nd=O;have HO:Hid ((if isS (E.at k) [44]||isS (E.at k) [41] then .ok tMiss (E.L.drop k) (nd+1) else whole (E.L.drop k) nd)=O):=zh hO;have HF:Hid (k<E.L.length/\nd<=k):=zh ⟨hk,hn⟩;clear hI hO hn hp;simp only[aA]at bo
 go_enter Tryz.func137,Tryz.ntmps137
 go_upto_region 1 with fail
 generalize World.alloc _ _=W1 at bo ⊢;generalize hq:w.heap.size=q at bo ⊢;have HQ:=zh hq;clear hq
 go_wp2_with fail
 refine(CT.out _ bo.out.ine).mono ?_;rintro e w2 ⟨rfl,hb⟩;have ed:=zh (bo.out.next hb);clear hb bo CT;obtain⟨tk,ec⟩:∃ tk,E.at k=tk:=⟨_,rfl⟩
 rw[ec]at HO ⊢;clear ec;obtain⟨tk,tx,tp⟩:=tk;have bw:=zh (ed.out.alloc 70 #[.int .i64 tk,.string ⟨tx.toArray⟩,.int .i64 (tp:Int)] (by decide));clear ed
 go_upto_region 2 with fail
 generalize World.alloc _ _=W3 at bw ⊢;generalize la:w2.heap.size=q4 at bw ⊢;clear la;have x0:=(bw.out.li 0 rfl).cell 0;have x1:=(bw.out.li 0 rfl).cell 1;have x2:=(bw.out.li 0 rfl).cell 2;simp only[za,zb,zf]at x0 x1 x2;have CS1:=zh (CS.out ⟨tk,tx,tp⟩ [44] W3)
 go_wp2_with fail
 refine CS1.out.mono ?_;rintro e w4 ⟨rfl,hb⟩;have ak:=zh (bw.out.next hb);clear hb bw CS1;clear x0 x1 x2;cases jr:isS ⟨tk,tx,tp⟩ [44] with
 |true=>
  rw[jr]at HO;simp only[Bool.true_or,if_true]at HO;have dc:=zh HO.out.symm
  go_wp2_with fail
  refine(CN.out _ ak.out.ine).mono ?_;obtain⟨C,hC,ah,fd,gq⟩:=eO (nd+1) (cB 9 aG aG) rfl (dL 9 aG aG);rw[hC];have yC:=zh ah;have fa:=zh fd;have m8:=zh gq;clear hC ah fd gq;rintro e wn ⟨rfl,g1,g2⟩;have ju:=zh (ak.out.step g1 g2.X);clear g1 g2 ak CN;have HT:=zh (ju.out.there 1 rfl C.toArray.size (by rw[yd,yC.out];rfl));have ag:=zh (ju.out.fill hE 1 rfl C (by rw[yC.out];rfl));have zi:=fo yC.out
  go_wp2_with (first |(refine yq rfl 41 (.tmp 2) (.tmp 15) rfl q 0 C.toArray rfl rfl HT.out zi fa.out ?_;change wpList _ _ _ _ _ (World.setCells _ q 0 C);generalize World.setCells _ _ _ _=wz at ag ⊢))
  have HA:=zh (ag.out.li 1 rfl);refine yt (aM rfl rfl HA.out (by rw[yd,yC.out])) rfl ?_;rw[dc.out];exact⟨k,C.toArray,rfl,zr,HF.out.1,rfl,by omega,by omega,ag.out.ine,ag.out.kp,by rw[yd,yC.out],fa.out,fun hn=>⟨none,0,by rw[m8.out hn];rfl,.inl rfl⟩⟩
 |false=>
  rw[jr]at HO;simp only[Bool.false_or]at HO;have x0:=(ak.out.li 0 rfl).cell 0;have x1:=(ak.out.li 0 rfl).cell 1;have x2:=(ak.out.li 0 rfl).cell 2;simp only[za,zb,zf]at x0 x1 x2;have CS1:=zh (CS.out ⟨tk,tx,tp⟩ [41] w4)
  go_wp2_with fail
  refine CS1.out.mono ?_;rintro e w5 ⟨rfl,hb⟩;have az:=zh (ak.out.next hb);clear hb ak CS1;clear x0 x1 x2;cases kf:isS ⟨tk,tx,tp⟩ [41] with
  |true=>
   rw[kf,if_pos rfl]at HO;have dc:=zh HO.out.symm
   go_wp2_with fail
   refine(CN.out _ az.out.ine).mono ?_;obtain⟨C,hC,ah,fd,gq⟩:=eO (nd+1) (cB 9 aG aG) rfl (dL 9 aG aG);rw[hC];have yC:=zh ah;have fa:=zh fd;have m8:=zh gq;clear hC ah fd gq;rintro e wn ⟨rfl,g1,g2⟩;have ju:=zh (az.out.step g1 g2.X);clear g1 g2 az CN;have HT:=zh (ju.out.there 1 rfl C.toArray.size (by rw[yd,yC.out];rfl));have ag:=zh (ju.out.fill hE 1 rfl C (by rw[yC.out];rfl));have zi:=fo yC.out
   go_wp2_with (first |(refine yq rfl 41 (.tmp 2) (.tmp 15) rfl q 0 C.toArray rfl rfl HT.out zi fa.out ?_;change wpList _ _ _ _ _ (World.setCells _ q 0 C);generalize World.setCells _ _ _ _=wz at ag ⊢))
   have HA:=zh (ag.out.li 1 rfl);refine yt (aM rfl rfl HA.out (by rw[yd,yC.out])) rfl ?_;rw[dc.out];exact⟨k,C.toArray,rfl,zr,HF.out.1,rfl,by omega,by omega,ag.out.ine,ag.out.kp,by rw[yd,yC.out],fa.out,fun hn=>⟨none,0,by rw[m8.out hn];rfl,.inl rfl⟩⟩
  |false=>
   rw[kf,if_neg (by decide)]at HO
   go_wp2_with fail
   have CL1:=zh (CL.out _ az.out.ine);rw[HO.out]at CL1;refine CL1.out.mono ?_;have HSA:Hid (∀ e w',NPost E w k op nd pl er O e w'->APost E w k op nd pl er O e w'):=zh (fun e w' h=>h.arg);cases O with
   |ok t ts c=>
    rintro e w4 ⟨k1,cs,rfl,g1,g2,g3,g4,g5,g6,g7,g8⟩;obtain⟨C,rfl⟩:∃ C:List Value,cs=C.toArray:=⟨cs.toList,by simp⟩
    have yC:Hid (C.length=22):=zh (by have:=g8.1;rwa [yd]at this);have yo:=zh g8.2.1;have HX:=zh (⟨g1,g2,g3,g4,g5,g8⟩:k<=k1/\k1<E.L.length/\ts=E.L.drop k1/\c+k<=nd+k1/\nd<=c/\NV w4 (List.range w5.heap.size) c t C.toArray);have ak:=zh (az.out.step g6 g7);have ir:=zh (az.out.lt 1 rfl);clear g1 g2 g3 g4 g5 g6 g7 g8 az CL1;have HT:=zh (ak.out.there 1 rfl C.toArray.size (by rw[yd,yC.out];rfl));have ag:=zh (ak.out.fill hE 1 rfl C (by rw[yC.out];rfl));have zi:=fo yC.out
    go_wp2_with (first |(refine yq rfl 41 (.tmp 2) (.tmp 18) rfl q 0 C.toArray rfl rfl HT.out zi yo.out ?_;change wpList _ _ _ _ _ (World.setCells _ q 0 C);generalize lf:World.setCells _ _ _ _=wz at ag ⊢))
    have HA:=zh (ag.out.li 1 rfl);refine yt (aM rfl rfl HA.out (by rw[yd,yC.out])) rfl ?_;have bn:Kp [q] w4 wz:=by rw[<- lf];exact aT (.inl (.head _)) C 0 (Kp.refl _ _)
    refine HSA.out _ _ ?_;exact⟨k1,C.toArray,rfl,HX.out.1,HX.out.2.1,HX.out.2.2.1,HX.out.2.2.2.1,HX.out.2.2.2.2.1,ag.out.ine,ag.out.kp,(HX.out.2.2.2.2.2.kpX bn (fun y hy=>by rw[yf.1 hy];exact yg.2 ir.out)).anti (fun y hy _=>yg.2 (by have:=yg.1 hy;have:=ir.out;have:=HQ.out;omega))⟩
   |bad e0 p0=>
    rintro e w4 ⟨cs,k1,op1,nd1,rfl,g1,g2,g3,g4,g5,g6,g7⟩;obtain⟨C,rfl⟩:∃ C:List Value,cs=C.toArray:=⟨cs.toList,by simp⟩
    have yC:Hid (C.length=22):=zh (by rwa [yd]at g1);have yo:=zh g2;have HX:=zh (⟨g3,g4,g5⟩:k<=k1/\k1<E.L.length/\nd1+k<=nd+k1);have ak:=zh (az.out.step g6 g7);clear g1 g2 g3 g4 g5 g6 g7 az CL1;have HT:=zh (ak.out.there 1 rfl C.toArray.size (by rw[yd,yC.out];rfl));have ag:=zh (ak.out.fill hE 1 rfl C (by rw[yC.out];rfl));have zi:=fo yC.out
    go_wp2_with (first |(refine yq rfl 41 (.tmp 2) (.tmp 18) rfl q 0 C.toArray rfl rfl HT.out zi yo.out ?_;change wpList _ _ _ _ _ (World.setCells _ q 0 C);generalize World.setCells _ _ _ _=wz at ag ⊢))
    have HA:=zh (ag.out.li 1 rfl);refine yt (aM rfl rfl HA.out (by rw[yd,yC.out])) rfl ?_;refine HSA.out _ _ ?_;exact⟨C.toArray,k1,op1,nd1,rfl,by rw[yd,yC.out],yo.out,HX.out.1,HX.out.2.1,HX.out.2.2,ag.out.ine,ag.out.kp⟩
def KCells(W:World)(X:List Nat):List Value->List Tree->Prop
 |xs,[]=>xs=[]
 |xs,t::l=>∃ c r,xs=c++r/\c.length=22/\(∃ A cp,c.toArray=aY t.h A t.l.length cp/\KidsOk W X A t.l)/\KCells W X r l
theorem KCells.kp{W W':World}{X:List Nat}(hk:Kp X W W'):∀ {xs:List Value} {l:List Tree},KCells W X xs l->KCells W' X xs l
 |_,[],h=>h
 |_,_::_,⟨c,r,h1,h2,⟨A,cp,h3,h4⟩,h5⟩=>⟨c,r,h1,h2,⟨A,cp,h3,h4.kp hk⟩,h5.kp hk⟩
theorem KCells.snoc{W:World}{X:List Nat}{t:Tree}{c:List Value}(hc:c.length=22){A:Option Addr}{cp:Nat}(h3:c.toArray=aY t.h A t.l.length cp)(h4:KidsOk W X A t.l):∀ {xs:List Value} {l:List Tree},KCells W X xs l->KCells W X (xs++c) (l++[t])
 |xs,[],h=>by
  have h0:xs=[]:=h;subst h0;exact⟨c,[],by simp,hc,⟨A,cp,h3,h4⟩,rfl⟩
 |xs,u::l,⟨d,r,h1,h2,h5,h6⟩=>⟨d,r++c,by rw[h1,List.append_assoc],h2,h5,KCells.snoc hc h3 h4 h6⟩
theorem KCells.anti{W:World}{X Y:List Nat}(hs:∀ y∈Y,y<W.heap.size->y∈X):∀ {xs:List Value} {l:List Tree},KCells W X xs l->KCells W Y xs l
 |_,[],h=>h
 |_,_::_,⟨c,r,h1,h2,⟨A,cp,h3,h4⟩,h5⟩=>by
  refine⟨c,r,h1,h2,⟨A,cp,h3,?_⟩,h5.anti hs⟩;rcases h4 with h4|⟨g',e,h6,h7,h8⟩
  ·exact .inl h4
  exact .inr ⟨g',e,fun hm=>h6 (hs g' hm h7),h7,KidsAt.anti hs h8⟩
theorem KCells.at{W:World}{X:List Nat}{g:Nat}{cur:Array Value}(hb:W.heap[g]?=some (.cells cur 41 (0,0))):∀ {l:List Tree} {xs:List Value} (i:Nat),KCells W X xs l->(∀ j,j<xs.length->cur[i*22+j]?=xs[j]?)->KidsAt W X g i l
 | [],_,_,_,_=>trivial
 |t::l,xs,i,⟨c,r,h1,h2,⟨A,cp,h3,h4⟩,h5⟩,hc=>by
  subst h1;refine⟨?_,KCells.at hb (i+1) h5 (fun j hj=>?_)⟩
  ·cases t with
   |mk h l'=>
    refine⟨A,cp,fun j hj=>?_,h4⟩;have hl:Lies W g 41 cur:=hb;rw[hl.cell,hc j (by rw[yl];omega),List.getElem?_append_left (by omega)];have:c.toArray[j]?=(aY h A l'.length cp)[j]?:=by rw[h3];rfl
    simpa using this
  have:=hc (22+j) (by rw[yl];omega);rw[show i*22+(22+j)=(i+1)*22+j by omega,List.getElem?_append_right (by omega),show 22+j-c.length=j by omega]at this;exact this
abbrev KX(base:Nat)(v:Value):List Nat:=v.ownBlock.toList++List.range base
theorem KX.mem{base:Nat}{v:Value}{y:Nat}:y∈KX base v↔v.ownBlock=some y\/y<base:=by
 unfold KX;rw[List.mem_append,yg,Option.mem_toList]
structure KR(W:World)(base:Nat)(v:Value)(n:Nat)(l:List Tree)(nd:Nat):Prop where
 ex:∃ xs,W.ownsRow base 41 22 v n xs/\(nd<=256->n=l.length/\KCells W (KX base v) xs l)
theorem KR.nil(W:World)(base:Nat)(nd:Nat):KR W base (.slice none 0 0) 0 [] nd:=⟨[],World.ownsRow_nil _ _ _ _,fun _=>⟨rfl,rfl⟩⟩
theorem KR.kp{W W':World}{base:Nat}{Y:List Nat}{v:Value}{n:Nat}{l:List Tree}{nd:Nat}(h:KR W base v n l nd)(hk:Kp Y W W')(hb:∀ y∈Y,y<base\/W.heap.size<=y):KR W' base v n l nd:=by
 obtain⟨xs,h1,h2⟩:=h.ex;refine⟨xs,dQ h1 hk (fun g hg hm=>?_),fun hn=>⟨(h2 hn).1,(h2 hn).2.kp (hk.mono (fun y hy hl=>?_))⟩⟩
 ·have:=(bH h1 g hg)
  rcases hb g hm with h3|h3 <;> omega
 rcases hb y hy with h3|h3
 ·exact KX.mem.2 (.inr h3)
 omega
theorem KR.next{W W':World}{base:Nat}{v:Value}{n:Nat}{l:List Tree}{nd:Nat}(h:KR W base v n l nd)(hb:Below W.heap.size W W'):KR W' base v n l nd :=
 h.kp (Y:=[]) (Kp.of_below hb) (fun y hy=>by cases hy)
theorem KR.more{W:World}{base:Nat}{v:Value}{n:Nat}{l:List Tree}{nd nd':Nat}(h:KR W base v n l nd)(hn:nd<=nd'):KR W base v n l nd':=by
 obtain⟨xs,h1,h2⟩:=h.ex;exact⟨xs,h1,fun hn'=>h2 (by omega)⟩
theorem KR.form{W:World}{base:Nat}{v:Value}{n:Nat}{l:List Tree}{nd:Nat}(h:KR W base v n l nd):∃ A cap,v=.slice A n cap:=by
 obtain⟨xs,h1,_⟩:=h.ex;rcases h1.2 with⟨rfl,rfl⟩|⟨g,cap,cur,rfl,_⟩
 ·exact⟨none,0,rfl⟩
 exact⟨_,cap,rfl⟩
theorem KR.kids{W:World}{base:Nat}{A:Option Addr}{n cap:Nat}{l:List Tree}{nd:Nat}(h:KR W base (.slice A n cap) n l nd)(hn:nd<=256){X:List Nat}(hX:∀ y∈X,y<base):n=l.length/\KidsOk W X A l:=by
 obtain⟨xs,h1,h2⟩:=h.ex;obtain⟨h3,h4⟩:=h2 hn;refine⟨h3,?_⟩;rcases h1.2 with⟨e,h0⟩|⟨g,gu,cur,e,hg,hb,fg,gw,s7,hc4⟩
 ·left
  rw[h0]at h3;exact List.eq_nil_of_length_eq_zero h3.symm
 injection e with e1 e2 e3;refine .inr ⟨g,e1,fun hm=>?_,(zk.1 hb).1,KidsAt.anti (fun y hy _=>KX.mem.2 (.inr (hX y hy))) (KCells.at hb 0 h4 (fun j hj=>?_))⟩
 ·have:=hX g hm;omega
 rw[<- hc4,List.getElem?_take_of_lt (by rw[h1.1]at hj;exact hj),Nat.zero_mul,Nat.zero_add];simp
theorem KR.push{W W':World}{base:Nat}{v v':Value}{n:Nat}{l:List Tree}{nd:Nat}{t:Tree}{c:List Value}(h:KR W base v n l nd)(hv:NV W (KX base v) nd t c.toArray)(hg:W.grownBy W' v.ownBlock)(hbl:∀ k,v'.ownBlock=some k->v.ownBlock=some k\/W.heap.size<=k){xs:List Value}(hx:W.ownsRow base 41 22 v n xs)(aj:W'.ownsRow base 41 22 v' (n+1) (xs++c)):KR W' base v' (n+1) (l++[t]) nd:=by
 obtain⟨ys,h1,h2⟩:=h.ex;have hxy:ys=xs:=by
  rcases h1.2 with⟨e,h0⟩|⟨g,gu,cur,e,hg,hb,fg,gw,s7,hc4⟩
  ·have a1:ys=[]:=List.eq_nil_of_length_eq_zero (by rw[h1.1,h0]);have a2:xs=[]:=List.eq_nil_of_length_eq_zero (by rw[hx.1,h0]);rw[a1,a2]
  rcases hx.2 with⟨e2,_⟩|⟨g2,cap2,cur2,e2,qv,ay,_,_,_,hd4⟩
  ·rw[e]at e2;cases e2
  rw[e]at e2;injection e2 with e3 _ _;injection e3 with e3;injection e3 with e3;subst e3;rw[hb]at ay;injection ay with ay;injection ay with ay;rw[<- hc4,<- hd4,ay]
 subst hxy;refine⟨ys++c,aj,fun hn=>?_⟩;obtain⟨h3,h4⟩:=h2 hn;obtain⟨g22,g1,g3⟩:=hv;obtain⟨A,cp,e,hk⟩:=g3 hn;have gy:Kp (KX base v) W W':=⟨hg.os,hg.tape,hg.output,hg.size,fun k hk hnm=>hg.block k hk (fun e=>hnm (KX.mem.2 (.inl e.symm)))⟩
 have hanti:∀ y∈KX base v',y<W.heap.size->y∈KX base v:=fun y hy hl=>by
  rcases KX.mem.1 hy with h5|h5
  ·rcases hbl y h5 with h6|h6
   ·exact KX.mem.2 (.inl h6)
   omega
  exact KX.mem.2 (.inr h5)
 refine⟨by simp[h3],?_⟩;have hs:=KCells.snoc (by rwa [yd]at g22) e hk h4;have jo:=hs.anti (Y:=KX base v++KX base v') (fun y hy hl=>by
  rcases List.mem_append.1 hy with hy|hy
  ·exact hy
  exact hanti y hy hl)
 have qw:=jo.kp (gy.mono (fun y hy _=>List.mem_append_left _ hy));exact qw.anti (fun y hy _=>List.mem_append_right _ hy)
theorem vQ:(Tryz.prog.info? 41).map (fun i=>(i.size,i.bytes))=some (22,192):=by kernel_rfl
theorem uV{w w':World}{base n:Nat}{v v':Value}{xs news:List Value}{i:TypeInfo}{z:Value}(t ty:TypeId)(ht:Tryz.prog.underlying t=some (.slice 41))(hi:Tryz.prog.info? 41=some i)(hz:i.zero=some z)(hs:i.size=22)(hb:i.bytes=192)(aj:w.ownsRow base 41 22 v n xs)(hn:n<=100000)
  (a:Addr) (c:Nat) (hl:news.length=22) (jn:∀ j u,news[j]?=some u->w.cell? (a.add j)=some u) (h1:∀ u∈news,u.oneCell'=true) (hr:(Builtin.append_ #[t,t] ty #[v,.slice (some a) 1 c]).run Tryz.prog w=.ok v' w'):∀ k,v'.ownBlock=some k->v.ownBlock=some k\/w.heap.size<=k:=by
 intro k hk;rcases aj.2 with⟨e,h0⟩|⟨g,cap,cur,e,hg,nk,fg,gw,s7,hc4⟩
 ·subst e h0;have:=run_append_nil (P:=Tryz.prog) w t ty 41 i z ht hi hz a 1 c news (by rw[hs,hl]) jn (by decide) (by decide) (by rw[hb];decide);rw[this]at hr;injection hr with hr _;rw[<- hr]at hk;simp[Value.ownBlock]at hk;exact .inr (by omega)
 subst e;by_cases hroom:n+1<=cap
 ·have:=run_append_room (P:=Tryz.prog) w t ty 41 i ht hi g n cap cur nk a 1 c news (by rw[hs,hl]) jn h1 hroom (by rw[hs,hl,s7];omega);rw[this]at hr;injection hr with hr _;rw[<- hr]at hk;exact .inl hk
 have eu:cap<=n:=by omega
 have u7:Builtin.nextslicecap (n+1) cap*i.bytes<=281474976710656:=growslice_fits (by omega) (by rw[hb];omega);have:=run_append_grow (P:=Tryz.prog) w t ty 41 i z ht hi hz ⟨g,0,none⟩ n cap xs (by rw[hs];exact aj.1) (aj.cells (g:=g) rfl) a 1 c news (by rw[hs,hl]) jn (by omega) (by omega) u7;rw[this]at hr;injection hr with hr _;rw[<- hr]at hk;simp[Value.ownBlock]at hk;exact .inr (by omega)
theorem jP{ops:Array Oper}{rest:List Oper}{o:Oper}{a:Act}{w:World}{Q:Exit->Act->World->Prop}(s5:o.guard=none)(s x:Operand)(ho:o.op=.call { callee:=.builtin .append,args:=#[s,x],argTypes:=#[39,39] })
  (base n:Nat) (v:Value) (l:List Tree) (nd:Nat) (hs:a.eval s=v) (hK:KR w base v n l nd) (hn:n<=100000) (cv:base<=w.heap.size)
  (g c:Nat) (news:List Value) (hx:a.eval x=.slice (some ⟨g,0,none⟩) 1 c) (hl:news.length=22) (hL:Lies w g 41 news.toArray) (h1:news.toArray.all (·.oneCell')=true) (t:Tree) (hv:NV w (KX base v) nd t news.toArray)
  (h:∀ v' w',KR w' base v' (n+1) (l++[t]) nd->w.grownBy w' v.ownBlock->(∀ k,v'.ownBlock=some k->v.ownBlock=some k\/w.heap.size<=k)->wpList Tryz.prog ops Q rest (a.put o.dst v') w'):wpList Tryz.prog ops Q (o::rest) a w:=by
 obtain⟨xs,aj,_⟩:=hK.ex;have hB:=vQ;obtain⟨i,z,hi,bg,hz,hzc⟩:=mN;rw[hi]at hB;simp at hB;have jn:∀ j u,news[j]?=some u->w.cell? ((⟨g,0,none⟩:Addr).add j)=some u:=fun j u hj=>by
  have hc:=hL.cell j;rw[za,hj]at hc;have e:(⟨g,0,none⟩:Addr).add j=⟨g,j,none⟩:=by cases j <;> simp[Addr.add]
  rw[e];exact hc
 have yc:∀ u∈news,u.oneCell'=true:=fun u hu=>(Array.all_eq_true_iff_forall_mem.1 h1) u (by simpa using hu)
 obtain⟨v',w',hr,h2,h3,_⟩:=run_append_own (P:=Tryz.prog) w base 39 o.type 41 i z 22 192 qD hi hz bg hB.2 hzc (by decide) v n xs aj ⟨g,0,none⟩ 1 c news (by rw[hl]) jn yc (by unfold maxLen;omega) (by omega) cv;have hbl:=uV 39 o.type qD hi hz bg hB.2 aj hn ⟨g,0,none⟩ c hl jn yc hr;refine wpList_plain s5 fun K hKK=>?_
 unfold Oper.wp execOp;simp only[ho,resolve,invoke,builtin,Sem.run_bind,Sem.run_pure,Result.andThen_ok,List.map_toArray,List.map_cons,List.map_nil,hs,hx,hr];exact hKK _ _ (h v' w' (hK.push hv h3 hbl aj h2) h3 hbl)
section
variable {E:Env} {w W W':World} {k op nd pl er:Nat} {L:List (Nat×TypeId×Array Value)}
theorem Fs.drop1{x:Nat×TypeId×Array Value}(h:Fs E w k op nd pl er (x::L) W):Fs E w k op nd pl er L W :=
 ⟨h.base,h.ine,h.kp,fun b hm=>h.own b (zg _ hm),fun i j a b hi hj bp=>h.ne (i+1) (j+1) a b (by simpa using hi) (by simpa using hj) (by omega),fun b hm=>h.ty b (zg _ hm)⟩
theorem Fs.grow(h:Fs E w k op nd pl er L W)(hE:E.ok){base n:Nat}{v:Value}{l:List Tree}{c:Nat}(hK:KR W base v n l c)(hb:w.heap.size<=base)(hL:∀ b∈L,v.ownBlock≠some b.1)(hg:W.grownBy W' v.ownBlock):Fs E w k op nd pl er L W':=by
 obtain⟨xs,h1,_⟩:=hK.ex;rcases h1.2 with⟨rfl,_⟩|⟨g,cap,cur,rfl,nk,km,_⟩
 ·have hk:Kp [] W W':=(Kp.refl [] W).grown hg (fun g hg=>by simp[Value.ownBlock]at hg);exact h.next (hk.below (fun y hy=>by cases hy) zr)
 obtain⟨k0,op0,nd0,pl0,er0,ct⟩:=h.base;have hk:Kp [g] W W':=(Kp.refl [g] W).grown hg (fun g' o6=>by
  simp[Value.ownBlock]at o6;subst o6;exact .inl (.head _))
 have ho:Own1 E w W g 41 cur:=⟨ct.fresh (by omega),by omega,km⟩
 refine⟨h.base,h.ine.own hE ho (by decide) (by decide) hk,h.kp.own ho hk,fun b hm=>?_,h.ne,h.ty⟩;have af:=h.own b hm;exact⟨af.fr,af.ge,hk.lies af.li (fun mf=>hL b hm (by rw[yf.1 mf];rfl))⟩
end
abbrev cD(kd:Int)(s:Bs)(rows:Int)(A:Option Addr)(n cap:Nat):List Value:=[.int .i64 kd,.int .i64 0,.int .i64 0,.int .i64 0,.string ⟨#[]⟩,.bool false,.int .i64 0,.string ⟨s.toArray⟩,.int .i64 0,.int .i64 0,.int .i64 0,.int .i64 0,.bool false,.bool false,.int .i64 0,.int .i64 0,.int .i64 0,.int .i64 0,.bool false,.bool false,.int .i64 rows,.slice A n cap]
theorem fI(kd:Int)(s:Bs)(rows:Int)(A:Option Addr)(n cap:Nat):(cD kd s rows A n cap).toArray.all (·.oneCell')=true:=by simp[cD,Value.oneCell']
theorem vS{E:Env}{w W:World}{k k' op nd c pl er:Nat}{L:List (Nat×TypeId×Array Value)}{C:List Value}{h:NodeH}{l:List Tree}(hF:Fs E w k' op c pl er L W)(fz:C.length=22)(h1:C.toArray.all (·.oneCell')=true)(hc:c<=256->∃ A cp,C.toArray=aY h A l.length cp/\KidsOk W (List.range w.heap.size) A l)(hk:k<=k')(fm:k'<E.L.length)(hn:c+k<=nd+k')(ew:nd<=c){ts:List Tok}(hts:ts=E.L.drop k') :
  NPost E w k op nd pl er (.ok (.mk h l) ts c) (.returned (.tuple #[.agg C.toArray,.bool true])) W :=
 ⟨k',C.toArray,rfl,hk,fm,hts,hn,ew,hF.ine,hF.kp,by rw[yd,fz],h1,hc⟩
theorem uAK{ts:List Tok}{c:Nat}{t:Tree}{av:List Tok}{c1:Nat}(h:eJ ts c=.ok t av c1):c1=c+1:=by
 unfold eJ at h
 split at h
 ·split at h
  ·unfold fE at h;cases h
  split at h
  ·unfold fE at h;cases h
  injection h with _ _ h3;exact h3.symm
 unfold cX at h
 split at h
 ·unfold fE at h;cases h
 injection h with _ _ h3;exact h3.symm
theorem fL{W:World}{base n:Nat}{v:Value}{l:List Tree}{c:Nat}(hK:KR W base v n l c){g:Nat}(hg:v.ownBlock=some g):base<=g/\g<W.heap.size:=by
 obtain⟨xs,h1,_⟩:=hK.ex;exact bH h1 g hg
theorem KR.skip{W:World}{base:Nat}{v:Value}{n:Nat}{l l':List Tree}{c c':Nat}(hK:KR W base v n l c)(hc:256<c'):KR W base v n l' c':=by
 obtain⟨xs,h1,_⟩:=hK.ex;exact⟨xs,h1,fun h=>by omega⟩
structure Mat(E:Env)(w:World)(k op nd pl er q q4:Nat)(T:Out)(k' c rows cols wide n cap:Nat)(A:Option Addr)(l:List Tree)(W:World):Prop where
 st:Fs E w k' op c pl er [(q4,41,(cD 8 [] rows A n cap).toArray),(q,41,aA.toArray)] W
 kr:KR W (q4+1) (.slice A n cap) n l c
 le:k+1<=k'
 lt:k'<E.L.length
 nc:c+k+1<=nd+k'
 nn:nd<=c
 ln:n<=c
 lr:rows<=k'
 lc:cols<=k'
 lw:wide<=k'+1
 go:∃ f,E.L.length-k'<=f/\eP f rows cols wide l (E.L.drop k') c=T
theorem Mat.out{E:Env}{w:World}{k op nd pl er q q4:Nat}{T:Out}{k' c rows cols wide n cap:Nat}{A:Option Addr}{l:List Tree}{W:World}(h:Mat E w k op nd pl er q q4 T k' c rows cols wide n cap A l W) :
  ∃ f,E.L.length-k'<=f+1/\(match eJ (E.L.drop k') c with
   | .bad e p=>.bad e p
   | .ok x av c1=>
    if isS (hd av) [44]&&(decide (rows=0)||decide (wide<cols)) then eP f rows cols (wide+1) (l++[x]) av.tail c1
    else if isS (hd av) [59]&&(decide (rows=0)||decide (wide=cols)) then eP f (rows+1) wide 1 (l++[x]) av.tail c1
    else if isS (hd av) [125]&&(decide (rows=0)||decide (wide=cols)) then .ok (uIZ (rows+1:Nat) (l++[x])) av.tail (c1+1)
    else fE 6 av)=T:=by
 obtain⟨f,h1,h2⟩:=h.go;have:=h.lt;cases f with
 |zero=>omega
 |succ f=>exact⟨f,h1,h2⟩
end Go.Proofs.YtmgjidnalpgegaaGreatDoor
