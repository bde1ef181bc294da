/-
  Lemmas, part 10: ParB ParC ParD ParE ParF ParG ParH.
-/
import Derived.Deep.CutBlock
import Derived.Great.BuildSlice
import Derived.Great.Walk
import Derived.Test.YtmgjidnalpgegaaGreatDoorPr9
set_option maxHeartbeats 100000000
namespace Go.Proofs.YtmgjidnalpgegaaGreatDoor
open Go.RowKit
theorem aM{fn:Func}{p u:Tmp}{tmps:Array Value}{w:World}{g:Nat}{cs:Array Value}(h:fn.results=#[.cell p 41,.tmp u])(hp:tmps.getD p undef=.pointer (some ⟨g,0,none⟩))(hl:Lies w g 41 cs)(fz:cs.size=22) :
  (results fn tmps).run Tryz.prog w=.ok (.tuple #[.agg cs,tmps.getD u undef]) w:=by
 have hr:=run_loadVar_row (P:=Tryz.prog) w g 41 41 cs _ _ hl Tryz.underlying41 rfl (by rw[fz];exact aF);rw[results_cell_tmp h,hp];simp only[asAddr,Sem.run_pure,Result.andThen_ok,hr]
abbrev mW(v:Val):List Value:=[.int .i64 0,.int .i64 v.kind,.int .i64 v.mant,.int .i64 v.exp,.string ⟨v.text.toArray⟩,.bool v.truth,.int .i64 v.fault,.string ⟨#[]⟩,.int .i64 0,.int .i64 0,.int .i64 0,.int .i64 0,.bool false,.bool false,.int .i64 0,.int .i64 0,.int .i64 0,.int .i64 0,.bool false,.bool false,.int .i64 0,.slice none 0 0]
theorem mE(v:Val):(mW v).toArray.all (·.oneCell')=true:=by simp[mW,Value.oneCell']
theorem eO(n:Nat)(cs:List Value)(h:cs.length=22)(h1:cs.toArray.all (·.oneCell')=true):∃ C:List Value,(if 256<n then aA.toArray else cs.toArray)=C.toArray/\C.length=22/\C.toArray.all (·.oneCell')=true/\(n<=256->C=cs):=by
 by_cases hn:256<n
 ·exact⟨aA,by rw[if_pos hn],rfl,aW,fun h'=>by omega⟩
 exact⟨cs,by rw[if_neg hn],h,h1,fun _=>rfl⟩
set_option maxRecDepth 100000 in
theorem qM(E:Env)(hE:E.ok)(k op nd pl er:Nat)(w:World)(hI:InE E k op nd pl er w)(hk:k+1<E.L.length)(hL:E.L.length<=1000000)(ht:(E.at k).text.length<=100000)(hn:nd<=k)(v:Val)(hv:fJ (E.at k)=.ok v) :
  Calls Tryz.prog 117 #[.pointer (some ⟨E.r,0,none⟩)] w (fun e w'=>e=.returned (.tuple #[.agg (if 256<nd+1 then aA.toArray else (mW v).toArray),.bool true])/\InE E (k+1) op (nd+1) pl er w'/\Kp E.X w w'):=by
 have CT:=zh (fun W h=>bX E k op nd pl er W h (by omega));have CN:=zh (fun W h=>gI E hE (k+1) op nd pl er (mW v) rfl (mE v) W h (by omega));obtain⟨C,hC,ah,fd,gq⟩:=eO (nd+1) (mW v) rfl (mE v);rw[hC]at CN ⊢;clear hC;have yC:=zh ah;have fa:=zh fd;have m8:=zh gq;clear ah fd gq;have CPn:=zh (fun W=>wC (E.at k).text W (by omega));have CPo:=zh of_any;have CTx:=zh (fun W=>uBN (E.at k).text W (by omega));have CFa:=zh (fun W h=>uL (E.at k).text W (by unfold maxLen;omega) h);have CBa:=zh wX;have CTr:=zh (fun W=>mC (E.at k) W ht);have CFo:=zh (fun W=>kG (E.at k).text W (by unfold maxLen;omega));have CTh:=zh wR;generalize E.at k=t at *;obtain⟨tk,tx,tp⟩:=t;dsimp only[tkV]at CT CPn CTx CFa CTr CFo ⊢;have HF:=zh hI;have co:=zh (hI.next (zp (.cells aA.toArray 41)))
 have cj:Hid (Kp E.X w (w.alloc (.cells aA.toArray 41))):=zh ((Kp.refl _ _).alloc _);have cg:=zh (Own1.new hI (Kp.refl E.X w) 41 aA.toArray);clear hI;simp only[aA]at co cj cg
 go_enter Tryz.func117,Tryz.ntmps117
 go_upto_region 1 with fail
 generalize w.alloc (.cells zM 41)=W1 at co cj cg ⊢;generalize en:w.heap.size=q at cg ⊢;clear en
 go_wp2_with fail
 refine(CT.out W1 co.out).mono ?_;rintro e w1 ⟨rfl,hb⟩;have ip:=zh (co.out.next hb);have dz:=zh (cj.out.trans (Kp.of_below hb));have i9:=zh (cg.out.next hb);clear hb co cj cg
 go_upto_region 2 with fail
 have dg:=zh (ip.out.next (zp (.cells #[.int .i64 tk,.string ⟨tx.toArray⟩,.int .i64 (tp:Int)] 70)));have bv:=zh (i9.out.next (zp (.cells #[.int .i64 tk,.string ⟨tx.toArray⟩,.int .i64 (tp:Int)] 70)));have cq:=zh (Own1.new HF.out dz.out 70 #[.int .i64 tk,.string ⟨tx.toArray⟩,.int .i64 (tp:Int)]);have bq:=zh (dz.out.alloc (.cells #[.int .i64 tk,.string ⟨tx.toArray⟩,.int .i64 (tp:Int)] 70));have bp:q≠w1.heap.size:=by have:=i9.out.li.lt;omega
 generalize w1.alloc (.cells #[.int .i64 tk,.string ⟨tx.toArray⟩,.int .i64 (tp:Int)] 70)=w2 at *;generalize w1.heap.size=q1 at *;clear ip i9 dz
 go_upto_block 0 with fail
 have ez:=zh (dg.out.next (zp (.cells (jS aD) 32)));have iw:=zh (bv.out.next (zp (.cells (jS aD) 32)));have aq:=zh (cq.out.next (zp (.cells (jS aD) 32)));have HV3:=zh (Own1.new HF.out bq.out 32 (jS aD));have fb:=zh (bq.out.alloc (.cells (jS aD) 32));have bz:q≠w2.heap.size:=by have:=bv.out.li.lt;omega
 have po:q1≠w2.heap.size:=by have:=cq.out.li.lt;omega
 simp only[aD]at ez iw aq HV3 fb;generalize w2.alloc (.cells #[.int .i64 0,.int .i64 0,.int .i64 0,.string ⟨#[]⟩,.bool false,.int .i64 0] 32)=w3 at ez iw aq HV3 fb ⊢;generalize w2.heap.size=q2 at *;clear dg bv cq bq
 go_cut [] (fun wx=>Hid (InE E k op nd pl er wx)/\Hid (Kp E.X w wx)/\Hid (Own1 E w wx q 41 aA.toArray)/\Hid (Own1 E w wx q2 32 (jS v)))
 case first=>
  have HI:=ez;have HK:=fb;have HA:=iw;have HB:=aq;have HV:=HV3;clear ez fb iw HV3 CN CT;have b0:=aq.out.li.cell 0;have b1:=aq.out.li.cell 1;have b2:=aq.out.li.cell 2;simp only[za,zb,zf]at b0 b1 b2;by_cases h1:tk=1
  ·subst h1;have hp:∃ a b,eB tx=some (a,b)/\v=iB a b:=by
    unfold fJ at hv;simp only[if_pos]at hv;cases hq:eB tx with
    |none=>rw[hq]at hv;cases hv
    |some q=>rw[hq]at hv;injection hv with hv;exact⟨q.1,q.2,rfl,hv.symm⟩
   obtain⟨na,nb,hp,rfl⟩:=hp;rw[hp]at CPn;clear hv hp;unfold gT at CPn
   try unfold iB
   unfold iB at CPo;dsimp only at CPn
   go_wp2_with fail
   refine(CPn.out _).mono ?_;rintro e x1 ⟨rfl,hb⟩;replace HI:=zh (HI.out.next hb);replace HK:=zh (HK.out.trans (Kp.of_below hb));replace HA:=zh (HA.out.next hb);replace HB:=zh (HB.out.next hb);replace HV:=zh (HV.out.next hb);clear hb
   go_upto_region 6 with fail
   have o8:∀ o,Below x1.heap.size x1 (x1.alloc o):=fun o=>zp o
   replace HI:=zh (HI.out.next (o8 (.cells #[.int .i64 na,.int .i64 nb] 30)));replace HK:=zh (HK.out.alloc (.cells #[.int .i64 na,.int .i64 nb] 30));replace HA:=zh (HA.out.next (o8 (.cells #[.int .i64 na,.int .i64 nb] 30)));replace HB:=zh (HB.out.next (o8 (.cells #[.int .i64 na,.int .i64 nb] 30)));replace HV:=zh (HV.out.next (o8 (.cells #[.int .i64 na,.int .i64 nb] 30)));have HN:=zh (Lies.new x1 30 #[.int .i64 na,.int .i64 nb]);generalize x1.alloc (.cells #[.int .i64 na,.int .i64 nb] 30)=x2 at HI HK HA HB HV HN ⊢;generalize x1.heap.size=qn at HN ⊢;clear o8;have n0:=HN.out.cell 0;have n1:=HN.out.cell 1;simp only[za,zb,zf]at n0 n1
   go_wp2_with fail
   refine(CPo.out na nb _).mono ?_;rintro e x3 ⟨rfl,hb⟩;replace HI:=zh (HI.out.next hb);replace HK:=zh (HK.out.trans (Kp.of_below hb));replace HA:=zh (HA.out.next hb);replace HB:=zh (HB.out.next hb);replace HV:=zh (HV.out.next hb);clear hb;have v0:=HV.out.li.cell 0;have v1:=HV.out.li.cell 1;have v2:=HV.out.li.cell 2;have v3:=HV.out.li.cell 3;have v4:=HV.out.li.cell 4;have v5:=HV.out.li.cell 5;have g0:=HV.out.li.frozen 0;have g1:=HV.out.li.frozen 1;have g2:=HV.out.li.frozen 2;have g3:=HV.out.li.frozen 3;have g4:=HV.out.li.frozen 4;have g5:=HV.out.li.frozen 5;simp only[za,zb,zf]at v0 v1 v2 v3 v4 v5
   all_goals go_wp2_with fail
   all_goals go_meet
   all_goals exact⟨zh (HI.out.own hE HV.out (by decide) (by decide) (((((((Kp.refl _ _).set (.inl (.head _)) 0 _).set (.inl (.head _)) 1 _).set (.inl (.head _)) 2 _).set (.inl (.head _)) 3 _).set (.inl (.head _)) 4 _).set (.inl (.head _)) 5 _)),zh (HK.out.own HV.out (((((((Kp.refl _ _).set (.inl (.head _)) 0 _).set (.inl (.head _)) 1 _).set (.inl (.head _)) 2 _).set (.inl (.head _)) 3 _).set (.inl (.head _)) 4 _).set (.inl (.head _)) 5 _)),zh ((((((HA.out.off bz 0 _).off bz 1 _).off bz 2 _).off bz 3 _).off bz 4 _).off bz 5 _),zh ((((((HV.out.put 0 _).put 1 _).put 2 _).put 3 _).put 4 _).put 5 _)⟩
  by_cases h2:tk=2
  ·subst h2;have hp:tx.length<=255/\pK tx=v:=by
    unfold fJ at hv;simp only[if_pos,show ¬ (2=1) by decide,if_false]at hv;by_cases hl:255<tx.length
    ·simp[hl]at hv
    simp only[hl,if_false]at hv;injection hv with hv;exact⟨by omega,hv⟩
   obtain⟨uz,sy⟩:=hp;rw[sy]at CTx;clear hv sy h1;obtain⟨va,vb,vc,vd,ve,vf⟩:=v
   try dsimp only at CTx ⊢
   go_wp2_with fail
   refine(CTx.out _).mono ?_;rintro e x1 ⟨rfl,hb⟩;replace HI:=zh (HI.out.next hb);replace HK:=zh (HK.out.trans (Kp.of_below hb));replace HA:=zh (HA.out.next hb);replace HB:=zh (HB.out.next hb);replace HV:=zh (HV.out.next hb);clear hb;have v0:=HV.out.li.cell 0;have v1:=HV.out.li.cell 1;have v2:=HV.out.li.cell 2;have v3:=HV.out.li.cell 3;have v4:=HV.out.li.cell 4;have v5:=HV.out.li.cell 5;have g0:=HV.out.li.frozen 0;have g1:=HV.out.li.frozen 1;have g2:=HV.out.li.frozen 2;have g3:=HV.out.li.frozen 3;have g4:=HV.out.li.frozen 4;have g5:=HV.out.li.frozen 5;simp only[za,zb,zf]at v0 v1 v2 v3 v4 v5
   all_goals go_wp2_with fail
   all_goals go_meet
   all_goals exact⟨zh (HI.out.own hE HV.out (by decide) (by decide) (((((((Kp.refl _ _).set (.inl (.head _)) 0 _).set (.inl (.head _)) 1 _).set (.inl (.head _)) 2 _).set (.inl (.head _)) 3 _).set (.inl (.head _)) 4 _).set (.inl (.head _)) 5 _)),zh (HK.out.own HV.out (((((((Kp.refl _ _).set (.inl (.head _)) 0 _).set (.inl (.head _)) 1 _).set (.inl (.head _)) 2 _).set (.inl (.head _)) 3 _).set (.inl (.head _)) 4 _).set (.inl (.head _)) 5 _)),zh ((((((HA.out.off bz 0 _).off bz 1 _).off bz 2 _).off bz 3 _).off bz 4 _).off bz 5 _),zh ((((((HV.out.put 0 _).put 1 _).put 2 _).put 3 _).put 4 _).put 5 _)⟩
  by_cases h6:tk=6
  ·subst h6;have hp:oB (jJ tx)=v:=by
    unfold fJ at hv;simp only[if_pos,show ¬ (6=1) by decide,show ¬ (6=2) by decide,if_false]at hv;injection hv
   have CB1:=zh (fun W=>CBa.out (jJ tx) W);rw[hp]at CB1;clear hv hp h1 h2 CBa;obtain⟨va,vb,vc,vd,ve,vf⟩:=v
   try dsimp only at CB1 ⊢
   generalize jJ tx=fn at *
   go_wp2_with fail
   refine(CFa.out _ HI.out.tb).mono ?_;rintro e x1 ⟨rfl,hb⟩;replace HI:=zh (HI.out.next hb);replace HK:=zh (HK.out.trans (Kp.of_below hb));replace HA:=zh (HA.out.next hb);replace HB:=zh (HB.out.next hb);replace HV:=zh (HV.out.next hb);clear hb
   go_wp2_with fail
   refine(CB1.out _).mono ?_;rintro e x2 ⟨rfl,hb⟩;replace HI:=zh (HI.out.next hb);replace HK:=zh (HK.out.trans (Kp.of_below hb));replace HA:=zh (HA.out.next hb);replace HB:=zh (HB.out.next hb);replace HV:=zh (HV.out.next hb);clear hb;have v0:=HV.out.li.cell 0;have v1:=HV.out.li.cell 1;have v2:=HV.out.li.cell 2;have v3:=HV.out.li.cell 3;have v4:=HV.out.li.cell 4;have v5:=HV.out.li.cell 5;have g0:=HV.out.li.frozen 0;have g1:=HV.out.li.frozen 1;have g2:=HV.out.li.frozen 2;have g3:=HV.out.li.frozen 3;have g4:=HV.out.li.frozen 4;have g5:=HV.out.li.frozen 5;simp only[za,zb,zf]at v0 v1 v2 v3 v4 v5
   all_goals go_wp2_with fail
   all_goals go_meet
   all_goals exact⟨zh (HI.out.own hE HV.out (by decide) (by decide) (((((((Kp.refl _ _).set (.inl (.head _)) 0 _).set (.inl (.head _)) 1 _).set (.inl (.head _)) 2 _).set (.inl (.head _)) 3 _).set (.inl (.head _)) 4 _).set (.inl (.head _)) 5 _)),zh (HK.out.own HV.out (((((((Kp.refl _ _).set (.inl (.head _)) 0 _).set (.inl (.head _)) 1 _).set (.inl (.head _)) 2 _).set (.inl (.head _)) 3 _).set (.inl (.head _)) 4 _).set (.inl (.head _)) 5 _)),zh ((((((HA.out.off bz 0 _).off bz 1 _).off bz 2 _).off bz 3 _).off bz 4 _).off bz 5 _),zh ((((((HV.out.put 0 _).put 1 _).put 2 _).put 3 _).put 4 _).put 5 _)⟩
  have h3:cM ⟨tk,tx,tp⟩=true/\lL (aO tx==jN)=v:=by
   unfold fJ at hv;simp only[h1,h2,h6,if_false]at hv;by_cases hi:cM ⟨tk,tx,tp⟩=true
   ·simp only[hi,if_true]at hv;injection hv with hv;exact⟨hi,hv⟩
   simp[hi]at hv
  obtain⟨hi,hv3⟩:=h3;rw[hi]at CTr;have ht3:tk=3/\(aO tx=jN\/aO tx=gQ):=by
   unfold cM at hi;simpa using hi
  obtain⟨rfl,hf⟩:=ht3;clear hv hi h1 h2 h6;rcases hf with hf|hf
  ·rw[hf]at CFo;have hp:lL true=v:=by
    rw[hf]at hv3;rw[<- hv3];rfl
   have CT1:=zh (fun W=>CTh.out true W);rw[hp]at CT1;clear hv3 hp hf;obtain⟨va,vb,vc,vd,ve,vf⟩:=v
   try dsimp only at CT1 ⊢
   unfold jN at CFo
   go_wp2_with fail
   refine(CTr.out _).mono ?_;rintro e x1 ⟨rfl,hb⟩;replace HI:=zh (HI.out.next hb);replace HK:=zh (HK.out.trans (Kp.of_below hb));replace HA:=zh (HA.out.next hb);replace HB:=zh (HB.out.next hb);replace HV:=zh (HV.out.next hb);clear hb;have b0:=HB.out.li.cell 0;have b1:=HB.out.li.cell 1;have b2:=HB.out.li.cell 2;simp only[za,zb,zf]at b0 b1 b2
   go_wp2_with fail
   refine(CFo.out _).mono ?_;rintro e x2 ⟨rfl,hb⟩;replace HI:=zh (HI.out.next hb);replace HK:=zh (HK.out.trans (Kp.of_below hb));replace HA:=zh (HA.out.next hb);replace HB:=zh (HB.out.next hb);replace HV:=zh (HV.out.next hb);clear hb
   go_wp2_with fail
   refine(CT1.out _).mono ?_;rintro e x3 ⟨rfl,hb⟩;replace HI:=zh (HI.out.next hb);replace HK:=zh (HK.out.trans (Kp.of_below hb));replace HA:=zh (HA.out.next hb);replace HB:=zh (HB.out.next hb);replace HV:=zh (HV.out.next hb);clear hb;have v0:=HV.out.li.cell 0;have v1:=HV.out.li.cell 1;have v2:=HV.out.li.cell 2;have v3:=HV.out.li.cell 3;have v4:=HV.out.li.cell 4;have v5:=HV.out.li.cell 5;have g0:=HV.out.li.frozen 0;have g1:=HV.out.li.frozen 1;have g2:=HV.out.li.frozen 2;have g3:=HV.out.li.frozen 3;have g4:=HV.out.li.frozen 4;have g5:=HV.out.li.frozen 5;simp only[za,zb,zf]at v0 v1 v2 v3 v4 v5
   all_goals go_wp2_with fail
   all_goals go_meet
   all_goals exact⟨zh (HI.out.own hE HV.out (by decide) (by decide) (((((((Kp.refl _ _).set (.inl (.head _)) 0 _).set (.inl (.head _)) 1 _).set (.inl (.head _)) 2 _).set (.inl (.head _)) 3 _).set (.inl (.head _)) 4 _).set (.inl (.head _)) 5 _)),zh (HK.out.own HV.out (((((((Kp.refl _ _).set (.inl (.head _)) 0 _).set (.inl (.head _)) 1 _).set (.inl (.head _)) 2 _).set (.inl (.head _)) 3 _).set (.inl (.head _)) 4 _).set (.inl (.head _)) 5 _)),zh ((((((HA.out.off bz 0 _).off bz 1 _).off bz 2 _).off bz 3 _).off bz 4 _).off bz 5 _),zh ((((((HV.out.put 0 _).put 1 _).put 2 _).put 3 _).put 4 _).put 5 _)⟩
  rw[hf]at CFo;have hp:lL false=v:=by
   rw[hf]at hv3;rw[<- hv3];rfl
  have CT1:=zh (fun W=>CTh.out false W);rw[hp]at CT1;clear hv3 hp hf;obtain⟨va,vb,vc,vd,ve,vf⟩:=v
  try dsimp only at CT1 ⊢
  unfold gQ at CFo
  go_wp2_with fail
  refine(CTr.out _).mono ?_;rintro e x1 ⟨rfl,hb⟩;replace HI:=zh (HI.out.next hb);replace HK:=zh (HK.out.trans (Kp.of_below hb));replace HA:=zh (HA.out.next hb);replace HB:=zh (HB.out.next hb);replace HV:=zh (HV.out.next hb);clear hb;have b0:=HB.out.li.cell 0;have b1:=HB.out.li.cell 1;have b2:=HB.out.li.cell 2;simp only[za,zb,zf]at b0 b1 b2
  go_wp2_with fail
  refine(CFo.out _).mono ?_;rintro e x2 ⟨rfl,hb⟩;replace HI:=zh (HI.out.next hb);replace HK:=zh (HK.out.trans (Kp.of_below hb));replace HA:=zh (HA.out.next hb);replace HB:=zh (HB.out.next hb);replace HV:=zh (HV.out.next hb);clear hb
  go_wp2_with fail
  refine(CT1.out _).mono ?_;rintro e x3 ⟨rfl,hb⟩;replace HI:=zh (HI.out.next hb);replace HK:=zh (HK.out.trans (Kp.of_below hb));replace HA:=zh (HA.out.next hb);replace HB:=zh (HB.out.next hb);replace HV:=zh (HV.out.next hb);clear hb;have v0:=HV.out.li.cell 0;have v1:=HV.out.li.cell 1;have v2:=HV.out.li.cell 2;have v3:=HV.out.li.cell 3;have v4:=HV.out.li.cell 4;have v5:=HV.out.li.cell 5;have g0:=HV.out.li.frozen 0;have g1:=HV.out.li.frozen 1;have g2:=HV.out.li.frozen 2;have g3:=HV.out.li.frozen 3;have g4:=HV.out.li.frozen 4;have g5:=HV.out.li.frozen 5;simp only[za,zb,zf]at v0 v1 v2 v3 v4 v5
  all_goals go_wp2_with fail
  all_goals go_meet
  all_goals exact⟨zh (HI.out.own hE HV.out (by decide) (by decide) (((((((Kp.refl _ _).set (.inl (.head _)) 0 _).set (.inl (.head _)) 1 _).set (.inl (.head _)) 2 _).set (.inl (.head _)) 3 _).set (.inl (.head _)) 4 _).set (.inl (.head _)) 5 _)),zh (HK.out.own HV.out (((((((Kp.refl _ _).set (.inl (.head _)) 0 _).set (.inl (.head _)) 1 _).set (.inl (.head _)) 2 _).set (.inl (.head _)) 3 _).set (.inl (.head _)) 4 _).set (.inl (.head _)) 5 _)),zh ((((((HA.out.off bz 0 _).off bz 1 _).off bz 2 _).off bz 3 _).off bz 4 _).off bz 5 _),zh ((((((HV.out.put 0 _).put 1 _).put 2 _).put 3 _).put 4 _).put 5 _)⟩
 case rest=>
  obtain⟨kz,ke,lm,HV4⟩:=hcut;clear ez fb iw aq HV3 CT CPn CPo CTx CFa CBa CTr CFo CTh hv ht;have r1:=kz.out.rd.cell 1;have fr1:=kz.out.rd.frozen 1;simp only[za,zb,zf]at r1;have ll:(k:Int)<=1000000:=by omega
  have m6:Hid (Kp [E.r] wc (wc.setCell ⟨E.r,1,none⟩ (.int .i64 ((k:Int)+1)))):=zh ((Kp.refl _ _).set (.inl (.head _)) 1 _);have ny:Hid (InE E (k+1) op nd pl er (wc.setCell ⟨E.r,1,none⟩ (.int .i64 ((k:Int)+1)))):=zh (kz.out.wrote hE m6.out (kz.out.rd.put 1 _));have jq:=zh (ke.out.trans m6.out.X);have j2:=zh (lm.out.kp m6.out.X);have HV5:=zh (HV4.out.kp m6.out.X)
  go_upto_region 18 with fail
  generalize wc.setCell ⟨E.r,1,none⟩ (.int .i64 ((k:Int)+1))=w5 at *;clear kz ke lm HV4 m6 r1 fr1;have v0:=HV5.out.li.cell 0;have v1:=HV5.out.li.cell 1;have v2:=HV5.out.li.cell 2;have v3:=HV5.out.li.cell 3;have v4:=HV5.out.li.cell 4;have v5:=HV5.out.li.cell 5;simp only[za,zb,zf]at v0 v1 v2 v3 v4 v5
  go_wp2_with fail
  refine(CN.out w5 ny.out).mono ?_;rintro e w6 ⟨rfl,h1,h2⟩;have mv:=zh h1;have iv:=zh (jq.out.trans h2.X);have ji:=zh (j2.out.kp h2.X);clear h1 h2 ny jq j2 HV5 CN v0 v1 v2 v3 v4 v5;have bn:Kp [q] w6 (w6.setCells q 0 C):=aT (.inl (.head _)) C 0 (Kp.refl _ _);have f9:=zh (mv.out.own hE ji.out (by decide) (by decide) bn);have n9:=zh (iv.out.own ji.out bn);have HT:Hid (w6.there q 0 22):=zh ji.out.li.thereA;have dx:Hid (Lies (w6.setCells q 0 C) q 41 C.toArray):=zh (ji.out.li.putAll yC.out);clear bn mv iv ji;have zi:=fo yC.out
  go_wp2_with (first |(refine yq rfl 41 (.tmp 2) (.tmp 70) rfl q 0 C.toArray rfl rfl (by rw[yd,yC.out];exact HT.out) zi fa.out ?_;change wpList _ _ _ _ _ (w6.setCells q 0 C);generalize w6.setCells q 0 C=w7 at f9 n9 dx ⊢))
  refine yt (aM rfl rfl dx.out (by rw[yd,yC.out])) rfl ?_;exact⟨rfl,f9.out,n9.out⟩
theorem uDM(E:Env)(hE:E.ok)(k op nd pl er:Nat)(w:World)(hI:InE E k op nd pl er w)(hk:k+1<E.L.length)(hL:E.L.length<=1000000)(ht:(E.at k).text.length<=100000)(hn:nd<=k)(v:Val)(hv:fJ (E.at k)=.ok v) :
  Calls Tryz.prog 117 #[.pointer (some ⟨E.r,0,none⟩)] w (NPost E w k op nd pl er (.ok (iK v) (E.L.drop (k+1)) (nd+1))):=by
 refine(qM E hE k op nd pl er w hI hk hL ht hn v hv).mono ?_;rintro e w' ⟨rfl,h1,h2⟩;obtain⟨C,hC,ah,fd,gq⟩:=eO (nd+1) (mW v) rfl (mE v);rw[hC];refine⟨k+1,C.toArray,rfl,by omega,hk,rfl,by omega,by omega,h1,h2,by rw[yd,ah],fd,fun hn=>⟨none,0,?_,.inl rfl⟩⟩;rw[gq hn];rfl
set_option maxRecDepth 100000 in
theorem oS(E:Env)(hE:E.ok)(k op nd pl er:Nat)(w:World)(hI:InE E k op nd pl er w)(hk:k<E.L.length)(ht:(E.at k).text.length<=100000)(er':Nat)(hv:fJ (E.at k)=.error er') :
  Calls Tryz.prog 117 #[.pointer (some ⟨E.r,0,none⟩)] w (fun e w'=>e=.returned (.tuple #[.agg aA.toArray,.bool false])/\InE E k op nd (E.at k).place er' w'/\Kp E.X w w'):=by
 have CT:=zh (fun W h=>bX E k op nd pl er W h hk);have CW:=zh (fun W h e=>eN E hE k op nd pl er e W h hk);have CPn:=zh (fun W=>wC (E.at k).text W (by omega));have CTr:=zh (fun W=>mC (E.at k) W ht);generalize E.at k=t at *;obtain⟨tk,tx,tp⟩:=t;dsimp only[tkV]at CT CPn CTr CW ⊢;have HF:=zh hI;have co:=zh (hI.next (zp (.cells aA.toArray 41)));have cj:Hid (Kp E.X w (w.alloc (.cells aA.toArray 41))):=zh ((Kp.refl _ _).alloc _);have cg:=zh (Own1.new hI (Kp.refl E.X w) 41 aA.toArray);clear hI;simp only[aA]at co cj cg
 go_enter Tryz.func117,Tryz.ntmps117
 go_upto_region 1 with fail
 generalize w.alloc (.cells zM 41)=W1 at co cj cg ⊢;generalize en:w.heap.size=q at cg ⊢;clear en
 go_wp2_with fail
 refine(CT.out W1 co.out).mono ?_;rintro e w1 ⟨rfl,hb⟩;have ip:=zh (co.out.next hb);have dz:=zh (cj.out.trans (Kp.of_below hb));have i9:=zh (cg.out.next hb);clear hb co cj cg
 go_upto_region 2 with fail
 have dg:=zh (ip.out.next (zp (.cells #[.int .i64 tk,.string ⟨tx.toArray⟩,.int .i64 (tp:Int)] 70)));have bv:=zh (i9.out.next (zp (.cells #[.int .i64 tk,.string ⟨tx.toArray⟩,.int .i64 (tp:Int)] 70)));have cq:=zh (Own1.new HF.out dz.out 70 #[.int .i64 tk,.string ⟨tx.toArray⟩,.int .i64 (tp:Int)]);have bq:=zh (dz.out.alloc (.cells #[.int .i64 tk,.string ⟨tx.toArray⟩,.int .i64 (tp:Int)] 70));have bp:q≠w1.heap.size:=by have:=i9.out.li.lt;omega
 generalize w1.alloc (.cells #[.int .i64 tk,.string ⟨tx.toArray⟩,.int .i64 (tp:Int)] 70)=w2 at *;generalize w1.heap.size=q1 at *;clear ip i9 dz
 go_upto_block 0 with fail
 have ez:=zh (dg.out.next (zp (.cells (jS aD) 32)));have iw:=zh (bv.out.next (zp (.cells (jS aD) 32)));have aq:=zh (cq.out.next (zp (.cells (jS aD) 32)));have HV3:=zh (Own1.new HF.out bq.out 32 (jS aD));have fb:=zh (bq.out.alloc (.cells (jS aD) 32));have bz:q≠w2.heap.size:=by have:=bv.out.li.lt;omega
 have po:q1≠w2.heap.size:=by have:=cq.out.li.lt;omega
 simp only[aD]at ez iw aq HV3 fb;generalize w2.alloc (.cells #[.int .i64 0,.int .i64 0,.int .i64 0,.string ⟨#[]⟩,.bool false,.int .i64 0] 32)=w3 at ez iw aq HV3 fb ⊢;generalize w2.heap.size=q2 at *;clear dg bv cq bq;have HI:=ez;have HK:=fb;have HA:=iw;have HB:=aq;clear ez fb iw aq HV3 CT;have b0:=HB.out.li.cell 0;have b1:=HB.out.li.cell 1;have b2:=HB.out.li.cell 2;simp only[za,zb,zf]at b0 b1 b2;by_cases h1:tk=1
 ·subst h1;have hp:eB tx=none/\er'=2:=by
   unfold fJ at hv;simp only[if_pos]at hv;cases hq:eB tx with
   |none=>rw[hq]at hv;injection hv with hv;exact⟨rfl,hv.symm⟩
   |some q=>rw[hq]at hv;cases hv
  obtain⟨hp,rfl⟩:=hp;rw[hp]at CPn;clear hv hp CTr;unfold gT at CPn;dsimp only at CPn
  go_wp2_with fail
  refine(CPn.out _).mono ?_;rintro e x1 ⟨rfl,hb⟩;replace HI:=zh (HI.out.next hb);replace HK:=zh (HK.out.trans (Kp.of_below hb));replace HA:=zh (HA.out.next hb);replace HB:=zh (HB.out.next hb);clear hb
  go_upto_region 6 with fail
  have o8:∀ o,Below x1.heap.size x1 (x1.alloc o):=fun o=>zp o
  replace HI:=zh (HI.out.next (o8 (.cells #[.int .i64 0,.int .i64 0] 30)));replace HK:=zh (HK.out.alloc (.cells #[.int .i64 0,.int .i64 0] 30));replace HA:=zh (HA.out.next (o8 (.cells #[.int .i64 0,.int .i64 0] 30)));replace HB:=zh (HB.out.next (o8 (.cells #[.int .i64 0,.int .i64 0] 30)));generalize x1.alloc (.cells #[.int .i64 0,.int .i64 0] 30)=x2 at HI HK HA HB ⊢;generalize x1.heap.size=qn at *;clear o8
  go_wp2_with fail
  refine(CW.out _ HI.out 2).mono ?_;rintro e w6 ⟨rfl,h1,h2⟩;have mv:=zh h1;have iv:=zh (HK.out.trans h2.X);have ji:=zh (HA.out.kp h2.X);clear h1 h2 HI HK HA HB CW;have bn:Kp [q] w6 (w6.setCells q 0 aA):=aT (.inl (.head _)) aA 0 (Kp.refl _ _);have f9:=zh (mv.out.own hE ji.out (by decide) (by decide) bn);have n9:=zh (iv.out.own ji.out bn);have HT:Hid (w6.there q 0 22):=zh ji.out.li.thereA;have dx:Hid (Lies (w6.setCells q 0 aA) q 41 aA.toArray):=zh (ji.out.li.putAll rfl);clear bn mv iv ji
  go_wp2_with (first |(refine yq rfl 41 (.tmp 2) (.tmp 25) rfl q 0 aA.toArray rfl rfl HT.out aF aW ?_;change wpList _ _ _ _ _ (w6.setCells q 0 aA);generalize w6.setCells q 0 aA=w7 at f9 n9 dx ⊢))
  refine yt (aM rfl rfl dx.out rfl) rfl ?_;exact⟨rfl,f9.out,n9.out⟩
 by_cases h2:tk=2
 ·subst h2;have hp:255<tx.length/\er'=14:=by
   unfold fJ at hv;simp only[if_pos,show ¬ (2=1) by decide,if_false]at hv;by_cases hl:255<tx.length
   ·simp only[hl,if_true]at hv;injection hv with hv;exact⟨hl,hv.symm⟩
   simp[hl]at hv
  obtain⟨hp,rfl⟩:=hp;clear hv h1 CTr CPn
  go_wp2_with fail
  refine(CW.out _ HI.out 14).mono ?_;rintro e w6 ⟨rfl,h1,h2⟩;have mv:=zh h1;have iv:=zh (HK.out.trans h2.X);have ji:=zh (HA.out.kp h2.X);clear h1 h2 HI HK HA HB CW;have bn:Kp [q] w6 (w6.setCells q 0 aA):=aT (.inl (.head _)) aA 0 (Kp.refl _ _);have f9:=zh (mv.out.own hE ji.out (by decide) (by decide) bn);have n9:=zh (iv.out.own ji.out bn);have HT:Hid (w6.there q 0 22):=zh ji.out.li.thereA;have dx:Hid (Lies (w6.setCells q 0 aA) q 41 aA.toArray):=zh (ji.out.li.putAll rfl);clear bn mv iv ji
  go_wp2_with (first |(refine yq rfl 41 (.tmp 2) (.tmp 38) rfl q 0 aA.toArray rfl rfl HT.out aF aW ?_;change wpList _ _ _ _ _ (w6.setCells q 0 aA);generalize w6.setCells q 0 aA=w7 at f9 n9 dx ⊢))
  refine yt (aM rfl rfl dx.out rfl) rfl ?_;exact⟨rfl,f9.out,n9.out⟩
 have h6:tk≠6:=by
  intro h6;subst h6;unfold fJ at hv;simp at hv
 have hp:cM ⟨tk,tx,tp⟩=false/\er'=6:=by
  unfold fJ at hv;simp only[h1,h2,h6,if_false]at hv;by_cases hi:cM ⟨tk,tx,tp⟩=true
  ·simp[hi]at hv
  simp only[hi]at hv;injection hv with hv;exact⟨by simpa using hi,hv.symm⟩
 obtain⟨hp,rfl⟩:=hp;rw[hp]at CTr;have n1:((tk:Int)==1)=false:=by simp;omega
 have n2:((tk:Int)==2)=false:=by simp;omega
 have n6:((tk:Int)==6)=false:=by simp;omega
 clear hv hp h1 h2 h6 CPn
 go_wp2_with fail
 refine(CTr.out _).mono ?_;rintro e x1 ⟨rfl,hb⟩;replace HI:=zh (HI.out.next hb);replace HK:=zh (HK.out.trans (Kp.of_below hb));replace HA:=zh (HA.out.next hb);replace HB:=zh (HB.out.next hb);clear hb
 go_wp2_with fail
 refine(CW.out _ HI.out 6).mono ?_;rintro e w6 ⟨rfl,h1,h2⟩;have mv:=zh h1;have iv:=zh (HK.out.trans h2.X);have ji:=zh (HA.out.kp h2.X);clear h1 h2 HI HK HA HB CW;have bn:Kp [q] w6 (w6.setCells q 0 aA):=aT (.inl (.head _)) aA 0 (Kp.refl _ _);have f9:=zh (mv.out.own hE ji.out (by decide) (by decide) bn);have n9:=zh (iv.out.own ji.out bn);have HT:Hid (w6.there q 0 22):=zh ji.out.li.thereA;have dx:Hid (Lies (w6.setCells q 0 aA) q 41 aA.toArray):=zh (ji.out.li.putAll rfl);clear bn mv iv ji
 go_wp2_with (first |(refine yq rfl 41 (.tmp 2) (.tmp 10) rfl q 0 aA.toArray rfl rfl HT.out aF aW ?_;change wpList _ _ _ _ _ (w6.setCells q 0 aA);generalize w6.setCells q 0 aA=w7 at f9 n9 dx ⊢))
 refine yt (aM rfl rfl dx.out rfl) rfl ?_;exact⟨rfl,f9.out,n9.out⟩
theorem zV(E:Env)(hE:E.ok)(k op nd pl er:Nat)(w:World)(hI:InE E k op nd pl er w)(hk:k<E.L.length)(ht:(E.at k).text.length<=100000)(er':Nat)(hv:fJ (E.at k)=.error er') :
  Calls Tryz.prog 117 #[.pointer (some ⟨E.r,0,none⟩)] w (NPost E w k op nd pl er (.bad er' (E.at k).place)):=by
 refine(oS E hE k op nd pl er w hI hk ht er' hv).mono ?_;rintro e w' ⟨rfl,h1,h2⟩;exact⟨aA.toArray,k,op,nd,rfl,rfl,aW,zr,hk,zr,h1,h2⟩
theorem uHV(E:Env)(k:Nat)(c:Nat):cX (E.L.drop k) c=match fJ (E.at k) with
  | .error e=>.bad e (E.at k).place
  | .ok v=>.ok (iK v) (E.L.drop k).tail (c+1):=rfl
theorem pT{t:Tok}{v:Val}(h:fJ t=.ok v):t.kind≠0:=by
 intro h0;unfold fJ at h;rw[h0]at h;have hi:cM t=false:=by unfold cM;rw[h0];rfl
 simp[hi]at h
theorem mF(E:Env)(hE:E.ok)(he:E.ends)(k op nd pl er:Nat)(w:World)(hI:InE E k op nd pl er w)(hk:k<E.L.length)(hL:E.L.length<=1000000)(ht:(E.at k).text.length<=100000)(hn:nd<=k) :
  Calls Tryz.prog 117 #[.pointer (some ⟨E.r,0,none⟩)] w (NPost E w k op nd pl er (cX (E.L.drop k) nd)):=by
 rw[uHV];cases hv:fJ (E.at k) with
 |error e=>exact zV E hE k op nd pl er w hI hk ht e hv
 |ok v=>
  have h:=uDM E hE k op nd pl er w hI (E.more he hk (pT hv)) hL ht hn v hv;rw[List.tail_drop];exact h
theorem vN(off:Nat):∀ (cs:List Value) (k:Nat) (A:Array Value),off+k+cs.length<=A.size->((cs.zipIdx k).foldl (fun(B:Array Value) (x:Value×Nat)=>B.setIfInBounds (off+x.2) x.1) A).toList=A.toList.take (off+k)++cs++A.toList.drop (off+k+cs.length)
 | [],k,A,_=>by simp
 |c::r,k,A,h=>by
  have hl:off+k<A.toList.length:=by simp at h ⊢;omega
  rw[List.zipIdx_cons,List.foldl_cons,vN off r (k+1) _ (by rw[Array.size_setIfInBounds];simp at h;omega)];rw[Array.toList_setIfInBounds];show (A.toList.set (off+k) c).take (off+k+1)++r++(A.toList.set (off+k) c).drop (off+k+1+r.length)=_;rw[yw (by simpa using hl),List.getElem_set_self,List.take_set_of_le zr,List.drop_set_of_lt (by omega)];simp[Nat.add_comm,Nat.add_left_comm]
theorem fold_set(off:Nat)(cs:List Value)(A:Array Value)(h:off+cs.length<=A.size):(cs.toArray.zipIdx.foldl (fun(B:Array Value) (x:Value×Nat)=>B.setIfInBounds (off+x.2) x.1) A)=(A.toList.take off++cs++A.toList.drop (off+cs.length)).toArray:=by
 have:=vN off cs 0 A (by simpa using h);rw[<- Array.foldl_toList,Array.toList_zipIdx];apply Array.toList_inj.1;simpa using this
theorem mN:∃ i z,Tryz.prog.info? 41=some i/\i.size=22/\i.zero=some z/\z.cells.size=22:=by
 have h:((Tryz.prog.info? 41).bind (·.zero)).map (·.cells.size)=some 22:=by kernel_rfl
 have h2:=aF;cases hi:Tryz.prog.info? 41 with
 |none=>rw[hi]at h2;cases h2
 |some i=>
  rw[hi]at h h2;cases hz:i.zero with
  |none=>simp[hz]at h
  |some z=>
   simp[hz]at h;simp at h2;exact⟨i,z,rfl,h2,hz,h⟩
theorem qD:Tryz.prog.underlying 39=some (.slice 41):=by kernel_rfl
theorem sI(place:Nat->Option (Nat×Nat))(A:Array Value)(off n:Nat)(cs:List Value)(hn:cs.length=n)(i:Nat)(rest:List (Nat×Value))(hp:place i=some (off,n))(h:off+n<=A.size) :
  Instr.fill place A ((i,.agg cs.toArray)::rest)=Instr.fill place (A.toList.take off++cs++A.toList.drop (off+n)).toArray rest:=by
 subst hn;have hf:=fold_set off cs A h;rw[<- hf]
 conv=>lhs;unfold Instr.fill
 rw[hp];refine if_neg ?_;simp[Value.cells];omega
theorem built1(cs:List Value)(h:cs.length=22):Tryz.prog.builtSlice 41 1 [(0,.agg cs.toArray)]=some cs.toArray:=by
 obtain⟨i,z,h1,h2,h3,h4⟩:=mN;unfold Program.builtSlice;rw[h1];simp only[h3,h2];rw[if_neg (by decide),sI _ _ (0*22) 22 cs h 0 [] rfl (by simp)];show some _=some _;simp
theorem built2(c1 c2:List Value)(yc:c1.length=22)(h2':c2.length=22):Tryz.prog.builtSlice 41 2 [(0,.agg c1.toArray),(1,.agg c2.toArray)]=some (c1++c2).toArray:=by
 obtain⟨i,z,h1,h2,h3,h4⟩:=mN;unfold Program.builtSlice;rw[h1];simp only[h3,h2];rw[if_neg (by decide),sI _ _ (0*22) 22 c1 yc 0 _ rfl (by simp),sI _ _ (1*22) 22 c2 h2' 1 [] rfl (by simp[yc])];show some _=some _;simp[yc]
theorem KidsAt.one{W:World}{X:List Nat}{g nd:Nat}{t:Tree}{cs:List Value}(hl:Lies W g 41 cs.toArray)(hv:NV W X nd t cs.toArray)(hn:nd<=256)(hx:g∉X)(A:Option Addr)(hA:A=some ⟨g,0,none⟩):KidsOk W X A [t]:=by
 obtain⟨fz,h1,h3⟩:=hv;obtain⟨B,cp,e,hk⟩:=h3 hn;refine .inr ⟨g,hA,hx,hl.lt,?_,trivial⟩;cases t with
 |mk h l=>
  refine⟨B,cp,fun j hj=>?_,hk⟩;rw[show 0*22+j=j by omega,hl.cell j,e];rfl
theorem KidsAt.two{W:World}{X:List Nat}{g nd:Nat}{t1 t2:Tree}{c1 c2:List Value}(hl:Lies W g 41 (c1++c2).toArray)(hv1:NV W X nd t1 c1.toArray)(hv2:NV W X nd t2 c2.toArray)(hn:nd<=256)(hx:g∉X)(A:Option Addr)(hA:A=some ⟨g,0,none⟩):KidsOk W X A [t1,t2]:=by
 obtain⟨fz,h1,h3⟩:=hv1;obtain⟨k22,k1,k3⟩:=hv2;obtain⟨B,cp,e,hk⟩:=h3 hn;obtain⟨B',rg,e',mg⟩:=k3 hn;rw[yd]at fz k22;refine .inr ⟨g,hA,hx,hl.lt,?_,?_,trivial⟩
 ·cases t1 with
  |mk h l=>
   refine⟨B,cp,fun j hj=>?_,hk⟩;rw[show 0*22+j=j by omega,hl.cell j,za,List.getElem?_append_left (by omega),<- za,e];rfl
 cases t2 with
 |mk h l=>
  refine⟨B',rg,fun j hj=>?_,mg⟩;rw[hl.cell _,za,List.getElem?_append_right (by omega),show (0+1)*22+j-c1.length=j by omega,<- za,e'];rfl
theorem lM{ops:Array Oper}{rest:List Oper}{o:Oper}{a:Act}{w:World}{Q:Exit->Act->World->Prop}(hg:o.guard=none)(x:Operand)(ho:o.op=.buildSlice 39 1 #[(0,x)])(cs:List Value)(hx:a.eval x=.agg cs.toArray)(fz:cs.length=22)
  (N:Nat) (hN:w.heap.size=N) (d:Option Tmp) (hd:o.dst=d) (h:wpList Tryz.prog ops Q rest (a.put d (.slice (some ⟨N,0,none⟩) 1 1)) (w.alloc (.cells cs.toArray 41))):wpList Tryz.prog ops Q (o::rest) a w :=
 Great.wpList_buildSliceTo hg 39 41 1 #[(0,x)] ho N hN d hd qD cs.toArray (by simp only[List.map_toArray,List.map_cons,List.map_nil,hx];exact built1 cs fz) h
theorem uO{ops:Array Oper}{rest:List Oper}{o:Oper}{a:Act}{w:World}{Q:Exit->Act->World->Prop}(hg:o.guard=none)(x y:Operand)(ho:o.op=.buildSlice 39 2 #[(0,x),(1,y)])(c1 c2:List Value)(hx:a.eval x=.agg c1.toArray)(hy:a.eval y=.agg c2.toArray)(h1:c1.length=22)(h2:c2.length=22)
  (N:Nat) (hN:w.heap.size=N) (d:Option Tmp) (hd:o.dst=d) (h:wpList Tryz.prog ops Q rest (a.put d (.slice (some ⟨N,0,none⟩) 2 2)) (w.alloc (.cells (c1++c2).toArray 41))):wpList Tryz.prog ops Q (o::rest) a w :=
 Great.wpList_buildSliceTo hg 39 41 2 #[(0,x),(1,y)] ho N hN d hd qD (c1++c2).toArray (by simp only[List.map_toArray,List.map_cons,List.map_nil,hx,hy];exact built2 c1 c2 h1 h2) h
def dP(E:Env)(f:Nat)(spec:List Tok->Nat->Out)(op:Nat):Prop:=∀ k nd pl er W,InE E k op nd pl er W->k<E.L.length->nd<=k->Calls Tryz.prog f #[.pointer (some ⟨E.r,0,none⟩)] W (NPost E W k op nd pl er (spec (E.L.drop k) nd))
def rdAt(W:World)(r:Nat):Nat:=match W.cell? ⟨r,1,none⟩ with
 |some (.int _ n)=>n.toNat
 |_=>0
theorem InE.rdAt{E:Env}{k op nd pl er:Nat}{W:World}(h:InE E k op nd pl er W):rdAt W E.r=k:=by
 unfold Go.Proofs.YtmgjidnalpgegaaGreatDoor.rdAt;have:=h.rd.cell 1;simp only[za,zb,zf]at this;rw[this];rfl
theorem dW{t:Tok}{s:Bs}(h:isS t s=true):t.kind≠0:=by
 unfold isS at h;simp at h;omega
abbrev unL(s:Bs)(A:Option Addr)(m n:Nat):List Value:=[.int .i64 5,.int .i64 0,.int .i64 0,.int .i64 0,.string ⟨#[]⟩,.bool false,.int .i64 0,.string ⟨s.toArray⟩,.int .i64 0,.int .i64 0,.int .i64 0,.int .i64 0,.bool false,.bool false,.int .i64 0,.int .i64 0,.int .i64 0,.int .i64 0,.bool false,.bool false,.int .i64 0,.slice A m n]
theorem rP(s:Bs)(A:Option Addr)(m n:Nat):(unL s A m n).toArray.all (·.oneCell')=true:=by simp[unL,Value.oneCell']
theorem eH{B bx:Nat}{a:World}(hb:B<=bx):∀ (r:List Value) (i:Nat) {W:World},Below B a W->Below B a (W.setCells bx i r)
 | [],_,_,h=>h
 |v::r,i,_,h=>eH hb r (i+1) (h.setCell (p:=⟨bx,i,none⟩) hb v)
theorem eY(bx:Nat):∀ (r:List Value) (i:Nat) (W:World),(W.setCells bx i r).heap.size=W.heap.size
 | [],_,_=>rfl
 |v::r,i,W=>by
  show ((W.setCell ⟨bx,i,none⟩ v).setCells bx (i+1) r).heap.size=_;rw[eY bx r (i+1),World.size_setCell]
structure Pct(E:Env)(w:World)(k op nd pl er q q4 m:Nat)(T:Out)(k':Nat)(l:List Value)(t:Tree)(c:Nat)(W:World):Prop where
 ine:InE E k' op c pl er W
 kp:Kp E.X w W
 own:Own1 E w W q 41 aA.toArray
 own4:Own1 E w W q4 41 l.toArray
 nv:NV W (q4::List.range m) c t l.toArray
 wm:w.heap.size<m
 qe:q=w.heap.size
 xm:∀ y∈E.X,y<m
 ms:m<=W.heap.size
 le:k<=k'
 lt:k'<E.L.length
 nc:c+k<=nd+k'
 nn:nd<=c
 go:iJ (E.L.length-k') t (E.L.drop k') c=T
theorem Pct.qin{E:Env}{w:World}{k op nd pl er q q4 m:Nat}{T:Out}{k':Nat}{l:List Value}{t:Tree}{c:Nat}{W:World}(h:Pct E w k op nd pl er q q4 m T k' l t c W):q∈q4::List.range m:=zg _ (yg.2 (by have:=h.wm;have:=h.qe;omega))
theorem Pct.next{E:Env}{w:World}{k op nd pl er q q4 m:Nat}{T:Out}{k':Nat}{l:List Value}{t:Tree}{c:Nat}{W W':World}(h:Pct E w k op nd pl er q q4 m T k' l t c W)(hb:Below W.heap.size W W'):Pct E w k op nd pl er q q4 m T k' l t c W' :=
 ⟨h.ine.next hb,h.kp.trans (Kp.of_below hb),h.own.next hb,h.own4.next hb,h.nv.kp (Kp.of_below hb),h.wm,h.qe,h.xm,yv h.ms hb.size,h.le,h.lt,h.nc,h.nn,h.go⟩
theorem Pct.len{E:Env}{w:World}{k op nd pl er q q4 m:Nat}{T:Out}{k':Nat}{l:List Value}{t:Tree}{c:Nat}{W:World}(h:Pct E w k op nd pl er q q4 m T k' l t c W):l.length=22:=by
 have:=h.nv.1
 rwa [yd]at this
theorem Pct.step{E:Env}(hE:E.ok){w:World}{k op nd pl er q q4 m:Nat}{T:Out}{k':Nat}{l:List Value}{t:Tree}{c:Nat}{W w9:World}(h:Pct E w k op nd pl er q q4 m T k' l t c W)(hk:k'+1<E.L.length)(hs:isS (E.at k') [37]=true)(hq:q≠q4){C:List Value}(fz:C.length=22)(h1:C.toArray.all (·.oneCell')=true)(hC:c+1<=256->C=unL [37] (some ⟨W.heap.size,0,none⟩) 1 1)
  (hi:InE E (k'+1) op (c+1) pl er w9) (gy:Kp [E.r] ((W.setCell ⟨E.r,1,none⟩ (.int .i64 ((k':Int)+1))).alloc (.cells l.toArray 41)) w9) :
  Pct E w k op nd pl er q q4 m T (k'+1) C (tUn [37] t) (c+1) (w9.setCells q4 0 C):=by
 have hr0:Kp [E.r] W (W.setCell ⟨E.r,1,none⟩ (.int .i64 ((k':Int)+1))):=(Kp.refl _ _).set (.inl (.head _)) 1 _;have hr:Kp [E.r] W w9:=(hr0.alloc _).trans gy;have ho:=h.own.kp hr.X;have re:=h.own4.kp hr.X;have m5:Kp [q4] w9 (w9.setCells q4 0 C):=aT (.inl (.head _)) C 0 (Kp.refl _ _);have bg:(W.setCell ⟨E.r,1,none⟩ (.int .i64 ((k':Int)+1))).heap.size=W.heap.size:=World.size_setCell ..;have hEr:E.r<W.heap.size:=h.ine.rd.lt;have km:Lies w9 W.heap.size 41 l.toArray:=by
  have:=Lies.new (W.setCell ⟨E.r,1,none⟩ (.int .i64 ((k':Int)+1))) 41 l.toArray;rw[bg]at this;exact gy.lies this (fun hm=>by rw[yf.1 hm]at hEr;omega)
 have hg4:W.heap.size≠q4:=by have:=h.own4.li.lt;omega
 have hgl2:Lies (w9.setCells q4 0 C) W.heap.size 41 l.toArray:=m5.lies km (fun hm=>hg4 (yf.1 hm));have hX:∀ y∈E.X,y∈q4::List.range m:=fun y hy=>zg _ (yg.2 (h.xm y hy))
 have hnv:NV (w9.setCells q4 0 C) (q4::List.range m) c t l.toArray:=(h.nv.kpX hr.X hX).kpX m5 (fun y hy=>by rw[yf.1 hy];exact .head _);have j9:=h.go;refine⟨hi.own hE re (by decide) (by decide) m5,(h.kp.trans hr.X).own re m5,⟨ho.fr,ho.ge,m5.lies ho.li (fun hm=>hq (yf.1 hm))⟩,⟨re.fr,re.ge,re.li.putAll (by rw[fz];exact h.nv.1.symm)⟩,⟨fz,h1,fun hn=>?_⟩,h.wm,h.qe,h.xm,yv h.ms (yv hr.size m5.size),by have:=h.le;omega,hk,by have:=h.nc;omega,by have:=h.nn;omega,?_⟩
 ·refine⟨some ⟨W.heap.size,0,none⟩,1,by rw[hC hn];rfl,KidsAt.one hgl2 hnv (by omega) ?_ _ rfl⟩;intro hm;rcases ym.1 hm with hm|hm
  ·exact hg4 hm
  have:=yg.1 hm;have:=h.ms;omega
 cases hf:E.L.length-k' with
 |zero=>omega
 |succ f=>
  rw[hf]at j9;unfold iJ at j9;rw[show isS (hd (E.L.drop k')) [37]=true from hs,if_pos rfl,List.tail_drop]at j9;rw[show E.L.length-(k'+1)=f by omega];exact j9
set_option maxRecDepth 100000 in
theorem uEB(E:Env)(hE:E.ok)(he:E.ends)(hL:E.L.length<=1000000)(part:List Tok->Nat->Out)(op:Nat)(hp:dP E 113 part op)(k nd pl er:Nat)(w:World)(hI:InE E k op nd pl er w)(hk:k<E.L.length)(hn:nd<=k)(t0:Tree)(vp:List Tok)(c0:Nat)(ho:part (E.L.drop k) nd=.ok t0 vp c0) :
  Calls Tryz.prog 111 #[.pointer (some ⟨E.r,0,none⟩)] w (NPost E w k op nd pl er (cN part (E.L.drop k) nd)):=by
 have hT:cN part (E.L.drop k) nd=iJ vp.length t0 vp c0:=by unfold cN;rw[ho]
 rw[hT];generalize ae:iJ vp.length t0 vp c0=T;have am:=zh ae;clear ae;have co:=zh (hI.next (zp (.cells aA.toArray 41)));have CP:=zh (hp k nd pl er _ co.out hk hn);rw[ho]at CP;have cj:Hid (Kp E.X w (w.alloc (.cells aA.toArray 41))):=zh ((Kp.refl _ _).alloc _);have cg:=zh (Own1.new hI (Kp.refl E.X w) 41 aA.toArray);have HF:=zh hI;have c8:Hid (w.heap.size<(w.alloc (.cells aA.toArray 41)).heap.size):=zh (by simp);clear hI ho hT hp;simp only[aA]at co cj cg CP c8
 go_enter Tryz.func111,Tryz.ntmps111
 go_upto_region 1 with fail
 generalize w.alloc (.cells zM 41)=W1 at co cj cg CP c8 ⊢;generalize en:w.heap.size=q at cg ⊢;have rf:=zh en;clear en
 go_wp2_with fail
 refine CP.out.mono ?_;rintro e w2 ⟨k1,cs,rfl,h1,h2,rfl,h3,h4,h5,h6,h7⟩;obtain⟨l,rfl⟩:∃ l:List Value,cs=l.toArray:=⟨cs.toList,by simp⟩
 have vq:l.length=22:=by have:=h7.1;rwa [yd]at this
 have HMS:=zh h6.size;have bv:=zh (cg.out.kp h6);have bq:=zh (cj.out.trans h6);have dg:=zh h5;have iu:=zh h7;have pu:=zh (⟨h1,h2,h3,h4⟩:k<=k1/\k1<E.L.length/\c0+k<=nd+k1/\nd<=c0);have ai:=zh vq;have yo:=zh h7.2.1;clear h1 h2 h3 h4 h5 h6 h7 vq co cj cg CP;have aq:Hid (Below w2.heap.size w2 (w2.alloc (.cells zM 41))):=zh (zp _)
 have im:Hid (Own1 E w (w2.alloc (.cells zM 41)) w2.heap.size 41 zM):=zh (Own1.new HF.out bq.out 41 zM)
 have bp:q≠w2.heap.size:=by have:=bv.out.li.lt;omega
 have HC:Hid (∀ W3,W3=(w2.alloc (.cells zM 41)).setCells w2.heap.size 0 l->InE E k1 op c0 pl er W3/\Kp E.X w W3/\Own1 E w W3 q 41 aA.toArray/\Own1 E w W3 w2.heap.size 41 l.toArray/\NV W3 (w2.heap.size::List.range W1.heap.size) c0 t0 l.toArray):=zh (fun W3 e=>by
  subst e;have hb:Below w2.heap.size w2 ((w2.alloc (.cells zM 41)).setCells w2.heap.size 0 l):=eH zr l 0 aq.out;exact⟨dg.out.next hb,bq.out.trans (Kp.of_below hb),bv.out.next hb,⟨im.out.fr,im.out.ge,im.out.li.putAll ai.out⟩,(iu.out.fresh zr).kp (Kp.of_below hb)⟩)
 have HT:Hid ((w2.alloc (.cells zM 41)).there w2.heap.size 0 l.toArray.size):=zh (by have h:=im.out.li.thereA;rw[show l.toArray.size=22 from ai.out];exact h);have zi:(Tryz.prog.info? 41).map (·.size)=some l.toArray.size:=by rw[yd,ai.out];exact aF
 go_wp2_with (first |(refine yq rfl 41 (.tmp 4) (.tmp 9) rfl w2.heap.size 0 l.toArray rfl rfl HT.out zi yo.out ?_;change wpList _ _ _ _ _ ((w2.alloc (.cells zM 41)).setCells w2.heap.size 0 l);generalize l5:(w2.alloc (.cells zM 41)).setCells w2.heap.size 0 l=W3))
 obtain⟨g1,g2,g3,g4,g5⟩:=HC.out W3 l5.symm;have HS:Hid (Pct E w k op nd pl er q w2.heap.size W1.heap.size T k1 l t0 c0 W3):=zh ⟨g1,g2,g3,g4,g5,c8.out,rf.out.symm,fun y hy=>Nat.lt_trans (HF.out.xlt y hy) c8.out,by rw[<- l5,eY,World.size_alloc];have:=HMS.out;omega,pu.out.1,pu.out.2.1,pu.out.2.2.1,pu.out.2.2.2,by rw[<- yk];exact am.out⟩;have hq:w2.heap.size=w2.heap.size:=rfl;clear g1 g2 g3 g4 g5 HC HT zi aq im bv bq dg iu ai yo l5 hq;generalize w2.heap.size=q4 at *;generalize W1.heap.size=m at *;have CT:=zh (fun k c W h hk=>bX E k op c pl er W h hk);have CS:=zh (fun k W=>cO (E.at k) [37] W)
 go_loopw [16] (fun _ wr=>Hid (∃ k' l t c,Pct E w k op nd pl er q q4 m T k' l t c wr)) (fun _ wr=>E.L.length-rdAt wr E.r)
 case atStart=>exact zh ⟨_,_,_,_,HS.out⟩
 case round=>
  obtain⟨k2,l2,t2,c2,hS⟩:=hrel.out;have ed:=zh hS;have HM:=zh hS.ine.rdAt;clear hS hrel HS;have CT2:=zh (CT.out k2 c2 _ ed.out.ine ed.out.lt);have CS2:=zh (CS.out k2);by_cases hs:isS (E.at k2) [37]=true
  ·rw[hs]at CS2;have vr:=E.more he ed.out.lt (dW hs);have ll:(k2:Int)<=1000000:=by have:=ed.out.lt;omega
   go_wp2_with fail
   refine CT2.out.mono ?_;rintro e w5 ⟨rfl,hb⟩;have de:=zh hb;clear hb CT2
   go_wp2_with fail
   refine(CS2.out w5).mono ?_;rintro e w6 ⟨rfl,hb⟩;have al:Hid (Pct E w k op nd pl er q q4 m T k2 l2 t2 c2 w6):=zh ((ed.out.next de.out).next hb);clear hb CS2 ed de;have r1:=al.out.ine.rd.cell 1;have fr1:=al.out.ine.rd.frozen 1;simp only[za,zb,zf]at r1;have m6:Hid (Kp [E.r] w6 (w6.setCell ⟨E.r,1,none⟩ (.int .i64 ((k2:Int)+1)))):=zh ((Kp.refl _ _).set (.inl (.head _)) 1 _);have f9:Hid (InE E (k2+1) op c2 pl er (w6.setCell ⟨E.r,1,none⟩ (.int .i64 ((k2:Int)+1)))):=zh (al.out.ine.wrote hE m6.out (al.out.ine.rd.put 1 _));have HL7:Hid (Lies (w6.setCell ⟨E.r,1,none⟩ (.int .i64 ((k2:Int)+1))) q4 41 l2.toArray):=zh (al.out.own4.kp m6.out.X).li;have HZ7:Hid ((w6.setCell ⟨E.r,1,none⟩ (.int .i64 ((k2:Int)+1))).heap.size=w6.heap.size):=zh (World.size_setCell ..)
   have ig:=zh (fun w9 C=>al.out.step (w9:=w9) (C:=C) hE vr hs bp);have gw:c2<=1000000:=by have:=al.out.nc;have:=al.out.lt;omega
   have ai:Hid (l2.length=22):=zh al.out.len;have CN:=zh (fun W h=>gI E hE (k2+1) op c2 pl er (unL [37] (some ⟨w6.heap.size,0,none⟩) 1 1) rfl (rP _ _ _ _) W h gw);obtain⟨C,hC,ah,fd,gq⟩:=eO (c2+1) (unL [37] (some ⟨w6.heap.size,0,none⟩) 1 1) rfl (rP _ _ _ _);rw[hC]at CN;have HST2:=zh (fun w9=>ig.out w9 C ah fd (fun h=>gq h));have yC:=zh ah;have fa:=zh fd;clear hC ah fd gq ig
   go_upto_region 4 with fail
   generalize hg:w6.heap.size=g at *;generalize w6.setCell ⟨E.r,1,none⟩ (.int .i64 ((k2:Int)+1))=w7 at *;have mp:Hid (w7.rangeAt q4 0 l2):=zh (by simpa using HL7.out.range);have zi:(Tryz.prog.info? 41).map (·.size)=some l2.length:=by rw[ai.out];exact aF
   have vm:=zh (f9.out.next (zp (.cells l2.toArray 41)));have HO8:=zh ((HL7.out.next (zp (.cells l2.toArray 41))));have HN4:Hid (q4≠E.r):=zh (fun e=>al.out.own4.fr.nx (by rw[e];exact .head _));clear hg r1 fr1
   go_wp2_with (first |(refine yr rfl 41 (.tmp 4) rfl q4 0 rfl l2 _ mp.out Tryz.underlying41 rfl zi ?_) |(refine lM rfl (.tmp 25) rfl l2 rfl ai.out g HZ7.out (some 26) rfl ?_;generalize w7.alloc (.cells l2.toArray 41)=w8 at vm HST2 HO8 ⊢))
   refine(CN.out w8 vm.out).mono ?_;rintro e w9 ⟨rfl,h1,h2⟩;have HST3:=zh (HST2.out w9 h1 h2);have HO9:=zh (h2.lies HO8.out (fun hm=>HN4.out (yf.1 hm)));have HT:Hid (w9.there q4 0 C.toArray.size):=zh (by have h:=HO9.out.thereA;rw[show C.toArray.size=22 from yC.out];rw[show l2.toArray.size=22 from ai.out]at h;exact h);have px:(Tryz.prog.info? 41).map (·.size)=some C.toArray.size:=by rw[show C.toArray.size=22 from yC.out];exact aF
   clear h1 h2 HST2 CN vm f9 m6 zi
   go_wp2_with (first |(refine yq rfl 41 (.tmp 4) (.tmp 28) rfl q4 0 C.toArray rfl rfl HT.out px fa.out ?_;change wpList _ _ _ _ _ (w9.setCells q4 0 C);generalize w9.setCells q4 0 C=w10 at HST3 ⊢;dsimp only[Act.put]))
   go_roundw
   case rel=>exact zh ⟨_,_,_,_,HST3.out⟩
   case measure=>rw[HM.out,HST3.out.ine.rdAt];omega
  have hs0:isS (E.at k2) [37]=false:=by simpa using hs
  rw[hs0]at CS2;have HG:Hid (T=.ok t2 (E.L.drop k2) c2):=zh (by
   have:=ed.out.go;rw[<- this];cases h:E.L.length-k2 with
   |zero=>have:=ed.out.lt;omega
   |succ f=>
    unfold iJ;rw[show isS (hd (E.L.drop k2)) [37]=false from hs0];rfl)
  clear hs hs0 CS CT
  go_wp2_with fail
  refine CT2.out.mono ?_;rintro e w5 ⟨rfl,hb⟩;have de:=zh hb;clear hb CT2
  go_wp2_with fail
  refine(CS2.out w5).mono ?_;rintro e w6 ⟨rfl,hb⟩;have al:Hid (Pct E w k op nd pl er q q4 m T k2 l2 t2 c2 w6):=zh ((ed.out.next de.out).next hb);clear hb CS2 ed de;have hne4:=bp;have HT:Hid (w6.there q 0 l2.toArray.size):=zh (by have h:=al.out.own.li.thereA;rw[show l2.toArray.size=22 from al.out.nv.1];exact h);have mp:Hid (w6.rangeAt q4 0 l2):=zh (by simpa using al.out.own4.li.range);have zi:(Tryz.prog.info? 41).map (·.size)=some l2.length:=by rw[show l2.length=22 from by have:=al.out.nv.1;rwa [yd]at this];exact aF
  have dc:=zh al.out.nv.2.1
  go_wp2_with (first |(refine yr rfl 41 (.tmp 4) rfl q4 0 rfl l2 _ mp.out Tryz.underlying41 rfl zi ?_) |(refine yq rfl 41 (.tmp 2) (.tmp 29) rfl q 0 l2.toArray rfl rfl HT.out zi dc.out ?_;change wpList _ _ _ _ _ (w6.setCells q 0 l2);generalize fe:w6.setCells q 0 l2=w7))
  have bn:Kp [q] w6 w7:=by rw[<- fe];exact aT (.inl (.head _)) l2 0 (Kp.refl _ _)
  have dx:Hid (Lies w7 q 41 l2.toArray):=zh (by rw[<- fe];exact al.out.own.li.putAll (by have:=al.out.nv.1;rwa [yd]at this));refine yt (aM rfl rfl dx.out al.out.nv.1) rfl ?_;rw[HG.out];have nr:∀ y∈[q],y∈q4::List.range m:=fun y hy=>by rw[yf.1 hy];exact al.out.qin
  exact⟨k2,l2.toArray,rfl,al.out.le,al.out.lt,rfl,al.out.nc,al.out.nn,al.out.ine.own hE al.out.own (by decide) (by decide) bn,al.out.kp.own al.out.own bn,(al.out.nv.kpX bn nr).anti (fun y hy _=>zg _ (yg.2 (Nat.lt_trans (yg.1 hy) al.out.wm)))⟩
set_option maxRecDepth 100000 in
theorem uAQ(E:Env)(hE:E.ok)(part:List Tok->Nat->Out)(op:Nat)(hp:dP E 113 part op)(k nd pl er:Nat)(w:World)(hI:InE E k op nd pl er w)(hk:k<E.L.length)(hn:nd<=k)(e0 p0:Nat)(ho:part (E.L.drop k) nd=.bad e0 p0) :
  Calls Tryz.prog 111 #[.pointer (some ⟨E.r,0,none⟩)] w (NPost E w k op nd pl er (cN part (E.L.drop k) nd)):=by
 have hT:cN part (E.L.drop k) nd=.bad e0 p0:=by unfold cN;rw[ho]
 rw[hT];have co:=zh (hI.next (zp (.cells aA.toArray 41)));have CP:=zh (hp k nd pl er _ co.out hk hn);rw[ho]at CP;have cj:Hid (Kp E.X w (w.alloc (.cells aA.toArray 41))):=zh ((Kp.refl _ _).alloc _);have cg:=zh (Own1.new hI (Kp.refl E.X w) 41 aA.toArray);have HF:=zh hI;clear hI ho hT hp;simp only[aA]at co cj cg CP
 go_enter Tryz.func111,Tryz.ntmps111
 go_upto_region 1 with fail
 generalize w.alloc (.cells zM 41)=W1 at co cj cg CP ⊢;generalize en:w.heap.size=q at cg ⊢;clear en
 go_wp2_with fail
 refine CP.out.mono ?_;rintro e w2 ⟨cs,k1,op1,nd1,rfl,h1,h2,h3,h4,h5,h6,h7⟩;obtain⟨l,rfl⟩:∃ l:List Value,cs=l.toArray:=⟨cs.toList,by simp⟩
 have ai:Hid (l.length=22):=zh (by rwa [yd]at h1);have yo:=zh h2;have bv:=zh (cg.out.kp h7);have bq:=zh (cj.out.trans h7);have dg:=zh h6;have pu:=zh (⟨h3,h4,h5⟩:k<=k1/\k1<E.L.length/\nd1+k<=nd+k1);clear h1 h2 h3 h4 h5 h6 h7 co cj cg CP;have aq:Hid (Below w2.heap.size w2 (w2.alloc (.cells zM 41))):=zh (zp _)
 have im:Hid (Own1 E w (w2.alloc (.cells zM 41)) w2.heap.size 41 zM):=zh (Own1.new HF.out bq.out 41 zM)
 have bp:q≠w2.heap.size:=by have:=bv.out.li.lt;omega
 have HC:Hid (∀ W3,W3=(w2.alloc (.cells zM 41)).setCells w2.heap.size 0 l->InE E k1 op1 nd1 p0 e0 W3/\Kp E.X w W3/\Own1 E w W3 q 41 aA.toArray/\Own1 E w W3 w2.heap.size 41 l.toArray):=zh (fun W3 e=>by
  subst e;have hb:Below w2.heap.size w2 ((w2.alloc (.cells zM 41)).setCells w2.heap.size 0 l):=eH zr l 0 aq.out;exact⟨dg.out.next hb,bq.out.trans (Kp.of_below hb),bv.out.next hb,⟨im.out.fr,im.out.ge,im.out.li.putAll ai.out⟩⟩)
 have HT:Hid ((w2.alloc (.cells zM 41)).there w2.heap.size 0 l.toArray.size):=zh (by have h:=im.out.li.thereA;rw[show l.toArray.size=22 from ai.out];exact h);have zi:(Tryz.prog.info? 41).map (·.size)=some l.toArray.size:=by rw[yd,ai.out];exact aF
 go_wp2_with (first |(refine yq rfl 41 (.tmp 4) (.tmp 9) rfl w2.heap.size 0 l.toArray rfl rfl HT.out zi yo.out ?_;change wpList _ _ _ _ _ ((w2.alloc (.cells zM 41)).setCells w2.heap.size 0 l);generalize l5:(w2.alloc (.cells zM 41)).setCells w2.heap.size 0 l=W3))
 obtain⟨g1,g2,g3,g4⟩:=HC.out W3 l5.symm;have ez:=zh g1;have fb:=zh g2;have iw:=zh g3;have HB3':=zh g4;clear g1 g2 g3 g4 HC HT zi aq im bv bq dg l5;generalize w2.heap.size=q4 at *
 go_loopw [16] (fun _ wr=>Hid (wr=W3)) (fun _ _=>0)
 case atStart=>exact zh rfl
 case round=>
  have hwr:=hrel.out;subst hwr;have HT:Hid (wr.there q 0 l.toArray.size):=zh (by have h:=iw.out.li.thereA;rw[show l.toArray.size=22 from ai.out];exact h);have mp:Hid (wr.rangeAt q4 0 l):=zh (by simpa using HB3'.out.li.range);have zi:(Tryz.prog.info? 41).map (·.size)=some l.length:=by rw[ai.out];exact aF
  go_wp2_with (first |(refine yr rfl 41 (.tmp 4) rfl q4 0 rfl l _ mp.out Tryz.underlying41 rfl zi ?_) |(refine yq rfl 41 (.tmp 2) (.tmp 29) rfl q 0 l.toArray rfl rfl HT.out zi yo.out ?_;change wpList _ _ _ _ _ (wr.setCells q 0 l);generalize fe:wr.setCells q 0 l=w7))
  have bn:Kp [q] wr w7:=by rw[<- fe];exact aT (.inl (.head _)) l 0 (Kp.refl _ _)
  have dx:Hid (Lies w7 q 41 l.toArray):=zh (by rw[<- fe];exact iw.out.li.putAll ai.out);refine yt (aM rfl rfl dx.out ai.out) rfl ?_;exact⟨l.toArray,k1,op1,nd1,rfl,ai.out,yo.out,pu.out.1,pu.out.2.1,pu.out.2.2,ez.out.own hE iw.out (by decide) (by decide) bn,fb.out.own iw.out bn⟩
theorem uAP(E:Env)(hE:E.ok)(he:E.ends)(hL:E.L.length<=1000000)(part:List Tok->Nat->Out)(op:Nat)(hp:dP E 113 part op):dP E 111 (cN part) op:=by
 intro k nd pl er w hI hk hn;cases ho:part (E.L.drop k) nd with
 |ok t ts c=>exact uEB E hE he hL part op hp k nd pl er w hI hk hn t ts c ho
 |bad e p=>
  have h:=uAQ E hE part op hp k nd pl er w hI hk hn e p ho;have hT:cN part (E.L.drop k) nd=.bad e p:=by unfold cN;rw[ho]
  exact h
theorem ba_beq(a b:Array UInt8):((⟨a⟩:ByteArray)==⟨b⟩)=(a==b):=rfl
theorem sK(s:Bs):∀ (l:List Bs) (es:List MapEntry) (j:Nat),es.map (·.key)=l.map (fun(x:Bs)=>Value.string ⟨x.toArray⟩)->(∀ e∈es,e.val=.bool true)->∃ r,Instr.findNow .string (.string ⟨s.toArray⟩) es j=some r/\(l.contains s=true->∃ i,r=some (i,.bool true))/\(l.contains s=false->r=none)
 | [],es,j,h,_=>by
  have h0:es=[]:=by simpa using h
  subst h0;exact⟨none,rfl,fun h=>by simp at h,fun _=>rfl⟩
 |x::r,es,j,h,hv=>by
  cases es with
  |nil=>simp at h
  |cons e es=>
   simp only[List.map_cons,List.cons.injEq]at h;obtain⟨h1,h2⟩:=h;by_cases hx:s=x
   ·subst hx;refine⟨some (j,e.val),?_,fun _=>⟨j,by rw[hv e (by simp)]⟩,fun h=>by simp at h⟩;unfold Instr.findNow;rw[h1];simp[Instr.sameNow,ba_beq]
   obtain⟨q,g1,g2,g3⟩:=sK s r es (j+1) h2 (fun e he=>hv e (by simp[he]));refine⟨q,?_,fun hc=>g2 ?_,fun hc=>g3 ?_⟩
   ·unfold Instr.findNow;rw[h1];have bp:((⟨s.toArray⟩:ByteArray)==⟨x.toArray⟩)=false:=by
     rw[ba_beq];simpa using hx
    simp only[Instr.sameNow,bp];exact g1
   ·simpa [hx] using hc
   simpa [hx] using hc
theorem uES(l:List Bs):(iO l).toList.map (·.key)=l.map (fun(x:Bs)=>Value.string ⟨x.toArray⟩):=by
 unfold iO;apply List.ext_getElem?;intro i;simp;cases l[i]? <;> rfl
theorem uEU(l:List Bs):∀ e∈(iO l).toList,e.val=.bool true:=by
 intro e he;unfold iO at he;simp at he;obtain⟨i,h,rfl⟩:=he;rfl
theorem oU(l:List Bs)(r c:Nat)(W:World)(hb:W.heap[r]?=some (.map (iO l) c))(s:Bs) :
  (Instr.lookup 89 (.map (some r)) (.string ⟨s.toArray⟩) false).run Tryz.prog W=.ok (.bool (l.contains s)) W:=by
 obtain⟨q,h1,h2,h3⟩:=sK s l (iO l).toList 0 (uES l) (uEU l);have hc:(Instr.checkKey (iO l).isEmpty 10000 9 (.string ⟨s.toArray⟩)).run Tryz.prog W=.ok () W:=MapKept.run_checkKey (k:=.string ⟨s.toArray⟩) Tryz.underlying9 trivial _ 9999;have hz:(zeroValue 4).run Tryz.prog W=.ok (.bool false) W:=by kernel_rfl
 cases hl:l.contains s with
 |true=>
  obtain⟨i,rfl⟩:=h2 hl;simp[Instr.lookup,run_underlying uSgI,MapKept.run_getObj_map hb,hc,MapKept.run_findKey Tryz.underlying9 h1,Result.andThen]
 |false=>
  have:=h3 hl;subst this;simp[Instr.lookup,run_underlying uSgI,MapKept.run_getObj_map hb,hc,MapKept.run_findKey Tryz.underlying9 h1,Result.andThen,hz]
abbrev uCC(s:Bs)(A:Option Addr)(m n:Nat):List Value:=[.int .i64 6,.int .i64 0,.int .i64 0,.int .i64 0,.string ⟨#[]⟩,.bool false,.int .i64 0,.string ⟨s.toArray⟩,.int .i64 0,.int .i64 0,.int .i64 0,.int .i64 0,.bool false,.bool false,.int .i64 0,.int .i64 0,.int .i64 0,.int .i64 0,.bool false,.bool false,.int .i64 0,.slice A m n]
theorem oG(s:Bs)(A:Option Addr)(m n:Nat):(uCC s A m n).toArray.all (·.oneCell')=true:=by simp[uCC,Value.oneCell']
structure Lev(E:Env)(w:World)(k op nd pl er q q8 m:Nat)(next:List Tok->Nat->Out)(sg:List Bs)(T:Out)(k':Nat)(l:List Value)(t:Tree)(c:Nat)(W:World):Prop where
 ine:InE E k' op c pl er W
 kp:Kp E.X w W
 own:Own1 E w W q 41 aA.toArray
 own8:Own1 E w W q8 41 l.toArray
 nv:NV W (q8::List.range m) c t l.toArray
 wm:w.heap.size<m
 qe:q=w.heap.size
 xm:∀ y∈E.X,y<m
 ms:m<=W.heap.size
 le:k<=k'
 lt:k'<E.L.length
 nc:c+k<=nd+k'
 nn:nd<=c
 go:∃ f,E.L.length-k'<=f/\gW next sg f t (E.L.drop k') c=T
theorem Lev.len{E:Env}{w:World}{k op nd pl er q q8 m:Nat}{next:List Tok->Nat->Out}{sg:List Bs}{T:Out}{k':Nat}{l:List Value}{t:Tree}{c:Nat}{W:World}(h:Lev E w k op nd pl er q q8 m next sg T k' l t c W):l.length=22:=by
 have:=h.nv.1
 rwa [yd]at this
theorem Lev.qin{E:Env}{w:World}{k op nd pl er q q8 m:Nat}{next:List Tok->Nat->Out}{sg:List Bs}{T:Out}{k':Nat}{l:List Value}{t:Tree}{c:Nat}{W:World}(h:Lev E w k op nd pl er q q8 m next sg T k' l t c W):q∈q8::List.range m:=zg _ (yg.2 (by have:=h.wm;have:=h.qe;omega))
theorem Lev.next{E:Env}{w:World}{k op nd pl er q q8 m:Nat}{next:List Tok->Nat->Out}{sg:List Bs}{T:Out}{k':Nat}{l:List Value}{t:Tree}{c:Nat}{W W':World}(h:Lev E w k op nd pl er q q8 m next sg T k' l t c W)(hb:Below W.heap.size W W'):Lev E w k op nd pl er q q8 m next sg T k' l t c W' :=
 ⟨h.ine.next hb,h.kp.trans (Kp.of_below hb),h.own.next hb,h.own8.next hb,h.nv.kp (Kp.of_below hb),h.wm,h.qe,h.xm,yv h.ms hb.size,h.le,h.lt,h.nc,h.nn,h.go⟩
abbrev uS(E:Env)(k':Nat)(W:World):World:=(W.setCell ⟨E.r,1,none⟩ (.int .i64 ((k':Int)+1))).alloc (.cells aA.toArray 41)
theorem Lev.step{E:Env}(hE:E.ok){w:World}{k op nd pl er q q8 m:Nat}{next:List Tok->Nat->Out}{sg:List Bs}{T:Out}{k':Nat}{l:List Value}{t:Tree}{c:Nat}{W w9 w12:World}(h:Lev E w k op nd pl er q q8 m next sg T k' l t c W)(hs:jC sg (E.at k')=true)(hq:q≠q8)
  {x:Tree} {k3 c1:Nat} {l3:List Value} (mq:next (E.L.drop (k'+1)) c=.ok x (E.L.drop k3) c1) (dq:k'+1<=k3) (t9:k3<E.L.length) (fg:c1+(k'+1)<=c+k3) (gw:c<=c1)
  (hk9:Kp E.X (uS E k' W) w9) (hv3:NV w9 (List.range (uS E k' W).heap.size) c1 x l3.toArray)
  (tq:Kp [E.r] ((w9.setCells W.heap.size 0 l3).alloc (.cells (l++l3).toArray 41)) w12) (hi12:InE E k3 op (c1+1) pl er w12)
  {C:List Value} (fz:C.length=22) (h1:C.toArray.all (·.oneCell')=true) (hC:c1+1<=256->C=uCC (E.at k').text (some ⟨w9.heap.size,0,none⟩) 2 2) :
  Lev E w k op nd pl er q q8 m next sg T k3 C (tBin (E.at k').text t x) (c1+1) (w12.setCells q8 0 C):=by
 have hr0:Kp E.X W (W.setCell ⟨E.r,1,none⟩ (.int .i64 ((k':Int)+1))):=((Kp.refl [E.r] _).set (.inl (.head _)) 1 _).X;have i7:Kp E.X W (uS E k' W):=hr0.alloc _;have hr9:Kp E.X W w9:=i7.trans hk9;have hs8:(uS E k' W).heap.size=W.heap.size+1:=by show (World.alloc _ _).heap.size=_;rw[World.size_alloc,World.size_setCell]
 have hs9:W.heap.size+1<=w9.heap.size:=by have:=hk9.size;omega
 have vt:=h.own8.li.lt;have dh:=h.own.li.lt;have hms:=h.ms;have hw10:Kp [W.heap.size] w9 (w9.setCells W.heap.size 0 l3):=aT (.inl (.head _)) l3 0 (Kp.refl _ _);have hs10:(w9.setCells W.heap.size 0 l3).heap.size=w9.heap.size:=eY ..;have hw11:Kp [] (w9.setCells W.heap.size 0 l3) ((w9.setCells W.heap.size 0 l3).alloc (.cells (l++l3).toArray 41)):=(Kp.refl _ _).alloc _;have km:Lies ((w9.setCells W.heap.size 0 l3).alloc (.cells (l++l3).toArray 41)) w9.heap.size 41 (l++l3).toArray:=by
  have:=Lies.new (w9.setCells W.heap.size 0 l3) 41 (l++l3).toArray
  rwa [hs10]at this
 have rx:Kp [q8] w12 (w12.setCells q8 0 C):=aT (.inl (.head _)) C 0 (Kp.refl _ _);have hEr:E.r<W.heap.size:=h.ine.rd.lt;have hrx:E.r∈E.X:=.head _;have hX:∀ y∈E.X,y∈W.heap.size::q8::List.range m:=fun y hy=>zg _ (zg _ (yg.2 (h.xm y hy)))
 have hX9:∀ y∈E.X,y<W.heap.size:=h.ine.xlt
 have ht9:NV w12 (W.heap.size::q8::List.range m) (c1+1) t l.toArray :=
  (((((h.nv.fresh zr).kpX hr9 hX).kpX hw10 (fun y hy=>by rw[yf.1 hy];exact .head _)).kpX hw11 (fun y hy=>by cases hy)).kpX tq (fun y hy=>by rw[yf.1 hy];exact hX _ hrx)).mono (by omega)
 have hx12:NV w12 (List.range (uS E k' W).heap.size) (c1+1) x l3.toArray :=
  (((hv3.kpX hw10 (fun y hy=>by rw[yf.1 hy];exact yg.2 (by omega))).kpX hw11 (fun y hy=>by cases hy)).kpX tq (fun y hy=>by rw[yf.1 hy];exact yg.2 (by omega))).mono (by omega)
 have nr:∀ y∈q8::List.range m,y∈List.range (uS E k' W).heap.size:=fun y hy=>by
  rcases ym.1 hy with rfl|hy
  ·exact yg.2 (by omega)
  have:=yg.1 hy;exact yg.2 (by omega)
 have ht13:NV (w12.setCells q8 0 C) (q8::List.range m) (c1+1) t l.toArray:=(ht9.anti (fun y hy _=>zg _ hy)).kpX rx (fun y hy=>by rw[yf.1 hy];exact .head _);have hx13:NV (w12.setCells q8 0 C) (q8::List.range m) (c1+1) x l3.toArray:=(hx12.anti (fun y hy _=>nr y hy)).kpX rx (fun y hy=>by rw[yf.1 hy];exact .head _);have hgr:w9.heap.size≠E.r:=by omega
 have hg8:w9.heap.size≠q8:=by omega
 have hgl13:Lies (w12.setCells q8 0 C) w9.heap.size 41 (l++l3).toArray:=rx.lies (tq.lies km (fun hm=>hgr (yf.1 hm))) (fun hm=>hg8 (yf.1 hm));have keep:∀ {z:Nat} {cs:Array Value},z<W.heap.size->Own1 E w W z 41 cs->Own1 E w w12 z 41 cs:=fun {z cs} hz ho=>by
  have h9:=ho.kp hr9;exact⟨ho.fr,ho.ge,tq.lies (hw11.lies (hw10.lies h9.li (fun hm=>by rw[yf.1 hm]at hz;omega)) (by simp)) (fun hm=>ho.fr.nx (by rw[yf.1 hm];exact hrx))⟩
 have ho12:=keep dh h.own;have py:=keep vt h.own8;have hkw:Kp E.X w w12:=by
  have h9:Kp E.X w w9:=h.kp.trans hr9;have uc:=h9.andThen hw10 (fun g hg=>.inr (by rw[yf.1 hg];exact h.kp.size));exact(uc.alloc _).trans tq.X
 have hm12:W.heap.size<=w12.heap.size:=by
  have:=tq.size;rw[World.size_alloc,hs10]at this;omega
 have hkl:=h.le;have sq:=h.nc;have kx:=h.nn;obtain⟨f,hf,j9⟩:=h.go;have hlt:=h.lt;refine⟨hi12.own hE py (by decide) (by decide) rx,hkw.own py rx,⟨ho12.fr,ho12.ge,rx.lies ho12.li (fun hm=>hq (yf.1 hm))⟩,⟨py.fr,py.ge,py.li.putAll (by rw[fz];exact h.nv.1.symm)⟩,⟨fz,h1,fun hn=>?_⟩,h.wm,h.qe,h.xm,yv h.ms (yv hm12 rx.size),by omega,t9,by omega,by omega,?_⟩
 ·refine⟨some ⟨w9.heap.size,0,none⟩,2,by rw[hC hn];rfl,KidsAt.two hgl13 ht13 hx13 (by omega) ?_ _ rfl⟩;intro hm;rcases ym.1 hm with hm|hm
  ·exact hg8 hm
  have:=yg.1 hm;omega
 cases f with
 |zero=>omega
 |succ f=>
  refine⟨f,by omega,?_⟩;unfold gW at j9;rw[show jC sg (hd (E.L.drop k'))=true from hs,if_pos rfl,List.tail_drop,mq]at j9;exact j9
end Go.Proofs.YtmgjidnalpgegaaGreatDoor
