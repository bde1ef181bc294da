/-
  Lemmas, part 11: ParI ParJ ParK.
-/
import Derived.Test.YtmgjidnalpgegaaGreatDoorPg10
namespace Go.Proofs.YtmgjidnalpgegaaGreatDoor
open Go.RowKit
structure LevB(E:Env)(w:World)(k nd q q8:Nat)(T:Out)(W:World):Prop where
 ex:∃ k4 op4 nd4 e p l,T=.bad e p∧InE E k4 op4 nd4 p e W∧Kp E.X w W∧Own1 E w W q 41 aB.toArray∧Own1 E w W q8 41 (l:List Value).toArray∧l.length=22∧l.toArray.all (·.oneCell')=true∧k≤k4∧k4<E.L.length∧nd4+k≤nd+k4
def onM(v:Value)(n:Nat):Nat:=match v with
 | .bool true=>n+1
 | _=>0
def tkk(t:Tok):Nat:=t.kind
theorem isLev_no{sg:List Bs}{t:Tok}(h:eG sg t=false):¬ t.kind=5∨(t.kind=5∧sg.contains t.text=false):=by
 unfold eG at h;by_cases h5:t.kind=5
 ·exact .inr ⟨h5,by simpa [h5] using h⟩
 ·exact .inl h5
set_option maxRecDepth 100000 in
set_option maxHeartbeats 3200000 in
theorem level_ok(E:Env)(hE:E.ok)(he:E.ends)(hL:E.L.length≤1000000)(f:Nat)(hf:∀ args W,(callFunc f args).run Tryz.prog W=.ok (.enter f args) W)(next:List Tok→Nat→Out)(op:Nat)(hp:dU E f next op)(ix:Nat)(hix:ix<eJ.length)(k nd pl er:Nat)(w:World)(hI:InE E k op nd pl er w)(hk:k<E.L.length)(hn:nd≤k)(t0:Tree)(ts0:List Tok)(c0:Nat)(ho:next (E.L.drop k) nd=.ok t0 ts0 c0) :
  Calls Tryz.prog 35 #[.pointer (some ⟨E.r,0,none⟩),.func (.func f) #[.pointer (some ⟨E.r,0,none⟩)] #[],.map (some (E.sg+1+ix))] w (NPost E w k op nd pl er (bH next eJ[ix] (E.L.drop k) nd)):=by
 have hT:bH next eJ[ix] (E.L.drop k) nd=fT next eJ[ix] ts0.length t0 ts0 c0:=by unfold bH;rw[ho]
 rw[hT];have HSG:=zh (fun k c W (h:InE E k op c pl er W)=>h.sg.ins ix hix);generalize eJ[ix]=sg at *;generalize E.sg+1+ix=mb at *;generalize hTT:fT next sg ts0.length t0 ts0 c0=T;have HTT:=zh hTT;clear hTT;have HI0:=zh (hI.next ((Below.refl _ _).alloc (Nat.le_refl _) (.cells aB.toArray 41)));have CP:=zh (hp k nd pl er _ HI0.out hk hn);rw[ho]at CP;have HK0:Hid (Kp E.X w (w.alloc (.cells aB.toArray 41))):=zh ((Kp.refl _ _).alloc _);have HA0:=zh (Own1.new hI (Kp.refl E.X w) 41 aB.toArray);have HF:=zh hI;have HPN:=zh hp;have HSZ:Hid (w.heap.size<(w.alloc (.cells aB.toArray 41)).heap.size):=zh (by simp);clear hI ho hT hp;simp only[aB]at HI0 HK0 HA0 CP HSZ
 go_enter Tryz.func35,Tryz.ntmps35
 go_upto_region 1 with fail
 generalize w.alloc (.cells #[.int .i64 0,.int .i64 0,.int .i64 0,.int .i64 0,.string ⟨#[]⟩,.bool false,.int .i64 0,.string ⟨#[]⟩,.int .i64 0,.int .i64 0,.int .i64 0,.int .i64 0,.bool false,.bool false,.int .i64 0,.int .i64 0,.int .i64 0,.int .i64 0,.bool false,.bool false,.int .i64 0,.slice none 0 0] 41)=W1 at HI0 HK0 HA0 CP HSZ ⊢;generalize hqe:w.heap.size=q at HA0 ⊢;have HQE:=zh hqe;clear hqe
 go_wp2_with fail
 refine CP.out.mono ?_;rintro e w2 ⟨k1,cs,rfl,h1,h2,rfl,h3,h4,h5,h6,h7⟩;obtain⟨l,rfl⟩:∃ l:List Value,cs=l.toArray:=⟨cs.toList,by simp⟩
 have hl22:l.length=22:=by have:=h7.1;rwa [List.size_toArray]at this
 have HMS:=zh h6.size;have HA2:=zh (HA0.out.kp h6);have HK2:=zh (HK0.out.trans h6);have HI2:=zh h5;have HN2:=zh h7;have HKc:=zh (⟨h1,h2,h3,h4⟩:k≤k1∧k1<E.L.length∧c0+k≤nd+k1∧nd≤c0);have HL22:=zh hl22;have yo:=zh h7.2.1;clear h1 h2 h3 h4 h5 h6 h7 hl22 HI0 HK0 HA0 CP;have HB3:Hid (Below w2.heap.size w2 (w2.alloc (.cells #[.int .i64 0,.int .i64 0,.int .i64 0,.int .i64 0,.string ⟨#[]⟩,.bool false,.int .i64 0,.string ⟨#[]⟩,.int .i64 0,.int .i64 0,.int .i64 0,.int .i64 0,.bool false,.bool false,.int .i64 0,.int .i64 0,.int .i64 0,.int .i64 0,.bool false,.bool false,.int .i64 0,.slice none 0 0] 41))):=zh ((Below.refl _ _).alloc (Nat.le_refl _) _)
 have HO3:Hid (Own1 E w (w2.alloc (.cells #[.int .i64 0,.int .i64 0,.int .i64 0,.int .i64 0,.string ⟨#[]⟩,.bool false,.int .i64 0,.string ⟨#[]⟩,.int .i64 0,.int .i64 0,.int .i64 0,.int .i64 0,.bool false,.bool false,.int .i64 0,.int .i64 0,.int .i64 0,.int .i64 0,.bool false,.bool false,.int .i64 0,.slice none 0 0] 41)) w2.heap.size 41 #[.int .i64 0,.int .i64 0,.int .i64 0,.int .i64 0,.string ⟨#[]⟩,.bool false,.int .i64 0,.string ⟨#[]⟩,.int .i64 0,.int .i64 0,.int .i64 0,.int .i64 0,.bool false,.bool false,.int .i64 0,.int .i64 0,.int .i64 0,.int .i64 0,.bool false,.bool false,.int .i64 0,.slice none 0 0]):=zh (Own1.new HF.out HK2.out 41 #[.int .i64 0,.int .i64 0,.int .i64 0,.int .i64 0,.string ⟨#[]⟩,.bool false,.int .i64 0,.string ⟨#[]⟩,.int .i64 0,.int .i64 0,.int .i64 0,.int .i64 0,.bool false,.bool false,.int .i64 0,.int .i64 0,.int .i64 0,.int .i64 0,.bool false,.bool false,.int .i64 0,.slice none 0 0])
 have hne:q≠w2.heap.size:=by have:=HA2.out.li.lt;omega
 have HC:Hid (∀ W3,W3=(w2.alloc (.cells #[.int .i64 0,.int .i64 0,.int .i64 0,.int .i64 0,.string ⟨#[]⟩,.bool false,.int .i64 0,.string ⟨#[]⟩,.int .i64 0,.int .i64 0,.int .i64 0,.int .i64 0,.bool false,.bool false,.int .i64 0,.int .i64 0,.int .i64 0,.int .i64 0,.bool false,.bool false,.int .i64 0,.slice none 0 0] 41)).setCells w2.heap.size 0 l→InE E k1 op c0 pl er W3∧Kp E.X w W3∧Own1 E w W3 q 41 aB.toArray∧Own1 E w W3 w2.heap.size 41 l.toArray∧NV W3 (w2.heap.size::List.range W1.heap.size) c0 t0 l.toArray):=zh (fun W3 e=>by
  subst e;have hb:Below w2.heap.size w2 ((w2.alloc (.cells #[.int .i64 0,.int .i64 0,.int .i64 0,.int .i64 0,.string ⟨#[]⟩,.bool false,.int .i64 0,.string ⟨#[]⟩,.int .i64 0,.int .i64 0,.int .i64 0,.int .i64 0,.bool false,.bool false,.int .i64 0,.int .i64 0,.int .i64 0,.int .i64 0,.bool false,.bool false,.int .i64 0,.slice none 0 0] 41)).setCells w2.heap.size 0 l):=fE (Nat.le_refl _) l 0 HB3.out;exact⟨HI2.out.next hb,HK2.out.trans (Kp.of_below hb),HA2.out.next hb,⟨HO3.out.fr,HO3.out.ge,HO3.out.li.putAll HL22.out⟩,(HN2.out.fresh (Nat.le_refl _)).kp (Kp.of_below hb)⟩)
 have HT:Hid ((w2.alloc (.cells #[.int .i64 0,.int .i64 0,.int .i64 0,.int .i64 0,.string ⟨#[]⟩,.bool false,.int .i64 0,.string ⟨#[]⟩,.int .i64 0,.int .i64 0,.int .i64 0,.int .i64 0,.bool false,.bool false,.int .i64 0,.int .i64 0,.int .i64 0,.int .i64 0,.bool false,.bool false,.int .i64 0,.slice none 0 0] 41)).there w2.heap.size 0 l.toArray.size):=zh (by have h:=HO3.out.li.thereA;rw[show l.toArray.size=22 from HL22.out];exact h);have zi:(Tryz.prog.info? 41).map (·.size)=some l.toArray.size:=by rw[List.size_toArray,HL22.out];exact aE
 go_wp2_with (first |(refine wpList_store_mid rfl 41 (.tmp 8) (.tmp 15) rfl w2.heap.size 0 l.toArray rfl rfl HT.out zi yo.out ?_;change wpList _ _ _ _ _ ((w2.alloc (.cells #[.int .i64 0,.int .i64 0,.int .i64 0,.int .i64 0,.string ⟨#[]⟩,.bool false,.int .i64 0,.string ⟨#[]⟩,.int .i64 0,.int .i64 0,.int .i64 0,.int .i64 0,.bool false,.bool false,.int .i64 0,.int .i64 0,.int .i64 0,.int .i64 0,.bool false,.bool false,.int .i64 0,.slice none 0 0] 41)).setCells w2.heap.size 0 l);generalize hW3:(w2.alloc (.cells #[.int .i64 0,.int .i64 0,.int .i64 0,.int .i64 0,.string ⟨#[]⟩,.bool false,.int .i64 0,.string ⟨#[]⟩,.int .i64 0,.int .i64 0,.int .i64 0,.int .i64 0,.bool false,.bool false,.int .i64 0,.int .i64 0,.int .i64 0,.int .i64 0,.bool false,.bool false,.int .i64 0,.slice none 0 0] 41)).setCells w2.heap.size 0 l=W3))
 obtain⟨g1,g2,g3,g4,g5⟩:=HC.out W3 hW3.symm;have HS:Hid (Lev E w k op nd pl er q w2.heap.size W1.heap.size next sg T k1 l t0 c0 W3):=zh ⟨g1,g2,g3,g4,g5,HSZ.out,HQE.out.symm,fun y hy=>Nat.lt_trans (HF.out.xlt y hy) HSZ.out,by rw[← hW3,eY,World.size_alloc];have:=HMS.out;omega,HKc.out.1,HKc.out.2.1,HKc.out.2.2.1,HKc.out.2.2.2,E.L.length-k1,Nat.le_refl _,by rw[← List.length_drop];exact HTT.out⟩;clear g1 g2 g3 g4 g5 HC HT zi HB3 HO3 HA2 HK2 HI2 HN2 HL22 yo hW3;generalize w2.heap.size=q8 at *;generalize W1.heap.size=m at *;have CT:=zh (fun k c W h hk=>bT E k op c pl er W h hk)
 go_loopw [9] (fun v wr=>(v=.bool true∧Hid (∃ k' l t c,Lev E w k op nd pl er q q8 m next sg T k' l t c wr))∨(v=.bool false∧Hid (LevB E w k nd q q8 T wr))) (fun v wr=>onM v (E.L.length-rdAt wr E.r))
 case atStart=>exact .inl ⟨rfl,zh ⟨_,_,_,_,HS.out⟩⟩
 case round=>
  rcases hrel with⟨rfl,hrel⟩ | ⟨rfl,hrel⟩
  ·obtain⟨k2,l2,t2,c2,hS⟩:=hrel.out;have HS2:=zh hS;have HM:=zh hS.ine.rdAt;clear hS hrel HS;by_cases hs:eG sg (E.at k2)=true
   ·have hcs:tkk (E.at k2)=5∧sg.contains (E.at k2).text=true:=by
     unfold eG at hs;simpa [tkk] using hs
    have hmore:=E.more he HS2.out.lt (by have:=hcs.1;unfold tkk at this;omega);have hkb:(k2:Int)≤1000000:=by have:=HS2.out.lt;omega
    have HST:=zh (fun W (h:Lev E w k op nd pl er q q8 m next sg T k2 l2 t2 c2 W) x k3 c1 l3 w9 w12 C=>Lev.step (x:=x) (k3:=k3) (c1:=c1) (l3:=l3) (w9:=w9) (w12:=w12) (C:=C) hE h hs hne);have HTB:Hid (∀ e p,next (E.L.drop (k2+1)) c2=.bad e p→T=.bad e p):=zh (fun e p hx=>by
     obtain⟨fu,hfu,hgo⟩:=HS2.out.go;rw[← hgo];cases fu with
     | zero=>have:=HS2.out.lt;omega
     | succ fu=>
      unfold fT;rw[show eG sg (hd (E.L.drop k2))=true from hs,if_pos rfl,List.tail_drop,hx])
    have CT2:=zh (fun W h=>CT.out k2 c2 W h HS2.out.lt);have HSG2:=zh (fun W h=>HSG.out k2 c2 W h);clear CT HSG hs;generalize E.at k2=tt at *;obtain⟨tk,tx,tp⟩:=tt;obtain⟨h5,hnc⟩:=hcs;dsimp only[tkV,tkk]at CT2 hnc h5 HST ⊢;subst h5;have hf0:=lU;have hf1:=mX
    go_wp2_with fail
    refine(CT2.out _ HS2.out.ine).mono ?_;rintro e w4 ⟨rfl,hb⟩;have HS4:=zh (HS2.out.next hb);clear hb HS2
    go_wp2_with fail
    refine(CT2.out _ HS4.out.ine).mono ?_;rintro e w5 ⟨rfl,hb⟩;have HS5:=zh (HS4.out.next hb);clear hb HS4;obtain⟨cm,hcm⟩:=HSG2.out _ HS5.out.ine;have hlk:=pB sg mb cm w5 hcm tx;rw[hnc]at hlk;clear HSG2 hcm hnc
    go_wp2_with fail
    refine(CT2.out _ HS5.out.ine).mono ?_;rintro e w6 ⟨rfl,hb⟩;have HS6:=zh (HS5.out.next hb);clear hb CT2 HS5 hlk;have r1:=HS6.out.ine.rd.cell 1;have fr1:=HS6.out.ine.rd.frozen 1;simp only[List.getElem?_toArray,List.getElem?_cons_zero,List.getElem?_cons_succ]at r1;have HKr:Hid (Kp [E.r] w6 (w6.setCell ⟨E.r,1,none⟩ (.int .i64 ((k2:Int)+1)))):=zh ((Kp.refl _ _).set (.inl (.head _)) 1 _);have HI7:Hid (InE E (k2+1) op c2 pl er (uZ E k2 w6)):=zh ((HS6.out.ine.wrote hE HKr.out (HS6.out.ine.rd.put 1 _)).next ((Below.refl _ _).alloc (Nat.le_refl _) _));have HZ7:Hid ((w6.setCell ⟨E.r,1,none⟩ (.int .i64 ((k2:Int)+1))).heap.size=w6.heap.size):=zh (World.size_setCell ..);have HN7:Hid (Own1 E w (uZ E k2 w6) w6.heap.size 41 aB.toArray):=zh (by
     have h:=Own1.new HF.out (HS6.out.kp.trans HKr.out.X) 41 aB.toArray;rw[HZ7.out]at h;exact h)
    have HK67:Hid (Kp E.X w6 (uZ E k2 w6)):=zh (HKr.out.X.alloc _);have hc2k:c2≤k2:=by have:=HS6.out.nc;omega
    have HPN2:=zh (HPN.out (k2+1) c2 pl er _ HI7.out hmore (by omega));have HST6:=zh (HST.out w6 HS6.out);clear HST HPN
    go_upto_region 6 with fail
    simp only[uZ,aB]at HI7 HN7 HPN2 HST6 HK67;generalize (w6.setCell ⟨E.r,1,none⟩ (.int .i64 ((k2:Int)+1))).alloc (.cells #[.int .i64 0,.int .i64 0,.int .i64 0,.int .i64 0,.string ⟨#[]⟩,.bool false,.int .i64 0,.string ⟨#[]⟩,.int .i64 0,.int .i64 0,.int .i64 0,.int .i64 0,.bool false,.bool false,.int .i64 0,.int .i64 0,.int .i64 0,.int .i64 0,.bool false,.bool false,.int .i64 0,.slice none 0 0] 41)=w7 at HI7 HN7 HPN2 HST6 HK67 ⊢;generalize hq11:w6.heap.size=q11 at HN7 HST6 HZ7 ⊢;have HQ11:=zh hq11;clear hq11 HZ7 HKr r1 fr1
    go_wp2_with fail
    cases ho2:next (E.L.drop (k2+1)) c2 with
    | ok x ts1 c1=>
     rw[ho2]at HPN2 HST6;refine HPN2.out.mono ?_;rintro e w9 ⟨k3,cs3,rfl,g1,g2,rfl,g3,g4,g5,g6,g7⟩;obtain⟨l3,rfl⟩:∃ l3:List Value,cs3=l3.toArray:=⟨cs3.toList,by simp⟩
     have hl3:l3.length=22:=by have:=g7.1;rwa [List.size_toArray]at this
     have HL3:=zh hl3;have HO3:=zh g7.2.1;have HN9:=zh (HN7.out.kp g6);have HL9:=zh ((HS6.out.own8.kp HK67.out).kp g6).li;have HL2:=zh HS6.out.len;have hne11:q8≠q11:=by have:=HS6.out.own8.li.lt;have:=HQ11.out;omega
     have hk11:Kp [q11] w9 (w9.setCells q11 0 l3):=aU (.inl (.head _)) l3 0 (Kp.refl _ _);have HI10:=zh (g5.own hE HN9.out (by decide) (by decide) hk11);have HL10:=zh (hk11.lies HL9.out (fun hm=>hne11 (List.mem_singleton.1 hm)));have HN10:Hid (Lies (w9.setCells q11 0 l3) q11 41 l3.toArray):=zh (HN9.out.li.putAll hl3);have HZ10:Hid ((w9.setCells q11 0 l3).heap.size=w9.heap.size):=zh (eY ..);have HT:Hid (w9.there q11 0 l3.toArray.size):=zh (by have h:=HN9.out.li.thereA;rw[show l3.toArray.size=22 from hl3];exact h);have hinf3:(Tryz.prog.info? 41).map (·.size)=some l3.toArray.size:=by rw[show l3.toArray.size=22 from hl3];exact aE
     have HST9:=zh (fun w12 C=>HST6.out x k3 c1 l3 w9 w12 C rfl g1 g2 g3 g4 g6 g7);have hc1:c1≤1000000:=by omega
     have CN:=zh (fun W h=>gN E hE k3 op c1 pl er (uCC tx (some ⟨w9.heap.size,0,none⟩) 2 2) rfl (oO _ _ _ _) W h hc1);obtain⟨C,hC,hC22,hC1,hCk⟩:=eT (c1+1) (uCC tx (some ⟨w9.heap.size,0,none⟩) 2 2) rfl (oO _ _ _ _);rw[hC]at CN;have yC:=zh hC22;have HC1:=zh hC1;have HCk:=zh hCk;have HG12:=zh (⟨g1,g2⟩:k2+1≤k3∧k3<E.L.length);clear g1 g2 g3 g4 g5 g6 g7 hl3 hk11 HPN2 HST6 HI7 HN7 HN9 HL9 hC hC22 hC1 hCk
     go_wp2_with (first |(refine wpList_store_mid rfl 41 (.tmp 11) (.tmp 44) rfl q11 0 l3.toArray rfl rfl HT.out hinf3 HO3.out ?_;change wpList _ _ _ _ _ (w9.setCells q11 0 l3);generalize w9.setCells q11 0 l3=w10 at HI10 HL10 HN10 HZ10 HST9 ⊢;dsimp only[Act.put]) |(refine wpList_load_mid rfl 41 (.tmp 8) rfl q8 0 rfl l2 _ (by simpa using HL10.out.range) Tryz.underlying41 rfl (by rw[HL2.out];exact aE) ?_) |(refine wpList_load_mid rfl 41 (.tmp 11) rfl q11 0 rfl l3 _ (by simpa using HN10.out.range) Tryz.underlying41 rfl (by rw[HL3.out];exact aE) ?_) |(refine uV rfl (.tmp 48) (.tmp 49) rfl l2 l3 rfl rfl HL2.out HL3.out w9.heap.size HZ10.out (some 50) rfl ?_))
     have HI11:=zh (HI10.out.next ((Below.refl _ _).alloc (Nat.le_refl _) (.cells (l2++l3).toArray 41)));have HL11:=zh (HL10.out.next ((Below.refl _ _).alloc (Nat.le_refl _) (.cells (l2++l3).toArray 41)));have HN8:Hid (q8≠E.r):=zh (fun e=>HS6.out.own8.fr.nx (by rw[e];exact .head _));refine(CN.out _ HI11.out).mono ?_;rintro e w12 ⟨rfl,h1,h2⟩;have HST12:=zh (HST9.out w12 C h2 h1 yC.out HC1.out HCk.out);have HL12:=zh (h2.lies HL11.out (fun hm=>HN8.out (List.mem_singleton.1 hm)));have HT:Hid (w12.there q8 0 C.toArray.size):=zh (by have h:=HL12.out.thereA;rw[show C.toArray.size=22 from yC.out];rw[show l2.toArray.size=22 from HL2.out]at h;exact h);have hinf2:(Tryz.prog.info? 41).map (·.size)=some C.toArray.size:=by rw[show C.toArray.size=22 from yC.out];exact aE
     clear h1 h2 HST9 CN HI11 HI10 HL11 HL10 hinf3
     go_wp2_with (first |(refine wpList_store_mid rfl 41 (.tmp 8) (.tmp 52) rfl q8 0 C.toArray rfl rfl HT.out hinf2 HC1.out ?_;change wpList _ _ _ _ _ (w12.setCells q8 0 C);generalize w12.setCells q8 0 C=w13 at HST12 ⊢;dsimp only[Act.put]))
     go_roundw
     case rel=>exact .inl ⟨rfl,zh ⟨_,_,_,_,HST12.out⟩⟩
     case measure=>
      have hx1:=HG12.out.1;have hx2:=HG12.out.2;have hx3:=HST12.out.ine.rdAt;have hx4:=HM.out;show onM (.bool true) _<onM (.bool true) _;unfold onM;rw[hx3,hx4];simp only;omega
    | bad e4 p4=>
     have hTB:=HTB.out e4 p4 ho2;have HT4:=zh hTB;rw[ho2]at HPN2;refine HPN2.out.mono ?_;rintro e w9 ⟨cs3,k4,op4,nd4,rfl,b1,b2,g1,g2,g3,g5,g6⟩;obtain⟨l3,rfl⟩:∃ l3:List Value,cs3=l3.toArray:=⟨cs3.toList,by simp⟩
     have hl3:l3.length=22:=by rwa [List.size_toArray]at b1
     have HL3:=zh hl3;have HO3:=zh b2;have HN9:=zh (HN7.out.kp g6);have HA9:=zh ((HS6.out.own.kp HK67.out).kp g6);have HB9:=zh ((HS6.out.own8.kp HK67.out).kp g6);have HK9:=zh ((HS6.out.kp.trans HK67.out).trans g6);have HL2:=zh HS6.out.len;have hne11:q8≠q11:=by have:=HS6.out.own8.li.lt;have:=HQ11.out;omega
     have hne12:q≠q11:=by have:=HS6.out.own.li.lt;have:=HQ11.out;omega
     have hk11:Kp [q11] w9 (w9.setCells q11 0 l3):=aU (.inl (.head _)) l3 0 (Kp.refl _ _);have HI10:=zh (g5.own hE HN9.out (by decide) (by decide) hk11);have HK10:=zh (HK9.out.own HN9.out hk11);have HA10:Hid (Own1 E w (w9.setCells q11 0 l3) q 41 aB.toArray):=zh ⟨HA9.out.fr,HA9.out.ge,hk11.lies HA9.out.li (fun hm=>hne12 (List.mem_singleton.1 hm))⟩;have HB10:Hid (Own1 E w (w9.setCells q11 0 l3) q8 41 l2.toArray):=zh ⟨HB9.out.fr,HB9.out.ge,hk11.lies HB9.out.li (fun hm=>hne11 (List.mem_singleton.1 hm))⟩;have HN10:Hid (Lies (w9.setCells q11 0 l3) q11 41 l3.toArray):=zh (HN9.out.li.putAll hl3);have HZ10:Hid ((w9.setCells q11 0 l3).heap.size=w9.heap.size):=zh (eY ..);have HT:Hid (w9.there q11 0 l3.toArray.size):=zh (by have h:=HN9.out.li.thereA;rw[show l3.toArray.size=22 from hl3];exact h)
     have hinf3:(Tryz.prog.info? 41).map (·.size)=some l3.toArray.size:=by rw[show l3.toArray.size=22 from hl3];exact aE
     have hnc:=HS6.out.nc;have hle:=HS6.out.le;have HKf:=zh (⟨by omega,g2,by omega⟩:k≤k4∧k4<E.L.length∧nd4+1+k≤nd+k4);have CN:=zh (fun W h=>gN E hE k4 op4 nd4 p4 e4 (uCC tx (some ⟨w9.heap.size,0,none⟩) 2 2) rfl (oO _ _ _ _) W h (by omega));obtain⟨C,hC,hC22,hC1,-⟩:=eT (nd4+1) (uCC tx (some ⟨w9.heap.size,0,none⟩) 2 2) rfl (oO _ _ _ _);rw[hC]at CN;have yC:=zh hC22;have HC1:=zh hC1;clear b1 b2 g1 g2 g3 g5 g6 hl3 hk11 HPN2 HST6 HI7 HN7 HN9 HA9 HB9 HK9 hC hC22 hC1 hnc hle hTB
     go_wp2_with (first |(refine wpList_store_mid rfl 41 (.tmp 11) (.tmp 44) rfl q11 0 l3.toArray rfl rfl HT.out hinf3 HO3.out ?_;change wpList _ _ _ _ _ (w9.setCells q11 0 l3);generalize w9.setCells q11 0 l3=w10 at HI10 HK10 HA10 HB10 HN10 HZ10 ⊢;dsimp only[Act.put]) |(refine wpList_load_mid rfl 41 (.tmp 8) rfl q8 0 rfl l2 _ (by simpa using HB10.out.li.range) Tryz.underlying41 rfl (by rw[HL2.out];exact aE) ?_) |(refine wpList_load_mid rfl 41 (.tmp 11) rfl q11 0 rfl l3 _ (by simpa using HN10.out.range) Tryz.underlying41 rfl (by rw[HL3.out];exact aE) ?_) |(refine uV rfl (.tmp 48) (.tmp 49) rfl l2 l3 rfl rfl HL2.out HL3.out w9.heap.size HZ10.out (some 50) rfl ?_))
     have hb11:Below w10.heap.size w10 (w10.alloc (.cells (l2++l3).toArray 41)):=(Below.refl _ _).alloc (Nat.le_refl _) _;have HI11:=zh (HI10.out.next hb11);have HK11:=zh (HK10.out.trans (Kp.of_below hb11));have HA11:=zh (HA10.out.next hb11);have HB11:=zh (HB10.out.next hb11);clear hb11;refine(CN.out _ HI11.out).mono ?_;rintro e w12 ⟨rfl,h1,h2⟩;have HI12:=zh h1;have HK12:=zh (HK11.out.trans h2.X);have HA12:=zh (HA11.out.kp h2.X);have HB12:=zh (HB11.out.kp h2.X);have hk8:Kp [q8] w12 (w12.setCells q8 0 C):=aU (.inl (.head _)) C 0 (Kp.refl _ _)
     have HLB:Hid (LevB E w k nd q q8 T (w12.setCells q8 0 C)):=zh ⟨k4,op4,nd4+1,e4,p4,C,HT4.out,HI12.out.own hE HB12.out (by decide) (by decide) hk8,HK12.out.own HB12.out hk8,⟨HA12.out.fr,HA12.out.ge,hk8.lies HA12.out.li (fun hm=>hne (List.mem_singleton.1 hm))⟩,⟨HB12.out.fr,HB12.out.ge,HB12.out.li.putAll (by rw[yC.out];exact HL2.out.symm)⟩,yC.out,HC1.out,HKf.out.1,HKf.out.2.1,HKf.out.2.2⟩;have HT:Hid (w12.there q8 0 C.toArray.size):=zh (by have h:=HB12.out.li.thereA;rw[show C.toArray.size=22 from yC.out];rw[show l2.toArray.size=22 from HL2.out]at h;exact h);have hinf2:(Tryz.prog.info? 41).map (·.size)=some C.toArray.size:=by rw[show C.toArray.size=22 from yC.out];exact aE
     clear h1 h2 hk8 CN HI11 HI10 HI12 HK12 HA12 HK11 HA11 HB11 hinf3
     go_wp2_with (first |(refine wpList_store_mid rfl 41 (.tmp 8) (.tmp 52) rfl q8 0 C.toArray rfl rfl HT.out hinf2 HC1.out ?_;change wpList _ _ _ _ _ (w12.setCells q8 0 C);generalize w12.setCells q8 0 C=w13 at HLB ⊢;dsimp only[Act.put]))
     go_roundw
     case rel=>exact .inr ⟨rfl,HLB⟩
     case measure=>
      show onM (.bool false) _<onM (.bool true) _;unfold onM;simp only;omega
   ·have hs0:eG sg (E.at k2)=false:=by simpa using hs
    have HG:Hid (T=.ok t2 (E.L.drop k2) c2):=zh (by
     obtain⟨fu,hfu,hgo⟩:=HS2.out.go;rw[← hgo];cases fu with
     | zero=>have:=HS2.out.lt;omega
     | succ fu=>
      unfold fT;rw[show eG sg (hd (E.L.drop k2))=false from hs0];rfl)
    have hno:=isLev_no hs0;clear hs hs0;have CT2:=zh (fun W h=>CT.out k2 c2 W h HS2.out.lt);have HSG2:=zh (fun W h=>HSG.out k2 c2 W h);clear CT HSG;generalize E.at k2=tt at *;obtain⟨tk,tx,tp⟩:=tt;dsimp only[tkV]at CT2 hno ⊢;have hf0:=lU;have hf1:=mX;rcases hno with h5 | ⟨h5,hnc⟩
    ·have n5:((tk:Int)==5)=false:=by simp;omega
     clear h5
     go_wp2_with fail
     refine(CT2.out _ HS2.out.ine).mono ?_;rintro e w6 ⟨rfl,hb⟩;have HS6:=zh (HS2.out.next hb);clear hb CT2 HS2 HSG2;have HT:Hid (w6.there q 0 l2.toArray.size):=zh (by have h:=HS6.out.own.li.thereA;rw[show l2.toArray.size=22 from HS6.out.nv.1];exact h);have HLd:Hid (w6.rangeAt q8 0 l2):=zh (by simpa using HS6.out.own8.li.range);have zi:(Tryz.prog.info? 41).map (·.size)=some l2.length:=by rw[HS6.out.len];exact aE
     have HO1:=zh HS6.out.nv.2.1
     go_wp2_with (first |(refine wpList_load_mid rfl 41 (.tmp 8) rfl q8 0 rfl l2 _ HLd.out Tryz.underlying41 rfl zi ?_) |(refine wpList_store_mid rfl 41 (.tmp 6) (.tmp 53) rfl q 0 l2.toArray rfl rfl HT.out zi HO1.out ?_;change wpList _ _ _ _ _ (w6.setCells q 0 l2);generalize hw7:w6.setCells q 0 l2=w7))
     have hkq:Kp [q] w6 w7:=by rw[← hw7];exact aU (.inl (.head _)) l2 0 (Kp.refl _ _)
     have HA7:Hid (Lies w7 q 41 l2.toArray):=zh (by rw[← hw7];exact HS6.out.own.li.putAll HS6.out.len);refine bodyPost_ret (aK rfl rfl HA7.out HS6.out.nv.1) rfl ?_;rw[HG.out];have hsub:∀ y∈[q],y∈q8::List.range m:=fun y hy=>by rw[List.mem_singleton.1 hy];exact HS6.out.qin
     exact⟨k2,l2.toArray,rfl,HS6.out.le,HS6.out.lt,rfl,HS6.out.nc,HS6.out.nn,HS6.out.ine.own hE HS6.out.own (by decide) (by decide) hkq,HS6.out.kp.own HS6.out.own hkq,(HS6.out.nv.kpX hkq hsub).anti (fun y hy _=>List.mem_cons_of_mem _ (List.mem_range.2 (Nat.lt_trans (List.mem_range.1 hy) HS6.out.wm)))⟩
    ·subst h5
     go_wp2_with fail
     refine(CT2.out _ HS2.out.ine).mono ?_;rintro e w5 ⟨rfl,hb⟩;have HS5:=zh (HS2.out.next hb);clear hb HS2
     go_wp2_with fail
     refine(CT2.out _ HS5.out.ine).mono ?_;rintro e w6 ⟨rfl,hb⟩;have HS6:=zh (HS5.out.next hb);clear hb CT2 HS5;obtain⟨cm,hcm⟩:=HSG2.out _ HS6.out.ine;have hlk:=pB sg mb cm w6 hcm tx;rw[hnc]at hlk;clear HSG2 hcm hnc;have HT:Hid (w6.there q 0 l2.toArray.size):=zh (by have h:=HS6.out.own.li.thereA;rw[show l2.toArray.size=22 from HS6.out.nv.1];exact h);have HLd:Hid (w6.rangeAt q8 0 l2):=zh (by simpa using HS6.out.own8.li.range);have zi:(Tryz.prog.info? 41).map (·.size)=some l2.length:=by rw[HS6.out.len];exact aE
     have HO1:=zh HS6.out.nv.2.1
     go_wp2_with (first |(refine wpList_load_mid rfl 41 (.tmp 8) rfl q8 0 rfl l2 _ HLd.out Tryz.underlying41 rfl zi ?_) |(refine wpList_store_mid rfl 41 (.tmp 6) (.tmp 53) rfl q 0 l2.toArray rfl rfl HT.out zi HO1.out ?_;change wpList _ _ _ _ _ (w6.setCells q 0 l2);generalize hw7:w6.setCells q 0 l2=w7))
     have hkq:Kp [q] w6 w7:=by rw[← hw7];exact aU (.inl (.head _)) l2 0 (Kp.refl _ _)
     have HA7:Hid (Lies w7 q 41 l2.toArray):=zh (by rw[← hw7];exact HS6.out.own.li.putAll HS6.out.len);refine bodyPost_ret (aK rfl rfl HA7.out HS6.out.nv.1) rfl ?_;rw[HG.out];have hsub:∀ y∈[q],y∈q8::List.range m:=fun y hy=>by rw[List.mem_singleton.1 hy];exact HS6.out.qin
     exact⟨k2,l2.toArray,rfl,HS6.out.le,HS6.out.lt,rfl,HS6.out.nc,HS6.out.nn,HS6.out.ine.own hE HS6.out.own (by decide) (by decide) hkq,HS6.out.kp.own HS6.out.own hkq,(HS6.out.nv.kpX hkq hsub).anti (fun y hy _=>List.mem_cons_of_mem _ (List.mem_range.2 (Nat.lt_trans (List.mem_range.1 hy) HS6.out.wm)))⟩
  ·obtain⟨k4,op4,nd4,e4,p4,l,hT,h1,h2,h3,h4,h5,h6,h7,h8,h9⟩:=hrel.out.ex;have HI3:=zh h1;have HK3:=zh h2;have HA3:=zh h3;have HL22:=zh h5;have yo:=zh h6;have HKb:=zh (⟨h7,h8,h9⟩:k≤k4∧k4<E.L.length∧nd4+k≤nd+k4);have HTb:=zh hT;have HT:Hid (wr.there q 0 l.toArray.size):=zh (by have h:=h3.li.thereA;rw[show l.toArray.size=22 from h5];exact h);have HLd:Hid (wr.rangeAt q8 0 l):=zh (by simpa using h4.li.range);clear h1 h2 h3 h4 h5 h6 h7 h8 h9 hT hrel HS CT;have zi:(Tryz.prog.info? 41).map (·.size)=some l.length:=by rw[HL22.out];exact aE
   go_wp2_with (first |(refine wpList_load_mid rfl 41 (.tmp 8) rfl q8 0 rfl l _ HLd.out Tryz.underlying41 rfl zi ?_) |(refine wpList_store_mid rfl 41 (.tmp 6) (.tmp 53) rfl q 0 l.toArray rfl rfl HT.out zi yo.out ?_;change wpList _ _ _ _ _ (wr.setCells q 0 l);generalize hw7:wr.setCells q 0 l=w7))
   have hkq:Kp [q] wr w7:=by rw[← hw7];exact aU (.inl (.head _)) l 0 (Kp.refl _ _)
   have HA7:Hid (Lies w7 q 41 l.toArray):=zh (by rw[← hw7];exact HA3.out.li.putAll HL22.out);refine bodyPost_ret (aK rfl rfl HA7.out HL22.out) rfl ?_;rw[HTb.out];exact⟨l.toArray,k4,op4,nd4,rfl,HL22.out,yo.out,HKb.out.1,HKb.out.2.1,HKb.out.2.2,HI3.out.own hE HA3.out (by decide) (by decide) hkq,HK3.out.own HA3.out hkq⟩
set_option maxRecDepth 100000 in
set_option maxHeartbeats 3200000 in
theorem uHJ(E:Env)(hE:E.ok)(f:Nat)(hf:∀ args W,(callFunc f args).run Tryz.prog W=.ok (.enter f args) W)(next:List Tok→Nat→Out)(op:Nat)(hp:dU E f next op)(sg:List Bs)(mb:Nat)(k nd pl er:Nat)(w:World)(hI:InE E k op nd pl er w)(hk:k<E.L.length)(hn:nd≤k)(e0 p0:Nat)(ho:next (E.L.drop k) nd=.bad e0 p0) :
  Calls Tryz.prog 35 #[.pointer (some ⟨E.r,0,none⟩),.func (.func f) #[.pointer (some ⟨E.r,0,none⟩)] #[],.map (some mb)] w (NPost E w k op nd pl er (bH next sg (E.L.drop k) nd)):=by
 have hT:bH next sg (E.L.drop k) nd=.bad e0 p0:=by unfold bH;rw[ho]
 rw[hT];have HI0:=zh (hI.next ((Below.refl _ _).alloc (Nat.le_refl _) (.cells aB.toArray 41)));have CP:=zh (hp k nd pl er _ HI0.out hk hn);rw[ho]at CP;have HK0:Hid (Kp E.X w (w.alloc (.cells aB.toArray 41))):=zh ((Kp.refl _ _).alloc _);have HA0:=zh (Own1.new hI (Kp.refl E.X w) 41 aB.toArray);have HF:=zh hI;clear hI ho hT hp;simp only[aB]at HI0 HK0 HA0 CP
 go_enter Tryz.func35,Tryz.ntmps35
 go_upto_region 1 with fail
 generalize w.alloc (.cells #[.int .i64 0,.int .i64 0,.int .i64 0,.int .i64 0,.string ⟨#[]⟩,.bool false,.int .i64 0,.string ⟨#[]⟩,.int .i64 0,.int .i64 0,.int .i64 0,.int .i64 0,.bool false,.bool false,.int .i64 0,.int .i64 0,.int .i64 0,.int .i64 0,.bool false,.bool false,.int .i64 0,.slice none 0 0] 41)=W1 at HI0 HK0 HA0 CP ⊢;generalize hqe:w.heap.size=q at HA0 ⊢;clear hqe
 go_wp2_with fail
 refine CP.out.mono ?_;rintro e w2 ⟨cs,k1,op1,nd1,rfl,h1,h2,h3,h4,h5,h6,h7⟩;obtain⟨l,rfl⟩:∃ l:List Value,cs=l.toArray:=⟨cs.toList,by simp⟩
 have HL22:Hid (l.length=22):=zh (by rwa [List.size_toArray]at h1);have yo:=zh h2;have HA2:=zh (HA0.out.kp h7);have HK2:=zh (HK0.out.trans h7);have HI2:=zh h6;have HKc:=zh (⟨h3,h4,h5⟩:k≤k1∧k1<E.L.length∧nd1+k≤nd+k1);clear h1 h2 h3 h4 h5 h6 h7 HI0 HK0 HA0 CP;have HB3:Hid (Below w2.heap.size w2 (w2.alloc (.cells #[.int .i64 0,.int .i64 0,.int .i64 0,.int .i64 0,.string ⟨#[]⟩,.bool false,.int .i64 0,.string ⟨#[]⟩,.int .i64 0,.int .i64 0,.int .i64 0,.int .i64 0,.bool false,.bool false,.int .i64 0,.int .i64 0,.int .i64 0,.int .i64 0,.bool false,.bool false,.int .i64 0,.slice none 0 0] 41))):=zh ((Below.refl _ _).alloc (Nat.le_refl _) _)
 have HO3:Hid (Own1 E w (w2.alloc (.cells #[.int .i64 0,.int .i64 0,.int .i64 0,.int .i64 0,.string ⟨#[]⟩,.bool false,.int .i64 0,.string ⟨#[]⟩,.int .i64 0,.int .i64 0,.int .i64 0,.int .i64 0,.bool false,.bool false,.int .i64 0,.int .i64 0,.int .i64 0,.int .i64 0,.bool false,.bool false,.int .i64 0,.slice none 0 0] 41)) w2.heap.size 41 #[.int .i64 0,.int .i64 0,.int .i64 0,.int .i64 0,.string ⟨#[]⟩,.bool false,.int .i64 0,.string ⟨#[]⟩,.int .i64 0,.int .i64 0,.int .i64 0,.int .i64 0,.bool false,.bool false,.int .i64 0,.int .i64 0,.int .i64 0,.int .i64 0,.bool false,.bool false,.int .i64 0,.slice none 0 0]):=zh (Own1.new HF.out HK2.out 41 #[.int .i64 0,.int .i64 0,.int .i64 0,.int .i64 0,.string ⟨#[]⟩,.bool false,.int .i64 0,.string ⟨#[]⟩,.int .i64 0,.int .i64 0,.int .i64 0,.int .i64 0,.bool false,.bool false,.int .i64 0,.int .i64 0,.int .i64 0,.int .i64 0,.bool false,.bool false,.int .i64 0,.slice none 0 0])
 have hne:q≠w2.heap.size:=by have:=HA2.out.li.lt;omega
 have HC:Hid (∀ W3,W3=(w2.alloc (.cells #[.int .i64 0,.int .i64 0,.int .i64 0,.int .i64 0,.string ⟨#[]⟩,.bool false,.int .i64 0,.string ⟨#[]⟩,.int .i64 0,.int .i64 0,.int .i64 0,.int .i64 0,.bool false,.bool false,.int .i64 0,.int .i64 0,.int .i64 0,.int .i64 0,.bool false,.bool false,.int .i64 0,.slice none 0 0] 41)).setCells w2.heap.size 0 l→InE E k1 op1 nd1 p0 e0 W3∧Kp E.X w W3∧Own1 E w W3 q 41 aB.toArray∧Own1 E w W3 w2.heap.size 41 l.toArray):=zh (fun W3 e=>by
  subst e;have hb:Below w2.heap.size w2 ((w2.alloc (.cells #[.int .i64 0,.int .i64 0,.int .i64 0,.int .i64 0,.string ⟨#[]⟩,.bool false,.int .i64 0,.string ⟨#[]⟩,.int .i64 0,.int .i64 0,.int .i64 0,.int .i64 0,.bool false,.bool false,.int .i64 0,.int .i64 0,.int .i64 0,.int .i64 0,.bool false,.bool false,.int .i64 0,.slice none 0 0] 41)).setCells w2.heap.size 0 l):=fE (Nat.le_refl _) l 0 HB3.out;exact⟨HI2.out.next hb,HK2.out.trans (Kp.of_below hb),HA2.out.next hb,⟨HO3.out.fr,HO3.out.ge,HO3.out.li.putAll HL22.out⟩⟩)
 have HT:Hid ((w2.alloc (.cells #[.int .i64 0,.int .i64 0,.int .i64 0,.int .i64 0,.string ⟨#[]⟩,.bool false,.int .i64 0,.string ⟨#[]⟩,.int .i64 0,.int .i64 0,.int .i64 0,.int .i64 0,.bool false,.bool false,.int .i64 0,.int .i64 0,.int .i64 0,.int .i64 0,.bool false,.bool false,.int .i64 0,.slice none 0 0] 41)).there w2.heap.size 0 l.toArray.size):=zh (by have h:=HO3.out.li.thereA;rw[show l.toArray.size=22 from HL22.out];exact h);have zi:(Tryz.prog.info? 41).map (·.size)=some l.toArray.size:=by rw[List.size_toArray,HL22.out];exact aE
 go_wp2_with (first |(refine wpList_store_mid rfl 41 (.tmp 8) (.tmp 15) rfl w2.heap.size 0 l.toArray rfl rfl HT.out zi yo.out ?_;change wpList _ _ _ _ _ ((w2.alloc (.cells #[.int .i64 0,.int .i64 0,.int .i64 0,.int .i64 0,.string ⟨#[]⟩,.bool false,.int .i64 0,.string ⟨#[]⟩,.int .i64 0,.int .i64 0,.int .i64 0,.int .i64 0,.bool false,.bool false,.int .i64 0,.int .i64 0,.int .i64 0,.int .i64 0,.bool false,.bool false,.int .i64 0,.slice none 0 0] 41)).setCells w2.heap.size 0 l);generalize hW3:(w2.alloc (.cells #[.int .i64 0,.int .i64 0,.int .i64 0,.int .i64 0,.string ⟨#[]⟩,.bool false,.int .i64 0,.string ⟨#[]⟩,.int .i64 0,.int .i64 0,.int .i64 0,.int .i64 0,.bool false,.bool false,.int .i64 0,.int .i64 0,.int .i64 0,.int .i64 0,.bool false,.bool false,.int .i64 0,.slice none 0 0] 41)).setCells w2.heap.size 0 l=W3))
 obtain⟨g1,g2,g3,g4⟩:=HC.out W3 hW3.symm;have HI3:=zh g1;have HK3:=zh g2;have HA3:=zh g3;have HB3':=zh g4;clear g1 g2 g3 g4 HC HT zi HB3 HO3 HA2 HK2 HI2 hW3;generalize w2.heap.size=q4 at *
 go_loopw [9] (fun v wr=>v=.bool false∧Hid (wr=W3)) (fun _ _=>0)
 case atStart=>exact⟨rfl,zh rfl⟩
 case round=>
  obtain⟨rfl,hrel⟩:=hrel;have hwr:=hrel.out;subst hwr;have HT:Hid (wr.there q 0 l.toArray.size):=zh (by have h:=HA3.out.li.thereA;rw[show l.toArray.size=22 from HL22.out];exact h);have HLd:Hid (wr.rangeAt q4 0 l):=zh (by simpa using HB3'.out.li.range);have zi:(Tryz.prog.info? 41).map (·.size)=some l.length:=by rw[HL22.out];exact aE
  go_wp2_with (first |(refine wpList_load_mid rfl 41 (.tmp 8) rfl q4 0 rfl l _ HLd.out Tryz.underlying41 rfl zi ?_) |(refine wpList_store_mid rfl 41 (.tmp 6) (.tmp 53) rfl q 0 l.toArray rfl rfl HT.out zi yo.out ?_;change wpList _ _ _ _ _ (wr.setCells q 0 l);generalize hw7:wr.setCells q 0 l=w7))
  have hkq:Kp [q] wr w7:=by rw[← hw7];exact aU (.inl (.head _)) l 0 (Kp.refl _ _)
  have HA7:Hid (Lies w7 q 41 l.toArray):=zh (by rw[← hw7];exact HA3.out.li.putAll HL22.out);refine bodyPost_ret (aK rfl rfl HA7.out HL22.out) rfl ?_;exact⟨l.toArray,k1,op1,nd1,rfl,HL22.out,yo.out,HKc.out.1,HKc.out.2.1,HKc.out.2.2,HI3.out.own hE HA3.out (by decide) (by decide) hkq,HK3.out.own HA3.out hkq⟩
theorem kO(E:Env)(hE:E.ok)(he:E.ends)(hL:E.L.length≤1000000)(f:Nat)(hf:∀ args W,(callFunc f args).run Tryz.prog W=.ok (.enter f args) W)(next:List Tok→Nat→Out)(op:Nat)(hp:dU E f next op)(ix:Nat)(hix:ix<eJ.length)(k nd pl er:Nat)(w:World)(hI:InE E k op nd pl er w)(hk:k<E.L.length)(hn:nd≤k) :
  Calls Tryz.prog 35 #[.pointer (some ⟨E.r,0,none⟩),.func (.func f) #[.pointer (some ⟨E.r,0,none⟩)] #[],.map (some (E.sg+1+ix))] w (NPost E w k op nd pl er (bH next eJ[ix] (E.L.drop k) nd)):=by
 cases ho:next (E.L.drop k) nd with
 | ok t ts c=>exact level_ok E hE he hL f hf next op hp ix hix k nd pl er w hI hk hn t ts c ho
 | bad e p=>exact uHJ E hE f hf next op hp _ _ k nd pl er w hI hk hn e p ho
theorem iA(q j b:Nat)(W:World)(hb:W.heap[q]?=some (.map (wU q) 6))(hf:Instr.findNow (.int .i64) (.int .i64 (j:Int)) (wU q).toList 0=some (some (j,.map (some b)))) :
  (Instr.lookup 63 (.map (some q)) (.int .i64 (j:Int)) false).run Tryz.prog W=.ok (.map (some b)) W:=by
 have hc:(Instr.checkKey (wU q).isEmpty 10000 3 (.int .i64 (j:Int))).run Tryz.prog W=.ok () W:=MapKept.run_checkKey (k:=.int .i64 (j:Int)) uInt rfl _ 9999;simp[Instr.lookup,run_underlying uSgO,MapKept.run_getObj_map hb,hc,MapKept.run_findKey uInt hf,Result.andThen]
set_option maxRecDepth 100000 in
set_option maxHeartbeats 3200000 in
theorem power_any(E:Env)(hE:E.ok)(he:E.ends)(hL:E.L.length≤1000000)(next:List Tok→Nat→Out)(op:Nat)(hp:dU E 107 next op):dU E 94 (bH next nR) op:=by
 intro k nd pl er w hI hk hn;have HI0:=zh (hI.next ((Below.refl _ _).alloc (Nat.le_refl _) (.cells aB.toArray 41)));have CP:=zh (kO E hE he hL 107 (enters_of Tryz.func107 (by kernel_rfl) rfl) next op hp 4 (by decide) k nd pl er _ HI0.out hk hn);have hsg:eJ[4]=nR:=rfl;rw[hsg]at CP;have HK0:Hid (Kp E.X w (w.alloc (.cells aB.toArray 41))):=zh ((Kp.refl _ _).alloc _);have HA0:=zh (Own1.new hI (Kp.refl E.X w) 41 aB.toArray);have HSZ:Hid (w.heap.size<(w.alloc (.cells aB.toArray 41)).heap.size):=zh (by simp);clear hI hp hsg;simp only[aB]at HI0 HK0 HA0 CP HSZ;generalize hO:bH next nR (E.L.drop k) nd=O at *;clear hO
 go_enter Tryz.func94,Tryz.ntmps94
 go_upto_region 1 with fail
 generalize w.alloc (.cells #[.int .i64 0,.int .i64 0,.int .i64 0,.int .i64 0,.string ⟨#[]⟩,.bool false,.int .i64 0,.string ⟨#[]⟩,.int .i64 0,.int .i64 0,.int .i64 0,.int .i64 0,.bool false,.bool false,.int .i64 0,.int .i64 0,.int .i64 0,.int .i64 0,.bool false,.bool false,.int .i64 0,.slice none 0 0] 41)=W1 at HI0 HK0 HA0 CP HSZ ⊢;generalize hqe:w.heap.size=q at HA0 ⊢;have HQE:=zh hqe;clear hqe;have r6:=HI0.out.rd.cell 6;simp only[List.getElem?_toArray,List.getElem?_cons_zero,List.getElem?_cons_succ]at r6;have hlk:(Instr.lookup 63 (.map (some E.sg)) (.int .i64 4) false).run Tryz.prog W1=.ok (.map (some (E.sg+1+4))) W1:=iA E.sg 4 (E.sg+1+4) W1 HI0.out.sg.out rfl
 go_wp2_with fail
 refine CP.out.mono ?_;cases O with
 | ok t ts c=>
  rintro e w2 ⟨k1,cs,rfl,h1,h2,h3,h4,h5,h6,h7,h8⟩;obtain⟨l,rfl⟩:∃ l:List Value,cs=l.toArray:=⟨cs.toList,by simp⟩
  have HL22:Hid (l.length=22):=zh (by have:=h8.1;rwa [List.size_toArray]at this);have yo:=zh h8.2.1;have HI2:=zh h6;have hk7:=h7;have HX:=zh (⟨h1,h2,h3,h4,h5,h8⟩:k≤k1∧k1<E.L.length∧ts=E.L.drop k1∧c+k≤nd+k1∧nd≤c∧NV w2 (List.range W1.heap.size) c t l.toArray);clear h1 h2 h3 h4 h5 h6 h7 h8;have HA2:=zh (HA0.out.kp hk7);have HK2:=zh (HK0.out.trans hk7);have HT:Hid (w2.there q 0 l.toArray.size):=zh (by have h:=HA2.out.li.thereA;rw[show l.toArray.size=22 from HL22.out];exact h);have zi:(Tryz.prog.info? 41).map (·.size)=some l.toArray.size:=by rw[show l.toArray.size=22 from HL22.out];exact aE
  clear HI0 HA0 HK0 CP hk7 hlk r6
  go_wp2_with (first |(refine wpList_store_mid rfl 41 (.tmp 2) (.tmp 13) rfl q 0 l.toArray rfl rfl HT.out zi yo.out ?_;change wpList _ _ _ _ _ (w2.setCells q 0 l);generalize hw7:w2.setCells q 0 l=w7))
  have hkq:Kp [q] w2 w7:=by rw[← hw7];exact aU (.inl (.head _)) l 0 (Kp.refl _ _)
  have HA7:Hid (Lies w7 q 41 l.toArray):=zh (by rw[← hw7];exact HA2.out.li.putAll HL22.out);refine bodyPost_ret (aK rfl rfl HA7.out HL22.out) rfl ?_;exact⟨k1,l.toArray,rfl,HX.out.1,HX.out.2.1,HX.out.2.2.1,HX.out.2.2.2.1,HX.out.2.2.2.2.1,HI2.out.own hE HA2.out (by decide) (by decide) hkq,HK2.out.own HA2.out hkq,(HX.out.2.2.2.2.2.kpX hkq (fun y hy=>by rw[List.mem_singleton.1 hy];exact List.mem_range.2 (by have:=HSZ.out;have:=HQE.out;omega))).anti (fun y hy _=>List.mem_range.2 (Nat.lt_trans (List.mem_range.1 hy) HSZ.out))⟩
 | bad e0 p0=>
  rintro e w2 ⟨cs,k1,op1,nd1,rfl,h1,h2,h3,h4,h5,h6,h7⟩;obtain⟨l,rfl⟩:∃ l:List Value,cs=l.toArray:=⟨cs.toList,by simp⟩
  have HL22:Hid (l.length=22):=zh (by rwa [List.size_toArray]at h1);have yo:=zh h2;have HI2:=zh h6;have hk7:=h7;have HX:=zh (⟨h3,h4,h5⟩:k≤k1∧k1<E.L.length∧nd1+k≤nd+k1);clear h1 h2 h3 h4 h5 h6 h7;have HA2:=zh (HA0.out.kp hk7);have HK2:=zh (HK0.out.trans hk7);have HT:Hid (w2.there q 0 l.toArray.size):=zh (by have h:=HA2.out.li.thereA;rw[show l.toArray.size=22 from HL22.out];exact h);have zi:(Tryz.prog.info? 41).map (·.size)=some l.toArray.size:=by rw[show l.toArray.size=22 from HL22.out];exact aE
  clear HI0 HA0 HK0 CP hk7 hlk r6
  go_wp2_with (first |(refine wpList_store_mid rfl 41 (.tmp 2) (.tmp 13) rfl q 0 l.toArray rfl rfl HT.out zi yo.out ?_;change wpList _ _ _ _ _ (w2.setCells q 0 l);generalize hw7:w2.setCells q 0 l=w7))
  have hkq:Kp [q] w2 w7:=by rw[← hw7];exact aU (.inl (.head _)) l 0 (Kp.refl _ _)
  have HA7:Hid (Lies w7 q 41 l.toArray):=zh (by rw[← hw7];exact HA2.out.li.putAll HL22.out);refine bodyPost_ret (aK rfl rfl HA7.out HL22.out) rfl ?_;exact⟨l.toArray,k1,op1,nd1,rfl,HL22.out,yo.out,HX.out.1,HX.out.2.1,HX.out.2.2,HI2.out.own hE HA2.out (by decide) (by decide) hkq,HK2.out.own HA2.out hkq⟩
set_option maxRecDepth 100000 in
set_option maxHeartbeats 3200000 in
theorem uAY(E:Env)(hE:E.ok)(he:E.ends)(hL:E.L.length≤1000000)(next:List Tok→Nat→Out)(op:Nat)(hp:dU E 94 next op):dU E 76 (bH next pP) op:=by
 intro k nd pl er w hI hk hn;have HI0:=zh (hI.next ((Below.refl _ _).alloc (Nat.le_refl _) (.cells aB.toArray 41)));have CP:=zh (kO E hE he hL 94 (enters_of Tryz.func94 (by kernel_rfl) rfl) next op hp 3 (by decide) k nd pl er _ HI0.out hk hn);have hsg:eJ[3]=pP:=rfl;rw[hsg]at CP;have HK0:Hid (Kp E.X w (w.alloc (.cells aB.toArray 41))):=zh ((Kp.refl _ _).alloc _);have HA0:=zh (Own1.new hI (Kp.refl E.X w) 41 aB.toArray);have HSZ:Hid (w.heap.size<(w.alloc (.cells aB.toArray 41)).heap.size):=zh (by simp);clear hI hp hsg;simp only[aB]at HI0 HK0 HA0 CP HSZ;generalize hO:bH next pP (E.L.drop k) nd=O at *;clear hO
 go_enter Tryz.func76,Tryz.ntmps76
 go_upto_region 1 with fail
 generalize w.alloc (.cells #[.int .i64 0,.int .i64 0,.int .i64 0,.int .i64 0,.string ⟨#[]⟩,.bool false,.int .i64 0,.string ⟨#[]⟩,.int .i64 0,.int .i64 0,.int .i64 0,.int .i64 0,.bool false,.bool false,.int .i64 0,.int .i64 0,.int .i64 0,.int .i64 0,.bool false,.bool false,.int .i64 0,.slice none 0 0] 41)=W1 at HI0 HK0 HA0 CP HSZ ⊢;generalize hqe:w.heap.size=q at HA0 ⊢;have HQE:=zh hqe;clear hqe;have r6:=HI0.out.rd.cell 6;simp only[List.getElem?_toArray,List.getElem?_cons_zero,List.getElem?_cons_succ]at r6;have hlk:(Instr.lookup 63 (.map (some E.sg)) (.int .i64 3) false).run Tryz.prog W1=.ok (.map (some (E.sg+1+3))) W1:=iA E.sg 3 (E.sg+1+3) W1 HI0.out.sg.out rfl
 go_wp2_with fail
 refine CP.out.mono ?_;cases O with
 | ok t ts c=>
  rintro e w2 ⟨k1,cs,rfl,h1,h2,h3,h4,h5,h6,h7,h8⟩;obtain⟨l,rfl⟩:∃ l:List Value,cs=l.toArray:=⟨cs.toList,by simp⟩
  have HL22:Hid (l.length=22):=zh (by have:=h8.1;rwa [List.size_toArray]at this);have yo:=zh h8.2.1;have HI2:=zh h6;have hk7:=h7;have HX:=zh (⟨h1,h2,h3,h4,h5,h8⟩:k≤k1∧k1<E.L.length∧ts=E.L.drop k1∧c+k≤nd+k1∧nd≤c∧NV w2 (List.range W1.heap.size) c t l.toArray);clear h1 h2 h3 h4 h5 h6 h7 h8;have HA2:=zh (HA0.out.kp hk7);have HK2:=zh (HK0.out.trans hk7);have HT:Hid (w2.there q 0 l.toArray.size):=zh (by have h:=HA2.out.li.thereA;rw[show l.toArray.size=22 from HL22.out];exact h);have zi:(Tryz.prog.info? 41).map (·.size)=some l.toArray.size:=by rw[show l.toArray.size=22 from HL22.out];exact aE
  clear HI0 HA0 HK0 CP hk7 hlk r6
  go_wp2_with (first |(refine wpList_store_mid rfl 41 (.tmp 2) (.tmp 13) rfl q 0 l.toArray rfl rfl HT.out zi yo.out ?_;change wpList _ _ _ _ _ (w2.setCells q 0 l);generalize hw7:w2.setCells q 0 l=w7))
  have hkq:Kp [q] w2 w7:=by rw[← hw7];exact aU (.inl (.head _)) l 0 (Kp.refl _ _)
  have HA7:Hid (Lies w7 q 41 l.toArray):=zh (by rw[← hw7];exact HA2.out.li.putAll HL22.out);refine bodyPost_ret (aK rfl rfl HA7.out HL22.out) rfl ?_;exact⟨k1,l.toArray,rfl,HX.out.1,HX.out.2.1,HX.out.2.2.1,HX.out.2.2.2.1,HX.out.2.2.2.2.1,HI2.out.own hE HA2.out (by decide) (by decide) hkq,HK2.out.own HA2.out hkq,(HX.out.2.2.2.2.2.kpX hkq (fun y hy=>by rw[List.mem_singleton.1 hy];exact List.mem_range.2 (by have:=HSZ.out;have:=HQE.out;omega))).anti (fun y hy _=>List.mem_range.2 (Nat.lt_trans (List.mem_range.1 hy) HSZ.out))⟩
 | bad e0 p0=>
  rintro e w2 ⟨cs,k1,op1,nd1,rfl,h1,h2,h3,h4,h5,h6,h7⟩;obtain⟨l,rfl⟩:∃ l:List Value,cs=l.toArray:=⟨cs.toList,by simp⟩
  have HL22:Hid (l.length=22):=zh (by rwa [List.size_toArray]at h1);have yo:=zh h2;have HI2:=zh h6;have hk7:=h7;have HX:=zh (⟨h3,h4,h5⟩:k≤k1∧k1<E.L.length∧nd1+k≤nd+k1);clear h1 h2 h3 h4 h5 h6 h7;have HA2:=zh (HA0.out.kp hk7);have HK2:=zh (HK0.out.trans hk7);have HT:Hid (w2.there q 0 l.toArray.size):=zh (by have h:=HA2.out.li.thereA;rw[show l.toArray.size=22 from HL22.out];exact h);have zi:(Tryz.prog.info? 41).map (·.size)=some l.toArray.size:=by rw[show l.toArray.size=22 from HL22.out];exact aE
  clear HI0 HA0 HK0 CP hk7 hlk r6
  go_wp2_with (first |(refine wpList_store_mid rfl 41 (.tmp 2) (.tmp 13) rfl q 0 l.toArray rfl rfl HT.out zi yo.out ?_;change wpList _ _ _ _ _ (w2.setCells q 0 l);generalize hw7:w2.setCells q 0 l=w7))
  have hkq:Kp [q] w2 w7:=by rw[← hw7];exact aU (.inl (.head _)) l 0 (Kp.refl _ _)
  have HA7:Hid (Lies w7 q 41 l.toArray):=zh (by rw[← hw7];exact HA2.out.li.putAll HL22.out);refine bodyPost_ret (aK rfl rfl HA7.out HL22.out) rfl ?_;exact⟨l.toArray,k1,op1,nd1,rfl,HL22.out,yo.out,HX.out.1,HX.out.2.1,HX.out.2.2,HI2.out.own hE HA2.out (by decide) (by decide) hkq,HK2.out.own HA2.out hkq⟩
set_option maxRecDepth 100000 in
set_option maxHeartbeats 3200000 in
theorem sum_any(E:Env)(hE:E.ok)(he:E.ends)(hL:E.L.length≤1000000)(next:List Tok→Nat→Out)(op:Nat)(hp:dU E 76 next op):dU E 49 (bH next fX) op:=by
 intro k nd pl er w hI hk hn;have HI0:=zh (hI.next ((Below.refl _ _).alloc (Nat.le_refl _) (.cells aB.toArray 41)));have CP:=zh (kO E hE he hL 76 (enters_of Tryz.func76 (by kernel_rfl) rfl) next op hp 2 (by decide) k nd pl er _ HI0.out hk hn);have hsg:eJ[2]=fX:=rfl;rw[hsg]at CP;have HK0:Hid (Kp E.X w (w.alloc (.cells aB.toArray 41))):=zh ((Kp.refl _ _).alloc _);have HA0:=zh (Own1.new hI (Kp.refl E.X w) 41 aB.toArray);have HSZ:Hid (w.heap.size<(w.alloc (.cells aB.toArray 41)).heap.size):=zh (by simp);clear hI hp hsg;simp only[aB]at HI0 HK0 HA0 CP HSZ;generalize hO:bH next fX (E.L.drop k) nd=O at *;clear hO
 go_enter Tryz.func49,Tryz.ntmps49
 go_upto_region 1 with fail
 generalize w.alloc (.cells #[.int .i64 0,.int .i64 0,.int .i64 0,.int .i64 0,.string ⟨#[]⟩,.bool false,.int .i64 0,.string ⟨#[]⟩,.int .i64 0,.int .i64 0,.int .i64 0,.int .i64 0,.bool false,.bool false,.int .i64 0,.int .i64 0,.int .i64 0,.int .i64 0,.bool false,.bool false,.int .i64 0,.slice none 0 0] 41)=W1 at HI0 HK0 HA0 CP HSZ ⊢;generalize hqe:w.heap.size=q at HA0 ⊢;have HQE:=zh hqe;clear hqe;have r6:=HI0.out.rd.cell 6;simp only[List.getElem?_toArray,List.getElem?_cons_zero,List.getElem?_cons_succ]at r6;have hlk:(Instr.lookup 63 (.map (some E.sg)) (.int .i64 2) false).run Tryz.prog W1=.ok (.map (some (E.sg+1+2))) W1:=iA E.sg 2 (E.sg+1+2) W1 HI0.out.sg.out rfl
 go_wp2_with fail
 refine CP.out.mono ?_;cases O with
 | ok t ts c=>
  rintro e w2 ⟨k1,cs,rfl,h1,h2,h3,h4,h5,h6,h7,h8⟩;obtain⟨l,rfl⟩:∃ l:List Value,cs=l.toArray:=⟨cs.toList,by simp⟩
  have HL22:Hid (l.length=22):=zh (by have:=h8.1;rwa [List.size_toArray]at this);have yo:=zh h8.2.1;have HI2:=zh h6;have hk7:=h7;have HX:=zh (⟨h1,h2,h3,h4,h5,h8⟩:k≤k1∧k1<E.L.length∧ts=E.L.drop k1∧c+k≤nd+k1∧nd≤c∧NV w2 (List.range W1.heap.size) c t l.toArray);clear h1 h2 h3 h4 h5 h6 h7 h8;have HA2:=zh (HA0.out.kp hk7);have HK2:=zh (HK0.out.trans hk7);have HT:Hid (w2.there q 0 l.toArray.size):=zh (by have h:=HA2.out.li.thereA;rw[show l.toArray.size=22 from HL22.out];exact h);have zi:(Tryz.prog.info? 41).map (·.size)=some l.toArray.size:=by rw[show l.toArray.size=22 from HL22.out];exact aE
  clear HI0 HA0 HK0 CP hk7 hlk r6
  go_wp2_with (first |(refine wpList_store_mid rfl 41 (.tmp 2) (.tmp 13) rfl q 0 l.toArray rfl rfl HT.out zi yo.out ?_;change wpList _ _ _ _ _ (w2.setCells q 0 l);generalize hw7:w2.setCells q 0 l=w7))
  have hkq:Kp [q] w2 w7:=by rw[← hw7];exact aU (.inl (.head _)) l 0 (Kp.refl _ _)
  have HA7:Hid (Lies w7 q 41 l.toArray):=zh (by rw[← hw7];exact HA2.out.li.putAll HL22.out);refine bodyPost_ret (aK rfl rfl HA7.out HL22.out) rfl ?_;exact⟨k1,l.toArray,rfl,HX.out.1,HX.out.2.1,HX.out.2.2.1,HX.out.2.2.2.1,HX.out.2.2.2.2.1,HI2.out.own hE HA2.out (by decide) (by decide) hkq,HK2.out.own HA2.out hkq,(HX.out.2.2.2.2.2.kpX hkq (fun y hy=>by rw[List.mem_singleton.1 hy];exact List.mem_range.2 (by have:=HSZ.out;have:=HQE.out;omega))).anti (fun y hy _=>List.mem_range.2 (Nat.lt_trans (List.mem_range.1 hy) HSZ.out))⟩
 | bad e0 p0=>
  rintro e w2 ⟨cs,k1,op1,nd1,rfl,h1,h2,h3,h4,h5,h6,h7⟩;obtain⟨l,rfl⟩:∃ l:List Value,cs=l.toArray:=⟨cs.toList,by simp⟩
  have HL22:Hid (l.length=22):=zh (by rwa [List.size_toArray]at h1);have yo:=zh h2;have HI2:=zh h6;have hk7:=h7;have HX:=zh (⟨h3,h4,h5⟩:k≤k1∧k1<E.L.length∧nd1+k≤nd+k1);clear h1 h2 h3 h4 h5 h6 h7;have HA2:=zh (HA0.out.kp hk7);have HK2:=zh (HK0.out.trans hk7);have HT:Hid (w2.there q 0 l.toArray.size):=zh (by have h:=HA2.out.li.thereA;rw[show l.toArray.size=22 from HL22.out];exact h);have zi:(Tryz.prog.info? 41).map (·.size)=some l.toArray.size:=by rw[show l.toArray.size=22 from HL22.out];exact aE
  clear HI0 HA0 HK0 CP hk7 hlk r6
  go_wp2_with (first |(refine wpList_store_mid rfl 41 (.tmp 2) (.tmp 13) rfl q 0 l.toArray rfl rfl HT.out zi yo.out ?_;change wpList _ _ _ _ _ (w2.setCells q 0 l);generalize hw7:w2.setCells q 0 l=w7))
  have hkq:Kp [q] w2 w7:=by rw[← hw7];exact aU (.inl (.head _)) l 0 (Kp.refl _ _)
  have HA7:Hid (Lies w7 q 41 l.toArray):=zh (by rw[← hw7];exact HA2.out.li.putAll HL22.out);refine bodyPost_ret (aK rfl rfl HA7.out HL22.out) rfl ?_;exact⟨l.toArray,k1,op1,nd1,rfl,HL22.out,yo.out,HX.out.1,HX.out.2.1,HX.out.2.2,HI2.out.own hE HA2.out (by decide) (by decide) hkq,HK2.out.own HA2.out hkq⟩
set_option maxRecDepth 100000 in
set_option maxHeartbeats 3200000 in
theorem uDA(E:Env)(hE:E.ok)(he:E.ends)(hL:E.L.length≤1000000)(next:List Tok→Nat→Out)(op:Nat)(hp:dU E 49 next op):dU E 36 (bH next oH) op:=by
 intro k nd pl er w hI hk hn;have HI0:=zh (hI.next ((Below.refl _ _).alloc (Nat.le_refl _) (.cells aB.toArray 41)));have CP:=zh (kO E hE he hL 49 (enters_of Tryz.func49 (by kernel_rfl) rfl) next op hp 1 (by decide) k nd pl er _ HI0.out hk hn);have hsg:eJ[1]=oH:=rfl;rw[hsg]at CP;have HK0:Hid (Kp E.X w (w.alloc (.cells aB.toArray 41))):=zh ((Kp.refl _ _).alloc _);have HA0:=zh (Own1.new hI (Kp.refl E.X w) 41 aB.toArray);have HSZ:Hid (w.heap.size<(w.alloc (.cells aB.toArray 41)).heap.size):=zh (by simp);clear hI hp hsg;simp only[aB]at HI0 HK0 HA0 CP HSZ;generalize hO:bH next oH (E.L.drop k) nd=O at *;clear hO
 go_enter Tryz.func36,Tryz.ntmps36
 go_upto_region 1 with fail
 generalize w.alloc (.cells #[.int .i64 0,.int .i64 0,.int .i64 0,.int .i64 0,.string ⟨#[]⟩,.bool false,.int .i64 0,.string ⟨#[]⟩,.int .i64 0,.int .i64 0,.int .i64 0,.int .i64 0,.bool false,.bool false,.int .i64 0,.int .i64 0,.int .i64 0,.int .i64 0,.bool false,.bool false,.int .i64 0,.slice none 0 0] 41)=W1 at HI0 HK0 HA0 CP HSZ ⊢;generalize hqe:w.heap.size=q at HA0 ⊢;have HQE:=zh hqe;clear hqe;have r6:=HI0.out.rd.cell 6;simp only[List.getElem?_toArray,List.getElem?_cons_zero,List.getElem?_cons_succ]at r6;have hlk:(Instr.lookup 63 (.map (some E.sg)) (.int .i64 1) false).run Tryz.prog W1=.ok (.map (some (E.sg+1+1))) W1:=iA E.sg 1 (E.sg+1+1) W1 HI0.out.sg.out rfl
 go_wp2_with fail
 refine CP.out.mono ?_;cases O with
 | ok t ts c=>
  rintro e w2 ⟨k1,cs,rfl,h1,h2,h3,h4,h5,h6,h7,h8⟩;obtain⟨l,rfl⟩:∃ l:List Value,cs=l.toArray:=⟨cs.toList,by simp⟩
  have HL22:Hid (l.length=22):=zh (by have:=h8.1;rwa [List.size_toArray]at this);have yo:=zh h8.2.1;have HI2:=zh h6;have hk7:=h7;have HX:=zh (⟨h1,h2,h3,h4,h5,h8⟩:k≤k1∧k1<E.L.length∧ts=E.L.drop k1∧c+k≤nd+k1∧nd≤c∧NV w2 (List.range W1.heap.size) c t l.toArray);clear h1 h2 h3 h4 h5 h6 h7 h8;have HA2:=zh (HA0.out.kp hk7);have HK2:=zh (HK0.out.trans hk7);have HT:Hid (w2.there q 0 l.toArray.size):=zh (by have h:=HA2.out.li.thereA;rw[show l.toArray.size=22 from HL22.out];exact h);have zi:(Tryz.prog.info? 41).map (·.size)=some l.toArray.size:=by rw[show l.toArray.size=22 from HL22.out];exact aE
  clear HI0 HA0 HK0 CP hk7 hlk r6
  go_wp2_with (first |(refine wpList_store_mid rfl 41 (.tmp 2) (.tmp 13) rfl q 0 l.toArray rfl rfl HT.out zi yo.out ?_;change wpList _ _ _ _ _ (w2.setCells q 0 l);generalize hw7:w2.setCells q 0 l=w7))
  have hkq:Kp [q] w2 w7:=by rw[← hw7];exact aU (.inl (.head _)) l 0 (Kp.refl _ _)
  have HA7:Hid (Lies w7 q 41 l.toArray):=zh (by rw[← hw7];exact HA2.out.li.putAll HL22.out);refine bodyPost_ret (aK rfl rfl HA7.out HL22.out) rfl ?_;exact⟨k1,l.toArray,rfl,HX.out.1,HX.out.2.1,HX.out.2.2.1,HX.out.2.2.2.1,HX.out.2.2.2.2.1,HI2.out.own hE HA2.out (by decide) (by decide) hkq,HK2.out.own HA2.out hkq,(HX.out.2.2.2.2.2.kpX hkq (fun y hy=>by rw[List.mem_singleton.1 hy];exact List.mem_range.2 (by have:=HSZ.out;have:=HQE.out;omega))).anti (fun y hy _=>List.mem_range.2 (Nat.lt_trans (List.mem_range.1 hy) HSZ.out))⟩
 | bad e0 p0=>
  rintro e w2 ⟨cs,k1,op1,nd1,rfl,h1,h2,h3,h4,h5,h6,h7⟩;obtain⟨l,rfl⟩:∃ l:List Value,cs=l.toArray:=⟨cs.toList,by simp⟩
  have HL22:Hid (l.length=22):=zh (by rwa [List.size_toArray]at h1);have yo:=zh h2;have HI2:=zh h6;have hk7:=h7;have HX:=zh (⟨h3,h4,h5⟩:k≤k1∧k1<E.L.length∧nd1+k≤nd+k1);clear h1 h2 h3 h4 h5 h6 h7;have HA2:=zh (HA0.out.kp hk7);have HK2:=zh (HK0.out.trans hk7);have HT:Hid (w2.there q 0 l.toArray.size):=zh (by have h:=HA2.out.li.thereA;rw[show l.toArray.size=22 from HL22.out];exact h);have zi:(Tryz.prog.info? 41).map (·.size)=some l.toArray.size:=by rw[show l.toArray.size=22 from HL22.out];exact aE
  clear HI0 HA0 HK0 CP hk7 hlk r6
  go_wp2_with (first |(refine wpList_store_mid rfl 41 (.tmp 2) (.tmp 13) rfl q 0 l.toArray rfl rfl HT.out zi yo.out ?_;change wpList _ _ _ _ _ (w2.setCells q 0 l);generalize hw7:w2.setCells q 0 l=w7))
  have hkq:Kp [q] w2 w7:=by rw[← hw7];exact aU (.inl (.head _)) l 0 (Kp.refl _ _)
  have HA7:Hid (Lies w7 q 41 l.toArray):=zh (by rw[← hw7];exact HA2.out.li.putAll HL22.out);refine bodyPost_ret (aK rfl rfl HA7.out HL22.out) rfl ?_;exact⟨l.toArray,k1,op1,nd1,rfl,HL22.out,yo.out,HX.out.1,HX.out.2.1,HX.out.2.2,HI2.out.own hE HA2.out (by decide) (by decide) hkq,HK2.out.own HA2.out hkq⟩
set_option maxRecDepth 100000 in
set_option maxHeartbeats 3200000 in
theorem uIM(E:Env)(hE:E.ok)(he:E.ends)(hL:E.L.length≤1000000)(next:List Tok→Nat→Out)(op:Nat)(hp:dU E 36 next op):dU E 24 (bH next qL) op:=by
 intro k nd pl er w hI hk hn;have HI0:=zh (hI.next ((Below.refl _ _).alloc (Nat.le_refl _) (.cells aB.toArray 41)));have CP:=zh (kO E hE he hL 36 (enters_of Tryz.func36 (by kernel_rfl) rfl) next op hp 0 (by decide) k nd pl er _ HI0.out hk hn);have hsg:eJ[0]=qL:=rfl;rw[hsg]at CP;have HK0:Hid (Kp E.X w (w.alloc (.cells aB.toArray 41))):=zh ((Kp.refl _ _).alloc _);have HA0:=zh (Own1.new hI (Kp.refl E.X w) 41 aB.toArray);have HSZ:Hid (w.heap.size<(w.alloc (.cells aB.toArray 41)).heap.size):=zh (by simp);clear hI hp hsg;simp only[aB]at HI0 HK0 HA0 CP HSZ;generalize hO:bH next qL (E.L.drop k) nd=O at *;clear hO
 go_enter Tryz.func24,Tryz.ntmps24
 go_upto_region 1 with fail
 generalize w.alloc (.cells #[.int .i64 0,.int .i64 0,.int .i64 0,.int .i64 0,.string ⟨#[]⟩,.bool false,.int .i64 0,.string ⟨#[]⟩,.int .i64 0,.int .i64 0,.int .i64 0,.int .i64 0,.bool false,.bool false,.int .i64 0,.int .i64 0,.int .i64 0,.int .i64 0,.bool false,.bool false,.int .i64 0,.slice none 0 0] 41)=W1 at HI0 HK0 HA0 CP HSZ ⊢;generalize hqe:w.heap.size=q at HA0 ⊢;have HQE:=zh hqe;clear hqe;have r6:=HI0.out.rd.cell 6;simp only[List.getElem?_toArray,List.getElem?_cons_zero,List.getElem?_cons_succ]at r6;have hlk:(Instr.lookup 63 (.map (some E.sg)) (.int .i64 0) false).run Tryz.prog W1=.ok (.map (some (E.sg+1+0))) W1:=iA E.sg 0 (E.sg+1+0) W1 HI0.out.sg.out rfl
 go_wp2_with fail
 refine CP.out.mono ?_;cases O with
 | ok t ts c=>
  rintro e w2 ⟨k1,cs,rfl,h1,h2,h3,h4,h5,h6,h7,h8⟩;obtain⟨l,rfl⟩:∃ l:List Value,cs=l.toArray:=⟨cs.toList,by simp⟩
  have HL22:Hid (l.length=22):=zh (by have:=h8.1;rwa [List.size_toArray]at this);have yo:=zh h8.2.1;have HI2:=zh h6;have hk7:=h7;have HX:=zh (⟨h1,h2,h3,h4,h5,h8⟩:k≤k1∧k1<E.L.length∧ts=E.L.drop k1∧c+k≤nd+k1∧nd≤c∧NV w2 (List.range W1.heap.size) c t l.toArray);clear h1 h2 h3 h4 h5 h6 h7 h8;have HA2:=zh (HA0.out.kp hk7);have HK2:=zh (HK0.out.trans hk7);have HT:Hid (w2.there q 0 l.toArray.size):=zh (by have h:=HA2.out.li.thereA;rw[show l.toArray.size=22 from HL22.out];exact h);have zi:(Tryz.prog.info? 41).map (·.size)=some l.toArray.size:=by rw[show l.toArray.size=22 from HL22.out];exact aE
  clear HI0 HA0 HK0 CP hk7 hlk r6
  go_wp2_with (first |(refine wpList_store_mid rfl 41 (.tmp 2) (.tmp 13) rfl q 0 l.toArray rfl rfl HT.out zi yo.out ?_;change wpList _ _ _ _ _ (w2.setCells q 0 l);generalize hw7:w2.setCells q 0 l=w7))
  have hkq:Kp [q] w2 w7:=by rw[← hw7];exact aU (.inl (.head _)) l 0 (Kp.refl _ _)
  have HA7:Hid (Lies w7 q 41 l.toArray):=zh (by rw[← hw7];exact HA2.out.li.putAll HL22.out);refine bodyPost_ret (aK rfl rfl HA7.out HL22.out) rfl ?_;exact⟨k1,l.toArray,rfl,HX.out.1,HX.out.2.1,HX.out.2.2.1,HX.out.2.2.2.1,HX.out.2.2.2.2.1,HI2.out.own hE HA2.out (by decide) (by decide) hkq,HK2.out.own HA2.out hkq,(HX.out.2.2.2.2.2.kpX hkq (fun y hy=>by rw[List.mem_singleton.1 hy];exact List.mem_range.2 (by have:=HSZ.out;have:=HQE.out;omega))).anti (fun y hy _=>List.mem_range.2 (Nat.lt_trans (List.mem_range.1 hy) HSZ.out))⟩
 | bad e0 p0=>
  rintro e w2 ⟨cs,k1,op1,nd1,rfl,h1,h2,h3,h4,h5,h6,h7⟩;obtain⟨l,rfl⟩:∃ l:List Value,cs=l.toArray:=⟨cs.toList,by simp⟩
  have HL22:Hid (l.length=22):=zh (by rwa [List.size_toArray]at h1);have yo:=zh h2;have HI2:=zh h6;have hk7:=h7;have HX:=zh (⟨h3,h4,h5⟩:k≤k1∧k1<E.L.length∧nd1+k≤nd+k1);clear h1 h2 h3 h4 h5 h6 h7;have HA2:=zh (HA0.out.kp hk7);have HK2:=zh (HK0.out.trans hk7);have HT:Hid (w2.there q 0 l.toArray.size):=zh (by have h:=HA2.out.li.thereA;rw[show l.toArray.size=22 from HL22.out];exact h);have zi:(Tryz.prog.info? 41).map (·.size)=some l.toArray.size:=by rw[show l.toArray.size=22 from HL22.out];exact aE
  clear HI0 HA0 HK0 CP hk7 hlk r6
  go_wp2_with (first |(refine wpList_store_mid rfl 41 (.tmp 2) (.tmp 13) rfl q 0 l.toArray rfl rfl HT.out zi yo.out ?_;change wpList _ _ _ _ _ (w2.setCells q 0 l);generalize hw7:w2.setCells q 0 l=w7))
  have hkq:Kp [q] w2 w7:=by rw[← hw7];exact aU (.inl (.head _)) l 0 (Kp.refl _ _)
  have HA7:Hid (Lies w7 q 41 l.toArray):=zh (by rw[← hw7];exact HA2.out.li.putAll HL22.out);refine bodyPost_ret (aK rfl rfl HA7.out HL22.out) rfl ?_;exact⟨l.toArray,k1,op1,nd1,rfl,HL22.out,yo.out,HX.out.1,HX.out.2.1,HX.out.2.2,HI2.out.own hE HA2.out (by decide) (by decide) hkq,HK2.out.own HA2.out hkq⟩
end Go.Proofs.YtmgjidnalpgegaaGreatDoor
