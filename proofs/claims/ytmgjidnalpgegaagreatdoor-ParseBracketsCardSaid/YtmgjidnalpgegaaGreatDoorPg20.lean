/-
  Lemmas, part 20: ParZ PaA PaB PaC.
-/
import Derived.Lib.SlBytesConst
import Derived.Test.YtmgjidnalpgegaaGreatDoorPg18
namespace Go.Proofs.YtmgjidnalpgegaaGreatDoor
open Go.RowKit
theorem wp_bs1{o:Oper}{a:Act}{w:World}{K:Act→World→Prop}{Q:Exit→Act→World→Prop}(x:Operand)(ho:o.op=.buildSlice 39 1 #[(0,x)])(cs:List Value)(hx:a.eval x=.agg cs.toArray)(h22:cs.length=22)
  (h:K (a.put o.dst (.slice (some ⟨w.heap.size,0,none⟩) 1 1)) (w.alloc (.cells cs.toArray 41))):o.wp Tryz.prog a w K Q:=by
 have hf:Tryz.prog.builtSlice 41 1 ((#[(0,x)]:Array (Nat×Operand)).map fun(i,x)=>(i,a.eval x)).toList=some cs.toArray:=by
  simp only[List.map_toArray,List.map_cons,List.map_nil,hx];exact built1 cs h22
 unfold Program.builtSlice at hf;cases hie:Tryz.prog.info? 41 with
 | none=>simp[hie]at hf
 | some ie=>
  simp only[hie]at hf;cases hz:ie.zero with
  | none=>simp[hz]at hf
  | some z=>
   simp only[hz]at hf;by_cases hc:1*ie.size > 2 ^ 24∨1*ie.size=0
   ·rw[if_pos hc]at hf;cases hf
   ·rw[if_neg hc]at hf;exact wp_buildSlice 39 41 1 #[(0,x)] ho cs.toArray ie z uQ hie hz (fun h'=>hc (Or.inl h')) (fun h'=>hc (Or.inr h')) hf h
theorem uCY{t:Tok}(h:¬ t.kind=5):dB t=false:=by simp[dB,isS,h]
theorem uHF(tx:Bs)(tp:Nat):dB ⟨5,tx,tp⟩=fX.contains tx:=by
 unfold dB isS fX;simp only[decide_true,Bool.true_and,List.contains_cons,List.contains_nil,Bool.or_false]
theorem uFZ{E:Env}{k:Nat}(h:k<E.L.length):aX (E.L.drop k)=if dB (E.at k) then aX (E.L.drop (k+1))+1 else 0:=by
 rw[List.drop_eq_getElem_cons h,E.at_lt h];rfl
def mV(E:Env)(k2 i:Nat)(t:Tree):Tree:=((E.L.drop i).take (k2-i)).foldr (fun s n=>tUn s.text n) t
theorem uEI{E:Env}{k2 i:Nat}{t:Tree}(h:i<k2)(hk:k2≤E.L.length):mV E k2 i t=tUn (E.at i).text (mV E k2 (i+1) t):=by
 unfold mV;rw[List.drop_eq_getElem_cons (by omega:i<E.L.length),show k2-i=(k2-(i+1))+1 by omega,List.take_succ_cons,List.foldr_cons,E.at_lt (by omega:i<E.L.length)]
structure Sgn(E:Env)(w:World)(k1 op c pl er q q6:Nat)(l:List Value)(t:Tree)(W:World):Prop where
 st:Fs E w k1 op c pl er [(q6,41,l.toArray),(q,41,aB.toArray)] W
 nv:NV W (q6::List.range (q+1)) c t l.toArray
theorem Sgn.len{E:Env}{w:World}{k1 op c pl er q q6:Nat}{l:List Value}{t:Tree}{W:World}(h:Sgn E w k1 op c pl er q q6 l t W):l.length=22:=by
 have:=h.nv.1
 rwa [List.size_toArray]at this
theorem Sgn.next{E:Env}{w:World}{k1 op c pl er q q6:Nat}{l:List Value}{t:Tree}{W W':World}(h:Sgn E w k1 op c pl er q q6 l t W)(hb:Below W.heap.size W W'):Sgn E w k1 op c pl er q q6 l t W':=⟨h.st.next hb,h.nv.kp (Kp.of_below hb)⟩
theorem Sgn.step{E:Env}(hE:E.ok){w:World}{k1 op c pl er q q6:Nat}{l:List Value}{t:Tree}{W w9:World}(h:Sgn E w k1 op c pl er q q6 l t W)(hwq:w.heap.size≤q)(hq:q<q6){s:Bs}{C:List Value}(h22:C.length=22)(h1:C.toArray.all (·.oneCell')=true)(hC:c+1≤256→C=unL s (some ⟨W.heap.size,0,none⟩) 1 1)
  (hi:InE E k1 op (c+1) pl er w9) (hkp:Kp [E.r] (W.alloc (.cells l.toArray 41)) w9):Sgn E w k1 op (c+1) pl er q q6 C (tUn s t) (w9.setCells q6 0 C):=by
 have hb:Below W.heap.size W (W.alloc (.cells l.toArray 41)):=(Below.refl _ _).alloc (Nat.le_refl _) _;have hr:Kp [E.r] W w9:=(Kp.of_below hb).trans hkp;have hs9:Fs E w k1 op (c+1) pl er [(q6,41,l.toArray),(q,41,aB.toArray)] w9:=(h.st.next hb).step hi hkp.X;have hk6:Kp [q6] w9 (w9.setCells q6 0 C):=aU (.inl (.head _)) C 0 (Kp.refl _ _);have hlen:=h.len;have hsz:=hs9.fill hE 0 rfl C (by rw[h22];exact hlen.symm);have hrq:E.r<q:=by obtain⟨k0,op0,nd0,pl0,er0,hb0⟩:=h.st.base;have:=hb0.rd.lt;omega
 have h6:=h.st.lt 0 rfl;have hgl:Lies w9 W.heap.size 41 l.toArray:=hkp.lies (Lies.new W 41 l.toArray) (fun hm=>by rw[List.mem_singleton.1 hm]at h6;omega);have hgl2:Lies (w9.setCells q6 0 C) W.heap.size 41 l.toArray:=hk6.lies hgl (fun hm=>by have:=List.mem_singleton.1 hm;omega);have hnv:NV (w9.setCells q6 0 C) (q6::List.range (q+1)) c t l.toArray:=(h.nv.kpX hr (fun y hy=>by rw[List.mem_singleton.1 hy];exact List.mem_cons_of_mem _ (List.mem_range.2 (by omega)))).kpX hk6 (fun y hy=>by rw[List.mem_singleton.1 hy];exact .head _);refine⟨hsz,by rw[List.size_toArray,h22],h1,fun hn=>?_⟩;refine⟨some ⟨W.heap.size,0,none⟩,1,by rw[hC hn];rfl,KidsAt.one hgl2 hnv (by omega) (fun hm=>?_) _ rfl⟩;rcases List.mem_cons.1 hm with hm | hm
 ·omega
 ·have:=List.mem_range.1 hm;have:=h.st.lt 1 rfl;omega
def intM(v:Value):Nat:=match v with
 | .int _ i=>(i+1).toNat
 | _=>0
set_option maxRecDepth 100000 in
set_option maxHeartbeats 3200000 in
theorem uEK(E:Env)(hE:E.ok)(he:E.ends)(hL:E.L.length≤1000000)(percent:List Tok→Nat→Out)(op:Nat)(hp:dU E 111 percent op):dU E 107 (cI percent) op:=by
 intro k nd pl er w hI hk hn;have CT:=zh (fun k nd pl er W h hk=>bT E k op nd pl er W h hk);have CN:=zh (fun k nd pl er cs h22 h1 W h hn=>gN E hE k op nd pl er cs h22 h1 W h hn);have CP:=zh hp;have HEN:Hid (∀ k,k<E.L.length→(E.at k).kind≠0→k+1<E.L.length):=zh (fun k hk h=>E.more he hk h);have HS1:=zh ((Fs.start hI).alloc 41 aB.toArray (by decide));generalize hO:cI percent (E.L.drop k) nd=O;have HO:Hid ((match percent (E.L.drop (k+aX (E.L.drop k))) nd with
  | .bad e p=>.bad e p
  | .ok t ts1 c1=>.ok (((E.L.drop k).take (aX (E.L.drop k))).foldr (fun s n=>tUn s.text n) t) ts1 (c1+aX (E.L.drop k)))=O):=zh (by
  rw[← hO];unfold cI;rw[List.drop_drop];rfl)
 have HF:Hid (k<E.L.length∧nd≤k):=zh ⟨hk,hn⟩;clear hI hO hn hp;simp only[aB]at HS1
 go_enter Tryz.func107,Tryz.ntmps107
 go_upto_region 1 with fail
 generalize World.alloc _ _=W1 at HS1 ⊢;generalize hq:w.heap.size=q at HS1 ⊢;have HQ:=zh hq;clear hq;have r1:=HS1.out.ine.rd.cell 1;simp only[List.getElem?_toArray,List.getElem?_cons_zero,List.getElem?_cons_succ]at r1;have HM:Hid (∃ k',Fs E w k' op nd pl er [(q,41,aB.toArray)] W1∧k≤k'∧k'<E.L.length∧aX (E.L.drop k)+k=k'+aX (E.L.drop k')):=zh ⟨k,HS1.out,Nat.le_refl _,hk,by omega⟩
 go_wp2_with fail
 clear r1 hk
 go_loopw [13] (fun _ wr=>Hid (∃ k',Fs E w k' op nd pl er [(q,41,aB.toArray)] wr∧k≤k'∧k'<E.L.length∧aX (E.L.drop k)+k=k'+aX (E.L.drop k'))) (fun _ wr=>E.L.length-rdAt wr E.r)
 case atStart=>exact HM
 case round=>
  obtain⟨k2,h1,h2,h3,h4⟩:=hrel.out;have HS2:=zh h1;have HB:Hid (k≤k2∧k2<E.L.length∧aX (E.L.drop k)+k=k2+aX (E.L.drop k2)):=zh ⟨h2,h3,h4⟩;have HRD:=zh h1.ine.rdAt;clear h1 h2 h3 h4 hrel HM HS1;have HA1:=zh (uFZ HB.out.2.1);have CT1:=zh (fun W h=>CT.out k2 nd pl er W h HB.out.2.1);have HEN1:=zh (HEN.out k2 HB.out.2.1);obtain⟨tt,hat⟩:∃ tt,E.at k2=tt:=⟨_,rfl⟩
  rw[hat]at CT1 HA1 HEN1;clear hat;obtain⟨tk,tx,tp⟩:=tt;dsimp only[tkV]at CT1
  go_upto_region 2 with fail
  go_cut [27] (fun v wx=>v=.bool (dB ⟨tk,tx,tp⟩)∧Hid (Fs E w k2 op nd pl er [(q,41,aB.toArray)] wx))
  case first=>
   have hf0:=lU;have hf1:=mX;by_cases h5:tk=5
   ·subst h5;obtain⟨P0,hP0⟩:∃ R:World→Prop,∀ w',R w'↔(Fs E w k2 op nd pl er [(q,41,aB.toArray)] w'):=⟨_,fun _=>Iff.rfl⟩
    have HP0:=zh hP0;clear hP0;obtain⟨P1,hP1⟩:∃ R:World→Prop,∀ w',R w'↔(Fs E w k2 op nd pl er [(q,41,aB.toArray)] w'):=⟨_,fun _=>Iff.rfl⟩
    have HP1:=zh hP1;clear hP1;obtain⟨P2,hP2⟩:∃ R:World→Prop,∀ w',R w'↔(Fs E w k2 op nd pl er [(q,41,aB.toArray)] w'):=⟨_,fun _=>Iff.rfl⟩
    have HP2:=zh hP2;clear hP2;obtain⟨TT,hTT⟩:∃ TT:List (Nat×Nat×Value),TT=[(0,13,.pointer (some ⟨E.r,0,none⟩)),(1,14,.agg #[.int .i64 5,.string ⟨tx.toArray⟩,.int .i64 (tp:Int)]),(2,15,.int .i64 5),(3,16,.bool true),(4,17,.bool true),(5,18,.pointer (some ⟨E.r,0,none⟩)),(6,19,.pointer (some ⟨E.r,0,none⟩)),(7,20,.pointer (some ⟨E.r,6,none⟩)),(8,21,.map (some E.sg)),(9,22,.map (some (E.sg+1+5))),(10,23,.pointer (some ⟨E.r,0,none⟩)),(11,24,.agg #[.int .i64 5,.string ⟨tx.toArray⟩,.int .i64 (tp:Int)]),(12,25,.string ⟨tx.toArray⟩),(13,26,.bool (fX.contains tx)),(14,27,.bool (fX.contains tx))]:=⟨_,rfl⟩
    have HTT:=zh hTT;clear hTT;refine bJ (fun a0=>69≤a0.tmps.size∧a0.eval (.tmp 0)=.pointer (some ⟨E.r,0,none⟩)) [13,14,15,16,17,18,19,20,21,22,23,24,25,26,27] TT [(1,P1),(11,P2)] P0 (by kernel_rfl) (by kernel_rfl) ⟨by simp,rfl⟩ ((HP0.out _).2 (HS2.out.next (Below.refl _ _).drew)) ?_ ?_
    ·rintro a0 ⟨hs,hq0⟩ zl a1 w1 zj o hsz hI hun ho zd;have hTT:=HTT.out;subst hTT;have hk:okU (([(0,13,.pointer (some ⟨E.r,0,none⟩)),(1,14,.agg #[.int .i64 5,.string ⟨tx.toArray⟩,.int .i64 (tp:Int)]),(2,15,.int .i64 5),(3,16,.bool true),(4,17,.bool true),(5,18,.pointer (some ⟨E.r,0,none⟩)),(6,19,.pointer (some ⟨E.r,0,none⟩)),(7,20,.pointer (some ⟨E.r,6,none⟩)),(8,21,.map (some E.sg)),(9,22,.map (some (E.sg+1+5))),(10,23,.pointer (some ⟨E.r,0,none⟩)),(11,24,.agg #[.int .i64 5,.string ⟨tx.toArray⟩,.int .i64 (tp:Int)]),(12,25,.string ⟨tx.toArray⟩),(13,26,.bool (fX.contains tx)),(14,27,.bool (fX.contains tx))]:List (Nat×Nat×Value)).map fun e=>(e.1,e.2.1)) [13,14,15,16,17,18,19,20,21,22,23,24,25,26,27] 69=true:=by rfl
     have hj:=Up.of_false hun;have hj12:zj<15:=by rw[hsz]at hj;exact hj
     have e0x:a1.eval (.tmp 0)=.pointer (some ⟨E.r,0,none⟩):=(hI.off.eval (by decide)).trans hq0;rcases(by omega:zj=0∨zj=1∨zj=2∨zj=3∨zj=4∨zj=5∨zj=6∨zj=7∨zj=8∨zj=9∨zj=10∨zj=11∨zj=12∨zj=13∨zj=14) with rfl | rfl | rfl | rfl | rfl | rfl | rfl | rfl | rfl | rfl | rfl | rfl | rfl | rfl | rfl
     ·obtain rfl:=oi ho;exact aQ hk hI hs (.head _) (by simp) hun ho zd (aD rfl) rfl (by simp[execOp,go_sem,aA e0x])
     ·obtain rfl:=oi ho;have d0:=ud zd 0;have p0:=pk hI.pt 0 rfl d0;refine jS hk hI hs (.tail _ (.head _)) (by kernel_rfl) [] [(11,P2)] P1 rfl hun ho zd (aD rfl) rfl (fun hP=>?_);have hP:P0 w1:=hP;refine iB (v:=.agg #[.int .i64 5,.string ⟨tx.toArray⟩,.int .i64 (tp:Int)]) 25 #[.pointer (some ⟨E.r,0,none⟩)] (by simp[go_sem,aA p0]) ?_;have h:=(HP0.out _).1 hP;refine(CT1.out w1 h.ine).mono ?_;rintro e w2 ⟨rfl,hb⟩;exact⟨rfl,rfl,(HP1.out _).2 (h.next hb)⟩
     ·obtain rfl:=oi ho;have d1:=ud zd 1;have p1:=pk hI.pt 1 rfl d1;exact aQ hk hI hs (mm 2 rfl) (by simp) hun ho zd (aD rfl) rfl (by simp[execOp,go_sem,aA p1,hf0])
     ·obtain rfl:=oi ho;have d2:=ud zd 2;have p2:=pk hI.pt 2 rfl d2;exact aQ hk hI hs (mm 3 rfl) (by simp) hun ho zd (aD rfl) rfl (by simp[execOp,go_sem,aA p2])
     ·obtain rfl:=oi ho;have d3:=ud zd 3;have p3:=pk hI.pt 3 rfl d3;exact aQ hk hI hs (mm 4 rfl) (by simp) hun ho zd (aD rfl) rfl (by simp[execOp,go_sem,aA p3])
     ·obtain rfl:=oi ho;have d4:Up zl 4:=zd ⟨4,.guard⟩ (by simp) rfl;have p4:=pk hI.pt 4 rfl d4;exact aQ hk hI hs (mm 5 rfl) (by simp) hun ho zd (Eq.trans (aN rfl rfl rfl p4) rfl) rfl (by simp[execOp,go_sem,aA e0x])
     ·obtain rfl:=oi ho;have d5:=ud zd 5;have p5:=pk hI.pt 5 rfl d5;have d4:Up zl 4:=zd ⟨4,.guard⟩ (by simp) rfl;have p4:=pk hI.pt 4 rfl d4;exact aQ hk hI hs (mm 6 rfl) (by simp) hun ho zd (Eq.trans (aN rfl rfl rfl p4) rfl) rfl (by simp[execOp,go_sem,aA p5])
     ·obtain rfl:=oi ho;have d6:=ud zd 6;have p6:=pk hI.pt 6 rfl d6;have d4:Up zl 4:=zd ⟨4,.guard⟩ (by simp) rfl;have p4:=pk hI.pt 4 rfl d4;exact aQ hk hI hs (mm 7 rfl) (by simp) hun ho zd (Eq.trans (aN rfl rfl rfl p4) rfl) rfl (by simp[execOp,go_sem,aA p6])
     ·obtain rfl:=oi ho;have d7:=ud zd 7;have p7:=pk hI.pt 7 rfl d7;have d4:Up zl 4:=zd ⟨4,.guard⟩ (by simp) rfl;have p4:=pk hI.pt 4 rfl d4;have hq:w1.cell? ⟨E.r,6,none⟩=some (.map (some E.sg)):=by
       obtain⟨jj,hjj,hP⟩:=hI.low 2 (by simp) (fun m hm=>by cases hm) hun;rcases(by omega:jj=0∨jj=1∨jj=2) with rfl | rfl | rfl
       ·have hP:P0 w1:=hP;have h:=((HP0.out _).1 hP).ine.rd.cell 6;simpa using h
       ·have hP:P1 w1:=hP;have h:=((HP1.out _).1 hP).ine.rd.cell 6;simpa using h
       ·have hP:P2 w1:=hP;have h:=((HP2.out _).1 hP).ine.rd.cell 6;simpa using h
      exact aQ hk hI hs (mm 8 rfl) (by simp) hun ho zd (Eq.trans (aN rfl rfl rfl p4) rfl) rfl (by simp[execOp,go_sem,aA p7,hq])
     ·obtain rfl:=oi ho;have d8:=ud zd 8;have p8:=pk hI.pt 8 rfl d8;have d4:Up zl 4:=zd ⟨4,.guard⟩ (by simp) rfl;have p4:=pk hI.pt 4 rfl d4;have hq:(Instr.lookup 63 (.map (some E.sg)) (.int .i64 5) false).run Tryz.prog w1=.ok (.map (some (E.sg+1+5))) w1:=by
       obtain⟨jj,hjj,hP⟩:=hI.low 2 (by simp) (fun m hm=>by cases hm) hun;rcases(by omega:jj=0∨jj=1∨jj=2) with rfl | rfl | rfl
       ·have hP:P0 w1:=hP;exact iA E.sg 5 (E.sg+1+5) w1 ((HP0.out _).1 hP).ine.sg.out rfl
       ·have hP:P1 w1:=hP;exact iA E.sg 5 (E.sg+1+5) w1 ((HP1.out _).1 hP).ine.sg.out rfl
       ·have hP:P2 w1:=hP;exact iA E.sg 5 (E.sg+1+5) w1 ((HP2.out _).1 hP).ine.sg.out rfl
      exact aQ hk hI hs (mm 9 rfl) (by simp) hun ho zd (Eq.trans (aN rfl rfl rfl p4) rfl) rfl (by simp[execOp,go_sem,aA p8,hq])
     ·obtain rfl:=oi ho;have d4:Up zl 4:=zd ⟨4,.guard⟩ (by simp) rfl;have p4:=pk hI.pt 4 rfl d4;exact aQ hk hI hs (mm 10 rfl) (by simp) hun ho zd (Eq.trans (aN rfl rfl rfl p4) rfl) rfl (by simp[execOp,go_sem,aA e0x])
     ·obtain rfl:=oi ho;have d10:=ud zd 10;have p10:=pk hI.pt 10 rfl d10;have d4:Up zl 4:=zd ⟨4,.guard⟩ (by simp) rfl;have p4:=pk hI.pt 4 rfl d4;refine jS hk hI hs (mm 11 rfl) (by kernel_rfl) [(1,P1)] [] P2 rfl hun ho zd (Eq.trans (aN rfl rfl rfl p4) rfl) rfl (fun hP=>?_);have hP:P1 w1:=hP;refine iB (v:=.agg #[.int .i64 5,.string ⟨tx.toArray⟩,.int .i64 (tp:Int)]) 25 #[.pointer (some ⟨E.r,0,none⟩)] (by simp[go_sem,aA p10]) ?_;have h:=(HP1.out _).1 hP;refine(CT1.out w1 h.ine).mono ?_;rintro e w2 ⟨rfl,hb⟩;exact⟨rfl,rfl,(HP2.out _).2 (h.next hb)⟩
     ·obtain rfl:=oi ho;have d11:=ud zd 11;have p11:=pk hI.pt 11 rfl d11;have d4:Up zl 4:=zd ⟨4,.guard⟩ (by simp) rfl;have p4:=pk hI.pt 4 rfl d4;exact aQ hk hI hs (mm 12 rfl) (by simp) hun ho zd (Eq.trans (aN rfl rfl rfl p4) rfl) rfl (by simp[execOp,go_sem,aA p11,hf1])
     ·obtain rfl:=oi ho;have d9:=ud zd 9;have p9:=pk hI.pt 9 rfl d9;have d12:=ud zd 12;have p12:=pk hI.pt 12 rfl d12;have d4:Up zl 4:=zd ⟨4,.guard⟩ (by simp) rfl;have p4:=pk hI.pt 4 rfl d4;have hq:(Instr.lookup 89 (.map (some (E.sg+1+5))) (.string ⟨tx.toArray⟩) false).run Tryz.prog w1=.ok (.bool (fX.contains tx)) w1:=by
       obtain⟨jj,hjj,hP⟩:=hI.low 2 (by simp) (fun m hm=>by cases hm) hun;rcases(by omega:jj=0∨jj=1∨jj=2) with rfl | rfl | rfl
       ·have hP:P0 w1:=hP;obtain⟨cm,hcm⟩:=((HP0.out _).1 hP).ine.sg.ins 5 (by decide);exact pB fX (E.sg+1+5) cm w1 hcm tx
       ·have hP:P1 w1:=hP;obtain⟨cm,hcm⟩:=((HP1.out _).1 hP).ine.sg.ins 5 (by decide);exact pB fX (E.sg+1+5) cm w1 hcm tx
       ·have hP:P2 w1:=hP;obtain⟨cm,hcm⟩:=((HP2.out _).1 hP).ine.sg.ins 5 (by decide);exact pB fX (E.sg+1+5) cm w1 hcm tx
      exact aQ hk hI hs (mm 13 rfl) (by simp) hun ho zd (Eq.trans (aN rfl rfl rfl p4) rfl) rfl (by simp[execOp,go_sem,aA p9,aA p12,hq])
     ·obtain rfl:=oi ho;have d4:=ud zd 4;have p4:=pk hI.pt 4 rfl d4;have d13:=ud zd 13;have p13:=pk hI.pt 13 rfl d13;exact aQ hk hI hs (mm 14 rfl) (by simp) hun ho zd (aD rfl) rfl (by simp[execOp,go_sem,aA p4,aA p13])
    ·intro zl a1 w1 hI hup;have hTT:=HTT.out;subst hTT;have hF:P2 w1:=hI.st.last (fun m hm=>hup m.1 (by simp only[List.mem_cons,List.not_mem_nil,or_false]at hm;rcases hm with rfl | rfl;all_goals simp));have z27:a1.eval (.tmp 27)=.bool (fX.contains tx):=hI.pt (14,27,.bool (fX.contains tx)) (mm 14 rfl) (hup 14 (by decide));obtain⟨ff,rfl,hf⟩:=hI.off.forms;rw[← hf 27]at z27;clear hI;simp only[List.foldl,Act.put,List.setIfInBounds_toArray,List.set];rw[z27];have hF2:=(HP2.out _).1 hF;simp only[Exit.then]
     go_step
     go_meet
     exact⟨by rw[uHF],zh hF2⟩
   ·have n5:((tk:Int)==5)=false:=by simp;omega
    obtain⟨P0,hP0⟩:∃ R:World→Prop,∀ w',R w'↔(Fs E w k2 op nd pl er [(q,41,aB.toArray)] w'):=⟨_,fun _=>Iff.rfl⟩
    have HP0:=zh hP0;clear hP0;obtain⟨P1,hP1⟩:∃ R:World→Prop,∀ w',R w'↔(Fs E w k2 op nd pl er [(q,41,aB.toArray)] w'):=⟨_,fun _=>Iff.rfl⟩
    have HP1:=zh hP1;clear hP1;obtain⟨TT,hTT⟩:∃ TT:List (Nat×Nat×Value),TT=[(0,13,.pointer (some ⟨E.r,0,none⟩)),(1,14,.agg #[.int .i64 (tk:Int),.string ⟨tx.toArray⟩,.int .i64 (tp:Int)]),(2,15,.int .i64 (tk:Int)),(3,16,.bool false),(4,17,.bool false),(5,18,undef),(6,19,undef),(7,20,undef),(8,21,undef),(9,22,undef),(10,23,undef),(11,24,undef),(12,25,undef),(13,26,undef),(14,27,.bool false)]:=⟨_,rfl⟩
    have HTT:=zh hTT;clear hTT;refine bJ (fun a0=>69≤a0.tmps.size∧a0.eval (.tmp 0)=.pointer (some ⟨E.r,0,none⟩)) [13,14,15,16,17,18,19,20,21,22,23,24,25,26,27] TT [(1,P1)] P0 (by kernel_rfl) (by kernel_rfl) ⟨by simp,rfl⟩ ((HP0.out _).2 (HS2.out.next (Below.refl _ _).drew)) ?_ ?_
    ·rintro a0 ⟨hs,hq0⟩ zl a1 w1 zj o hsz hI hun ho zd;have hTT:=HTT.out;subst hTT;have hk:okU (([(0,13,.pointer (some ⟨E.r,0,none⟩)),(1,14,.agg #[.int .i64 (tk:Int),.string ⟨tx.toArray⟩,.int .i64 (tp:Int)]),(2,15,.int .i64 (tk:Int)),(3,16,.bool false),(4,17,.bool false),(5,18,undef),(6,19,undef),(7,20,undef),(8,21,undef),(9,22,undef),(10,23,undef),(11,24,undef),(12,25,undef),(13,26,undef),(14,27,.bool false)]:List (Nat×Nat×Value)).map fun e=>(e.1,e.2.1)) [13,14,15,16,17,18,19,20,21,22,23,24,25,26,27] 69=true:=by rfl
     have hj:=Up.of_false hun;have hj12:zj<15:=by rw[hsz]at hj;exact hj
     have e0x:a1.eval (.tmp 0)=.pointer (some ⟨E.r,0,none⟩):=(hI.off.eval (by decide)).trans hq0;rcases(by omega:zj=0∨zj=1∨zj=2∨zj=3∨zj=4∨zj=5∨zj=6∨zj=7∨zj=8∨zj=9∨zj=10∨zj=11∨zj=12∨zj=13∨zj=14) with rfl | rfl | rfl | rfl | rfl | rfl | rfl | rfl | rfl | rfl | rfl | rfl | rfl | rfl | rfl
     ·obtain rfl:=oi ho;exact aQ hk hI hs (.head _) (by simp) hun ho zd (aD rfl) rfl (by simp[execOp,go_sem,aA e0x])
     ·obtain rfl:=oi ho;have d0:=ud zd 0;have p0:=pk hI.pt 0 rfl d0;refine jS hk hI hs (.tail _ (.head _)) (by kernel_rfl) [] [] P1 rfl hun ho zd (aD rfl) rfl (fun hP=>?_);have hP:P0 w1:=hP;refine iB (v:=.agg #[.int .i64 (tk:Int),.string ⟨tx.toArray⟩,.int .i64 (tp:Int)]) 25 #[.pointer (some ⟨E.r,0,none⟩)] (by simp[go_sem,aA p0]) ?_;have h:=(HP0.out _).1 hP;refine(CT1.out w1 h.ine).mono ?_;rintro e w2 ⟨rfl,hb⟩;exact⟨rfl,rfl,(HP1.out _).2 (h.next hb)⟩
     ·obtain rfl:=oi ho;have d1:=ud zd 1;have p1:=pk hI.pt 1 rfl d1;exact aQ hk hI hs (mm 2 rfl) (by simp) hun ho zd (aD rfl) rfl (by simp[execOp,go_sem,aA p1,hf0])
     ·obtain rfl:=oi ho;have d2:=ud zd 2;have p2:=pk hI.pt 2 rfl d2;exact aQ hk hI hs (mm 3 rfl) (by simp) hun ho zd (aD rfl) rfl (by simp[execOp,go_sem,aA p2,n5])
     ·obtain rfl:=oi ho;have d3:=ud zd 3;have p3:=pk hI.pt 3 rfl d3;exact aQ hk hI hs (mm 4 rfl) (by simp) hun ho zd (aD rfl) rfl (by simp[execOp,go_sem,aA p3])
     ·obtain rfl:=oi ho;have d4:Up zl 4:=zd ⟨4,.guard⟩ (by simp) rfl;have p4:=pk hI.pt 4 rfl d4;exact bB hk hI hs (mm 5 rfl) (by simp) hun ho zd (Eq.trans (aN rfl rfl rfl p4) rfl) rfl
     ·obtain rfl:=oi ho;have d4:Up zl 4:=zd ⟨4,.guard⟩ (by simp) rfl;have p4:=pk hI.pt 4 rfl d4;exact bB hk hI hs (mm 6 rfl) (by simp) hun ho zd (Eq.trans (aN rfl rfl rfl p4) rfl) rfl
     ·obtain rfl:=oi ho;have d4:Up zl 4:=zd ⟨4,.guard⟩ (by simp) rfl;have p4:=pk hI.pt 4 rfl d4;exact bB hk hI hs (mm 7 rfl) (by simp) hun ho zd (Eq.trans (aN rfl rfl rfl p4) rfl) rfl
     ·obtain rfl:=oi ho;have d4:Up zl 4:=zd ⟨4,.guard⟩ (by simp) rfl;have p4:=pk hI.pt 4 rfl d4;exact bB hk hI hs (mm 8 rfl) (by simp) hun ho zd (Eq.trans (aN rfl rfl rfl p4) rfl) rfl
     ·obtain rfl:=oi ho;have d4:Up zl 4:=zd ⟨4,.guard⟩ (by simp) rfl;have p4:=pk hI.pt 4 rfl d4;exact bB hk hI hs (mm 9 rfl) (by simp) hun ho zd (Eq.trans (aN rfl rfl rfl p4) rfl) rfl
     ·obtain rfl:=oi ho;have d4:Up zl 4:=zd ⟨4,.guard⟩ (by simp) rfl;have p4:=pk hI.pt 4 rfl d4;exact bB hk hI hs (mm 10 rfl) (by simp) hun ho zd (Eq.trans (aN rfl rfl rfl p4) rfl) rfl
     ·obtain rfl:=oi ho;have d4:Up zl 4:=zd ⟨4,.guard⟩ (by simp) rfl;have p4:=pk hI.pt 4 rfl d4;exact bB hk hI hs (mm 11 rfl) (by simp) hun ho zd (Eq.trans (aN rfl rfl rfl p4) rfl) rfl
     ·obtain rfl:=oi ho;have d4:Up zl 4:=zd ⟨4,.guard⟩ (by simp) rfl;have p4:=pk hI.pt 4 rfl d4;exact bB hk hI hs (mm 12 rfl) (by simp) hun ho zd (Eq.trans (aN rfl rfl rfl p4) rfl) rfl
     ·obtain rfl:=oi ho;have d4:Up zl 4:=zd ⟨4,.guard⟩ (by simp) rfl;have p4:=pk hI.pt 4 rfl d4;exact bB hk hI hs (mm 13 rfl) (by simp) hun ho zd (Eq.trans (aN rfl rfl rfl p4) rfl) rfl
     ·obtain rfl:=oi ho;have d4:=ud zd 4;have p4:=pk hI.pt 4 rfl d4;have d13:=ud zd 13;have p13:=pk hI.pt 13 rfl d13;exact aQ hk hI hs (mm 14 rfl) (by simp) hun ho zd (aD rfl) rfl (by simp[execOp,go_sem,aA p4,aA p13])
    ·intro zl a1 w1 hI hup;have hTT:=HTT.out;subst hTT;have hF:P1 w1:=hI.st.last (fun m hm=>hup m.1 (by simp only[List.mem_cons,List.not_mem_nil,or_false]at hm;rcases hm with rfl;all_goals simp));have z27:a1.eval (.tmp 27)=.bool false:=hI.pt (14,27,.bool false) (mm 14 rfl) (hup 14 (by decide));obtain⟨ff,rfl,hf⟩:=hI.off.forms;rw[← hf 27]at z27;clear hI;simp only[List.foldl,Act.put,List.setIfInBounds_toArray,List.set];rw[z27];have hF2:=(HP1.out _).1 hF;simp only[Exit.then]
     go_step
     go_meet
     exact⟨by rw[uCY (by exact h5)],zh hF2⟩
  case rest=>
   obtain⟨rfl,HS3⟩:=hcut;clear HS2 CT1;cases hah:dB ⟨tk,tx,tp⟩ with
   | true=>
    rw[hah,if_pos rfl]at HA1;have hk3:=HEN1.out (by intro h;have h0:tk=0:=h;subst h0;cases hah);have r1:=HS3.out.ine.rd.cell 1;have rf1:=HS3.out.ine.rd.frozen 1;simp only[List.getElem?_toArray,List.getElem?_cons_zero,List.getElem?_cons_succ]at r1;have hkb:(k2:Int)≤1000000:=by have:=HB.out;omega
    have HS4:Hid (Fs E w (k2+1) op nd pl er [(q,41,aB.toArray)] (wc.setCell ⟨E.r,1,none⟩ (.int .i64 ((k2:Int)+1)))):=zh (HS3.out.rd hE 1 _ rfl);clear HS3 hah HEN1
    go_wp2_with fail
    go_roundw
    case rel=>exact zh ⟨k2+1,HS4.out,by have:=HB.out;omega,hk3,by have:=HB.out;have:=HA1.out;omega⟩
    case measure=>rw[HRD.out,HS4.out.ine.rdAt];have:=HB.out;omega
   | false=>
    rw[hah,if_neg (by decide)]at HA1;have HN:Hid (aX (E.L.drop k)+k=k2):=zh (by have:=HB.out;have:=HA1.out;omega);have hkk:k+aX (E.L.drop k)=k2:=by have:=HN.out;omega
    rw[hkk]at HO;clear hkk hah HA1 HEN1 HRD CT HEN;have r1:=HS3.out.ine.rd.cell 1;simp only[List.getElem?_toArray,List.getElem?_cons_zero,List.getElem?_cons_succ]at r1;have CP1:=zh (CP.out k2 nd pl er _ HS3.out.ine HB.out.2.1 (by have:=HB.out;have:=HF.out;omega));clear CP
    go_wp2_with fail
    refine CP1.out.mono ?_;clear CP1 r1;cases hpr:percent (E.L.drop k2) nd with
    | bad e1 p1=>
     have HO1:Hid (O=.bad e1 p1):=zh (by rw[← HO.out,hpr]);clear HO hpr;rintro e w8 ⟨cs,k1,op1,nd1,rfl,g1,g2,g3,g4,g5,g6,g7⟩;obtain⟨C,rfl⟩:∃ C:List Value,cs=C.toArray:=⟨cs.toList,by simp⟩
     have yC:Hid (C.length=22):=zh (by rwa [List.size_toArray]at g1);have yo:=zh g2;have HX:=zh (⟨by have:=HB.out;omega,g4,by have:=HB.out;omega⟩:k≤k1∧k1<E.L.length∧nd1+k≤nd+k1);have HSb:=zh ((HS3.out.step g6 g7).alloc 41 aB.toArray (by decide));clear g1 g2 g3 g4 g5 g6 g7 HS3;have HT:=zh (HSb.out.there 0 rfl C.toArray.size (by rw[List.size_toArray,yC.out];rfl));have HS9:=zh (HSb.out.fill hE 0 rfl C (by rw[yC.out];rfl));have zi:=hfN yC.out;have hinfl:(Tryz.prog.info? 41).map (·.size)=some C.length:=by rw[yC.out];exact aE
     simp only[aB,List.set_cons_zero]at HS9 HT
     go_upto_region 6 with(first |(refine wpList_store_mid rfl 41 (.tmp 6) (.tmp 42) rfl w8.heap.size 0 C.toArray rfl rfl HT.out zi yo.out ?_;change wpList _ _ _ _ _ (World.setCells _ w8.heap.size 0 C);generalize World.setCells _ _ _ _=W9 at HS9 ⊢;generalize w8.heap.size=q6 at HS9 ⊢))
     clear HT HSb
     go_wp2_with fail
     go_loopw [8] (fun _ wr=>Hid (wr=W9)) (fun _ _=>0)
     case atStart=>exact zh rfl
     case round=>
      have hwr:=hrel.out;subst hwr;clear hrel;have HRg:=zh (HS9.out.range 0 (l:=C) rfl);have HT:=zh (HS9.out.there 1 rfl C.toArray.size (by rw[List.size_toArray,yC.out];rfl));have HSz:=zh (HS9.out.fill hE 1 rfl C (by rw[yC.out];rfl));clear HS9
      go_wp2_with (first |(refine wpList_load_mid rfl 41 (.tmp 6) rfl q6 0 rfl C _ HRg.out Tryz.underlying41 rfl hinfl ?_) |(refine wpList_store_mid rfl 41 (.tmp 2) (.tmp 67) rfl q 0 C.toArray rfl rfl HT.out zi yo.out ?_;change wpList _ _ _ _ _ (World.setCells _ q 0 C);generalize World.setCells _ _ _ _=wz at HSz ⊢))
      have HA:=zh (HSz.out.li 1 rfl);refine bodyPost_ret (aK rfl rfl HA.out (by rw[List.size_toArray,yC.out])) rfl ?_;rw[HO1.out];exact cK HSz.out yC.out yo.out (by have:=HX.out;omega) HX.out.2.1 (by have:=HX.out;omega)
    | ok t ts1 c1=>
     rintro e w8 ⟨k1,cs,rfl,g1,g2,rfl,g4,g5,g6,g7,g8⟩;have HO1:Hid (O=.ok (mV E k2 k t) (E.L.drop k1) (c1+(k2-k))):=zh (by have h:=HN.out;rw[← HO.out,hpr];unfold mV;rw[show aX (E.L.drop k)=k2-k by omega]);clear HO hpr;obtain⟨C,rfl⟩:∃ C:List Value,cs=C.toArray:=⟨cs.toList,by simp⟩
     have yC:Hid (C.length=22):=zh (by have:=g8.1;rwa [List.size_toArray]at this);have yo:=zh g8.2.1;have HX:=zh (⟨g1,g2,g4,g5⟩:k2≤k1∧k1<E.L.length∧c1+k2≤nd+k1∧nd≤c1);have HSb:=zh ((HS3.out.step g6 g7).alloc 41 aB.toArray (by decide));have HQ6:Hid (q<w8.heap.size):=zh ((HS3.out.step g6 g7).lt 0 rfl);have HV8:Hid (NV w8 (w8.heap.size::List.range (q+1)) c1 t C.toArray):=zh ((g8.anti (fun y hy _=>by have:=HS3.out.lt 0 rfl;exact List.mem_range.2 (by have:=List.mem_range.1 hy;omega))).fresh (Nat.le_refl _));have HV9:=zh (HV8.out.kp ((aU (Y:=w8.heap.size::List.range (q+1)) (.inl (.head _)) C 0 ((Kp.refl _ _).alloc (.cells aB.toArray 41)))));clear g1 g2 g4 g5 g6 g7 g8 HS3 HV8;have HT:=zh (HSb.out.there 0 rfl C.toArray.size (by rw[List.size_toArray,yC.out];rfl));have HS9:=zh (HSb.out.fill hE 0 rfl C (by rw[yC.out];rfl));have zi:=hfN yC.out
     simp only[aB,List.set_cons_zero]at HS9 HT HV9
     go_upto_region 6 with(first |(refine wpList_store_mid rfl 41 (.tmp 6) (.tmp 42) rfl w8.heap.size 0 C.toArray rfl rfl HT.out zi yo.out ?_;change wpList _ _ _ _ _ (World.setCells _ w8.heap.size 0 C);generalize World.setCells _ _ _ _=W9 at HS9 HV9 ⊢;generalize w8.heap.size=q6 at HS9 HV9 HQ6 ⊢))
     clear HT HSb;have HM:Hid (∃ c l,c=c1+(k2-k2)∧Sgn E w k1 op c pl er q q6 l (mV E k2 k2 t) W9):=zh ⟨c1,C,by omega,HS9.out,by unfold mV;rw[Nat.sub_self];exact HV9.out⟩;clear HS9 HV9 zi yC yo;have hkb2:(k2:Int)≤1000000:=by have:=HB.out;omega
     go_wp2_with fail
     go_loopw [8] (fun v wr=>∃ i:Nat,k≤i∧i≤k2∧v=.int .i64 ((i:Int)-1)∧Hid (∃ c l,c=c1+(k2-i)∧Sgn E w k1 op c pl er q q6 l (mV E k2 i t) wr)) (fun v _=>intM v)
     case atStart=>exact⟨k2,HB.out.1,Nat.le_refl _,rfl,HM⟩
     case round=>
      clear HM;obtain⟨i,hki,hik,rfl,hrel⟩:=hrel;obtain⟨c,l,hc,hS⟩:=hrel.out;have HSg:=zh hS;have HC:=zh hc;clear hrel hS hc;rcases Nat.lt_or_ge k i with hlt | hge
      ·obtain⟨j,rfl⟩:∃ j,i=j+1:=⟨i-1,by omega⟩
       have ej:(((j+1:Nat):Int)-1)=(j:Int):=by omega
       rw[ej];have hkj:(k:Int)≤(j:Int):=by omega
       have HJ:Hid (k≤j∧j<k2∧j<E.L.length):=zh ⟨by omega,by omega,by have:=HB.out;omega⟩;have hjb:(j:Int)<(E.L.length:Int):=by have:=HJ.out;omega
       have hjb2:(j:Int)≤1000000:=by have:=HJ.out;omega
       have HST:=zh (uEI (E:=E) (t:=t) HJ.out.2.1 (by have:=HB.out;omega));clear ej hlt hki hik
       go_upto_block 3 with fail
       go_cut [] (fun wx=>Hid (∃ l',Sgn E w k1 op (c+1) pl er q q6 l' (mV E k2 j t) wx))
       case first=>
        go_upto_region 9 with fail
        have hat:E.L[j]'HJ.out.2.2=E.at j:=(E.at_lt HJ.out.2.2).symm;have HAT:=zh hat;clear hat;obtain⟨s,hs⟩:∃ s,(E.at j).text=s:=⟨_,rfl⟩
        have HS_:=zh hs;clear hs;obtain⟨Wd,hWd⟩:∃ Wd,wr.drew=Wd:=⟨_,rfl⟩
        have HWD:=zh hWd;clear hWd;have HSd:Hid (Sgn E w k1 op c pl er q q6 l (mV E k2 (j+1) t) Wd):=zh (by rw[← HWD.out];exact HSg.out.next (Below.refl _ _).drew);have HSa:=zh (HSd.out.next (W':=Wd.alloc (.cells l.toArray 41)) ((Below.refl _ _).alloc (Nat.le_refl _) _));have HL22:=zh HSd.out.len;obtain⟨gd,hgd⟩:∃ gd,Wd.heap.size=gd:=⟨_,rfl⟩
        have HGD:=zh hgd;clear hgd;have CN1:=zh (CN.out k1 c pl er (unL s (some ⟨gd,0,none⟩) 1 1) rfl (rX _ _ _ _) _ HSa.out.st.ine (by have:=HC.out;have:=HX.out;have:=HB.out;have:=HF.out;omega));obtain⟨D,hC,hC22,hC1,hCk⟩:=eT (c+1) (unL s (some ⟨gd,0,none⟩) 1 1) rfl (rX _ _ _ _);rw[hC]at CN1;have HD22:=zh hC22;have HD1:=zh hC1;have HDk:=zh hCk;clear hC hC22 hC1 hCk;have zi:(Tryz.prog.info? 41).map (·.size)=some D.toArray.size:=by rw[List.size_toArray,HD22.out];exact aE
        have hinfl:(Tryz.prog.info? 41).map (·.size)=some l.length:=by rw[HL22.out];exact aE
        have HTX:Hid (∀ W,InE E k1 op c pl er W→W.cell? ⟨E.g,j*3+1,none⟩=some (.string ⟨s.toArray⟩)):=zh (fun W h=>by have:=(h.tk.2 j HJ.out.2.2).2.1;rwa [HAT.out,HS_.out]at this);obtain⟨P0,hP0⟩:∃ R:World→Prop,∀ w',R w'↔(w'=Wd):=⟨_,fun _=>Iff.rfl⟩
        have HP0:=zh hP0;clear hP0;obtain⟨P1,hP1⟩:∃ R:World→Prop,∀ w',R w'↔(w'=Wd.alloc (.cells l.toArray 41)):=⟨_,fun _=>Iff.rfl⟩
        have HP1:=zh hP1;clear hP1;obtain⟨P2,hP2⟩:∃ R:World→Prop,∀ w',R w'↔(InE E k1 op (c+1) pl er w'∧Kp [E.r] (Wd.alloc (.cells l.toArray 41)) w'):=⟨_,fun _=>Iff.rfl⟩
        have HP2:=zh hP2;clear hP2;obtain⟨P3,hP3⟩:∃ R:World→Prop,∀ w',R w'↔(Sgn E w k1 op (c+1) pl er q q6 D (tUn s (mV E k2 (j+1) t)) w'):=⟨_,fun _=>Iff.rfl⟩
        have HP3:=zh hP3;clear hP3;obtain⟨TT,hTT⟩:∃ TT:List (Nat×Nat×Value),TT=[(0,54,.pointer (some ⟨E.r,0,none⟩)),(1,55,.pointer (some ⟨E.r,0,none⟩)),(2,56,.pointer (some ⟨E.r,0,none⟩)),(3,57,.pointer (some ⟨E.r,0,none⟩)),(4,58,.slice (some ⟨E.g,0,none⟩) E.L.length E.cap),(5,59,.int .i64 (j:Int)),(6,60,.pointer (some ⟨E.g,j*3,none⟩)),(7,61,.pointer (some ⟨E.g,j*3+1,none⟩)),(8,62,.string ⟨s.toArray⟩),(9,63,.agg l.toArray),(10,64,.slice (some ⟨gd,0,none⟩) 1 1),(11,65,.agg #[.int .i64 5,.int .i64 0,.int .i64 0,.int .i64 0,.string ⟨#[]⟩,.bool false,.int .i64 0,.string ⟨s.toArray⟩,.int .i64 0,.int .i64 0,.int .i64 0,.int .i64 0,.bool false,.bool false,.int .i64 0,.int .i64 0,.int .i64 0,.int .i64 0,.bool false,.bool false,.int .i64 0,.slice (some ⟨gd,0,none⟩) 1 1]),(12,66,.agg D.toArray)]:=⟨_,rfl⟩
        have HTT:=zh hTT;clear hTT;refine bJ (fun a0=>69≤a0.tmps.size∧a0.eval (.tmp 0)=.pointer (some ⟨E.r,0,none⟩)∧a0.eval (.tmp 6)=.pointer (some ⟨q6,0,none⟩)∧a0.eval (.tmp 8)=.int .i64 (j:Int)) [54,55,56,57,58,59,60,61,62,63,64,65,66] TT [(10,P1),(12,P2),(13,P3)] P0 (by kernel_rfl) (by kernel_rfl) ⟨by simp,rfl,rfl,rfl⟩ ((HP0.out _).2 HWD.out) ?_ ?_
        ·rintro a0 ⟨hs,hq0,hq6,hq8⟩ zl a1 w1 zj o hsz hI hun ho zd;have hTT:=HTT.out;subst hTT
         have hk:okU (([(0,54,.pointer (some ⟨E.r,0,none⟩)),(1,55,.pointer (some ⟨E.r,0,none⟩)),(2,56,.pointer (some ⟨E.r,0,none⟩)),(3,57,.pointer (some ⟨E.r,0,none⟩)),(4,58,.slice (some ⟨E.g,0,none⟩) E.L.length E.cap),(5,59,.int .i64 (j:Int)),(6,60,.pointer (some ⟨E.g,j*3,none⟩)),(7,61,.pointer (some ⟨E.g,j*3+1,none⟩)),(8,62,.string ⟨s.toArray⟩),(9,63,.agg l.toArray),(10,64,.slice (some ⟨gd,0,none⟩) 1 1),(11,65,.agg #[.int .i64 5,.int .i64 0,.int .i64 0,.int .i64 0,.string ⟨#[]⟩,.bool false,.int .i64 0,.string ⟨s.toArray⟩,.int .i64 0,.int .i64 0,.int .i64 0,.int .i64 0,.bool false,.bool false,.int .i64 0,.int .i64 0,.int .i64 0,.int .i64 0,.bool false,.bool false,.int .i64 0,.slice (some ⟨gd,0,none⟩) 1 1]),(12,66,.agg D.toArray)]:List (Nat×Nat×Value)).map fun e=>(e.1,e.2.1)) [54,55,56,57,58,59,60,61,62,63,64,65,66] 69=true:=by rfl
         have hj:=Up.of_false hun;have hj12:zj<14:=by rw[hsz]at hj;exact hj
         have e0x:a1.eval (.tmp 0)=.pointer (some ⟨E.r,0,none⟩):=(hI.off.eval (by decide)).trans hq0;have e6x:a1.eval (.tmp 6)=.pointer (some ⟨q6,0,none⟩):=(hI.off.eval (by decide)).trans hq6;have e8x:a1.eval (.tmp 8)=.int .i64 (j:Int):=(hI.off.eval (by decide)).trans hq8;rcases(by omega:zj=0∨zj=1∨zj=2∨zj=3∨zj=4∨zj=5∨zj=6∨zj=7∨zj=8∨zj=9∨zj=10∨zj=11∨zj=12∨zj=13) with rfl | rfl | rfl | rfl | rfl | rfl | rfl | rfl | rfl | rfl | rfl | rfl | rfl | rfl
         ·obtain rfl:=oi ho;exact aQ hk hI hs (.head _) (by simp) hun ho zd (aD rfl) rfl (by simp[execOp,go_sem,aA e0x])
         ·obtain rfl:=oi ho;exact aQ hk hI hs (.tail _ (.head _)) (by simp) hun ho zd (aD rfl) rfl (by simp[execOp,go_sem,aA e0x])
         ·obtain rfl:=oi ho;have d1:=ud zd 1;have p1:=pk hI.pt 1 rfl d1;exact aQ hk hI hs (mm 2 rfl) (by simp) hun ho zd (aD rfl) rfl (by simp[execOp,go_sem,aA p1])
         ·obtain rfl:=oi ho;have d2:=ud zd 2;have p2:=pk hI.pt 2 rfl d2;exact aQ hk hI hs (mm 3 rfl) (by simp) hun ho zd (aD rfl) rfl (by simp[execOp,go_sem,aA p2])
         ·obtain rfl:=oi ho;have d3:=ud zd 3;have p3:=pk hI.pt 3 rfl d3;have hq:w1.cell? ⟨E.r,0,none⟩=some (.slice (some ⟨E.g,0,none⟩) E.L.length E.cap):=by
           obtain⟨jj,hjj,hP⟩:=hI.low 1 (by simp) (fun m hm=>by obtain rfl:=Option.some.inj hm;kernel_rfl) hun;rcases(by omega:jj=0∨jj=1) with rfl | rfl
           ·have hP:P0 w1:=hP;have hW:=(HP0.out _).1 hP;subst hW;have h:=HSd.out.st.ine.rd.cell 0;simpa using h
           ·have hP:P1 w1:=hP;have hW:=(HP1.out _).1 hP;subst hW;have h:=HSa.out.st.ine.rd.cell 0;simpa using h
          exact aQ hk hI hs (mm 4 rfl) (by simp) hun ho zd (aD rfl) rfl (by simp[execOp,go_sem,aA p3,hq])
         ·obtain rfl:=oi ho;exact aQ hk hI hs (mm 5 rfl) (by simp) hun ho zd (aD rfl) rfl (by simp[execOp,go_sem,aA e8x])
         ·obtain rfl:=oi ho;have d4:=ud zd 4;have p4:=pk hI.pt 4 rfl d4;have d5:=ud zd 5;have p5:=pk hI.pt 5 rfl d5;exact aQ hk hI hs (mm 6 rfl) (by simp) hun ho zd (aD rfl) rfl (by simp[execOp,go_sem,aA p4,aA p5,hjb])
         ·obtain rfl:=oi ho;have d6:=ud zd 6;have p6:=pk hI.pt 6 rfl d6;exact aQ hk hI hs (mm 7 rfl) (by simp) hun ho zd (aD rfl) rfl (by simp[execOp,go_sem,aA p6])
         ·obtain rfl:=oi ho;have d7:=ud zd 7;have p7:=pk hI.pt 7 rfl d7;have hq:w1.cell? ⟨E.g,j*3+1,none⟩=some (.string ⟨s.toArray⟩):=by
           obtain⟨jj,hjj,hP⟩:=hI.low 1 (by simp) (fun m hm=>by obtain rfl:=Option.some.inj hm;kernel_rfl) hun;rcases(by omega:jj=0∨jj=1) with rfl | rfl
           ·have hP:P0 w1:=hP;have hW:=(HP0.out _).1 hP;subst hW;exact HTX.out _ HSd.out.st.ine
           ·have hP:P1 w1:=hP;have hW:=(HP1.out _).1 hP;subst hW;exact HTX.out _ HSa.out.st.ine
          exact aQ hk hI hs (mm 8 rfl) (by simp) hun ho zd (aD rfl) rfl (by simp[execOp,go_sem,aA p7,hq])
         ·obtain rfl:=oi ho;have hq:w1.rangeAt q6 0 l:=by
           obtain⟨jj,hjj,hP⟩:=hI.low 0 (by simp) (fun m hm=>by obtain rfl:=Option.some.inj hm;kernel_rfl) hun;rcases(by omega:jj=0) with rfl
           ·have hP:P0 w1:=hP;have hW:=(HP0.out _).1 hP;subst hW;exact HSd.out.st.range 0 (l:=l) rfl
          exact aQ hk hI hs (mm 9 rfl) (by simp) hun ho zd (aD rfl) rfl (aL 41 (.tmp 6) rfl q6 0 e6x l _ hq Tryz.underlying41 rfl hinfl)
         ·obtain rfl:=oi ho;have d9:=ud zd 9;have p9:=pk hI.pt 9 rfl d9;refine jS hk hI hs (mm 10 rfl) (by kernel_rfl) [] [(12,P2),(13,P3)] P1 rfl hun ho zd (aD rfl) rfl (fun hP=>?_);have hP:P0 w1:=hP;have hW:=(HP0.out _).1 hP;subst hW;refine wp_bs1 (.tmp 63) rfl l p9 HL22.out ?_;exact⟨by rw[HGD.out],(HP1.out _).2 rfl⟩
         ·obtain rfl:=oi ho;have d8:=ud zd 8;have p8:=pk hI.pt 8 rfl d8;have d10:=ud zd 10;have p10:=pk hI.pt 10 rfl d10;exact aQ hk hI hs (mm 11 rfl) (by simp) hun ho zd (aD rfl) rfl (by simp[execOp,go_sem,aA p8,aA p10])
         ·obtain rfl:=oi ho;have d0:=ud zd 0;have p0:=pk hI.pt 0 rfl d0;have d11:=ud zd 11;have p11:=pk hI.pt 11 rfl d11;refine jS hk hI hs (mm 12 rfl) (by kernel_rfl) [(10,P1)] [(13,P3)] P2 rfl hun ho zd (aD rfl) rfl (fun hP=>?_);have hP:P1 w1:=hP;refine iB (v:=.agg D.toArray) 48 #[.pointer (some ⟨E.r,0,none⟩),.agg #[.int .i64 5,.int .i64 0,.int .i64 0,.int .i64 0,.string ⟨#[]⟩,.bool false,.int .i64 0,.string ⟨s.toArray⟩,.int .i64 0,.int .i64 0,.int .i64 0,.int .i64 0,.bool false,.bool false,.int .i64 0,.int .i64 0,.int .i64 0,.int .i64 0,.bool false,.bool false,.int .i64 0,.slice (some ⟨gd,0,none⟩) 1 1]] (by simp[go_sem,aA p0,aA p11]) ?_;have hW:=(HP1.out _).1 hP;subst hW;refine CN1.out.mono ?_;rintro e w2 ⟨rfl,h1,h2⟩;exact⟨rfl,rfl,(HP2.out _).2 ⟨h1,h2⟩⟩
         ·obtain rfl:=oi ho;have d12:=ud zd 12;have p12:=pk hI.pt 12 rfl d12;refine kL hI (by simp) (by kernel_rfl) [(10,P1),(12,P2)] [] P3 rfl hun ho zd (aD rfl) rfl (fun hP=>?_);have hP:P2 w1:=hP;have h:=(HP2.out _).1 hP;have ht:=(HSa.out.st.step h.1 h.2.X).there 0 (cs:=l.toArray) rfl D.toArray.size (by rw[List.size_toArray,List.size_toArray,HD22.out,HL22.out]);refine⟨w1.setCells q6 0 D,eK 41 (.tmp 6) (.tmp 66) rfl q6 0 D.toArray e6x p12 ht zi HD1.out,(HP3.out _).2 ?_⟩;exact HSd.out.step hE (by have:=HQ.out;omega) HQ6.out HD22.out HD1.out (fun hn=>by have h:=HDk.out hn;rw[HGD.out];exact h) h.1 h.2
        ·intro zl a1 w1 hI hup;have hTT:=HTT.out;subst hTT;have hF:P3 w1:=hI.st.last (fun m hm=>hup m.1 (by simp only[List.mem_cons,List.not_mem_nil,or_false]at hm;rcases hm with rfl | rfl | rfl;all_goals simp));obtain⟨ff,rfl,hf⟩:=hI.off.forms;clear hI;simp only[List.foldl,Act.put,List.setIfInBounds_toArray,List.set];have hF2:=(HP3.out _).1 hF;rw[← HS_.out,← HST.out]at hF2;simp only[Exit.then,Exit.inBlock]
         go_step
         go_meet
         exact zh ⟨D,hF2⟩
       case rest=>
        obtain⟨l',hS'⟩:=hcut.out;have HSn:=zh hS';clear hcut hS' HSg
        go_wp2_with fail
        go_roundw
        case rel=>exact⟨j,HJ.out.1,Nat.le_of_lt HJ.out.2.1,rfl,zh ⟨c+1,l',by have:=HC.out;have:=HJ.out;omega,HSn.out⟩⟩
        case measure=>show intM _<intM _;unfold intM;simp only;omega
      ·have hie:i=k:=by omega
       subst hie;have hnl:¬ ((i:Int)≤(i:Int)-1):=by omega
       have hgt:((i:Int)-1)<(i:Int):=by omega
       clear hki hik hge;have HRg:=zh (HSg.out.st.range 0 (l:=l) rfl);have HL22:=zh HSg.out.len;have HL1:=zh HSg.out.nv.2.1;have zi:(Tryz.prog.info? 41).map (·.size)=some l.toArray.size:=by rw[List.size_toArray,HL22.out];exact aE
       have hinfl:(Tryz.prog.info? 41).map (·.size)=some l.length:=by rw[HL22.out];exact aE
       have HT:=zh (HSg.out.st.there 1 (cs:=aB.toArray) rfl l.toArray.size (by rw[List.size_toArray,HL22.out];rfl));have HSz:=zh (HSg.out.st.fill hE 1 rfl l (by rw[HL22.out];rfl));have HVz:=zh (HSg.out.nv.kpX (aU (Y:=[q]) (.inl (.head _)) l 0 (Kp.refl _ _)) (fun y hy=>by rw[List.mem_singleton.1 hy];exact List.mem_cons_of_mem _ (List.mem_range.2 (by omega))));clear HSg
       go_wp2_with (first |(refine wpList_load_mid rfl 41 (.tmp 6) rfl q6 0 rfl l _ HRg.out Tryz.underlying41 rfl hinfl ?_) |(refine wpList_store_mid rfl 41 (.tmp 2) (.tmp 67) rfl q 0 l.toArray rfl rfl HT.out zi HL1.out ?_;change wpList _ _ _ _ _ (World.setCells _ q 0 l);generalize World.setCells _ _ _ _=wz at HSz HVz ⊢))
       have HA:=zh (HSz.out.li 1 rfl);refine bodyPost_ret (aK rfl rfl HA.out (by rw[List.size_toArray,HL22.out])) rfl ?_;rw[HO1.out,← HC.out];exact⟨k1,l.toArray,rfl,by have:=HX.out;have:=HB.out;omega,HX.out.2.1,rfl,by have:=HX.out;have:=HB.out;have:=HC.out;omega,by have:=HX.out;have:=HC.out;omega,HSz.out.ine,HSz.out.kp,HVz.out.anti (fun y hy _=>List.mem_cons_of_mem _ (List.mem_range.2 (by have:=List.mem_range.1 hy;have:=HQ.out;omega)))⟩
theorem uBU(E:Env)(hE:E.ok)(he:E.ends)(hL:E.L.length≤1000000)(hT:E.short)(hC:oM):∀ (f op:Nat),op+(f+1)=65→dU E 24 (cD (f+1) E.ax op) op:=by
 have step:∀ (f op:Nat),op≤64→(op<64→dU E 24 (cD f E.ax (op+1)) (op+1))→dU E 24 (cD (f+1) E.ax op) op:=fun f op ho hp=>
  uIM E hE he hL _ op (uDA E hE he hL _ op (sum_any E hE he hL _ op (uAY E hE he hL _ op (Go.Proofs.YtmgjidnalpgegaaGreatDoor.power_any E hE he hL _ op (uEK E hE he hL _ op (uAR E hE he hL _ op (part_any E hE he hL hT hC (cD f E.ax) op ho hp)))))))
 intro f
 induction f with
 | zero=>exact fun op h=>step 0 op (by omega) (fun h'=>absurd h' (by omega))
 | succ f ih=>exact fun op h=>step (f+1) op (by omega) (fun _=>ih (op+1) (by omega))
theorem eP(c:UInt8)(w:World) :
  Calls Tryz.prog 79 #[.int .u8 (c.toNat:Int)] w fun e w'=>e=.returned (.bool (dX c))∧w=w':=by
 go_enter Tryz.func79,Tryz.ntmps79
 go_wp2
 all_goals go_ret
 all_goals exact⟨aJ (by unfold dX;rw[Bool.eq_iff_iff];simp;try omega),rfl⟩
theorem fK(c:UInt8)(w:World) :
  Calls Tryz.prog 80 #[.int .u8 (c.toNat:Int)] w fun e w'=>e=.returned (.bool (aC c))∧w=w':=by
 go_enter Tryz.func80,Tryz.ntmps80
 go_wp2
 all_goals go_ret
 all_goals exact⟨aJ (by unfold aC;rw[Bool.eq_iff_iff];simp;try omega),rfl⟩
set_option maxHeartbeats 400000 in
theorem rL(l:Bs)(w:World)(hs:l.length≤maxLen) :
  Calls Tryz.prog 100 #[.string ⟨l.toArray⟩] w fun e w'=>e=.returned (.int .i64 (aV l))∧w=w':=by
 unfold maxLen at hs;unfold aV
 go_enter Tryz.func100,Tryz.ntmps100
 go_wp2
 go_loop [3] (fun i=>∃ k:Nat,k≤l.length∧i=.int .i64 k∧k≤aM aC l) (fun i=>l.length-(intOf i).toNat)
 case atStart=>exact⟨0,Nat.zero_le _,rfl,Nat.zero_le _⟩
 case round=>
  obtain⟨k,hk,rfl,hr⟩:=hrel;by_cases hlt:k<l.length
  ·cases hd:aC l[k]
   ·have HQ:=zh (pL _ _ _ hr hlt hd)
    go_wp2_with (go_at_call 80;refine(fK _ _).mono ?_;rintro e w' ⟨rfl,rfl⟩)
    go_ret
    exact⟨cQ (by rw[HQ.out]),rfl⟩
   ·have hq:=iQ _ _ _ hr hlt hd
    go_wp2_with (go_at_call 80;refine(fK _ _).mono ?_;rintro e w' ⟨rfl,rfl⟩)
    go_round
    case rel=>exact⟨k+1,by omega,by go_num,hq⟩
    case measure=>simp[intOf];omega
  ·have hq:aM aC l=k:=by have:=bW aC l;omega
   have HQ:=zh hq;clear hq
   go_wp2
   go_ret
   exact⟨cQ (by rw[HQ.out]),rfl⟩
set_option maxHeartbeats 400000 in
theorem uM(l:Bs)(w:World)(hs:l.length≤1000000) :
  Calls Tryz.prog 81 #[.string ⟨l.toArray⟩] w fun e w'=>e=.returned (.tuple #[.int .i64 (aZ l:Nat),.int .i64 (aV (l.drop (aZ l)):Nat),.bool (decide (aZ l+aV (l.drop (aZ l))=l.length))])∧w=w':=by
 have hd:=fun k=>rL (l.drop k) w (by rw[List.length_drop];unfold maxLen;omega)
 have HD:=zh hd;have HDL:Hid (∀ k,aV (l.drop k)≤l.length):=zh (fun k=>by have:=bW aC (l.drop k);rw[List.length_drop]at this;unfold aV;omega);clear hd;unfold aZ
 go_enter Tryz.func81,Tryz.ntmps81
 go_wp2
 go_loop [2] (fun i=>∃ k:Nat,k≤l.length∧i=.int .i64 k∧k≤aM dX l) (fun i=>l.length-(intOf i).toNat)
 case atStart=>exact⟨0,Nat.zero_le _,rfl,Nat.zero_le _⟩
 case round=>
  obtain⟨k,hk,rfl,hr⟩:=hrel;by_cases hlt:k<l.length
  ·cases hd:dX l[k]
   ·have HQ:=zh (pL _ _ _ hr hlt hd);have HD1:=zh (HD.out k);have hdl:=HDL.out k;clear hr
    go_upto_region 3 with(go_at_call 79;refine(eP _ _).mono ?_;rintro e w' ⟨rfl,rfl⟩)
    clear hd;generalize hdd:aV (l.drop k)=m at *
    go_wp2_with fail
    refine HD1.out.mono ?_;rintro e w' ⟨rfl,rfl⟩
    go_wp2_with fail
    go_ret3
    rw[HQ.out,hdd];refine⟨?_,rfl⟩;have e1:((k:Int)+(m:Int)-(k:Int))=(m:Int):=by omega
    have e2:(((k:Int)+(m:Int))==(l.length:Int))=decide (k+m=l.length):=by rw[Bool.eq_iff_iff];simp;omega
    show Ending.returned (.tuple #[.int .i64 (k:Int),.int .i64 ((k:Int)+(m:Int)-(k:Int)),.bool (((k:Int)+(m:Int))==(l.length:Int))])=_;rw[e1,e2]
   ·have hq:=iQ _ _ _ hr hlt hd
    go_wp2_with (go_at_call 79;refine(eP _ _).mono ?_;rintro e w' ⟨rfl,rfl⟩)
    go_round
    case rel=>exact⟨k+1,by omega,by go_num,hq⟩
    case measure=>simp[intOf];omega
  ·have hq:aM dX l=k:=by have:=bW dX l;omega
   have HQ:=zh hq;have HD1:=zh (HD.out k);have hdl:=HDL.out k;clear hq hr;generalize hdd:aV (l.drop k)=m at *
   go_wp2_with fail
   refine HD1.out.mono ?_;rintro e w' ⟨rfl,rfl⟩
   go_wp2_with fail
   go_ret3
   rw[HQ.out,hdd];refine⟨?_,rfl⟩;have e1:((k:Int)+(m:Int)-(k:Int))=(m:Int):=by omega
   have e2:(((k:Int)+(m:Int))==(l.length:Int))=decide (k+m=l.length):=by rw[Bool.eq_iff_iff];simp;omega
   show Ending.returned (.tuple #[.int .i64 (k:Int),.int .i64 ((k:Int)+(m:Int)-(k:Int)),.bool (((k:Int)+(m:Int))==(l.length:Int))])=_;rw[e1,e2]
set_option maxHeartbeats 800000 in
theorem uEP(l:Bs)(w:World):Calls Tryz.prog 55 #[.string ⟨l.toArray⟩] w fun e w'=>e=.returned (.bool (unB l))∧w=w':=by
 by_cases h0:l=[45]
 ·subst h0
  go_enter Tryz.func55,Tryz.ntmps55
  go_wp2_with fail
  go_ret
  exact⟨rfl,rfl⟩
 have e0:(l==([45]:Bs))=false:=by simpa using h0
 by_cases h1:l=[43]
 ·subst h1
  go_enter Tryz.func55,Tryz.ntmps55
  go_wp2_with fail
  go_ret
  exact⟨rfl,rfl⟩
 have e1:(l==([43]:Bs))=false:=by simpa using h1
 by_cases h2:l=[37]
 ·subst h2
  go_enter Tryz.func55,Tryz.ntmps55
  go_wp2_with fail
  go_ret
  exact⟨rfl,rfl⟩
 have e2:(l==([37]:Bs))=false:=by simpa using h2
 have hr:unB l=false:=by unfold unB;simp only[e0,e1,e2,Bool.or_self]
 rw[hr];clear hr
 go_enter Tryz.func55,Tryz.ntmps55
 go_wp2_with fail
 go_ret
 exact⟨rfl,rfl⟩
set_option maxHeartbeats 800000 in
theorem uBJ(l:Bs)(w:World):Calls Tryz.prog 56 #[.string ⟨l.toArray⟩] w fun e w'=>e=.returned (.bool (lG l))∧w=w':=by
 by_cases h0:l=[43]
 ·subst h0
  go_enter Tryz.func56,Tryz.ntmps56
  go_wp2_with fail
  go_ret
  exact⟨rfl,rfl⟩
 have e0:(l==([43]:Bs))=false:=by simpa using h0
 by_cases h1:l=[45]
 ·subst h1
  go_enter Tryz.func56,Tryz.ntmps56
  go_wp2_with fail
  go_ret
  exact⟨rfl,rfl⟩
 have e1:(l==([45]:Bs))=false:=by simpa using h1
 by_cases h2:l=[42]
 ·subst h2
  go_enter Tryz.func56,Tryz.ntmps56
  go_wp2_with fail
  go_ret
  exact⟨rfl,rfl⟩
 have e2:(l==([42]:Bs))=false:=by simpa using h2
 by_cases h3:l=[47]
 ·subst h3
  go_enter Tryz.func56,Tryz.ntmps56
  go_wp2_with fail
  go_ret
  exact⟨rfl,rfl⟩
 have e3:(l==([47]:Bs))=false:=by simpa using h3
 by_cases h4:l=[94]
 ·subst h4
  go_enter Tryz.func56,Tryz.ntmps56
  go_wp2_with fail
  go_ret
  exact⟨rfl,rfl⟩
 have e4:(l==([94]:Bs))=false:=by simpa using h4
 by_cases h5:l=[38]
 ·subst h5
  go_enter Tryz.func56,Tryz.ntmps56
  go_wp2_with fail
  go_ret
  exact⟨rfl,rfl⟩
 have e5:(l==([38]:Bs))=false:=by simpa using h5
 by_cases h6:l=[61]
 ·subst h6
  go_enter Tryz.func56,Tryz.ntmps56
  go_wp2_with fail
  go_ret
  exact⟨rfl,rfl⟩
 have e6:(l==([61]:Bs))=false:=by simpa using h6
 by_cases h7:l=[60,62]
 ·subst h7
  go_enter Tryz.func56,Tryz.ntmps56
  go_wp2_with fail
  go_ret
  exact⟨rfl,rfl⟩
 have e7:(l==([60,62]:Bs))=false:=by simpa using h7
 by_cases h8:l=[60]
 ·subst h8
  go_enter Tryz.func56,Tryz.ntmps56
  go_wp2_with fail
  go_ret
  exact⟨rfl,rfl⟩
 have e8:(l==([60]:Bs))=false:=by simpa using h8
 by_cases h9:l=[60,61]
 ·subst h9
  go_enter Tryz.func56,Tryz.ntmps56
  go_wp2_with fail
  go_ret
  exact⟨rfl,rfl⟩
 have e9:(l==([60,61]:Bs))=false:=by simpa using h9
 by_cases h10:l=[62]
 ·subst h10
  go_enter Tryz.func56,Tryz.ntmps56
  go_wp2_with fail
  go_ret
  exact⟨rfl,rfl⟩
 have e10:(l==([62]:Bs))=false:=by simpa using h10
 by_cases h11:l=[62,61]
 ·subst h11
  go_enter Tryz.func56,Tryz.ntmps56
  go_wp2_with fail
  go_ret
  exact⟨rfl,rfl⟩
 have e11:(l==([62,61]:Bs))=false:=by simpa using h11
 have hr:lG l=false:=by unfold lG;simp only[e0,e1,e2,e3,e4,e5,e6,e7,e8,e9,e10,e11,Bool.or_self]
 rw[hr];clear hr
 go_enter Tryz.func56,Tryz.ntmps56
 go_wp2_with fail
 go_ret
 exact⟨rfl,rfl⟩
def eU(s:Bs):Nat→Nat
 | 0=>0
 | 1=>if aP s 0 82 then 1+aV (s.drop 1) else 0
 | _=>let a:=if aP s 0 82 then 1+aV (s.drop 1) else 0
  if aP s a 67 then a+1+aV (s.drop (a+1)) else a
theorem mE(s:Bs):aV s≤s.length:=bW aC s
theorem uBG(s:Bs):eU s 1≤s.length:=by
 show (if aP s 0 82 then 1+aV (s.drop 1) else 0)≤s.length
 split
 ·rename_i h
  have:=mE (s.drop 1);rw[List.length_drop]at this;have:0<s.length:=by
   cases s with
   | nil=>cases h
   | cons=>simp
  omega
 ·omega
theorem vN(w:World)(C:Array Value)(e:TypeId)(f:Nat×Nat)(i:Nat):(w.alloc (.cells C e f)).cell? ⟨w.heap.size,i,none⟩=C[i]?:=by
 have h:(w.alloc (.cells C e f)).heap[w.heap.size]?=some (.cells C e f):=by
  show (w.heap.push (.cells C e f))[w.heap.size]?=_;simp
 unfold World.cell?;simp only[h];rfl
theorem seen_1(s:Bs):eU s 1=if aP s 0 82 then 0+1+aV (s.drop (0+1)) else 0:=by
 show (if aP s 0 82 then 1+aV (s.drop 1) else 0)=_;rw[Nat.zero_add]
theorem seen_2(s:Bs):eU s 2=if aP s (eU s 1) 67 then eU s 1+1+aV (s.drop (eU s 1+1)) else eU s 1:=rfl
theorem seen_le2(s:Bs):eU s 2≤s.length:=by
 rw[seen_2]
 split
 ·rename_i h
  have h1:=at_lt _ _ _ h;have:=mE (s.drop (eU s 1+1));rw[List.length_drop]at this;omega
 ·exact uBG s
set_option maxRecDepth 100000 in
set_option maxHeartbeats 1600000 in
theorem uIK(l:Bs)(w:World)(hs:l.length≤1000000) :
  Calls Tryz.prog 82 #[.string ⟨l.toArray⟩] w fun e w'=>e=.returned (.bool (jU l))∧Below w.heap.size w w':=by
 have HD:=zh (fun k W=>rL (l.drop k) W (by rw[List.length_drop];unfold maxLen;omega));have HDL:Hid (∀ k,aV (l.drop k)≤l.length-k):=zh (fun k=>by have:=mE (l.drop k);rwa [List.length_drop]at this);have HR:Hid (jU l=decide (eU l 2=l.length)):=zh rfl;have HL1:=zh (uBG l);have HL2:=zh (seen_le2 l);have HB:Hid (Below w.heap.size w (w.alloc (.cells #[.int .u8 82,.int .u8 67] 5 (2,3)))):=zh ((Below.refl _ _).alloc (Nat.le_refl _) _);have HI:Hid ((w.alloc (.cells #[.int .u8 82,.int .u8 67] 5 (2,3))).cell? ⟨w.heap.size,0,none⟩=some (.int .u8 82)∧(w.alloc (.cells #[.int .u8 82,.int .u8 67] 5 (2,3))).cell? ⟨w.heap.size,1,none⟩=some (.int .u8 67)):=zh ⟨vN _ _ _ _ 0,vN _ _ _ _ 1⟩;have hcv:=Lib.run_convert_bytes_const (P:=Tryz.prog) w 77 5 #[.int .u8 82,.int .u8 67] 2 2 Tryz.underlying77 Tryz.underlying5
 simp only[List.size_toArray,List.length_cons,List.length_nil,Nat.zero_add,Nat.reduceAdd]at hcv
 go_enter Tryz.func82,Tryz.ntmps82
 go_wp2_with fail
 clear hcv;generalize w.alloc (.cells #[.int .u8 82,.int .u8 67] 5 (2,3))=W1 at HB HI ⊢;generalize w.heap.size=q at HI ⊢
 go_loop [3,9] (fun a i=>∃ k n:Nat,k≤2∧n=eU l k∧i=.int .i64 (k:Int)∧a=.int .i64 (n:Int)) (fun _ i=>2-(intOf i).toNat)
 case atStart=>exact⟨0,0,by omega,rfl,rfl,rfl⟩
 case round=>
  obtain⟨k,n,hk,hn,rfl,rfl⟩:=hrel;obtain⟨x0,x1⟩:=HI.out;rcases(by omega:k=2∨k=0∨k=1) with rfl | rfl | rfl
  ·have HN:=zh hn;clear hn x0 x1;have hnl:(n:Int)≤(l.length:Int):=by have:=HL2.out;have:=HN.out;omega
   go_wp2_with fail
   go_ret
   refine⟨?_,HB.out⟩;rw[HR.out,← HN.out];have e:((n:Int)==(l.length:Int))=decide (n=l.length):=by rw[Bool.eq_iff_iff];simp;try omega
   show Ending.returned (.bool ((n:Int)==(l.length:Int)))=_;rw[e]
  ·have hst:eU l 1=if aP l n 82 then n+1+aV (l.drop (n+1)) else n:=by have h0:n=0:=hn;rw[h0];exact seen_1 l
   have hnl:n≤l.length:=by have h0:n=0:=hn;omega
   have HST:=zh hst;clear hst hn hk;by_cases hlt:n<l.length
   ·have hb:=gS l n 82 82 rfl hlt;cases hat:aP l n 82 with
    | true=>
     rw[hat]at hb;have HN:Hid (eU l 1=n+1+aV (l.drop (n+1))):=zh (by rw[HST.out,hat];rfl);have hdl:=HDL.out (n+1);have HD1:=zh (HD.out (n+1));clear HST hat;generalize hdd:aV (l.drop (n+1))=m at *;clear hdd
     go_wp2_with fail
     refine(HD1.out _).mono ?_;rintro e w' ⟨rfl,rfl⟩
     go_wp2_with fail
     go_round
     case rel=>exact⟨1,n+1+m,by omega,HN.out.symm,rfl,by go_num⟩
     case measure=>simp[intOf]
    | false=>
     rw[hat]at hb;have HN:Hid (eU l 1=n):=zh (by rw[HST.out,hat];rfl);clear HST hat
     go_wp2_with fail
     go_round
     case rel=>exact⟨1,n,by omega,HN.out.symm,rfl,rfl⟩
     case measure=>simp[intOf]
   ·have HN:Hid (eU l 1=n):=zh (by rw[HST.out,iE l n 82 (by omega)];rfl);have hnl2:¬ (n:Int)<(l.length:Int):=by omega
    clear HST
    go_wp2_with fail
    go_round
    case rel=>exact⟨1,n,by omega,HN.out.symm,rfl,rfl⟩
    case measure=>simp[intOf]
  ·have hst:eU l 2=if aP l n 67 then n+1+aV (l.drop (n+1)) else n:=by rw[hn];exact seen_2 l
   have hnl:n≤l.length:=by have:=HL1.out;omega
   have HST:=zh hst;clear hst hn hk;by_cases hlt:n<l.length
   ·have hb:=gS l n 67 67 rfl hlt;cases hat:aP l n 67 with
    | true=>
     rw[hat]at hb;have HN:Hid (eU l 2=n+1+aV (l.drop (n+1))):=zh (by rw[HST.out,hat];rfl);have hdl:=HDL.out (n+1);have HD1:=zh (HD.out (n+1));clear HST hat;generalize hdd:aV (l.drop (n+1))=m at *;clear hdd
     go_wp2_with fail
     refine(HD1.out _).mono ?_;rintro e w' ⟨rfl,rfl⟩
     go_wp2_with fail
     go_round
     case rel=>exact⟨2,n+1+m,by omega,HN.out.symm,rfl,by go_num⟩
     case measure=>simp[intOf]
    | false=>
     rw[hat]at hb;have HN:Hid (eU l 2=n):=zh (by rw[HST.out,hat];rfl);clear HST hat
     go_wp2_with fail
     go_round
     case rel=>exact⟨2,n,by omega,HN.out.symm,rfl,rfl⟩
     case measure=>simp[intOf]
   ·have HN:Hid (eU l 2=n):=zh (by rw[HST.out,iE l n 67 (by omega)];rfl);have hnl2:¬ (n:Int)<(l.length:Int):=by omega
    clear HST
    go_wp2_with fail
    go_round
    case rel=>exact⟨2,n,by omega,HN.out.symm,rfl,rfl⟩
    case measure=>simp[intOf]
end Go.Proofs.YtmgjidnalpgegaaGreatDoor
