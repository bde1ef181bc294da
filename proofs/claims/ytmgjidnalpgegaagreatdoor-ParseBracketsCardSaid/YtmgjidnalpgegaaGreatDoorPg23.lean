/-
  Lemmas, part 23: PaQ.
-/
import Derived.Test.YtmgjidnalpgegaaGreatDoorPg22
namespace Go.Proofs.YtmgjidnalpgegaaGreatDoor
open Go.RowKit
theorem infoCor:(Tryz.prog.info? 36).map (·.size)=some 6:=by kernel_rfl
theorem uFF:(Tryz.prog.info? 34).map (·.size)=some 2:=by kernel_rfl
theorem ek{b:Bool}{h:Prop}[Decidable h](e:decide h=b):(b=true↔h):=by rw[← e];simp
set_option maxRecDepth 1000000 in
set_option maxHeartbeats 12800000 in
theorem uEO:∀ (m:Nat) (t:Tree) (above:Int) (g o:Nat) (w:World),t.size≤m→t.size≤1000000→t.fine→g<w.heap.size→NodeAt w [] g o t →
  Calls Tryz.prog 38 #[.pointer (some ⟨g,o,none⟩),.int .i64 above] w fun e w'=>e=.returned (.bool (t.right above))∧Below w.heap.size w w':=by
 intro m
 induction m with
 | zero=>intro t _ _ _ _ hs;cases t;simp[Tree.size]at hs
 | succ m ih=>
 rintro⟨h,l⟩ above g o w hs hs1 ⟨hfine,hfl⟩ hg ⟨A,cp,hcs,hks⟩;have HN:Hid (NodeIn w g o h A l.length cp):=zh ⟨hg,hcs⟩;have HLB:Hid (l.length≤1000000):=zh (by have h1:=tF l;have h2:dN l+1≤1000000:=hs1;omega);have HKS:=zh hks;have HF:=zh hfine;have HK:Hid (∀ (i:Nat) (hi:i<l.length),∃ g',A=some ⟨g',0,none⟩∧∀ W:World,Below w.heap.size w W→W.cell? ⟨g',i*22,none⟩=some (.int .i64 (l[i]'hi).h.kind)∧∀ k:Int,Calls Tryz.prog 38 #[.pointer (some ⟨g',i*22,none⟩),.int .i64 k] W fun e w'=>e=.returned (.bool ((l[i]'hi).right k))∧Below W.heap.size W w'):=zh (by
  intro i hi;rcases hks with h0 | ⟨g',hA,hx,hg',hka⟩
  ·subst h0;exact absurd hi (by simp)
  ·have hn:=KidsAt.get i hi hka;rw[Nat.zero_add]at hn;refine⟨g',hA,fun W hW=>?_⟩;have hkp:Kp [] w W:=Kp.of_below hW;have hnW:=NodeAt.kp hkp hg' hx hn;refine⟨?_,fun k=>ih _ k g' (i*22) W ?_ ?_ (vS i hi hfl) (Nat.lt_of_lt_of_le hg' hkp.size) hnW⟩
   ·generalize l[i]=u at *;cases u with
    | mk uh ul=>
     obtain⟨A2,c2,h1,_⟩:=hnW;exact h1 0 (by decide)
   ·have h9:(l[i]'hi).size<(Tree.mk h l).size:=pQ (t:=.mk h l) (i:=i) hi;omega
   ·have h9:(l[i]'hi).size<(Tree.mk h l).size:=pQ (t:=.mk h l) (i:=i) hi;omega)
 clear ih hs hs1 hfine hfl hcs hks;have hS:Tree.right (.mk h l) above=(bE h l.length (l.map fun t=>t.h.kind) above&&bN l h.kind):=rfl;rw[hS];clear hS;obtain⟨RB,hRB⟩:∃ x,bE h l.length (l.map fun t=>t.h.kind) above=x:=⟨_,rfl⟩
 rw[hRB];have HRB:=zh hRB;clear hRB;have nz:∀ A:Option Addr,∀ c:Nat,True:=fun _ _=>trivial
 clear nz
 go_enter Tryz.func38,Tryz.ntmps38
 refine wp_seq ?_;have HBk:Hid (Below w.heap.size w w):=zh (Below.refl _ _);obtain⟨TT,hTT⟩:∃ TT:List (Nat×Nat×Value),TT=((0,4,.bool false)::[]):=⟨_,rfl⟩
 have HTT:=zh hTT;clear hTT;refine bA (fun a0=>287≤a0.tmps.size∧a0.eval (.tmp 0)=.pointer (some ⟨g,o,none⟩)∧a0.eval (.tmp 1)=.int .i64 above) (4::[]) TT [] (fun w'=>Below w.heap.size w w') (by kernel_rfl) ⟨by simp,rfl,rfl⟩ HBk.out ?_ ?_
 ·rintro a0 ⟨hs,hq0,hq1⟩ zl a1 w1 zj o hsz hI hun ho zd;have hb1:Below w.heap.size w w1:=hI.st;have hTT:=HTT.out;have hk:okU (TT.map fun e=>(e.1,e.2.1)) (4::[]) 287=true:=by rw[hTT];rfl
  subst hTT;have e0x:=aA ((hI.off.eval (by decide)).trans hq0);have e1x:=aA ((hI.off.eval (by decide)).trans hq1);have hj:=Up.of_false hun;have hj12:zj<1:=by rw[hsz]at hj;exact hj
  have G:RG _ _ _ _ _ _ _ _ _ _ _:=⟨hk,hI,hs,hun,ho,zd⟩
  rcases(by omega:zj=0) with rfl
  ·obtain rfl:=oi ho;exact G.nl 0 rfl (by simp[execOp,go_sem])
 ·intro zl a1 w1 hI hup;have hb1:Below w.heap.size w w1:=hI.st;have hTT:=HTT.out;subst hTT;have z4:=hI.ptk 0 rfl (hup 0 (by decide));have hO:=hI.off;clear hI hup HTT;have hR:RF a1 g o above:=⟨by rw[hO.size];simp,(hO.eval (by decide)).trans rfl,(hO.eval (by decide)).trans rfl,hO.defers.trans rfl⟩
  clear hO;replace HBk:=zh hb1;clear z4;generalize a1=a2 at *;generalize w1=w2 at *;simp only[Exit.then];refine wp_seq ?_;obtain⟨TT,hTT⟩:∃ TT:List (Nat×Nat×Value),TT=((0,5,.bool false)::[]):=⟨_,rfl⟩
  have HTT:=zh hTT;clear hTT;refine bA (fun a0=>287≤a0.tmps.size∧a0.eval (.tmp 0)=.pointer (some ⟨g,o,none⟩)∧a0.eval (.tmp 1)=.int .i64 above) (5::[]) TT [] (fun w'=>Below w.heap.size w w') (by kernel_rfl) ⟨hR.sz,hR.s0,hR.s1⟩ HBk.out ?_ ?_
  ·rintro a0 ⟨hs,hq0,hq1⟩ zl a1 w1 zj o hsz hI hun ho zd;have hb1:Below w.heap.size w w1:=hI.st;have hTT:=HTT.out;have hk:okU (TT.map fun e=>(e.1,e.2.1)) (5::[]) 287=true:=by rw[hTT];rfl
   subst hTT;have e0x:=aA ((hI.off.eval (by decide)).trans hq0);have e1x:=aA ((hI.off.eval (by decide)).trans hq1);have hj:=Up.of_false hun;have hj12:zj<1:=by rw[hsz]at hj;exact hj
   have G:RG _ _ _ _ _ _ _ _ _ _ _:=⟨hk,hI,hs,hun,ho,zd⟩
   rcases(by omega:zj=0) with rfl
   ·obtain rfl:=oi ho;exact G.nl 0 rfl (by simp[execOp,go_sem])
  ·intro zl a1 w1 hI hup;have hb1:Below w.heap.size w w1:=hI.st;have hTT:=HTT.out;subst hTT;have z5:=hI.ptk 0 rfl (hup 0 (by decide));have hO:=hI.off;clear hI hup HTT;replace hR:=hR.off hO (by decide) (by decide);clear hO;replace HBk:=zh hb1;generalize a1=a3 at *;generalize w1=w3 at *;simp only[Exit.then];refine wp_seq ?_;refine wp_seq ?_;obtain⟨TT,hTT⟩:∃ TT:List (Nat×Nat×Value),TT=((0,7,.pointer (some ⟨g,o,none⟩))::(1,8,.pointer (some ⟨g,o,none⟩))::(2,9,.pointer (some ⟨g,o,none⟩))::(3,10,.int .i64 h.kind)::[]):=⟨_,rfl⟩
   have HTT:=zh hTT;clear hTT;refine bA (fun a0=>287≤a0.tmps.size∧a0.eval (.tmp 0)=.pointer (some ⟨g,o,none⟩)∧a0.eval (.tmp 1)=.int .i64 above) (7::8::9::10::[]) TT [] (fun w'=>Below w.heap.size w w') (by kernel_rfl) ⟨hR.sz,hR.s0,hR.s1⟩ HBk.out ?_ ?_
   ·rintro a0 ⟨hs,hq0,hq1⟩ zl a1 w1 zj o hsz hI hun ho zd;have hb1:Below w.heap.size w w1:=hI.st;have hTT:=HTT.out;have hk:okU (TT.map fun e=>(e.1,e.2.1)) (7::8::9::10::[]) 287=true:=by rw[hTT];rfl
    subst hTT;have e0x:=aA ((hI.off.eval (by decide)).trans hq0);have e1x:=aA ((hI.off.eval (by decide)).trans hq1);have hj:=Up.of_false hun;have hj12:zj<4:=by rw[hsz]at hj;exact hj
    have G:RG _ _ _ _ _ _ _ _ _ _ _:=⟨hk,hI,hs,hun,ho,zd⟩
    rcases(by omega:zj=0∨zj=1∨zj=2∨zj=3) with rfl | rfl | rfl | rfl
    ·obtain rfl:=oi ho;exact G.nl 0 rfl (by simp[execOp,go_sem,e0x])
    ·obtain rfl:=oi ho;have p0:=G.d 0 rfl;exact G.nl 1 rfl (by simp[execOp,go_sem,aA p0])
    ·obtain rfl:=oi ho;have p1:=G.d 1 rfl;exact G.nl 2 rfl (by simp[execOp,go_sem,aA p1])
    ·obtain rfl:=oi ho;have hn1:=NodeIn.kp HN.out (Kp.of_below hb1);have x0:w1.cell? ⟨g,o,none⟩=some (.int .i64 h.kind):=hn1.2 0 (by decide);have p2:=G.d 2 rfl;exact G.nl 3 rfl (by simp[execOp,go_sem,aA p2,x0])
   ·intro zl a1 w1 hI hup;have hb1:Below w.heap.size w w1:=hI.st;have hTT:=HTT.out;subst hTT;have z10:=hI.ptk 3 rfl (hup 3 (by decide));have hO:=hI.off;clear hI hup HTT;replace hR:=hR.off hO (by decide) (by decide);replace z5:=(hO.eval (by decide)).trans z5;clear hO;replace HBk:=zh hb1;generalize a1=a4 at *;generalize w1=w4 at *;simp only[Exit.then];refine wp_mono (Q:=fun e a' w'=>e=.normal∧RF a' g o above∧a'.eval (.tmp 5)=.bool RB∧Below w.heap.size w w') ?blk ?rest
    case blk=>
     refine wp_block ?_;refine wp_seq ?_;by_cases k0:h.kind=0
     ·refine eV true z10 (by simp[k0]) (by have:=hR.sz;omega) (by have:=hR.sz;omega) (fun a' hO hz=>?_);replace hR:=hR.off hO (by decide) (by decide);replace z10:=(hO.eval (by decide)).trans z10;replace z5:=(hO.eval (by decide)).trans z5;clear hO;simp only[Exit.then];refine wp_cond_true hz ?_;obtain⟨e8,he8⟩:∃ x,(above==8)=x:=⟨_,rfl⟩
      obtain⟨b0,hb0⟩:∃ x,cL h.v e8=x:=⟨_,rfl⟩
      obtain⟨s1,hs1⟩:∃ x,(NodeH.same h ⟨0,h.v,[],aH,aH,0⟩&&decide (l.length=0))=x:=⟨_,rfl⟩
      obtain⟨c1,hc1⟩:∃ x,x=(b0&&s1):=⟨_,rfl⟩
      have HL:RB=c1:=by
       rw[← HRB.out];unfold bE;rw[if_pos k0,hc1,← hb0,← hs1,show decide (above=8)=e8 from by rw[← he8,Bool.eq_iff_iff];simp,Bool.and_assoc]
      obtain⟨TT,hTT⟩:∃ TT:List (Nat×Nat×Value),TT=((0,13,.pointer (some ⟨g,o,none⟩))::(1,14,.pointer (some ⟨g,o,none⟩))::(2,15,.pointer (some ⟨g,o+1,none⟩))::(3,16,rQ h.v)::(4,17,.int .i64 above)::(5,18,.bool e8)::(6,19,.bool b0)::(7,20,.bool b0)::(8,21,(bif b0 then .pointer (some ⟨g,o,none⟩) else undef))::(9,22,(bif b0 then .pointer (some ⟨g,o,none⟩) else undef))::(10,23,(bif b0 then .pointer (some ⟨g,o,none⟩) else undef))::(11,24,(bif b0 then .pointer (some ⟨g,o+1,none⟩) else undef))::(12,25,(bif b0 then rQ h.v else undef))::(13,26,(bif b0 then dS ⟨0,h.v,[],aH,aH,0⟩ none 0 0 else undef))::(14,27,(bif b0 then .bool s1 else undef))::(15,28,.bool c1)::(16,5,.bool c1)::[]):=⟨_,rfl⟩
      have HTT:=zh hTT;clear hTT;refine bA (fun a0=>287≤a0.tmps.size∧a0.eval (.tmp 0)=.pointer (some ⟨g,o,none⟩)∧a0.eval (.tmp 1)=.int .i64 above) (13::14::15::16::17::18::19::20::21::22::23::24::25::26::27::28::5::[]) TT [] (fun w'=>Below w.heap.size w w') (by kernel_rfl) ⟨hR.sz,hR.s0,hR.s1⟩ HBk.out ?_ ?_
      ·rintro a0 ⟨hs,hq0,hq1⟩ zl a1 w1 zj o hsz hI hun ho zd;have hb1:Below w.heap.size w w1:=hI.st;have hTT:=HTT.out;have hk:okU (TT.map fun e=>(e.1,e.2.1)) (13::14::15::16::17::18::19::20::21::22::23::24::25::26::27::28::5::[]) 287=true:=by rw[hTT];rfl
       subst hTT;have e0x:=aA ((hI.off.eval (by decide)).trans hq0);have e1x:=aA ((hI.off.eval (by decide)).trans hq1);have hj:=Up.of_false hun;have hj12:zj<17:=by rw[hsz]at hj;exact hj
       have G:RG _ _ _ _ _ _ _ _ _ _ _:=⟨hk,hI,hs,hun,ho,zd⟩
       rcases(by omega:zj=0∨zj=1∨zj=2∨zj=3∨zj=4∨zj=5∨zj=6∨zj=7∨zj=8∨zj=9∨zj=10∨zj=11∨zj=12∨zj=13∨zj=14∨zj=15∨zj=16) with rfl | rfl | rfl | rfl | rfl | rfl | rfl | rfl | rfl | rfl | rfl | rfl | rfl | rfl | rfl | rfl | rfl
       ·obtain rfl:=oi ho;exact G.nl 0 rfl (by simp[execOp,go_sem,e0x])
       ·obtain rfl:=oi ho;have p0:=G.d 0 rfl;exact G.nl 1 rfl (by simp[execOp,go_sem,aA p0])
       ·obtain rfl:=oi ho;have p1:=G.d 1 rfl;exact G.nl 2 rfl (by simp[execOp,go_sem,aA p1])
       ·obtain rfl:=oi ho;have hn1:=NodeIn.kp HN.out (Kp.of_below hb1);have p2:=G.d 2 rfl;exact G.nl 3 rfl (aL 32 (.tmp 15) rfl g (o+1) p2 _ _ (hn1.sub 1 [.int .i64 h.v.kind,.int .i64 h.v.mant,.int .i64 h.v.exp,.string ⟨h.v.text.toArray⟩,.bool h.v.truth,.int .i64 h.v.fault] (by simp) rfl) Tryz.underlying32 rfl jA)
       ·obtain rfl:=oi ho;exact G.nl 4 rfl (by simp[execOp,go_sem,e1x])
       ·obtain rfl:=oi ho;have p4:=G.d 4 rfl;exact G.nl 5 rfl (by simp[execOp,go_sem,aA p4,he8])
       ·obtain rfl:=oi ho;have p3:=G.d 3 rfl;have p5:=G.d 5 rfl;refine dA (inT 6 rfl) hk hI hs hun ho zd (aD rfl) rfl 51 #[rQ h.v,.bool e8] (by simp[go_sem,aA p3,aA p5]) ?_;have hB:=tLit_any h.v e8 w1 HF.out.1 HF.out.2.1 HF.out.2.2.1;rw[hb0]at hB;refine hB.mono ?_;rintro e w2 ⟨rfl,hb⟩;exact⟨rfl,hb1.trans (hb.mono hb1.size)⟩
       ·obtain rfl:=oi ho;have p6:=G.d 6 rfl;exact G.nl 7 rfl (by simp[execOp,go_sem,aA p6])
       ·obtain rfl:=oi ho;have pg:=G.g 7 rfl;cases b0 with
        | false=>exact G.sk 8 rfl pg rfl
        | true=>
         exact G.vl 8 rfl pg rfl (by simp[execOp,go_sem,e0x])
       ·obtain rfl:=oi ho;have pg:=G.g 7 rfl;cases b0 with
        | false=>exact G.sk 9 rfl pg rfl
        | true=>
         exact G.vl 9 rfl pg rfl (by simp[execOp,go_sem,e0x])
       ·obtain rfl:=oi ho;have pg:=G.g 7 rfl;cases b0 with
        | false=>exact G.sk 10 rfl pg rfl
        | true=>
         have p9:=G.d 9 rfl;exact G.vl 10 rfl pg rfl (by simp[execOp,go_sem,aA p9])
       ·obtain rfl:=oi ho;have pg:=G.g 7 rfl;cases b0 with
        | false=>exact G.sk 11 rfl pg rfl
        | true=>
         have p10:=G.d 10 rfl;exact G.vl 11 rfl pg rfl (by simp[execOp,go_sem,aA p10])
       ·obtain rfl:=oi ho;have pg:=G.g 7 rfl;cases b0 with
        | false=>exact G.sk 12 rfl pg rfl
        | true=>
         have hn1:=NodeIn.kp HN.out (Kp.of_below hb1);have p11:=G.d 11 rfl;exact G.vl 12 rfl pg rfl (aL 32 (.tmp 24) rfl g (o+1) p11 _ _ (hn1.sub 1 [.int .i64 h.v.kind,.int .i64 h.v.mant,.int .i64 h.v.exp,.string ⟨h.v.text.toArray⟩,.bool h.v.truth,.int .i64 h.v.fault] (by simp) rfl) Tryz.underlying32 rfl jA)
       ·obtain rfl:=oi ho;have pg:=G.g 7 rfl;cases b0 with
        | false=>exact G.sk 13 rfl pg rfl
        | true=>
         have p12:=G.d 12 rfl;exact G.vl 13 rfl pg rfl (by simp[execOp,go_sem,aA p12,dS,bX])
       ·obtain rfl:=oi ho;have pg:=G.g 7 rfl;cases b0 with
        | false=>exact G.sk 14 rfl pg rfl
        | true=>
         have p8:=G.d 8 rfl;have p13:=G.d 13 rfl;refine dA (inT 14 rfl) hk hI hs hun ho zd (Eq.trans (aN rfl rfl rfl pg) rfl) rfl 52 #[.pointer (some ⟨g,o,none⟩),dS ⟨0,h.v,[],aH,aH,0⟩ none 0 0] (by simp[go_sem,aA p8,aA p13]) ?_;have hn1:=NodeIn.kp HN.out (Kp.of_below hb1);have hB:=fQ h ⟨0,h.v,[],aH,aH,0⟩ A none l.length 0 cp 0 g o w1 hn1;dsimp only at hB;rw[k0]at hB;rw[hs1]at hB;refine hB.mono ?_;rintro e w2 ⟨rfl,hb⟩;exact⟨rfl,hb1.trans (hb.mono hb1.size)⟩
       ·obtain rfl:=oi ho;cases b0
        all_goals have p7:=G.d 7 rfl
        all_goals have p14:=G.d 14 rfl
        all_goals exact G.nl 15 rfl (by simp[execOp,go_sem,aA p7,aA p14,hc1])
       ·obtain rfl:=oi ho;have p15:=G.d 15 rfl;exact G.nl 16 rfl (by simp[execOp,go_sem,aA p15])
      ·intro zl a1 w1 hI hup;have hb1:Below w.heap.size w w1:=hI.st;have hTT:=HTT.out;subst hTT;have z5:=hI.ptk 16 rfl (hup 16 (by decide));have hO:=hI.off;clear hI hup HTT;exact⟨rfl,hR.off hO (by decide) (by decide),by rw[z5,HL],hb1⟩
     ·refine eV false z10 (by simp[k0]) (by have:=hR.sz;omega) (by have:=hR.sz;omega) (fun a' hO hz=>?_);replace hR:=hR.off hO (by decide) (by decide);replace z10:=(hO.eval (by decide)).trans z10;replace z5:=(hO.eval (by decide)).trans z5;clear hO;simp only[Exit.then];refine wp_cond_false hz ?_;refine wp_seq ?_;refine wp_mono (Q:=fun e a' w'=>e=.normal∧w'=w4∧RF a' g o above∧a'.eval (.tmp 10)=.int .i64 h.kind∧a'.eval (.tmp 5)=.bool false∧a'.eval (.tmp 29)=.bool (decide (h.kind=1)||decide (h.kind=3))) ?c13 ?r13
      case c13=>
       refine wp_seq ?_;by_cases k1:h.kind=1
       ·refine eV true z10 (by simp[k1]) (by have:=hR.sz;omega) (by have:=hR.sz;omega) (fun a' hO hz=>?_);simp only[Exit.then];refine wp_cond_true hz (wp_skip ?_);exact⟨rfl,rfl,hR.off hO (by decide) (by decide),(hO.eval (by decide)).trans z10,(hO.eval (by decide)).trans z5,by rw[hz,k1];rfl⟩
       ·refine eV false z10 (by simp[k1]) (by have:=hR.sz;omega) (by have:=hR.sz;omega) (fun a' hO hz=>?_);replace hR:=hR.off hO (by decide) (by decide);replace z10:=(hO.eval (by decide)).trans z10;replace z5:=(hO.eval (by decide)).trans z5;clear hO;simp only[Exit.then];refine wp_cond_false hz ?_;clear hz;refine eV (h.kind==3) z10 rfl (by have:=hR.sz;omega) (by have:=hR.sz;omega) (fun a' hO hz=>?_);exact⟨rfl,rfl,hR.off hO (by decide) (by decide),(hO.eval (by decide)).trans z10,(hO.eval (by decide)).trans z5,by rw[hz,show decide (h.kind=1)=false from decide_eq_false k1,Bool.false_or,Bool.eq_iff_iff.2 (show (h.kind==3)=true↔decide (h.kind=3)=true by simp)]⟩
      case r13=>
       rintro e a' w' ⟨rfl,rfl,hR,z10,z5,hz⟩;simp only[Exit.then];by_cases k13:h.kind=1∨h.kind=3
       ·refine wp_cond_true (by rw[hz];rcases k13 with k | k <;> simp[k]) ?_;obtain⟨r,hr⟩:∃ x,decide (h.a.row≠id0)=x:=⟨_,rfl⟩
        obtain⟨k,hk⟩:∃ x,decide (h.a.col≠id0)=x:=⟨_,rfl⟩
        obtain⟨s1,hs1⟩:∃ x,(NodeH.same h ⟨h.kind,aF,[],h.a,aH,0⟩&&decide (l.length=0))=x:=⟨_,rfl⟩
        obtain⟨c1,hc1⟩:∃ x,x=(r&&k):=⟨_,rfl⟩
        obtain⟨c2,hc2⟩:∃ x,x=(c1&&s1):=⟨_,rfl⟩
        have N1:∀ w:World,(binOp .neq 34 (idV h.a.row) (idV id0)).run Tryz.prog w=.ok (.bool r) w:=fun w=>by rw[mP,hr]
        have N2:∀ w:World,(binOp .neq 34 (idV h.a.col) (idV id0)).run Tryz.prog w=.ok (.bool k) w:=fun w=>by rw[mP,hk]
        have HL:RB=c2:=by
         rw[← HRB.out];unfold bE;rw[if_neg k0,if_pos k13,hc2,hc1,← hr,← hk,← hs1];simp only[Bool.and_assoc]
        obtain⟨TT,hTT⟩:∃ TT:List (Nat×Nat×Value),TT=((0,32,.pointer (some ⟨g,o,none⟩))::(1,33,.pointer (some ⟨g,o,none⟩))::(2,34,.pointer (some ⟨g,o+8,none⟩))::(3,35,.pointer (some ⟨g,o+8,none⟩))::(4,36,.pointer (some ⟨g,o+8,none⟩))::(5,37,idV h.a.row)::(6,38,idV id0)::(7,39,.bool r)::(8,40,.bool r)::(9,41,(bif r then .pointer (some ⟨g,o,none⟩) else undef))::(10,42,(bif r then .pointer (some ⟨g,o,none⟩) else undef))::(11,43,(bif r then .pointer (some ⟨g,o+8,none⟩) else undef))::(12,44,(bif r then .pointer (some ⟨g,o+8,none⟩) else undef))::(13,45,(bif r then .pointer (some ⟨g,o+10,none⟩) else undef))::(14,46,(bif r then idV h.a.col else undef))::(15,47,(bif r then idV id0 else undef))::(16,48,(bif r then .bool k else undef))::(17,49,.bool c1)::(18,50,.bool c1)::(19,51,(bif c1 then .pointer (some ⟨g,o,none⟩) else undef))::(20,52,(bif c1 then .pointer (some ⟨g,o,none⟩) else undef))::(21,53,(bif c1 then .pointer (some ⟨g,o,none⟩) else undef))::(22,54,(bif c1 then .pointer (some ⟨g,o+8,none⟩) else undef))::(23,55,(bif c1 then .pointer (some ⟨g,o+8,none⟩) else undef))::(24,56,(bif c1 then .agg ([.int .i64 h.a.row.a,.int .i64 h.a.row.n,.int .i64 h.a.col.a,.int .i64 h.a.col.n,.bool h.a.fr,.bool h.a.fc]:List Value).toArray else undef))::(25,57,(bif c1 then arV h.a aH else undef))::(26,58,(bif c1 then dS ⟨0,aF,[],h.a,aH,0⟩ none 0 0 else undef))::(27,59,(bif c1 then .bool s1 else undef))::(28,60,.bool c2)::(29,5,.bool c2)::[]):=⟨_,rfl⟩
        have HTT:=zh hTT;clear hTT;refine bA (fun a0=>287≤a0.tmps.size∧a0.eval (.tmp 0)=.pointer (some ⟨g,o,none⟩)∧a0.eval (.tmp 1)=.int .i64 above) (32::33::34::35::36::37::38::39::40::41::42::43::44::45::46::47::48::49::50::51::52::53::54::55::56::57::58::59::60::5::[]) TT [] (fun w'=>Below w.heap.size w w') (by kernel_rfl) ⟨hR.sz,hR.s0,hR.s1⟩ HBk.out ?_ ?_
        ·rintro a0 ⟨hs,hq0,hq1⟩ zl a1 w1 zj o hsz hI hun ho zd;have hb1:Below w.heap.size w w1:=hI.st;have hTT:=HTT.out;have hk:okU (TT.map fun e=>(e.1,e.2.1)) (32::33::34::35::36::37::38::39::40::41::42::43::44::45::46::47::48::49::50::51::52::53::54::55::56::57::58::59::60::5::[]) 287=true:=by rw[hTT];rfl
         subst hTT;have e0x:=aA ((hI.off.eval (by decide)).trans hq0);have e1x:=aA ((hI.off.eval (by decide)).trans hq1);have hj:=Up.of_false hun;have hj12:zj<30:=by rw[hsz]at hj;exact hj
         have G:RG _ _ _ _ _ _ _ _ _ _ _:=⟨hk,hI,hs,hun,ho,zd⟩
         rcases(by omega:zj=0∨zj=1∨zj=2∨zj=3∨zj=4∨zj=5∨zj=6∨zj=7∨zj=8∨zj=9∨zj=10∨zj=11∨zj=12∨zj=13∨zj=14∨zj=15∨zj=16∨zj=17∨zj=18∨zj=19∨zj=20∨zj=21∨zj=22∨zj=23∨zj=24∨zj=25∨zj=26∨zj=27∨zj=28∨zj=29) with rfl | rfl | rfl | rfl | rfl | rfl | rfl | rfl | rfl | rfl | rfl | rfl | rfl | rfl | rfl | rfl | rfl | rfl | rfl | rfl | rfl | rfl | rfl | rfl | rfl | rfl | rfl | rfl | rfl | rfl
         ·obtain rfl:=oi ho;exact G.nl 0 rfl (by simp[execOp,go_sem,e0x])
         ·obtain rfl:=oi ho;have p0:=G.d 0 rfl;exact G.nl 1 rfl (by simp[execOp,go_sem,aA p0])
         ·obtain rfl:=oi ho;have p1:=G.d 1 rfl;exact G.nl 2 rfl (by simp[execOp,go_sem,aA p1])
         ·obtain rfl:=oi ho;have p2:=G.d 2 rfl;exact G.nl 3 rfl (by simp[execOp,go_sem,aA p2])
         ·obtain rfl:=oi ho;have p3:=G.d 3 rfl;exact G.nl 4 rfl (by simp[execOp,go_sem,aA p3])
         ·obtain rfl:=oi ho;have hn1:=NodeIn.kp HN.out (Kp.of_below hb1);have p4:=G.d 4 rfl;exact G.nl 5 rfl (aL 34 (.tmp 36) rfl g (o+8) p4 _ _ (hn1.sub 8 [.int .i64 h.a.row.a,.int .i64 h.a.row.n] (by simp) rfl) Tryz.underlying34 rfl uFF)
         ·obtain rfl:=oi ho;exact G.nl 6 rfl (by simp[execOp,go_sem])
         ·obtain rfl:=oi ho;have p5:=G.d 5 rfl;have p6:=G.d 6 rfl;exact G.nl 7 rfl (by simp[execOp,go_sem,aA p5,aA p6,N1])
         ·obtain rfl:=oi ho;have p7:=G.d 7 rfl;exact G.nl 8 rfl (by simp[execOp,go_sem,aA p7])
         ·obtain rfl:=oi ho;have pg:=G.g 8 rfl;cases r with
          | false=>exact G.sk 9 rfl pg rfl
          | true=>
           exact G.vl 9 rfl pg rfl (by simp[execOp,go_sem,e0x])
         ·obtain rfl:=oi ho;have pg:=G.g 8 rfl;cases r with
          | false=>exact G.sk 10 rfl pg rfl
          | true=>
           have p9:=G.d 9 rfl;exact G.vl 10 rfl pg rfl (by simp[execOp,go_sem,aA p9])
         ·obtain rfl:=oi ho;have pg:=G.g 8 rfl;cases r with
          | false=>exact G.sk 11 rfl pg rfl
          | true=>
           have p10:=G.d 10 rfl;exact G.vl 11 rfl pg rfl (by simp[execOp,go_sem,aA p10])
         ·obtain rfl:=oi ho;have pg:=G.g 8 rfl;cases r with
          | false=>exact G.sk 12 rfl pg rfl
          | true=>
           have p11:=G.d 11 rfl;exact G.vl 12 rfl pg rfl (by simp[execOp,go_sem,aA p11])
         ·obtain rfl:=oi ho;have pg:=G.g 8 rfl;cases r with
          | false=>exact G.sk 13 rfl pg rfl
          | true=>
           have p12:=G.d 12 rfl;exact G.vl 13 rfl pg rfl (by simp[execOp,go_sem,aA p12])
         ·obtain rfl:=oi ho;have pg:=G.g 8 rfl;cases r with
          | false=>exact G.sk 14 rfl pg rfl
          | true=>
           have hn1:=NodeIn.kp HN.out (Kp.of_below hb1);have p13:=G.d 13 rfl;exact G.vl 14 rfl pg rfl (aL 34 (.tmp 45) rfl g (o+10) p13 _ _ (hn1.sub 10 [.int .i64 h.a.col.a,.int .i64 h.a.col.n] (by simp) rfl) Tryz.underlying34 rfl uFF)
         ·obtain rfl:=oi ho;have pg:=G.g 8 rfl;cases r with
          | false=>exact G.sk 15 rfl pg rfl
          | true=>
           exact G.vl 15 rfl pg rfl (by simp[execOp,go_sem])
         ·obtain rfl:=oi ho;have pg:=G.g 8 rfl;cases r with
          | false=>exact G.sk 16 rfl pg rfl
          | true=>
           have p14:=G.d 14 rfl;have p15:=G.d 15 rfl;exact G.vl 16 rfl pg rfl (by simp[execOp,go_sem,aA p14,aA p15,N2])
         ·obtain rfl:=oi ho;cases r
          all_goals have p8:=G.d 8 rfl
          all_goals have p16:=G.d 16 rfl
          all_goals exact G.nl 17 rfl (by simp[execOp,go_sem,aA p8,aA p16,hc1])
         ·obtain rfl:=oi ho;have p17:=G.d 17 rfl;exact G.nl 18 rfl (by simp[execOp,go_sem,aA p17])
         ·obtain rfl:=oi ho;have pg:=G.g 18 rfl;cases c1 with
          | false=>exact G.sk 19 rfl pg rfl
          | true=>
           exact G.vl 19 rfl pg rfl (by simp[execOp,go_sem,e0x])
         ·obtain rfl:=oi ho;have pg:=G.g 18 rfl;cases c1 with
          | false=>exact G.sk 20 rfl pg rfl
          | true=>
           exact G.vl 20 rfl pg rfl (by simp[execOp,go_sem,e0x])
         ·obtain rfl:=oi ho;have pg:=G.g 18 rfl;cases c1 with
          | false=>exact G.sk 21 rfl pg rfl
          | true=>
           have p20:=G.d 20 rfl;exact G.vl 21 rfl pg rfl (by simp[execOp,go_sem,aA p20])
         ·obtain rfl:=oi ho;have pg:=G.g 18 rfl;cases c1 with
          | false=>exact G.sk 22 rfl pg rfl
          | true=>
           have p21:=G.d 21 rfl;exact G.vl 22 rfl pg rfl (by simp[execOp,go_sem,aA p21])
         ·obtain rfl:=oi ho;have pg:=G.g 18 rfl;cases c1 with
          | false=>exact G.sk 23 rfl pg rfl
          | true=>
           have p22:=G.d 22 rfl;exact G.vl 23 rfl pg rfl (by simp[execOp,go_sem,aA p22])
         ·obtain rfl:=oi ho;have pg:=G.g 18 rfl;cases c1 with
          | false=>exact G.sk 24 rfl pg rfl
          | true=>
           have hn1:=NodeIn.kp HN.out (Kp.of_below hb1);have p23:=G.d 23 rfl;exact G.vl 24 rfl pg rfl (aL 36 (.tmp 55) rfl g (o+8) p23 _ _ (hn1.sub 8 [.int .i64 h.a.row.a,.int .i64 h.a.row.n,.int .i64 h.a.col.a,.int .i64 h.a.col.n,.bool h.a.fr,.bool h.a.fc] (by simp) rfl) Tryz.underlying36 rfl infoCor)
         ·obtain rfl:=oi ho;have pg:=G.g 18 rfl;cases c1 with
          | false=>exact G.sk 25 rfl pg rfl
          | true=>
           have p24:=G.d 24 rfl;exact G.vl 25 rfl pg rfl (by simp[execOp,go_sem,aA p24])
         ·obtain rfl:=oi ho;have pg:=G.g 18 rfl;cases c1 with
          | false=>exact G.sk 26 rfl pg rfl
          | true=>
           have p25:=G.d 25 rfl;exact G.vl 26 rfl pg rfl (by simp[execOp,go_sem,aA p25,dS,bX,aF])
         ·obtain rfl:=oi ho;have pg:=G.g 18 rfl;cases c1 with
          | false=>exact G.sk 27 rfl pg rfl
          | true=>
           have p19:=G.d 19 rfl;have p26:=G.d 26 rfl;refine dA (inT 27 rfl) hk hI hs hun ho zd (Eq.trans (aN rfl rfl rfl pg) rfl) rfl 52 #[.pointer (some ⟨g,o,none⟩),dS ⟨0,aF,[],h.a,aH,0⟩ none 0 0] (by simp[go_sem,aA p19,aA p26]) ?_;have hn1:=NodeIn.kp HN.out (Kp.of_below hb1);have hB:=fQ h ⟨0,aF,[],h.a,aH,0⟩ A none l.length 0 cp 0 g o w1 hn1;dsimp only at hB;rw[hs1]at hB;refine hB.mono ?_;rintro e w2 ⟨rfl,hb⟩;exact⟨rfl,hb1.trans (hb.mono hb1.size)⟩
         ·obtain rfl:=oi ho;cases c1
          all_goals have p18:=G.d 18 rfl
          all_goals have p27:=G.d 27 rfl
          all_goals exact G.nl 28 rfl (by simp[execOp,go_sem,aA p18,aA p27,hc2])
         ·obtain rfl:=oi ho;have p28:=G.d 28 rfl;exact G.nl 29 rfl (by simp[execOp,go_sem,aA p28])
        ·intro zl a1 w1 hI hup;have hb1:Below w.heap.size w w1:=hI.st;have hTT:=HTT.out;subst hTT;have z5:=hI.ptk 29 rfl (hup 29 (by decide));have hO:=hI.off;clear hI hup HTT;exact⟨rfl,hR.off hO (by decide) (by decide),by rw[z5,HL],hb1⟩
       ·have hz2:a'.eval (.tmp 29)=.bool false:=by rw[hz];simp[not_or]at k13;simp[k13.1,k13.2]
        refine wp_cond_false hz2 ?_;clear hz hz2;refine wp_seq ?_;by_cases k2:h.kind=2
        ·refine eV true z10 (by simp[k2]) (by have:=hR.sz;omega) (by have:=hR.sz;omega) (fun a' hO hz=>?_);replace hR:=hR.off hO (by decide) (by decide);replace z10:=(hO.eval (by decide)).trans z10;replace z5:=(hO.eval (by decide)).trans z5;clear hO;simp only[Exit.then];refine wp_cond_true hz ?_;obtain⟨b0,hb0⟩:∃ x,eR h.a h.b=x:=⟨_,rfl⟩
         obtain⟨s1,hs1⟩:∃ x,(NodeH.same h ⟨2,aF,[],h.a,h.b,0⟩&&decide (l.length=0))=x:=⟨_,rfl⟩
         obtain⟨c1,hc1⟩:∃ x,x=(b0&&s1):=⟨_,rfl⟩
         have HL:RB=c1:=by
          rw[← HRB.out];unfold bE;rw[if_neg k0,if_neg k13,if_pos k2,hc1,← hb0,← hs1,Bool.and_assoc]
         obtain⟨TT,hTT⟩:∃ TT:List (Nat×Nat×Value),TT=((0,63,.pointer (some ⟨g,o,none⟩))::(1,64,.pointer (some ⟨g,o,none⟩))::(2,65,.pointer (some ⟨g,o+8,none⟩))::(3,66,arV h.a h.b)::(4,67,.bool b0)::(5,68,.bool b0)::(6,69,(bif b0 then .pointer (some ⟨g,o,none⟩) else undef))::(7,70,(bif b0 then .pointer (some ⟨g,o,none⟩) else undef))::(8,71,(bif b0 then .pointer (some ⟨g,o,none⟩) else undef))::(9,72,(bif b0 then .pointer (some ⟨g,o+8,none⟩) else undef))::(10,73,(bif b0 then arV h.a h.b else undef))::(11,74,(bif b0 then dS ⟨0,aF,[],h.a,h.b,0⟩ none 0 0 else undef))::(12,75,(bif b0 then .bool s1 else undef))::(13,76,.bool c1)::(14,5,.bool c1)::[]):=⟨_,rfl⟩
         have HTT:=zh hTT;clear hTT;refine bA (fun a0=>287≤a0.tmps.size∧a0.eval (.tmp 0)=.pointer (some ⟨g,o,none⟩)∧a0.eval (.tmp 1)=.int .i64 above) (63::64::65::66::67::68::69::70::71::72::73::74::75::76::5::[]) TT [] (fun w'=>Below w.heap.size w w') (by kernel_rfl) ⟨hR.sz,hR.s0,hR.s1⟩ HBk.out ?_ ?_
         ·rintro a0 ⟨hs,hq0,hq1⟩ zl a1 w1 zj o hsz hI hun ho zd;have hb1:Below w.heap.size w w1:=hI.st;have hTT:=HTT.out;have hk:okU (TT.map fun e=>(e.1,e.2.1)) (63::64::65::66::67::68::69::70::71::72::73::74::75::76::5::[]) 287=true:=by rw[hTT];rfl
          subst hTT;have e0x:=aA ((hI.off.eval (by decide)).trans hq0);have e1x:=aA ((hI.off.eval (by decide)).trans hq1);have hj:=Up.of_false hun;have hj12:zj<15:=by rw[hsz]at hj;exact hj
          have G:RG _ _ _ _ _ _ _ _ _ _ _:=⟨hk,hI,hs,hun,ho,zd⟩
          rcases(by omega:zj=0∨zj=1∨zj=2∨zj=3∨zj=4∨zj=5∨zj=6∨zj=7∨zj=8∨zj=9∨zj=10∨zj=11∨zj=12∨zj=13∨zj=14) with rfl | rfl | rfl | rfl | rfl | rfl | rfl | rfl | rfl | rfl | rfl | rfl | rfl | rfl | rfl
          ·obtain rfl:=oi ho;exact G.nl 0 rfl (by simp[execOp,go_sem,e0x])
          ·obtain rfl:=oi ho;have p0:=G.d 0 rfl;exact G.nl 1 rfl (by simp[execOp,go_sem,aA p0])
          ·obtain rfl:=oi ho;have p1:=G.d 1 rfl;exact G.nl 2 rfl (by simp[execOp,go_sem,aA p1])
          ·obtain rfl:=oi ho;have hn1:=NodeIn.kp HN.out (Kp.of_below hb1);have p2:=G.d 2 rfl;exact G.nl 3 rfl (aL 38 (.tmp 65) rfl g (o+8) p2 _ _ (hn1.sub 8 [.int .i64 h.a.row.a,.int .i64 h.a.row.n,.int .i64 h.a.col.a,.int .i64 h.a.col.n,.bool h.a.fr,.bool h.a.fc,.int .i64 h.b.row.a,.int .i64 h.b.row.n,.int .i64 h.b.col.a,.int .i64 h.b.col.n,.bool h.b.fr,.bool h.b.fc] (by simp) rfl) Tryz.underlying38 rfl kM)
          ·obtain rfl:=oi ho;have p3:=G.d 3 rfl;refine dA (inT 4 rfl) hk hI hs hun ho zd (aD rfl) rfl 53 #[arV h.a h.b] (by simp[go_sem,aA p3]) ?_;have hB:=uEN h.a h.b w1;rw[hb0]at hB;refine hB.mono ?_;rintro e w2 ⟨rfl,hb⟩;exact⟨rfl,hb1.trans (hb.mono hb1.size)⟩
          ·obtain rfl:=oi ho;have p4:=G.d 4 rfl;exact G.nl 5 rfl (by simp[execOp,go_sem,aA p4])
          ·obtain rfl:=oi ho;have pg:=G.g 5 rfl;cases b0 with
           | false=>exact G.sk 6 rfl pg rfl
           | true=>
            exact G.vl 6 rfl pg rfl (by simp[execOp,go_sem,e0x])
          ·obtain rfl:=oi ho;have pg:=G.g 5 rfl;cases b0 with
           | false=>exact G.sk 7 rfl pg rfl
           | true=>
            exact G.vl 7 rfl pg rfl (by simp[execOp,go_sem,e0x])
          ·obtain rfl:=oi ho;have pg:=G.g 5 rfl;cases b0 with
           | false=>exact G.sk 8 rfl pg rfl
           | true=>
            have p7:=G.d 7 rfl;exact G.vl 8 rfl pg rfl (by simp[execOp,go_sem,aA p7])
          ·obtain rfl:=oi ho;have pg:=G.g 5 rfl;cases b0 with
           | false=>exact G.sk 9 rfl pg rfl
           | true=>
            have p8:=G.d 8 rfl;exact G.vl 9 rfl pg rfl (by simp[execOp,go_sem,aA p8])
          ·obtain rfl:=oi ho;have pg:=G.g 5 rfl;cases b0 with
           | false=>exact G.sk 10 rfl pg rfl
           | true=>
            have hn1:=NodeIn.kp HN.out (Kp.of_below hb1);have p9:=G.d 9 rfl;exact G.vl 10 rfl pg rfl (aL 38 (.tmp 72) rfl g (o+8) p9 _ _ (hn1.sub 8 [.int .i64 h.a.row.a,.int .i64 h.a.row.n,.int .i64 h.a.col.a,.int .i64 h.a.col.n,.bool h.a.fr,.bool h.a.fc,.int .i64 h.b.row.a,.int .i64 h.b.row.n,.int .i64 h.b.col.a,.int .i64 h.b.col.n,.bool h.b.fr,.bool h.b.fc] (by simp) rfl) Tryz.underlying38 rfl kM)
          ·obtain rfl:=oi ho;have pg:=G.g 5 rfl;cases b0 with
           | false=>exact G.sk 11 rfl pg rfl
           | true=>
            have p10:=G.d 10 rfl;exact G.vl 11 rfl pg rfl (by simp[execOp,go_sem,aA p10,dS,bX,aF])
          ·obtain rfl:=oi ho;have pg:=G.g 5 rfl;cases b0 with
           | false=>exact G.sk 12 rfl pg rfl
           | true=>
            have p6:=G.d 6 rfl;have p11:=G.d 11 rfl;refine dA (inT 12 rfl) hk hI hs hun ho zd (Eq.trans (aN rfl rfl rfl pg) rfl) rfl 52 #[.pointer (some ⟨g,o,none⟩),dS ⟨0,aF,[],h.a,h.b,0⟩ none 0 0] (by simp[go_sem,aA p6,aA p11]) ?_;have hn1:=NodeIn.kp HN.out (Kp.of_below hb1);have hB:=fQ h ⟨0,aF,[],h.a,h.b,0⟩ A none l.length 0 cp 0 g o w1 hn1;dsimp only at hB;rw[k2]at hB;rw[hs1]at hB;refine hB.mono ?_;rintro e w2 ⟨rfl,hb⟩;exact⟨rfl,hb1.trans (hb.mono hb1.size)⟩
          ·obtain rfl:=oi ho;cases b0
           all_goals have p5:=G.d 5 rfl
           all_goals have p12:=G.d 12 rfl
           all_goals exact G.nl 13 rfl (by simp[execOp,go_sem,aA p5,aA p12,hc1])
          ·obtain rfl:=oi ho;have p13:=G.d 13 rfl;exact G.nl 14 rfl (by simp[execOp,go_sem,aA p13])
         ·intro zl a1 w1 hI hup;have hb1:Below w.heap.size w w1:=hI.st;have hTT:=HTT.out;subst hTT;have z5:=hI.ptk 14 rfl (hup 14 (by decide));have hO:=hI.off;clear hI hup HTT;exact⟨rfl,hR.off hO (by decide) (by decide),by rw[z5,HL],hb1⟩
        ·refine eV false z10 (by simp[k2]) (by have:=hR.sz;omega) (by have:=hR.sz;omega) (fun a' hO hz=>?_);replace hR:=hR.off hO (by decide) (by decide);replace z10:=(hO.eval (by decide)).trans z10;replace z5:=(hO.eval (by decide)).trans z5;clear hO;simp only[Exit.then];refine wp_cond_false hz ?_;refine wp_seq ?_;by_cases k4:h.kind=4
         ·refine eV true z10 (by simp[k4]) (by have:=hR.sz;omega) (by have:=hR.sz;omega) (fun a' hO hz=>?_);replace hR:=hR.off hO (by decide) (by decide);replace z10:=(hO.eval (by decide)).trans z10;replace z5:=(hO.eval (by decide)).trans z5;clear hO;simp only[Exit.then];refine wp_cond_true hz ?_;obtain⟨b0,hb0⟩:∃ x,cE h.name=x:=⟨_,rfl⟩
          obtain⟨b1,hb1⟩:∃ x,decide (l.length≤32)=x:=⟨_,rfl⟩
          have hb1':decide ((l.length:Int)≤32)=b1:=by rw[← hb1,decide_eq_decide];omega
          obtain⟨e1,he1⟩:∃ x,((l.length:Int)==1)=x:=⟨_,rfl⟩
          obtain⟨g',k9,hKK⟩:∃ g' k9,e1=true→A=some ⟨g',0,none⟩∧l.length=1∧(∀ W:World,Below w.heap.size w W→W.cell? ⟨g',0,none⟩=some (.int .i64 k9))∧(l.map fun t=>t.h.kind)=[k9]:=by
           by_cases hl:l.length=1
           ·obtain⟨g',hA,hW⟩:=HK.out 0 (by omega);refine⟨g',(l[0]'(by omega)).h.kind,fun _=>⟨hA,hl,fun W hb=>by have:=(hW W hb).1;rwa [Nat.zero_mul]at this,?_⟩⟩;obtain⟨t,rfl⟩:=List.length_eq_one_iff.1 hl;rfl
           ·exact⟨0,0,fun he=>absurd (by rw[← he1,beq_iff_eq]at he;omega) hl⟩
          obtain⟨e9,he9⟩:∃ x,(k9==9)=x:=⟨_,rfl⟩
          obtain⟨m,hm⟩:∃ x,x=(e1&&e9):=⟨_,rfl⟩
          obtain⟨nm,hnm⟩:∃ x,x=(!m):=⟨_,rfl⟩
          obtain⟨b3,hb3⟩:∃ x,NodeH.same h ⟨4,aF,h.name,aH,aH,0⟩=x:=⟨_,rfl⟩
          obtain⟨c1,hc1⟩:∃ x,x=(b0&&b1):=⟨_,rfl⟩
          obtain⟨c2,hc2⟩:∃ x,x=(c1&&nm):=⟨_,rfl⟩
          obtain⟨c3,hc3⟩:∃ x,x=(c2&&b3):=⟨_,rfl⟩
          have HL:RB=c3:=by
           rw[← HRB.out];unfold bE;rw[if_neg k0,if_neg k13,if_neg k2,if_pos k4,hc3,hc2,hc1,hnm,hm,← hb0,← hb1,← hb3]
           congr 2
           congr 1
           cases he:e1 with
           | true=>
            obtain⟨_,hl1,_,hk⟩:=hKK he;rw[hk,hl1,← he9,show (k9==9)=decide (k9=9) from by rw[Bool.eq_iff_iff];simp];simp
           | false=>
            have:l.length≠1:=fun hl=>by rw[← he1,hl]at he;simp at he
            simp[this]
          obtain⟨TT,hTT⟩:∃ TT:List (Nat×Nat×Value),TT=((0,79,.pointer (some ⟨g,o,none⟩))::(1,80,.pointer (some ⟨g,o,none⟩))::(2,81,.pointer (some ⟨g,o+7,none⟩))::(3,82,.string ⟨h.name.toArray⟩)::(4,83,.bool b0)::(5,84,.bool b0)::(6,85,(bif b0 then .pointer (some ⟨g,o,none⟩) else undef))::(7,86,(bif b0 then .pointer (some ⟨g,o,none⟩) else undef))::(8,87,(bif b0 then .pointer (some ⟨g,o+21,none⟩) else undef))::(9,88,(bif b0 then .slice A l.length cp else undef))::(10,89,(bif b0 then .int .i64 (l.length:Nat) else undef))::(11,90,(bif b0 then .bool b1 else undef))::(12,91,.bool c1)::(13,92,.bool c1)::(14,93,(bif c1 then .pointer (some ⟨g,o,none⟩) else undef))::(15,94,(bif c1 then .pointer (some ⟨g,o,none⟩) else undef))::(16,95,(bif c1 then .pointer (some ⟨g,o+21,none⟩) else undef))::(17,96,(bif c1 then .slice A l.length cp else undef))::(18,97,(bif c1 then .int .i64 (l.length:Nat) else undef))::(19,98,(bif c1 then .bool e1 else undef))::(20,99,(bif c1 then .bool e1 else undef))::(21,100,(bif c1 then (bif e1 then .pointer (some ⟨g,o,none⟩) else undef) else undef))::(22,101,(bif c1 then (bif e1 then .pointer (some ⟨g,o,none⟩) else undef) else undef))::(23,102,(bif c1 then (bif e1 then .pointer (some ⟨g,o+21,none⟩) else undef) else undef))::(24,103,(bif c1 then (bif e1 then .slice A l.length cp else undef) else undef))::(25,104,(bif c1 then (bif e1 then .pointer (some ⟨g',0,none⟩) else undef) else undef))::(26,105,(bif c1 then (bif e1 then .pointer (some ⟨g',0,none⟩) else undef) else undef))::(27,106,(bif c1 then (bif e1 then .int .i64 k9 else undef) else undef))::(28,107,(bif c1 then (bif e1 then .bool e9 else undef) else undef))::(29,108,(bif c1 then .bool m else undef))::(30,109,(bif c1 then .bool nm else undef))::(31,110,.bool c2)::(32,111,.bool c2)::(33,112,(bif c2 then .pointer (some ⟨g,o,none⟩) else undef))::(34,113,(bif c2 then .pointer (some ⟨g,o,none⟩) else undef))::(35,114,(bif c2 then .pointer (some ⟨g,o,none⟩) else undef))::(36,115,(bif c2 then .pointer (some ⟨g,o+7,none⟩) else undef))::(37,116,(bif c2 then .string ⟨h.name.toArray⟩ else undef))::(38,117,(bif c2 then .pointer (some ⟨g,o,none⟩) else undef))::(39,118,(bif c2 then .pointer (some ⟨g,o,none⟩) else undef))::(40,119,(bif c2 then .pointer (some ⟨g,o+21,none⟩) else undef))::(41,120,(bif c2 then .slice A l.length cp else undef))::(42,121,(bif c2 then dS ⟨0,aF,h.name,aH,aH,0⟩ A l.length cp else undef))::(43,122,(bif c2 then .bool b3 else undef))::(44,123,.bool c3)::(45,5,.bool c3)::[]):=⟨_,rfl⟩
          have HTT:=zh hTT;clear hTT;refine bJ (fun a0=>287≤a0.tmps.size∧a0.eval (.tmp 0)=.pointer (some ⟨g,o,none⟩)∧a0.eval (.tmp 1)=.int .i64 above) (79::80::81::82::83::84::85::86::87::88::89::90::91::92::93::94::95::96::97::98::99::100::101::102::103::104::105::106::107::108::109::110::111::112::113::114::115::116::117::118::119::120::121::122::123::5::[]) TT [] (fun w'=>Below w.heap.size w w') (by kernel_rfl) (by kernel_rfl) ⟨hR.sz,hR.s0,hR.s1⟩ HBk.out.drew ?_ ?_
          ·rintro a0 ⟨hs,hq0,hq1⟩ zl a1 w1 zj o hsz hI hun ho zd;have hb1:Below w.heap.size w w1:=hI.st;have hTT:=HTT.out;have hk:okU (TT.map fun e=>(e.1,e.2.1)) (79::80::81::82::83::84::85::86::87::88::89::90::91::92::93::94::95::96::97::98::99::100::101::102::103::104::105::106::107::108::109::110::111::112::113::114::115::116::117::118::119::120::121::122::123::5::[]) 287=true:=by rw[hTT];rfl
           subst hTT;have e0x:=aA ((hI.off.eval (by decide)).trans hq0);have e1x:=aA ((hI.off.eval (by decide)).trans hq1);have hj:=Up.of_false hun;have hj12:zj<46:=by rw[hsz]at hj;exact hj
           have G:RG _ _ _ _ _ _ _ _ _ _ _:=⟨hk,hI,hs,hun,ho,zd⟩
           rcases(by omega:zj=0∨zj=1∨zj=2∨zj=3∨zj=4∨zj=5∨zj=6∨zj=7∨zj=8∨zj=9∨zj=10∨zj=11∨zj=12∨zj=13∨zj=14∨zj=15∨zj=16∨zj=17∨zj=18∨zj=19∨zj=20∨zj=21∨zj=22∨zj=23∨zj=24∨zj=25∨zj=26∨zj=27∨zj=28∨zj=29∨zj=30∨zj=31∨zj=32∨zj=33∨zj=34∨zj=35∨zj=36∨zj=37∨zj=38∨zj=39∨zj=40∨zj=41∨zj=42∨zj=43∨zj=44∨zj=45) with rfl | rfl | rfl | rfl | rfl | rfl | rfl | rfl | rfl | rfl | rfl | rfl | rfl | rfl | rfl | rfl | rfl | rfl | rfl | rfl | rfl | rfl | rfl | rfl | rfl | rfl | rfl | rfl | rfl | rfl | rfl | rfl | rfl | rfl | rfl | rfl | rfl | rfl | rfl | rfl | rfl | rfl | rfl | rfl | rfl | rfl
           ·obtain rfl:=oi ho;exact G.nl 0 rfl (by simp[execOp,go_sem,e0x])
           ·obtain rfl:=oi ho;have p0:=G.d 0 rfl;exact G.nl 1 rfl (by simp[execOp,go_sem,aA p0])
           ·obtain rfl:=oi ho;have p1:=G.d 1 rfl;exact G.nl 2 rfl (by simp[execOp,go_sem,aA p1])
           ·obtain rfl:=oi ho;have hn1:=NodeIn.kp HN.out (Kp.of_below hb1);have x7:w1.cell? ⟨g,o+7,none⟩=some (.string ⟨h.name.toArray⟩):=hn1.2 7 (by decide);have p2:=G.d 2 rfl;exact G.nl 3 rfl (by simp[execOp,go_sem,aA p2,x7])
           ·obtain rfl:=oi ho;have p3:=G.d 3 rfl;refine dA (inT 4 rfl) hk hI hs hun ho zd (aD rfl) rfl 54 #[.string ⟨h.name.toArray⟩] (by simp[go_sem,aA p3]) ?_;have hB:=uIH h.name w1 HF.out.2.2.2;rw[hb0]at hB;refine hB.mono ?_;rintro e w2 ⟨rfl,hb⟩
            first | exact⟨rfl,hb1.trans (hb.mono hb1.size)⟩ |(subst hb;exact⟨rfl,hb1⟩)
           ·obtain rfl:=oi ho;have p4:=G.d 4 rfl;exact G.nl 5 rfl (by simp[execOp,go_sem,aA p4])
           ·obtain rfl:=oi ho;have pg:=G.g 5 rfl;cases b0 with
            | false=>exact G.sk 6 rfl pg rfl
            | true=>
             exact G.vl 6 rfl pg rfl (by simp[execOp,go_sem,e0x])
           ·obtain rfl:=oi ho;have pg:=G.g 5 rfl;cases b0 with
            | false=>exact G.sk 7 rfl pg rfl
            | true=>
             have p6:=G.d 6 rfl;exact G.vl 7 rfl pg rfl (by simp[execOp,go_sem,aA p6])
           ·obtain rfl:=oi ho;have pg:=G.g 5 rfl;cases b0 with
            | false=>exact G.sk 8 rfl pg rfl
            | true=>
             have p7:=G.d 7 rfl;exact G.vl 8 rfl pg rfl (by simp[execOp,go_sem,aA p7])
           ·obtain rfl:=oi ho;have pg:=G.g 5 rfl;cases b0 with
            | false=>exact G.sk 9 rfl pg rfl
            | true=>
             have hn1:=NodeIn.kp HN.out (Kp.of_below hb1);have x21:w1.cell? ⟨g,o+21,none⟩=some (.slice A l.length cp):=hn1.2 21 (by decide);have p8:=G.d 8 rfl;exact G.vl 9 rfl pg rfl (by simp[execOp,go_sem,aA p8,x21])
           ·obtain rfl:=oi ho;have pg:=G.g 5 rfl;cases b0 with
            | false=>exact G.sk 10 rfl pg rfl
            | true=>
             have p9:=G.d 9 rfl;exact G.vl 10 rfl pg rfl (by simp[go_sem,aA p9])
           ·obtain rfl:=oi ho;have pg:=G.g 5 rfl;cases b0 with
            | false=>exact G.sk 11 rfl pg rfl
            | true=>
             have p10:=G.d 10 rfl;exact G.vl 11 rfl pg rfl (by simp[execOp,go_sem,aA p10,hb1'])
           ·obtain rfl:=oi ho;cases b0
            all_goals have p5:=G.d 5 rfl
            all_goals have p11:=G.d 11 rfl
            all_goals exact G.nl 12 rfl (by simp[execOp,go_sem,aA p5,aA p11,hc1])
           ·obtain rfl:=oi ho;have p12:=G.d 12 rfl;exact G.nl 13 rfl (by simp[execOp,go_sem,aA p12])
           ·obtain rfl:=oi ho;have pg:=G.g 13 rfl;cases c1 with
            | false=>exact G.sk 14 rfl pg rfl
            | true=>
             exact G.vl 14 rfl pg rfl (by simp[execOp,go_sem,e0x])
           ·obtain rfl:=oi ho;have pg:=G.g 13 rfl;cases c1 with
            | false=>exact G.sk 15 rfl pg rfl
            | true=>
             have p14:=G.d 14 rfl;exact G.vl 15 rfl pg rfl (by simp[execOp,go_sem,aA p14])
           ·obtain rfl:=oi ho;have pg:=G.g 13 rfl;cases c1 with
            | false=>exact G.sk 16 rfl pg rfl
            | true=>
             have p15:=G.d 15 rfl;exact G.vl 16 rfl pg rfl (by simp[execOp,go_sem,aA p15])
           ·obtain rfl:=oi ho;have pg:=G.g 13 rfl;cases c1 with
            | false=>exact G.sk 17 rfl pg rfl
            | true=>
             have hn1:=NodeIn.kp HN.out (Kp.of_below hb1);have x21:w1.cell? ⟨g,o+21,none⟩=some (.slice A l.length cp):=hn1.2 21 (by decide);have p16:=G.d 16 rfl;exact G.vl 17 rfl pg rfl (by simp[execOp,go_sem,aA p16,x21])
           ·obtain rfl:=oi ho;have pg:=G.g 13 rfl;cases c1 with
            | false=>exact G.sk 18 rfl pg rfl
            | true=>
             have p17:=G.d 17 rfl;exact G.vl 18 rfl pg rfl (by simp[go_sem,aA p17])
           ·obtain rfl:=oi ho;have pg:=G.g 13 rfl;cases c1 with
            | false=>exact G.sk 19 rfl pg rfl
            | true=>
             have p18:=G.d 18 rfl;exact G.vl 19 rfl pg rfl (by simp[execOp,go_sem,aA p18,he1])
           ·obtain rfl:=oi ho;have pg:=G.g 13 rfl;cases c1 with
            | false=>exact G.sk 20 rfl pg rfl
            | true=>
             have p19:=G.d 19 rfl;exact G.vl 20 rfl pg rfl (by simp[execOp,go_sem,aA p19])
           ·obtain rfl:=oi ho;have pg:=G.g 20 rfl;cases c1 with
            | false=>exact bB hk hI hs (inT 21 rfl) fG hun ho zd (aO rfl rfl rfl pg) rfl
            | true=>
             cases e1 with
             | false=>exact G.sk 21 rfl pg rfl
             | true=>
              exact G.vl 21 rfl pg rfl (by simp[execOp,go_sem,e0x])
           ·obtain rfl:=oi ho;have pg:=G.g 20 rfl;cases c1 with
            | false=>exact bB hk hI hs (inT 22 rfl) fG hun ho zd (aO rfl rfl rfl pg) rfl
            | true=>
             cases e1 with
             | false=>exact G.sk 22 rfl pg rfl
             | true=>
              have p21:=G.d 21 rfl;exact G.vl 22 rfl pg rfl (by simp[execOp,go_sem,aA p21])
           ·obtain rfl:=oi ho;have pg:=G.g 20 rfl;cases c1 with
            | false=>exact bB hk hI hs (inT 23 rfl) fG hun ho zd (aO rfl rfl rfl pg) rfl
            | true=>
             cases e1 with
             | false=>exact G.sk 23 rfl pg rfl
             | true=>
              have p22:=G.d 22 rfl;exact G.vl 23 rfl pg rfl (by simp[execOp,go_sem,aA p22])
           ·obtain rfl:=oi ho;have pg:=G.g 20 rfl;cases c1 with
            | false=>exact bB hk hI hs (inT 24 rfl) fG hun ho zd (aO rfl rfl rfl pg) rfl
            | true=>
             cases e1 with
             | false=>exact G.sk 24 rfl pg rfl
             | true=>
              have hn1:=NodeIn.kp HN.out (Kp.of_below hb1);have x21:w1.cell? ⟨g,o+21,none⟩=some (.slice A l.length cp):=hn1.2 21 (by decide);have p23:=G.d 23 rfl;exact G.vl 24 rfl pg rfl (by simp[execOp,go_sem,aA p23,x21])
           ·obtain rfl:=oi ho;have pg:=G.g 20 rfl;cases c1 with
            | false=>exact bB hk hI hs (inT 25 rfl) fG hun ho zd (aO rfl rfl rfl pg) rfl
            | true=>
             cases e1 with
             | false=>exact G.sk 25 rfl pg rfl
             | true=>
              obtain⟨hA,hl1,hcl,-⟩:=hKK rfl;have p24:=G.d 24 rfl;exact G.vl 25 rfl pg rfl (by simp[execOp,go_sem,aA p24,hA,hl1])
           ·obtain rfl:=oi ho;have pg:=G.g 20 rfl;cases c1 with
            | false=>exact bB hk hI hs (inT 26 rfl) fG hun ho zd (aO rfl rfl rfl pg) rfl
            | true=>
             cases e1 with
             | false=>exact G.sk 26 rfl pg rfl
             | true=>
              have p25:=G.d 25 rfl;exact G.vl 26 rfl pg rfl (by simp[execOp,go_sem,aA p25])
           ·obtain rfl:=oi ho;have pg:=G.g 20 rfl;cases c1 with
            | false=>exact bB hk hI hs (inT 27 rfl) fG hun ho zd (aO rfl rfl rfl pg) rfl
            | true=>
             cases e1 with
             | false=>exact G.sk 27 rfl pg rfl
             | true=>
              obtain⟨hA,hl1,hcl,-⟩:=hKK rfl;have xk:=hcl w1 hb1;have p26:=G.d 26 rfl;exact G.vl 27 rfl pg rfl (by simp[execOp,go_sem,aA p26,xk])
           ·obtain rfl:=oi ho;have pg:=G.g 20 rfl;cases c1 with
            | false=>exact bB hk hI hs (inT 28 rfl) fG hun ho zd (aO rfl rfl rfl pg) rfl
            | true=>
             cases e1 with
             | false=>exact G.sk 28 rfl pg rfl
             | true=>
              have p27:=G.d 27 rfl;exact G.vl 28 rfl pg rfl (by simp[execOp,go_sem,aA p27,he9])
           ·obtain rfl:=oi ho;have pg:=G.g 13 rfl;cases c1 with
            | false=>exact G.sk 29 rfl pg rfl
            | true=>
             cases e1
             all_goals have p20:=G.d 20 rfl
             all_goals have p28:=G.d 28 rfl
             all_goals exact G.vl 29 rfl pg rfl (by simp[execOp,go_sem,aA p20,aA p28,hm])
           ·obtain rfl:=oi ho;have pg:=G.g 13 rfl;cases c1 with
            | false=>exact G.sk 30 rfl pg rfl
            | true=>
             have p29:=G.d 29 rfl;exact G.vl 30 rfl pg rfl (by simp[execOp,go_sem,aA p29,hnm])
           ·obtain rfl:=oi ho;cases c1
            all_goals have p13:=G.d 13 rfl
            all_goals have p30:=G.d 30 rfl
            all_goals exact G.nl 31 rfl (by simp[execOp,go_sem,aA p13,aA p30,hc2])
           ·obtain rfl:=oi ho;have p31:=G.d 31 rfl;exact G.nl 32 rfl (by simp[execOp,go_sem,aA p31])
           ·obtain rfl:=oi ho;have pg:=G.g 32 rfl;cases c2 with
            | false=>exact G.sk 33 rfl pg rfl
            | true=>
             exact G.vl 33 rfl pg rfl (by simp[execOp,go_sem,e0x])
           ·obtain rfl:=oi ho;have pg:=G.g 32 rfl;cases c2 with
            | false=>exact G.sk 34 rfl pg rfl
            | true=>
             exact G.vl 34 rfl pg rfl (by simp[execOp,go_sem,e0x])
           ·obtain rfl:=oi ho;have pg:=G.g 32 rfl;cases c2 with
            | false=>exact G.sk 35 rfl pg rfl
            | true=>
             have p34:=G.d 34 rfl;exact G.vl 35 rfl pg rfl (by simp[execOp,go_sem,aA p34])
           ·obtain rfl:=oi ho;have pg:=G.g 32 rfl;cases c2 with
            | false=>exact G.sk 36 rfl pg rfl
            | true=>
             have p35:=G.d 35 rfl;exact G.vl 36 rfl pg rfl (by simp[execOp,go_sem,aA p35])
           ·obtain rfl:=oi ho;have pg:=G.g 32 rfl;cases c2 with
            | false=>exact G.sk 37 rfl pg rfl
            | true=>
             have hn1:=NodeIn.kp HN.out (Kp.of_below hb1);have x7:w1.cell? ⟨g,o+7,none⟩=some (.string ⟨h.name.toArray⟩):=hn1.2 7 (by decide);have p36:=G.d 36 rfl;exact G.vl 37 rfl pg rfl (by simp[execOp,go_sem,aA p36,x7])
           ·obtain rfl:=oi ho;have pg:=G.g 32 rfl;cases c2 with
            | false=>exact G.sk 38 rfl pg rfl
            | true=>
             exact G.vl 38 rfl pg rfl (by simp[execOp,go_sem,e0x])
           ·obtain rfl:=oi ho;have pg:=G.g 32 rfl;cases c2 with
            | false=>exact G.sk 39 rfl pg rfl
            | true=>
             have p38:=G.d 38 rfl;exact G.vl 39 rfl pg rfl (by simp[execOp,go_sem,aA p38])
           ·obtain rfl:=oi ho;have pg:=G.g 32 rfl;cases c2 with
            | false=>exact G.sk 40 rfl pg rfl
            | true=>
             have p39:=G.d 39 rfl;exact G.vl 40 rfl pg rfl (by simp[execOp,go_sem,aA p39])
           ·obtain rfl:=oi ho;have pg:=G.g 32 rfl;cases c2 with
            | false=>exact G.sk 41 rfl pg rfl
            | true=>
             have hn1:=NodeIn.kp HN.out (Kp.of_below hb1);have x21:w1.cell? ⟨g,o+21,none⟩=some (.slice A l.length cp):=hn1.2 21 (by decide);have p40:=G.d 40 rfl;exact G.vl 41 rfl pg rfl (by simp[execOp,go_sem,aA p40,x21])
           ·obtain rfl:=oi ho;have pg:=G.g 32 rfl;cases c2 with
            | false=>exact G.sk 42 rfl pg rfl
            | true=>
             have p37:=G.d 37 rfl;have p41:=G.d 41 rfl;exact G.vl 42 rfl pg rfl (by simp[execOp,go_sem,aA p37,aA p41,dS,bX,aF])
           ·obtain rfl:=oi ho;have pg:=G.g 32 rfl;cases c2 with
            | false=>exact G.sk 43 rfl pg rfl
            | true=>
             have p33:=G.d 33 rfl;have p42:=G.d 42 rfl;refine dA (inT 43 rfl) hk hI hs hun ho zd (Eq.trans (aN rfl rfl rfl pg) rfl) rfl 52 #[.pointer (some ⟨g,o,none⟩),dS ⟨0,aF,h.name,aH,aH,0⟩ A l.length cp] (by simp[go_sem,aA p33,aA p42]) ?_;have hn1:=NodeIn.kp HN.out (Kp.of_below hb1);have hB:=fQ h ⟨0,aF,h.name,aH,aH,0⟩ A A l.length l.length cp cp g o w1 hn1;dsimp only at hB;rw[k4,decide_eq_true rfl,Bool.and_true]at hB;rw[hb3]at hB;refine hB.mono ?_;rintro e w2 ⟨rfl,hb⟩;exact⟨rfl,hb1.trans (hb.mono hb1.size)⟩
           ·obtain rfl:=oi ho;cases c2
            all_goals have p32:=G.d 32 rfl
            all_goals have p43:=G.d 43 rfl
            all_goals exact G.nl 44 rfl (by simp[execOp,go_sem,aA p32,aA p43,hc3])
           ·obtain rfl:=oi ho;have p44:=G.d 44 rfl;exact G.nl 45 rfl (by simp[execOp,go_sem,aA p44])
          ·intro zl a1 w1 hI hup;have hb1:Below w.heap.size w w1:=hI.st;have hTT:=HTT.out;subst hTT;have z5:=hI.ptk 45 rfl (hup 45 (by decide));have hO:=hI.off;clear hI hup HTT;exact⟨rfl,hR.off hO (by decide) (by decide),by rw[z5,HL],hb1⟩
         ·refine eV false z10 (by simp[k4]) (by have:=hR.sz;omega) (by have:=hR.sz;omega) (fun a' hO hz=>?_);replace hR:=hR.off hO (by decide) (by decide);replace z10:=(hO.eval (by decide)).trans z10;replace z5:=(hO.eval (by decide)).trans z5;clear hO;simp only[Exit.then];refine wp_cond_false hz ?_;refine wp_seq ?_;by_cases k5:h.kind=5
          ·refine eV true z10 (by simp[k5]) (by have:=hR.sz;omega) (by have:=hR.sz;omega) (fun a' hO hz=>?_);replace hR:=hR.off hO (by decide) (by decide);replace z10:=(hO.eval (by decide)).trans z10;replace z5:=(hO.eval (by decide)).trans z5;clear hO;simp only[Exit.then];refine wp_cond_true hz ?_;obtain⟨b0,hb0⟩:∃ x,unB h.name=x:=⟨_,rfl⟩
           obtain⟨b1,hb1⟩:∃ x,decide (l.length=1)=x:=⟨_,rfl⟩
           have hb1':((l.length:Int)==1)=b1:=by rw[← hb1,Bool.eq_iff_iff];simp;omega
           obtain⟨b3,hb3⟩:∃ x,NodeH.same h ⟨5,aF,h.name,aH,aH,0⟩=x:=⟨_,rfl⟩
           obtain⟨c1,hc1⟩:∃ x,x=(b0&&b1):=⟨_,rfl⟩
           obtain⟨c2,hc2⟩:∃ x,x=(c1&&b3):=⟨_,rfl⟩
           have HL:RB=c2:=by
            rw[← HRB.out];unfold bE;rw[if_neg k0,if_neg k13,if_neg k2,if_neg k4,if_pos k5,hc2,hc1,← hb0,← hb1,← hb3]
           obtain⟨TT,hTT⟩:∃ TT:List (Nat×Nat×Value),TT=((0,126,.pointer (some ⟨g,o,none⟩))::(1,127,.pointer (some ⟨g,o,none⟩))::(2,128,.pointer (some ⟨g,o+7,none⟩))::(3,129,.string ⟨h.name.toArray⟩)::(4,130,.bool b0)::(5,131,.bool b0)::(6,132,(bif b0 then .pointer (some ⟨g,o,none⟩) else undef))::(7,133,(bif b0 then .pointer (some ⟨g,o,none⟩) else undef))::(8,134,(bif b0 then .pointer (some ⟨g,o+21,none⟩) else undef))::(9,135,(bif b0 then .slice A l.length cp else undef))::(10,136,(bif b0 then .int .i64 (l.length:Nat) else undef))::(11,137,(bif b0 then .bool b1 else undef))::(12,138,.bool c1)::(13,139,.bool c1)::(14,140,(bif c1 then .pointer (some ⟨g,o,none⟩) else undef))::(15,141,(bif c1 then .pointer (some ⟨g,o,none⟩) else undef))::(16,142,(bif c1 then .pointer (some ⟨g,o,none⟩) else undef))::(17,143,(bif c1 then .pointer (some ⟨g,o+7,none⟩) else undef))::(18,144,(bif c1 then .string ⟨h.name.toArray⟩ else undef))::(19,145,(bif c1 then .pointer (some ⟨g,o,none⟩) else undef))::(20,146,(bif c1 then .pointer (some ⟨g,o,none⟩) else undef))::(21,147,(bif c1 then .pointer (some ⟨g,o+21,none⟩) else undef))::(22,148,(bif c1 then .slice A l.length cp else undef))::(23,149,(bif c1 then dS ⟨0,aF,h.name,aH,aH,0⟩ A l.length cp else undef))::(24,150,(bif c1 then .bool b3 else undef))::(25,151,.bool c2)::(26,5,.bool c2)::[]):=⟨_,rfl⟩
           have HTT:=zh hTT;clear hTT;refine bJ (fun a0=>287≤a0.tmps.size∧a0.eval (.tmp 0)=.pointer (some ⟨g,o,none⟩)∧a0.eval (.tmp 1)=.int .i64 above) (126::127::128::129::130::131::132::133::134::135::136::137::138::139::140::141::142::143::144::145::146::147::148::149::150::151::5::[]) TT [] (fun w'=>Below w.heap.size w w') (by kernel_rfl) (by kernel_rfl) ⟨hR.sz,hR.s0,hR.s1⟩ HBk.out.drew ?_ ?_
           ·rintro a0 ⟨hs,hq0,hq1⟩ zl a1 w1 zj o hsz hI hun ho zd;have hb1:Below w.heap.size w w1:=hI.st;have hTT:=HTT.out;have hk:okU (TT.map fun e=>(e.1,e.2.1)) (126::127::128::129::130::131::132::133::134::135::136::137::138::139::140::141::142::143::144::145::146::147::148::149::150::151::5::[]) 287=true:=by rw[hTT];rfl
            subst hTT;have e0x:=aA ((hI.off.eval (by decide)).trans hq0);have e1x:=aA ((hI.off.eval (by decide)).trans hq1);have hj:=Up.of_false hun;have hj12:zj<27:=by rw[hsz]at hj;exact hj
            have G:RG _ _ _ _ _ _ _ _ _ _ _:=⟨hk,hI,hs,hun,ho,zd⟩
            rcases(by omega:zj=0∨zj=1∨zj=2∨zj=3∨zj=4∨zj=5∨zj=6∨zj=7∨zj=8∨zj=9∨zj=10∨zj=11∨zj=12∨zj=13∨zj=14∨zj=15∨zj=16∨zj=17∨zj=18∨zj=19∨zj=20∨zj=21∨zj=22∨zj=23∨zj=24∨zj=25∨zj=26) with rfl | rfl | rfl | rfl | rfl | rfl | rfl | rfl | rfl | rfl | rfl | rfl | rfl | rfl | rfl | rfl | rfl | rfl | rfl | rfl | rfl | rfl | rfl | rfl | rfl | rfl | rfl
            ·obtain rfl:=oi ho;exact G.nl 0 rfl (by simp[execOp,go_sem,e0x])
            ·obtain rfl:=oi ho;have p0:=G.d 0 rfl;exact G.nl 1 rfl (by simp[execOp,go_sem,aA p0])
            ·obtain rfl:=oi ho;have p1:=G.d 1 rfl;exact G.nl 2 rfl (by simp[execOp,go_sem,aA p1])
            ·obtain rfl:=oi ho;have hn1:=NodeIn.kp HN.out (Kp.of_below hb1);have x7:w1.cell? ⟨g,o+7,none⟩=some (.string ⟨h.name.toArray⟩):=hn1.2 7 (by decide);have p2:=G.d 2 rfl;exact G.nl 3 rfl (by simp[execOp,go_sem,aA p2,x7])
            ·obtain rfl:=oi ho;have p3:=G.d 3 rfl;refine dA (inT 4 rfl) hk hI hs hun ho zd (aD rfl) rfl 55 #[.string ⟨h.name.toArray⟩] (by simp[go_sem,aA p3]) ?_;have hB:=uEP h.name w1;rw[hb0]at hB;refine hB.mono ?_;rintro e w2 ⟨rfl,hb⟩
             first | exact⟨rfl,hb1.trans (hb.mono hb1.size)⟩ |(subst hb;exact⟨rfl,hb1⟩)
            ·obtain rfl:=oi ho;have p4:=G.d 4 rfl;exact G.nl 5 rfl (by simp[execOp,go_sem,aA p4])
            ·obtain rfl:=oi ho;have pg:=G.g 5 rfl;cases b0 with
             | false=>exact G.sk 6 rfl pg rfl
             | true=>
              exact G.vl 6 rfl pg rfl (by simp[execOp,go_sem,e0x])
            ·obtain rfl:=oi ho;have pg:=G.g 5 rfl;cases b0 with
             | false=>exact G.sk 7 rfl pg rfl
             | true=>
              have p6:=G.d 6 rfl;exact G.vl 7 rfl pg rfl (by simp[execOp,go_sem,aA p6])
            ·obtain rfl:=oi ho;have pg:=G.g 5 rfl;cases b0 with
             | false=>exact G.sk 8 rfl pg rfl
             | true=>
              have p7:=G.d 7 rfl;exact G.vl 8 rfl pg rfl (by simp[execOp,go_sem,aA p7])
            ·obtain rfl:=oi ho;have pg:=G.g 5 rfl;cases b0 with
             | false=>exact G.sk 9 rfl pg rfl
             | true=>
              have hn1:=NodeIn.kp HN.out (Kp.of_below hb1);have x21:w1.cell? ⟨g,o+21,none⟩=some (.slice A l.length cp):=hn1.2 21 (by decide);have p8:=G.d 8 rfl;exact G.vl 9 rfl pg rfl (by simp[execOp,go_sem,aA p8,x21])
            ·obtain rfl:=oi ho;have pg:=G.g 5 rfl;cases b0 with
             | false=>exact G.sk 10 rfl pg rfl
             | true=>
              have p9:=G.d 9 rfl;exact G.vl 10 rfl pg rfl (by simp[go_sem,aA p9])
            ·obtain rfl:=oi ho;have pg:=G.g 5 rfl;cases b0 with
             | false=>exact G.sk 11 rfl pg rfl
             | true=>
              have p10:=G.d 10 rfl;exact G.vl 11 rfl pg rfl (by simp[execOp,go_sem,aA p10,hb1'])
            ·obtain rfl:=oi ho;cases b0
             all_goals have p5:=G.d 5 rfl
             all_goals have p11:=G.d 11 rfl
             all_goals exact G.nl 12 rfl (by simp[execOp,go_sem,aA p5,aA p11,hc1])
            ·obtain rfl:=oi ho;have p12:=G.d 12 rfl;exact G.nl 13 rfl (by simp[execOp,go_sem,aA p12])
            ·obtain rfl:=oi ho;have pg:=G.g 13 rfl;cases c1 with
             | false=>exact G.sk 14 rfl pg rfl
             | true=>
              exact G.vl 14 rfl pg rfl (by simp[execOp,go_sem,e0x])
            ·obtain rfl:=oi ho;have pg:=G.g 13 rfl;cases c1 with
             | false=>exact G.sk 15 rfl pg rfl
             | true=>
              exact G.vl 15 rfl pg rfl (by simp[execOp,go_sem,e0x])
            ·obtain rfl:=oi ho;have pg:=G.g 13 rfl;cases c1 with
             | false=>exact G.sk 16 rfl pg rfl
             | true=>
              have p15:=G.d 15 rfl;exact G.vl 16 rfl pg rfl (by simp[execOp,go_sem,aA p15])
            ·obtain rfl:=oi ho;have pg:=G.g 13 rfl;cases c1 with
             | false=>exact G.sk 17 rfl pg rfl
             | true=>
              have p16:=G.d 16 rfl;exact G.vl 17 rfl pg rfl (by simp[execOp,go_sem,aA p16])
            ·obtain rfl:=oi ho;have pg:=G.g 13 rfl;cases c1 with
             | false=>exact G.sk 18 rfl pg rfl
             | true=>
              have hn1:=NodeIn.kp HN.out (Kp.of_below hb1);have x7:w1.cell? ⟨g,o+7,none⟩=some (.string ⟨h.name.toArray⟩):=hn1.2 7 (by decide);have p17:=G.d 17 rfl;exact G.vl 18 rfl pg rfl (by simp[execOp,go_sem,aA p17,x7])
            ·obtain rfl:=oi ho;have pg:=G.g 13 rfl;cases c1 with
             | false=>exact G.sk 19 rfl pg rfl
             | true=>
              exact G.vl 19 rfl pg rfl (by simp[execOp,go_sem,e0x])
            ·obtain rfl:=oi ho;have pg:=G.g 13 rfl;cases c1 with
             | false=>exact G.sk 20 rfl pg rfl
             | true=>
              have p19:=G.d 19 rfl;exact G.vl 20 rfl pg rfl (by simp[execOp,go_sem,aA p19])
            ·obtain rfl:=oi ho;have pg:=G.g 13 rfl;cases c1 with
             | false=>exact G.sk 21 rfl pg rfl
             | true=>
              have p20:=G.d 20 rfl;exact G.vl 21 rfl pg rfl (by simp[execOp,go_sem,aA p20])
            ·obtain rfl:=oi ho;have pg:=G.g 13 rfl;cases c1 with
             | false=>exact G.sk 22 rfl pg rfl
             | true=>
              have hn1:=NodeIn.kp HN.out (Kp.of_below hb1);have x21:w1.cell? ⟨g,o+21,none⟩=some (.slice A l.length cp):=hn1.2 21 (by decide);have p21:=G.d 21 rfl;exact G.vl 22 rfl pg rfl (by simp[execOp,go_sem,aA p21,x21])
            ·obtain rfl:=oi ho;have pg:=G.g 13 rfl;cases c1 with
             | false=>exact G.sk 23 rfl pg rfl
             | true=>
              have p18:=G.d 18 rfl;have p22:=G.d 22 rfl;exact G.vl 23 rfl pg rfl (by simp[execOp,go_sem,aA p18,aA p22,dS,bX,aF])
            ·obtain rfl:=oi ho;have pg:=G.g 13 rfl;cases c1 with
             | false=>exact G.sk 24 rfl pg rfl
             | true=>
              have p14:=G.d 14 rfl;have p23:=G.d 23 rfl;refine dA (inT 24 rfl) hk hI hs hun ho zd (Eq.trans (aN rfl rfl rfl pg) rfl) rfl 52 #[.pointer (some ⟨g,o,none⟩),dS ⟨0,aF,h.name,aH,aH,0⟩ A l.length cp] (by simp[go_sem,aA p14,aA p23]) ?_;have hn1:=NodeIn.kp HN.out (Kp.of_below hb1);have hB:=fQ h ⟨0,aF,h.name,aH,aH,0⟩ A A l.length l.length cp cp g o w1 hn1;dsimp only at hB;rw[k5,decide_eq_true rfl,Bool.and_true]at hB;rw[hb3]at hB;refine hB.mono ?_;rintro e w2 ⟨rfl,hb⟩;exact⟨rfl,hb1.trans (hb.mono hb1.size)⟩
            ·obtain rfl:=oi ho;cases c1
             all_goals have p13:=G.d 13 rfl
             all_goals have p24:=G.d 24 rfl
             all_goals exact G.nl 25 rfl (by simp[execOp,go_sem,aA p13,aA p24,hc2])
            ·obtain rfl:=oi ho;have p25:=G.d 25 rfl;exact G.nl 26 rfl (by simp[execOp,go_sem,aA p25])
           ·intro zl a1 w1 hI hup;have hb1:Below w.heap.size w w1:=hI.st;have hTT:=HTT.out;subst hTT;have z5:=hI.ptk 26 rfl (hup 26 (by decide));have hO:=hI.off;clear hI hup HTT;exact⟨rfl,hR.off hO (by decide) (by decide),by rw[z5,HL],hb1⟩
          ·refine eV false z10 (by simp[k5]) (by have:=hR.sz;omega) (by have:=hR.sz;omega) (fun a' hO hz=>?_);replace hR:=hR.off hO (by decide) (by decide);replace z10:=(hO.eval (by decide)).trans z10;replace z5:=(hO.eval (by decide)).trans z5;clear hO;simp only[Exit.then];refine wp_cond_false hz ?_;refine wp_seq ?_;by_cases k6:h.kind=6
           ·refine eV true z10 (by simp[k6]) (by have:=hR.sz;omega) (by have:=hR.sz;omega) (fun a' hO hz=>?_);replace hR:=hR.off hO (by decide) (by decide);replace z10:=(hO.eval (by decide)).trans z10;replace z5:=(hO.eval (by decide)).trans z5;clear hO;simp only[Exit.then];refine wp_cond_true hz ?_;obtain⟨b0,hb0⟩:∃ x,lG h.name=x:=⟨_,rfl⟩
            obtain⟨b1,hb1⟩:∃ x,decide (l.length=2)=x:=⟨_,rfl⟩
            have hb1':((l.length:Int)==2)=b1:=by rw[← hb1,Bool.eq_iff_iff];simp;omega
            obtain⟨b3,hb3⟩:∃ x,NodeH.same h ⟨6,aF,h.name,aH,aH,0⟩=x:=⟨_,rfl⟩
            obtain⟨c1,hc1⟩:∃ x,x=(b0&&b1):=⟨_,rfl⟩
            obtain⟨c2,hc2⟩:∃ x,x=(c1&&b3):=⟨_,rfl⟩
            have HL:RB=c2:=by
             rw[← HRB.out];unfold bE;rw[if_neg k0,if_neg k13,if_neg k2,if_neg k4,if_neg k5,if_pos k6,hc2,hc1,← hb0,← hb1,← hb3]
            obtain⟨TT,hTT⟩:∃ TT:List (Nat×Nat×Value),TT=((0,154,.pointer (some ⟨g,o,none⟩))::(1,155,.pointer (some ⟨g,o,none⟩))::(2,156,.pointer (some ⟨g,o+7,none⟩))::(3,157,.string ⟨h.name.toArray⟩)::(4,158,.bool b0)::(5,159,.bool b0)::(6,160,(bif b0 then .pointer (some ⟨g,o,none⟩) else undef))::(7,161,(bif b0 then .pointer (some ⟨g,o,none⟩) else undef))::(8,162,(bif b0 then .pointer (some ⟨g,o+21,none⟩) else undef))::(9,163,(bif b0 then .slice A l.length cp else undef))::(10,164,(bif b0 then .int .i64 (l.length:Nat) else undef))::(11,165,(bif b0 then .bool b1 else undef))::(12,166,.bool c1)::(13,167,.bool c1)::(14,168,(bif c1 then .pointer (some ⟨g,o,none⟩) else undef))::(15,169,(bif c1 then .pointer (some ⟨g,o,none⟩) else undef))::(16,170,(bif c1 then .pointer (some ⟨g,o,none⟩) else undef))::(17,171,(bif c1 then .pointer (some ⟨g,o+7,none⟩) else undef))::(18,172,(bif c1 then .string ⟨h.name.toArray⟩ else undef))::(19,173,(bif c1 then .pointer (some ⟨g,o,none⟩) else undef))::(20,174,(bif c1 then .pointer (some ⟨g,o,none⟩) else undef))::(21,175,(bif c1 then .pointer (some ⟨g,o+21,none⟩) else undef))::(22,176,(bif c1 then .slice A l.length cp else undef))::(23,177,(bif c1 then dS ⟨0,aF,h.name,aH,aH,0⟩ A l.length cp else undef))::(24,178,(bif c1 then .bool b3 else undef))::(25,179,.bool c2)::(26,5,.bool c2)::[]):=⟨_,rfl⟩
            have HTT:=zh hTT;clear hTT;refine bJ (fun a0=>287≤a0.tmps.size∧a0.eval (.tmp 0)=.pointer (some ⟨g,o,none⟩)∧a0.eval (.tmp 1)=.int .i64 above) (154::155::156::157::158::159::160::161::162::163::164::165::166::167::168::169::170::171::172::173::174::175::176::177::178::179::5::[]) TT [] (fun w'=>Below w.heap.size w w') (by kernel_rfl) (by kernel_rfl) ⟨hR.sz,hR.s0,hR.s1⟩ HBk.out.drew ?_ ?_
            ·rintro a0 ⟨hs,hq0,hq1⟩ zl a1 w1 zj o hsz hI hun ho zd;have hb1:Below w.heap.size w w1:=hI.st;have hTT:=HTT.out;have hk:okU (TT.map fun e=>(e.1,e.2.1)) (154::155::156::157::158::159::160::161::162::163::164::165::166::167::168::169::170::171::172::173::174::175::176::177::178::179::5::[]) 287=true:=by rw[hTT];rfl
             subst hTT;have e0x:=aA ((hI.off.eval (by decide)).trans hq0);have e1x:=aA ((hI.off.eval (by decide)).trans hq1);have hj:=Up.of_false hun;have hj12:zj<27:=by rw[hsz]at hj;exact hj
             have G:RG _ _ _ _ _ _ _ _ _ _ _:=⟨hk,hI,hs,hun,ho,zd⟩
             rcases(by omega:zj=0∨zj=1∨zj=2∨zj=3∨zj=4∨zj=5∨zj=6∨zj=7∨zj=8∨zj=9∨zj=10∨zj=11∨zj=12∨zj=13∨zj=14∨zj=15∨zj=16∨zj=17∨zj=18∨zj=19∨zj=20∨zj=21∨zj=22∨zj=23∨zj=24∨zj=25∨zj=26) with rfl | rfl | rfl | rfl | rfl | rfl | rfl | rfl | rfl | rfl | rfl | rfl | rfl | rfl | rfl | rfl | rfl | rfl | rfl | rfl | rfl | rfl | rfl | rfl | rfl | rfl | rfl
             ·obtain rfl:=oi ho;exact G.nl 0 rfl (by simp[execOp,go_sem,e0x])
             ·obtain rfl:=oi ho;have p0:=G.d 0 rfl;exact G.nl 1 rfl (by simp[execOp,go_sem,aA p0])
             ·obtain rfl:=oi ho;have p1:=G.d 1 rfl;exact G.nl 2 rfl (by simp[execOp,go_sem,aA p1])
             ·obtain rfl:=oi ho;have hn1:=NodeIn.kp HN.out (Kp.of_below hb1);have x7:w1.cell? ⟨g,o+7,none⟩=some (.string ⟨h.name.toArray⟩):=hn1.2 7 (by decide);have p2:=G.d 2 rfl;exact G.nl 3 rfl (by simp[execOp,go_sem,aA p2,x7])
             ·obtain rfl:=oi ho;have p3:=G.d 3 rfl;refine dA (inT 4 rfl) hk hI hs hun ho zd (aD rfl) rfl 56 #[.string ⟨h.name.toArray⟩] (by simp[go_sem,aA p3]) ?_;have hB:=uBJ h.name w1;rw[hb0]at hB;refine hB.mono ?_;rintro e w2 ⟨rfl,hb⟩
              first | exact⟨rfl,hb1.trans (hb.mono hb1.size)⟩ |(subst hb;exact⟨rfl,hb1⟩)
             ·obtain rfl:=oi ho;have p4:=G.d 4 rfl;exact G.nl 5 rfl (by simp[execOp,go_sem,aA p4])
             ·obtain rfl:=oi ho;have pg:=G.g 5 rfl;cases b0 with
              | false=>exact G.sk 6 rfl pg rfl
              | true=>
               exact G.vl 6 rfl pg rfl (by simp[execOp,go_sem,e0x])
             ·obtain rfl:=oi ho;have pg:=G.g 5 rfl;cases b0 with
              | false=>exact G.sk 7 rfl pg rfl
              | true=>
               have p6:=G.d 6 rfl;exact G.vl 7 rfl pg rfl (by simp[execOp,go_sem,aA p6])
             ·obtain rfl:=oi ho;have pg:=G.g 5 rfl;cases b0 with
              | false=>exact G.sk 8 rfl pg rfl
              | true=>
               have p7:=G.d 7 rfl;exact G.vl 8 rfl pg rfl (by simp[execOp,go_sem,aA p7])
             ·obtain rfl:=oi ho;have pg:=G.g 5 rfl;cases b0 with
              | false=>exact G.sk 9 rfl pg rfl
              | true=>
               have hn1:=NodeIn.kp HN.out (Kp.of_below hb1);have x21:w1.cell? ⟨g,o+21,none⟩=some (.slice A l.length cp):=hn1.2 21 (by decide);have p8:=G.d 8 rfl;exact G.vl 9 rfl pg rfl (by simp[execOp,go_sem,aA p8,x21])
             ·obtain rfl:=oi ho;have pg:=G.g 5 rfl;cases b0 with
              | false=>exact G.sk 10 rfl pg rfl
              | true=>
               have p9:=G.d 9 rfl;exact G.vl 10 rfl pg rfl (by simp[go_sem,aA p9])
             ·obtain rfl:=oi ho;have pg:=G.g 5 rfl;cases b0 with
              | false=>exact G.sk 11 rfl pg rfl
              | true=>
               have p10:=G.d 10 rfl;exact G.vl 11 rfl pg rfl (by simp[execOp,go_sem,aA p10,hb1'])
             ·obtain rfl:=oi ho;cases b0
              all_goals have p5:=G.d 5 rfl
              all_goals have p11:=G.d 11 rfl
              all_goals exact G.nl 12 rfl (by simp[execOp,go_sem,aA p5,aA p11,hc1])
             ·obtain rfl:=oi ho;have p12:=G.d 12 rfl;exact G.nl 13 rfl (by simp[execOp,go_sem,aA p12])
             ·obtain rfl:=oi ho;have pg:=G.g 13 rfl;cases c1 with
              | false=>exact G.sk 14 rfl pg rfl
              | true=>
               exact G.vl 14 rfl pg rfl (by simp[execOp,go_sem,e0x])
             ·obtain rfl:=oi ho;have pg:=G.g 13 rfl;cases c1 with
              | false=>exact G.sk 15 rfl pg rfl
              | true=>
               exact G.vl 15 rfl pg rfl (by simp[execOp,go_sem,e0x])
             ·obtain rfl:=oi ho;have pg:=G.g 13 rfl;cases c1 with
              | false=>exact G.sk 16 rfl pg rfl
              | true=>
               have p15:=G.d 15 rfl;exact G.vl 16 rfl pg rfl (by simp[execOp,go_sem,aA p15])
             ·obtain rfl:=oi ho;have pg:=G.g 13 rfl;cases c1 with
              | false=>exact G.sk 17 rfl pg rfl
              | true=>
               have p16:=G.d 16 rfl;exact G.vl 17 rfl pg rfl (by simp[execOp,go_sem,aA p16])
             ·obtain rfl:=oi ho;have pg:=G.g 13 rfl;cases c1 with
              | false=>exact G.sk 18 rfl pg rfl
              | true=>
               have hn1:=NodeIn.kp HN.out (Kp.of_below hb1);have x7:w1.cell? ⟨g,o+7,none⟩=some (.string ⟨h.name.toArray⟩):=hn1.2 7 (by decide);have p17:=G.d 17 rfl;exact G.vl 18 rfl pg rfl (by simp[execOp,go_sem,aA p17,x7])
             ·obtain rfl:=oi ho;have pg:=G.g 13 rfl;cases c1 with
              | false=>exact G.sk 19 rfl pg rfl
              | true=>
               exact G.vl 19 rfl pg rfl (by simp[execOp,go_sem,e0x])
             ·obtain rfl:=oi ho;have pg:=G.g 13 rfl;cases c1 with
              | false=>exact G.sk 20 rfl pg rfl
              | true=>
               have p19:=G.d 19 rfl;exact G.vl 20 rfl pg rfl (by simp[execOp,go_sem,aA p19])
             ·obtain rfl:=oi ho;have pg:=G.g 13 rfl;cases c1 with
              | false=>exact G.sk 21 rfl pg rfl
              | true=>
               have p20:=G.d 20 rfl;exact G.vl 21 rfl pg rfl (by simp[execOp,go_sem,aA p20])
             ·obtain rfl:=oi ho;have pg:=G.g 13 rfl;cases c1 with
              | false=>exact G.sk 22 rfl pg rfl
              | true=>
               have hn1:=NodeIn.kp HN.out (Kp.of_below hb1);have x21:w1.cell? ⟨g,o+21,none⟩=some (.slice A l.length cp):=hn1.2 21 (by decide);have p21:=G.d 21 rfl;exact G.vl 22 rfl pg rfl (by simp[execOp,go_sem,aA p21,x21])
             ·obtain rfl:=oi ho;have pg:=G.g 13 rfl;cases c1 with
              | false=>exact G.sk 23 rfl pg rfl
              | true=>
               have p18:=G.d 18 rfl;have p22:=G.d 22 rfl;exact G.vl 23 rfl pg rfl (by simp[execOp,go_sem,aA p18,aA p22,dS,bX,aF])
             ·obtain rfl:=oi ho;have pg:=G.g 13 rfl;cases c1 with
              | false=>exact G.sk 24 rfl pg rfl
              | true=>
               have p14:=G.d 14 rfl;have p23:=G.d 23 rfl;refine dA (inT 24 rfl) hk hI hs hun ho zd (Eq.trans (aN rfl rfl rfl pg) rfl) rfl 52 #[.pointer (some ⟨g,o,none⟩),dS ⟨0,aF,h.name,aH,aH,0⟩ A l.length cp] (by simp[go_sem,aA p14,aA p23]) ?_;have hn1:=NodeIn.kp HN.out (Kp.of_below hb1);have hB:=fQ h ⟨0,aF,h.name,aH,aH,0⟩ A A l.length l.length cp cp g o w1 hn1;dsimp only at hB;rw[k6,decide_eq_true rfl,Bool.and_true]at hB;rw[hb3]at hB;refine hB.mono ?_;rintro e w2 ⟨rfl,hb⟩;exact⟨rfl,hb1.trans (hb.mono hb1.size)⟩
             ·obtain rfl:=oi ho;cases c1
              all_goals have p13:=G.d 13 rfl
              all_goals have p24:=G.d 24 rfl
              all_goals exact G.nl 25 rfl (by simp[execOp,go_sem,aA p13,aA p24,hc2])
             ·obtain rfl:=oi ho;have p25:=G.d 25 rfl;exact G.nl 26 rfl (by simp[execOp,go_sem,aA p25])
            ·intro zl a1 w1 hI hup;have hb1:Below w.heap.size w w1:=hI.st;have hTT:=HTT.out;subst hTT;have z5:=hI.ptk 26 rfl (hup 26 (by decide));have hO:=hI.off;clear hI hup HTT;exact⟨rfl,hR.off hO (by decide) (by decide),by rw[z5,HL],hb1⟩
           ·refine eV false z10 (by simp[k6]) (by have:=hR.sz;omega) (by have:=hR.sz;omega) (fun a' hO hz=>?_);replace hR:=hR.off hO (by decide) (by decide);replace z10:=(hO.eval (by decide)).trans z10;replace z5:=(hO.eval (by decide)).trans z5;clear hO;simp only[Exit.then];refine wp_cond_false hz ?_;refine wp_seq ?_;by_cases k7:h.kind=7
            ·refine eV true z10 (by simp[k7]) (by have:=hR.sz;omega) (by have:=hR.sz;omega) (fun a' hO hz=>?_);replace hR:=hR.off hO (by decide) (by decide);replace z10:=(hO.eval (by decide)).trans z10;replace z5:=(hO.eval (by decide)).trans z5;clear hO;simp only[Exit.then];refine wp_cond_true hz ?_;obtain⟨b0,hb0⟩:∃ x,bV h.name=x:=⟨_,rfl⟩
             obtain⟨s1,hs1⟩:∃ x,(NodeH.same h ⟨7,aF,h.name,aH,aH,0⟩&&decide (l.length=0))=x:=⟨_,rfl⟩
             obtain⟨c1,hc1⟩:∃ x,x=(b0&&s1):=⟨_,rfl⟩
             have HL:RB=c1:=by
              rw[← HRB.out];unfold bE;rw[if_neg k0,if_neg k13,if_neg k2,if_neg k4,if_neg k5,if_neg k6,if_pos k7,hc1,← hb0,← hs1,Bool.and_assoc]
             obtain⟨TT,hTT⟩:∃ TT:List (Nat×Nat×Value),TT=((0,182,.pointer (some ⟨g,o,none⟩))::(1,183,.pointer (some ⟨g,o,none⟩))::(2,184,.pointer (some ⟨g,o+7,none⟩))::(3,185,.string ⟨h.name.toArray⟩)::(4,186,.bool b0)::(5,187,.bool b0)::(6,188,(bif b0 then .pointer (some ⟨g,o,none⟩) else undef))::(7,189,(bif b0 then .pointer (some ⟨g,o,none⟩) else undef))::(8,190,(bif b0 then .pointer (some ⟨g,o,none⟩) else undef))::(9,191,(bif b0 then .pointer (some ⟨g,o+7,none⟩) else undef))::(10,192,(bif b0 then .string ⟨h.name.toArray⟩ else undef))::(11,193,(bif b0 then dS ⟨0,aF,h.name,aH,aH,0⟩ none 0 0 else undef))::(12,194,(bif b0 then .bool s1 else undef))::(13,195,.bool c1)::(14,5,.bool c1)::[]):=⟨_,rfl⟩
             have HTT:=zh hTT;clear hTT;refine bA (fun a0=>287≤a0.tmps.size∧a0.eval (.tmp 0)=.pointer (some ⟨g,o,none⟩)∧a0.eval (.tmp 1)=.int .i64 above) (182::183::184::185::186::187::188::189::190::191::192::193::194::195::5::[]) TT [] (fun w'=>Below w.heap.size w w') (by kernel_rfl) ⟨hR.sz,hR.s0,hR.s1⟩ HBk.out ?_ ?_
             ·rintro a0 ⟨hs,hq0,hq1⟩ zl a1 w1 zj o hsz hI hun ho zd;have hb1:Below w.heap.size w w1:=hI.st;have hTT:=HTT.out;have hk:okU (TT.map fun e=>(e.1,e.2.1)) (182::183::184::185::186::187::188::189::190::191::192::193::194::195::5::[]) 287=true:=by rw[hTT];rfl
              subst hTT;have e0x:=aA ((hI.off.eval (by decide)).trans hq0);have e1x:=aA ((hI.off.eval (by decide)).trans hq1);have hj:=Up.of_false hun;have hj12:zj<15:=by rw[hsz]at hj;exact hj
              have G:RG _ _ _ _ _ _ _ _ _ _ _:=⟨hk,hI,hs,hun,ho,zd⟩
              rcases(by omega:zj=0∨zj=1∨zj=2∨zj=3∨zj=4∨zj=5∨zj=6∨zj=7∨zj=8∨zj=9∨zj=10∨zj=11∨zj=12∨zj=13∨zj=14) with rfl | rfl | rfl | rfl | rfl | rfl | rfl | rfl | rfl | rfl | rfl | rfl | rfl | rfl | rfl
              ·obtain rfl:=oi ho;exact G.nl 0 rfl (by simp[execOp,go_sem,e0x])
              ·obtain rfl:=oi ho;have p0:=G.d 0 rfl;exact G.nl 1 rfl (by simp[execOp,go_sem,aA p0])
              ·obtain rfl:=oi ho;have p1:=G.d 1 rfl;exact G.nl 2 rfl (by simp[execOp,go_sem,aA p1])
              ·obtain rfl:=oi ho;have hn1:=NodeIn.kp HN.out (Kp.of_below hb1);have x7:w1.cell? ⟨g,o+7,none⟩=some (.string ⟨h.name.toArray⟩):=hn1.2 7 (by decide);have p2:=G.d 2 rfl;exact G.nl 3 rfl (by simp[execOp,go_sem,aA p2,x7])
              ·obtain rfl:=oi ho;have p3:=G.d 3 rfl;refine dA (inT 4 rfl) hk hI hs hun ho zd (aD rfl) rfl 57 #[.string ⟨h.name.toArray⟩] (by simp[go_sem,aA p3]) ?_;have hB:=uIJ h.name w1 HF.out.2.2.2;rw[hb0]at hB;refine hB.mono ?_;rintro e w2 ⟨rfl,hb⟩
               first | exact⟨rfl,hb1.trans (hb.mono hb1.size)⟩ |(subst hb;exact⟨rfl,hb1⟩)
              ·obtain rfl:=oi ho;have p4:=G.d 4 rfl;exact G.nl 5 rfl (by simp[execOp,go_sem,aA p4])
              ·obtain rfl:=oi ho;have pg:=G.g 5 rfl;cases b0 with
               | false=>exact G.sk 6 rfl pg rfl
               | true=>
                exact G.vl 6 rfl pg rfl (by simp[execOp,go_sem,e0x])
              ·obtain rfl:=oi ho;have pg:=G.g 5 rfl;cases b0 with
               | false=>exact G.sk 7 rfl pg rfl
               | true=>
                exact G.vl 7 rfl pg rfl (by simp[execOp,go_sem,e0x])
              ·obtain rfl:=oi ho;have pg:=G.g 5 rfl;cases b0 with
               | false=>exact G.sk 8 rfl pg rfl
               | true=>
                have p7:=G.d 7 rfl;exact G.vl 8 rfl pg rfl (by simp[execOp,go_sem,aA p7])
              ·obtain rfl:=oi ho;have pg:=G.g 5 rfl;cases b0 with
               | false=>exact G.sk 9 rfl pg rfl
               | true=>
                have p8:=G.d 8 rfl;exact G.vl 9 rfl pg rfl (by simp[execOp,go_sem,aA p8])
              ·obtain rfl:=oi ho;have pg:=G.g 5 rfl;cases b0 with
               | false=>exact G.sk 10 rfl pg rfl
               | true=>
                have hn1:=NodeIn.kp HN.out (Kp.of_below hb1);have x7:w1.cell? ⟨g,o+7,none⟩=some (.string ⟨h.name.toArray⟩):=hn1.2 7 (by decide);have p9:=G.d 9 rfl;exact G.vl 10 rfl pg rfl (by simp[execOp,go_sem,aA p9,x7])
              ·obtain rfl:=oi ho;have pg:=G.g 5 rfl;cases b0 with
               | false=>exact G.sk 11 rfl pg rfl
               | true=>
                have p10:=G.d 10 rfl;exact G.vl 11 rfl pg rfl (by simp[execOp,go_sem,aA p10,dS,bX,aF])
              ·obtain rfl:=oi ho;have pg:=G.g 5 rfl;cases b0 with
               | false=>exact G.sk 12 rfl pg rfl
               | true=>
                have p6:=G.d 6 rfl;have p11:=G.d 11 rfl;refine dA (inT 12 rfl) hk hI hs hun ho zd (Eq.trans (aN rfl rfl rfl pg) rfl) rfl 52 #[.pointer (some ⟨g,o,none⟩),dS ⟨0,aF,h.name,aH,aH,0⟩ none 0 0] (by simp[go_sem,aA p6,aA p11]) ?_;have hn1:=NodeIn.kp HN.out (Kp.of_below hb1);have hB:=fQ h ⟨0,aF,h.name,aH,aH,0⟩ A none l.length 0 cp 0 g o w1 hn1;dsimp only at hB;rw[k7]at hB;rw[hs1]at hB;refine hB.mono ?_;rintro e w2 ⟨rfl,hb⟩;exact⟨rfl,hb1.trans (hb.mono hb1.size)⟩
              ·obtain rfl:=oi ho;cases b0
               all_goals have p5:=G.d 5 rfl
               all_goals have p12:=G.d 12 rfl
               all_goals exact G.nl 13 rfl (by simp[execOp,go_sem,aA p5,aA p12,hc1])
              ·obtain rfl:=oi ho;have p13:=G.d 13 rfl;exact G.nl 14 rfl (by simp[execOp,go_sem,aA p13])
             ·intro zl a1 w1 hI hup;have hb1:Below w.heap.size w w1:=hI.st;have hTT:=HTT.out;subst hTT;have z5:=hI.ptk 14 rfl (hup 14 (by decide));have hO:=hI.off;clear hI hup HTT;exact⟨rfl,hR.off hO (by decide) (by decide),by rw[z5,HL],hb1⟩
            ·refine eV false z10 (by simp[k7]) (by have:=hR.sz;omega) (by have:=hR.sz;omega) (fun a' hO hz=>?_);replace hR:=hR.off hO (by decide) (by decide);replace z10:=(hO.eval (by decide)).trans z10;replace z5:=(hO.eval (by decide)).trans z5;clear hO;simp only[Exit.then];refine wp_cond_false hz ?_;refine wp_seq ?_;by_cases k8:h.kind=8
             ·refine eV true z10 (by simp[k8]) (by have:=hR.sz;omega) (by have:=hR.sz;omega) (fun a' hO hz=>?_);replace hR:=hR.off hO (by decide) (by decide);replace z10:=(hO.eval (by decide)).trans z10;replace z5:=(hO.eval (by decide)).trans z5;clear hO;simp only[Exit.then];refine wp_cond_true hz ?_;obtain⟨b0,hb0⟩:∃ x,decide (1≤h.rows)=x:=⟨_,rfl⟩
              obtain⟨b1,hb1⟩:∃ x,decide (1≤l.length)=x:=⟨_,rfl⟩
              have hb1':decide (1≤(l.length:Int))=b1:=by rw[← hb1,decide_eq_decide];omega
              obtain⟨b2,hb2⟩:∃ x,((l.length:Int).tmod h.rows==0)=x:=⟨_,rfl⟩
              obtain⟨b3,hb3⟩:∃ x,NodeH.same h ⟨8,aF,[],aH,aH,h.rows⟩=x:=⟨_,rfl⟩
              obtain⟨c1,hc1⟩:∃ x,x=(b0&&b1):=⟨_,rfl⟩
              obtain⟨c2,hc2⟩:∃ x,x=(c1&&b2):=⟨_,rfl⟩
              obtain⟨c3,hc3⟩:∃ x,x=(c2&&b3):=⟨_,rfl⟩
              have hrow:c1=true→1≤h.rows:=fun hc=>by rw[hc1,Bool.and_eq_true,← hb0]at hc;exact of_decide_eq_true hc.1
              have hne:1≤h.rows→h.rows≠0:=fun hh=>by omega
              have HL:RB=c3:=by
               rw[← HRB.out];unfold bE;rw[if_neg k0,if_neg k13,if_neg k2,if_neg k4,if_neg k5,if_neg k6,if_neg k7,if_pos k8,hc3,hc2,hc1,← hb0,← hb1,← hb2,← hb3]
               congr 2
              obtain⟨TT,hTT⟩:∃ TT:List (Nat×Nat×Value),TT=((0,198,.pointer (some ⟨g,o,none⟩))::(1,199,.pointer (some ⟨g,o,none⟩))::(2,200,.pointer (some ⟨g,o+20,none⟩))::(3,201,.int .i64 h.rows)::(4,202,.bool b0)::(5,203,.bool b0)::(6,204,(bif b0 then .pointer (some ⟨g,o,none⟩) else undef))::(7,205,(bif b0 then .pointer (some ⟨g,o,none⟩) else undef))::(8,206,(bif b0 then .pointer (some ⟨g,o+21,none⟩) else undef))::(9,207,(bif b0 then .slice A l.length cp else undef))::(10,208,(bif b0 then .int .i64 (l.length:Nat) else undef))::(11,209,(bif b0 then .bool b1 else undef))::(12,210,.bool c1)::(13,211,.bool c1)::(14,212,(bif c1 then .pointer (some ⟨g,o,none⟩) else undef))::(15,213,(bif c1 then .pointer (some ⟨g,o,none⟩) else undef))::(16,214,(bif c1 then .pointer (some ⟨g,o+21,none⟩) else undef))::(17,215,(bif c1 then .slice A l.length cp else undef))::(18,216,(bif c1 then .int .i64 (l.length:Nat) else undef))::(19,217,(bif c1 then .pointer (some ⟨g,o,none⟩) else undef))::(20,218,(bif c1 then .pointer (some ⟨g,o,none⟩) else undef))::(21,219,(bif c1 then .pointer (some ⟨g,o+20,none⟩) else undef))::(22,220,(bif c1 then .int .i64 h.rows else undef))::(23,221,(bif c1 then .int .i64 ((l.length:Int).tmod h.rows) else undef))::(24,222,(bif c1 then .bool b2 else undef))::(25,223,.bool c2)::(26,224,.bool c2)::(27,225,(bif c2 then .pointer (some ⟨g,o,none⟩) else undef))::(28,226,(bif c2 then .pointer (some ⟨g,o,none⟩) else undef))::(29,227,(bif c2 then .pointer (some ⟨g,o,none⟩) else undef))::(30,228,(bif c2 then .pointer (some ⟨g,o+20,none⟩) else undef))::(31,229,(bif c2 then .int .i64 h.rows else undef))::(32,230,(bif c2 then .pointer (some ⟨g,o,none⟩) else undef))::(33,231,(bif c2 then .pointer (some ⟨g,o,none⟩) else undef))::(34,232,(bif c2 then .pointer (some ⟨g,o+21,none⟩) else undef))::(35,233,(bif c2 then .slice A l.length cp else undef))::(36,234,(bif c2 then dS ⟨0,aF,[],aH,aH,h.rows⟩ A l.length cp else undef))::(37,235,(bif c2 then .bool b3 else undef))::(38,236,.bool c3)::(39,5,.bool c3)::[]):=⟨_,rfl⟩
              have HTT:=zh hTT;clear hTT;refine bJ (fun a0=>287≤a0.tmps.size∧a0.eval (.tmp 0)=.pointer (some ⟨g,o,none⟩)∧a0.eval (.tmp 1)=.int .i64 above) (198::199::200::201::202::203::204::205::206::207::208::209::210::211::212::213::214::215::216::217::218::219::220::221::222::223::224::225::226::227::228::229::230::231::232::233::234::235::236::5::[]) TT [] (fun w'=>Below w.heap.size w w') (by kernel_rfl) (by kernel_rfl) ⟨hR.sz,hR.s0,hR.s1⟩ HBk.out.drew ?_ ?_
              ·rintro a0 ⟨hs,hq0,hq1⟩ zl a1 w1 zj o hsz hI hun ho zd;have hb1:Below w.heap.size w w1:=hI.st;have hTT:=HTT.out;have hk:okU (TT.map fun e=>(e.1,e.2.1)) (198::199::200::201::202::203::204::205::206::207::208::209::210::211::212::213::214::215::216::217::218::219::220::221::222::223::224::225::226::227::228::229::230::231::232::233::234::235::236::5::[]) 287=true:=by rw[hTT];rfl
               subst hTT;have e0x:=aA ((hI.off.eval (by decide)).trans hq0);have e1x:=aA ((hI.off.eval (by decide)).trans hq1);have hj:=Up.of_false hun;have hj12:zj<40:=by rw[hsz]at hj;exact hj
               have G:RG _ _ _ _ _ _ _ _ _ _ _:=⟨hk,hI,hs,hun,ho,zd⟩
               rcases(by omega:zj=0∨zj=1∨zj=2∨zj=3∨zj=4∨zj=5∨zj=6∨zj=7∨zj=8∨zj=9∨zj=10∨zj=11∨zj=12∨zj=13∨zj=14∨zj=15∨zj=16∨zj=17∨zj=18∨zj=19∨zj=20∨zj=21∨zj=22∨zj=23∨zj=24∨zj=25∨zj=26∨zj=27∨zj=28∨zj=29∨zj=30∨zj=31∨zj=32∨zj=33∨zj=34∨zj=35∨zj=36∨zj=37∨zj=38∨zj=39) with rfl | rfl | rfl | rfl | rfl | rfl | rfl | rfl | rfl | rfl | rfl | rfl | rfl | rfl | rfl | rfl | rfl | rfl | rfl | rfl | rfl | rfl | rfl | rfl | rfl | rfl | rfl | rfl | rfl | rfl | rfl | rfl | rfl | rfl | rfl | rfl | rfl | rfl | rfl | rfl
               ·obtain rfl:=oi ho;exact G.nl 0 rfl (by simp[execOp,go_sem,e0x])
               ·obtain rfl:=oi ho;have p0:=G.d 0 rfl;exact G.nl 1 rfl (by simp[execOp,go_sem,aA p0])
               ·obtain rfl:=oi ho;have p1:=G.d 1 rfl;exact G.nl 2 rfl (by simp[execOp,go_sem,aA p1])
               ·obtain rfl:=oi ho;have hn1:=NodeIn.kp HN.out (Kp.of_below hb1);have x20:w1.cell? ⟨g,o+20,none⟩=some (.int .i64 h.rows):=hn1.2 20 (by decide);have p2:=G.d 2 rfl;exact G.nl 3 rfl (by simp[execOp,go_sem,aA p2,x20])
               ·obtain rfl:=oi ho;have p3:=G.d 3 rfl;exact G.nl 4 rfl (by simp[execOp,go_sem,aA p3,hb0])
               ·obtain rfl:=oi ho;have p4:=G.d 4 rfl;exact G.nl 5 rfl (by simp[execOp,go_sem,aA p4])
               ·obtain rfl:=oi ho;have pg:=G.g 5 rfl;cases b0 with
                | false=>exact G.sk 6 rfl pg rfl
                | true=>
                 exact G.vl 6 rfl pg rfl (by simp[execOp,go_sem,e0x])
               ·obtain rfl:=oi ho;have pg:=G.g 5 rfl;cases b0 with
                | false=>exact G.sk 7 rfl pg rfl
                | true=>
                 have p6:=G.d 6 rfl;exact G.vl 7 rfl pg rfl (by simp[execOp,go_sem,aA p6])
               ·obtain rfl:=oi ho;have pg:=G.g 5 rfl;cases b0 with
                | false=>exact G.sk 8 rfl pg rfl
                | true=>
                 have p7:=G.d 7 rfl;exact G.vl 8 rfl pg rfl (by simp[execOp,go_sem,aA p7])
               ·obtain rfl:=oi ho;have pg:=G.g 5 rfl;cases b0 with
                | false=>exact G.sk 9 rfl pg rfl
                | true=>
                 have hn1:=NodeIn.kp HN.out (Kp.of_below hb1);have x21:w1.cell? ⟨g,o+21,none⟩=some (.slice A l.length cp):=hn1.2 21 (by decide);have p8:=G.d 8 rfl;exact G.vl 9 rfl pg rfl (by simp[execOp,go_sem,aA p8,x21])
               ·obtain rfl:=oi ho;have pg:=G.g 5 rfl;cases b0 with
                | false=>exact G.sk 10 rfl pg rfl
                | true=>
                 have p9:=G.d 9 rfl;exact G.vl 10 rfl pg rfl (by simp[go_sem,aA p9])
               ·obtain rfl:=oi ho;have pg:=G.g 5 rfl;cases b0 with
                | false=>exact G.sk 11 rfl pg rfl
                | true=>
                 have p10:=G.d 10 rfl;exact G.vl 11 rfl pg rfl (by simp[execOp,go_sem,aA p10,hb1'])
               ·obtain rfl:=oi ho;cases b0
                all_goals have p5:=G.d 5 rfl
                all_goals have p11:=G.d 11 rfl
                all_goals exact G.nl 12 rfl (by simp[execOp,go_sem,aA p5,aA p11,hc1])
               ·obtain rfl:=oi ho;have p12:=G.d 12 rfl;exact G.nl 13 rfl (by simp[execOp,go_sem,aA p12])
               ·obtain rfl:=oi ho;have pg:=G.g 13 rfl;cases c1 with
                | false=>exact G.sk 14 rfl pg rfl
                | true=>
                 exact G.vl 14 rfl pg rfl (by simp[execOp,go_sem,e0x])
               ·obtain rfl:=oi ho;have pg:=G.g 13 rfl;cases c1 with
                | false=>exact G.sk 15 rfl pg rfl
                | true=>
                 have p14:=G.d 14 rfl;exact G.vl 15 rfl pg rfl (by simp[execOp,go_sem,aA p14])
               ·obtain rfl:=oi ho;have pg:=G.g 13 rfl;cases c1 with
                | false=>exact G.sk 16 rfl pg rfl
                | true=>
                 have p15:=G.d 15 rfl;exact G.vl 16 rfl pg rfl (by simp[execOp,go_sem,aA p15])
               ·obtain rfl:=oi ho;have pg:=G.g 13 rfl;cases c1 with
                | false=>exact G.sk 17 rfl pg rfl
                | true=>
                 have hn1:=NodeIn.kp HN.out (Kp.of_below hb1);have x21:w1.cell? ⟨g,o+21,none⟩=some (.slice A l.length cp):=hn1.2 21 (by decide);have p16:=G.d 16 rfl;exact G.vl 17 rfl pg rfl (by simp[execOp,go_sem,aA p16,x21])
               ·obtain rfl:=oi ho;have pg:=G.g 13 rfl;cases c1 with
                | false=>exact G.sk 18 rfl pg rfl
                | true=>
                 have p17:=G.d 17 rfl;exact G.vl 18 rfl pg rfl (by simp[go_sem,aA p17])
               ·obtain rfl:=oi ho;have pg:=G.g 13 rfl;cases c1 with
                | false=>exact G.sk 19 rfl pg rfl
                | true=>
                 exact G.vl 19 rfl pg rfl (by simp[execOp,go_sem,e0x])
               ·obtain rfl:=oi ho;have pg:=G.g 13 rfl;cases c1 with
                | false=>exact G.sk 20 rfl pg rfl
                | true=>
                 have p19:=G.d 19 rfl;exact G.vl 20 rfl pg rfl (by simp[execOp,go_sem,aA p19])
               ·obtain rfl:=oi ho;have pg:=G.g 13 rfl;cases c1 with
                | false=>exact G.sk 21 rfl pg rfl
                | true=>
                 have p20:=G.d 20 rfl;exact G.vl 21 rfl pg rfl (by simp[execOp,go_sem,aA p20])
               ·obtain rfl:=oi ho;have pg:=G.g 13 rfl;cases c1 with
                | false=>exact G.sk 22 rfl pg rfl
                | true=>
                 have hn1:=NodeIn.kp HN.out (Kp.of_below hb1);have x20:w1.cell? ⟨g,o+20,none⟩=some (.int .i64 h.rows):=hn1.2 20 (by decide);have p21:=G.d 21 rfl;exact G.vl 22 rfl pg rfl (by simp[execOp,go_sem,aA p21,x20])
               ·obtain rfl:=oi ho;have pg:=G.g 13 rfl;cases c1 with
                | false=>exact G.sk 23 rfl pg rfl
                | true=>
                 have hr1:=hrow rfl;have p18:=G.d 18 rfl;have p22:=G.d 22 rfl;exact G.vl 23 rfl pg rfl (by simp[execOp,go_sem,aA p18,aA p22,hne hr1])
               ·obtain rfl:=oi ho;have pg:=G.g 13 rfl;cases c1 with
                | false=>exact G.sk 24 rfl pg rfl
                | true=>
                 have p23:=G.d 23 rfl;exact G.vl 24 rfl pg rfl (by simp[execOp,go_sem,aA p23,hb2])
               ·obtain rfl:=oi ho;cases c1
                all_goals have p13:=G.d 13 rfl
                all_goals have p24:=G.d 24 rfl
                all_goals exact G.nl 25 rfl (by simp[execOp,go_sem,aA p13,aA p24,hc2])
               ·obtain rfl:=oi ho;have p25:=G.d 25 rfl;exact G.nl 26 rfl (by simp[execOp,go_sem,aA p25])
               ·obtain rfl:=oi ho;have pg:=G.g 26 rfl;cases c2 with
                | false=>exact G.sk 27 rfl pg rfl
                | true=>
                 exact G.vl 27 rfl pg rfl (by simp[execOp,go_sem,e0x])
               ·obtain rfl:=oi ho;have pg:=G.g 26 rfl;cases c2 with
                | false=>exact G.sk 28 rfl pg rfl
                | true=>
                 exact G.vl 28 rfl pg rfl (by simp[execOp,go_sem,e0x])
               ·obtain rfl:=oi ho;have pg:=G.g 26 rfl;cases c2 with
                | false=>exact G.sk 29 rfl pg rfl
                | true=>
                 have p28:=G.d 28 rfl;exact G.vl 29 rfl pg rfl (by simp[execOp,go_sem,aA p28])
               ·obtain rfl:=oi ho;have pg:=G.g 26 rfl;cases c2 with
                | false=>exact G.sk 30 rfl pg rfl
                | true=>
                 have p29:=G.d 29 rfl;exact G.vl 30 rfl pg rfl (by simp[execOp,go_sem,aA p29])
               ·obtain rfl:=oi ho;have pg:=G.g 26 rfl;cases c2 with
                | false=>exact G.sk 31 rfl pg rfl
                | true=>
                 have hn1:=NodeIn.kp HN.out (Kp.of_below hb1);have x20:w1.cell? ⟨g,o+20,none⟩=some (.int .i64 h.rows):=hn1.2 20 (by decide);have p30:=G.d 30 rfl;exact G.vl 31 rfl pg rfl (by simp[execOp,go_sem,aA p30,x20])
               ·obtain rfl:=oi ho;have pg:=G.g 26 rfl;cases c2 with
                | false=>exact G.sk 32 rfl pg rfl
                | true=>
                 exact G.vl 32 rfl pg rfl (by simp[execOp,go_sem,e0x])
               ·obtain rfl:=oi ho;have pg:=G.g 26 rfl;cases c2 with
                | false=>exact G.sk 33 rfl pg rfl
                | true=>
                 have p32:=G.d 32 rfl;exact G.vl 33 rfl pg rfl (by simp[execOp,go_sem,aA p32])
               ·obtain rfl:=oi ho;have pg:=G.g 26 rfl;cases c2 with
                | false=>exact G.sk 34 rfl pg rfl
                | true=>
                 have p33:=G.d 33 rfl;exact G.vl 34 rfl pg rfl (by simp[execOp,go_sem,aA p33])
               ·obtain rfl:=oi ho;have pg:=G.g 26 rfl;cases c2 with
                | false=>exact G.sk 35 rfl pg rfl
                | true=>
                 have hn1:=NodeIn.kp HN.out (Kp.of_below hb1);have x21:w1.cell? ⟨g,o+21,none⟩=some (.slice A l.length cp):=hn1.2 21 (by decide);have p34:=G.d 34 rfl;exact G.vl 35 rfl pg rfl (by simp[execOp,go_sem,aA p34,x21])
               ·obtain rfl:=oi ho;have pg:=G.g 26 rfl;cases c2 with
                | false=>exact G.sk 36 rfl pg rfl
                | true=>
                 have p31:=G.d 31 rfl;have p35:=G.d 35 rfl;exact G.vl 36 rfl pg rfl (by simp[execOp,go_sem,aA p31,aA p35,dS,bX,aF])
               ·obtain rfl:=oi ho;have pg:=G.g 26 rfl;cases c2 with
                | false=>exact G.sk 37 rfl pg rfl
                | true=>
                 have p27:=G.d 27 rfl;have p36:=G.d 36 rfl;refine dA (inT 37 rfl) hk hI hs hun ho zd (Eq.trans (aN rfl rfl rfl pg) rfl) rfl 52 #[.pointer (some ⟨g,o,none⟩),dS ⟨0,aF,[],aH,aH,h.rows⟩ A l.length cp] (by simp[go_sem,aA p27,aA p36]) ?_;have hn1:=NodeIn.kp HN.out (Kp.of_below hb1);have hB:=fQ h ⟨0,aF,[],aH,aH,h.rows⟩ A A l.length l.length cp cp g o w1 hn1;dsimp only at hB;rw[k8,decide_eq_true rfl,Bool.and_true]at hB;rw[hb3]at hB;refine hB.mono ?_;rintro e w2 ⟨rfl,hb⟩;exact⟨rfl,hb1.trans (hb.mono hb1.size)⟩
               ·obtain rfl:=oi ho;cases c2
                all_goals have p26:=G.d 26 rfl
                all_goals have p37:=G.d 37 rfl
                all_goals exact G.nl 38 rfl (by simp[execOp,go_sem,aA p26,aA p37,hc3])
               ·obtain rfl:=oi ho;have p38:=G.d 38 rfl;exact G.nl 39 rfl (by simp[execOp,go_sem,aA p38])
              ·intro zl a1 w1 hI hup;have hb1:Below w.heap.size w w1:=hI.st;have hTT:=HTT.out;subst hTT;have z5:=hI.ptk 39 rfl (hup 39 (by decide));have hO:=hI.off;clear hI hup HTT;exact⟨rfl,hR.off hO (by decide) (by decide),by rw[z5,HL],hb1⟩
             ·refine eV false z10 (by simp[k8]) (by have:=hR.sz;omega) (by have:=hR.sz;omega) (fun a' hO hz=>?_);replace hR:=hR.off hO (by decide) (by decide);replace z10:=(hO.eval (by decide)).trans z10;replace z5:=(hO.eval (by decide)).trans z5;clear hO;simp only[Exit.then];refine wp_cond_false hz ?_;refine wp_seq ?_;by_cases k9:h.kind=9
              ·refine eV true z10 (by simp[k9]) (by have:=hR.sz;omega) (by have:=hR.sz;omega) (fun a' hO hz=>?_);replace hR:=hR.off hO (by decide) (by decide);replace z10:=(hO.eval (by decide)).trans z10;replace z5:=(hO.eval (by decide)).trans z5;clear hO;simp only[Exit.then];refine wp_cond_true hz ?_;obtain⟨b0,hb0⟩:∃ x,(above==4)=x:=⟨_,rfl⟩
               obtain⟨s1,hs1⟩:∃ x,(NodeH.same h ⟨9,aF,[],aH,aH,0⟩&&decide (l.length=0))=x:=⟨_,rfl⟩
               obtain⟨c1,hc1⟩:∃ x,x=(b0&&s1):=⟨_,rfl⟩
               have HL:RB=c1:=by
                rw[← HRB.out];unfold bE;rw[if_neg k0,if_neg k13,if_neg k2,if_neg k4,if_neg k5,if_neg k6,if_neg k7,if_neg k8,if_pos k9,hc1,← hb0,← hs1,show decide (above=4)=(above==4) from by rw[Bool.eq_iff_iff];simp,Bool.and_assoc]
               obtain⟨TT,hTT⟩:∃ TT:List (Nat×Nat×Value),TT=((0,239,.int .i64 above)::(1,240,.bool b0)::(2,241,.bool b0)::(3,242,(bif b0 then .pointer (some ⟨g,o,none⟩) else undef))::(4,243,(bif b0 then dS ⟨0,aF,[],aH,aH,0⟩ none 0 0 else undef))::(5,244,(bif b0 then .bool s1 else undef))::(6,245,.bool c1)::(7,5,.bool c1)::[]):=⟨_,rfl⟩
               have HTT:=zh hTT;clear hTT;refine bA (fun a0=>287≤a0.tmps.size∧a0.eval (.tmp 0)=.pointer (some ⟨g,o,none⟩)∧a0.eval (.tmp 1)=.int .i64 above) (239::240::241::242::243::244::245::5::[]) TT [] (fun w'=>Below w.heap.size w w') (by kernel_rfl) ⟨hR.sz,hR.s0,hR.s1⟩ HBk.out ?_ ?_
               ·rintro a0 ⟨hs,hq0,hq1⟩ zl a1 w1 zj o hsz hI hun ho zd;have hb1:Below w.heap.size w w1:=hI.st;have hTT:=HTT.out;have hk:okU (TT.map fun e=>(e.1,e.2.1)) (239::240::241::242::243::244::245::5::[]) 287=true:=by rw[hTT];rfl
                subst hTT;have e0x:=aA ((hI.off.eval (by decide)).trans hq0);have e1x:=aA ((hI.off.eval (by decide)).trans hq1);have hj:=Up.of_false hun;have hj12:zj<8:=by rw[hsz]at hj;exact hj
                have G:RG _ _ _ _ _ _ _ _ _ _ _:=⟨hk,hI,hs,hun,ho,zd⟩
                rcases(by omega:zj=0∨zj=1∨zj=2∨zj=3∨zj=4∨zj=5∨zj=6∨zj=7) with rfl | rfl | rfl | rfl | rfl | rfl | rfl | rfl
                ·obtain rfl:=oi ho;exact G.nl 0 rfl (by simp[execOp,go_sem,e1x])
                ·obtain rfl:=oi ho;have p0:=G.d 0 rfl;exact G.nl 1 rfl (by simp[execOp,go_sem,aA p0,hb0])
                ·obtain rfl:=oi ho;have p1:=G.d 1 rfl;exact G.nl 2 rfl (by simp[execOp,go_sem,aA p1])
                ·obtain rfl:=oi ho;have pg:=G.g 2 rfl;cases b0 with
                 | false=>exact G.sk 3 rfl pg rfl
                 | true=>
                  exact G.vl 3 rfl pg rfl (by simp[execOp,go_sem,e0x])
                ·obtain rfl:=oi ho;have pg:=G.g 2 rfl;cases b0 with
                 | false=>exact G.sk 4 rfl pg rfl
                 | true=>
                  exact G.vl 4 rfl pg rfl (by simp[execOp,go_sem,dS,bX,aF])
                ·obtain rfl:=oi ho;have pg:=G.g 2 rfl;cases b0 with
                 | false=>exact G.sk 5 rfl pg rfl
                 | true=>
                  have p3:=G.d 3 rfl;have p4:=G.d 4 rfl;refine dA (inT 5 rfl) hk hI hs hun ho zd (Eq.trans (aN rfl rfl rfl pg) rfl) rfl 52 #[.pointer (some ⟨g,o,none⟩),dS ⟨0,aF,[],aH,aH,0⟩ none 0 0] (by simp[go_sem,aA p3,aA p4]) ?_;have hn1:=NodeIn.kp HN.out (Kp.of_below hb1);have hB:=fQ h ⟨0,aF,[],aH,aH,0⟩ A none l.length 0 cp 0 g o w1 hn1;dsimp only at hB;rw[k9]at hB;rw[hs1]at hB;refine hB.mono ?_;rintro e w2 ⟨rfl,hb⟩;exact⟨rfl,hb1.trans (hb.mono hb1.size)⟩
                ·obtain rfl:=oi ho;cases b0
                 all_goals have p2:=G.d 2 rfl
                 all_goals have p5:=G.d 5 rfl
                 all_goals exact G.nl 6 rfl (by simp[execOp,go_sem,aA p2,aA p5,hc1])
                ·obtain rfl:=oi ho;have p6:=G.d 6 rfl;exact G.nl 7 rfl (by simp[execOp,go_sem,aA p6])
               ·intro zl a1 w1 hI hup;have hb1:Below w.heap.size w w1:=hI.st;have hTT:=HTT.out;subst hTT;have z5:=hI.ptk 7 rfl (hup 7 (by decide));have hO:=hI.off;clear hI hup HTT;exact⟨rfl,hR.off hO (by decide) (by decide),by rw[z5,HL],hb1⟩
              ·refine eV false z10 (by simp[k9]) (by have:=hR.sz;omega) (by have:=hR.sz;omega) (fun a' hO hz=>?_);replace hR:=hR.off hO (by decide) (by decide);replace z10:=(hO.eval (by decide)).trans z10;replace z5:=(hO.eval (by decide)).trans z5;clear hO;simp only[Exit.then];refine wp_cond_false hz ?_;refine wp_skip ?_;exact⟨rfl,hR,by rw[z5,← HRB.out];unfold bE;rw[if_neg k0,if_neg k13,if_neg k2,if_neg k4,if_neg k5,if_neg k6,if_neg k7,if_neg k8,if_neg k9],HBk.out⟩
    case rest=>
     rintro e a' w' ⟨rfl,hR,z5,hbw⟩;replace HBk:=zh hbw;clear z10 hbw;simp only[Exit.then];refine wp_seq ?_;refine wp_seq ?_;obtain⟨TT,hTT⟩:∃ TT:List (Nat×Nat×Value),TT=((0,246,.pointer (some ⟨g,o,none⟩))::(1,247,.pointer (some ⟨g,o,none⟩))::(2,248,.pointer (some ⟨g,o+21,none⟩))::(3,249,.slice A l.length cp)::(4,250,.int .i64 (l.length:Nat))::(5,251,.int .i64 0)::[]):=⟨_,rfl⟩
     have HTT:=zh hTT;clear hTT;refine bA (fun a0=>287≤a0.tmps.size∧a0.eval (.tmp 0)=.pointer (some ⟨g,o,none⟩)∧a0.eval (.tmp 1)=.int .i64 above) (246::247::248::249::250::251::[]) TT [] (fun w'=>Below w.heap.size w w') (by kernel_rfl) ⟨hR.sz,hR.s0,hR.s1⟩ HBk.out ?_ ?_
     ·rintro a0 ⟨hs,hq0,hq1⟩ zl a1 w1 zj o hsz hI hun ho zd;have hb1:Below w.heap.size w w1:=hI.st;have hTT:=HTT.out;have hk:okU (TT.map fun e=>(e.1,e.2.1)) (246::247::248::249::250::251::[]) 287=true:=by rw[hTT];rfl
      subst hTT;have e0x:=aA ((hI.off.eval (by decide)).trans hq0);have e1x:=aA ((hI.off.eval (by decide)).trans hq1);have hj:=Up.of_false hun;have hj12:zj<6:=by rw[hsz]at hj;exact hj
      have G:RG _ _ _ _ _ _ _ _ _ _ _:=⟨hk,hI,hs,hun,ho,zd⟩
      rcases(by omega:zj=0∨zj=1∨zj=2∨zj=3∨zj=4∨zj=5) with rfl | rfl | rfl | rfl | rfl | rfl
      ·obtain rfl:=oi ho;exact G.nl 0 rfl (by simp[execOp,go_sem,e0x])
      ·obtain rfl:=oi ho;have p0:=G.d 0 rfl;exact G.nl 1 rfl (by simp[execOp,go_sem,aA p0])
      ·obtain rfl:=oi ho;have p1:=G.d 1 rfl;exact G.nl 2 rfl (by simp[execOp,go_sem,aA p1])
      ·obtain rfl:=oi ho;have hn1:=NodeIn.kp HN.out (Kp.of_below hb1);have x21:w1.cell? ⟨g,o+21,none⟩=some (.slice A l.length cp):=hn1.2 21 (by decide);have p2:=G.d 2 rfl;exact G.nl 3 rfl (by simp[execOp,go_sem,aA p2,x21])
      ·obtain rfl:=oi ho;have p3:=G.d 3 rfl;exact G.nl 4 rfl (by simp[go_sem,aA p3])
      ·obtain rfl:=oi ho;exact G.nl 5 rfl (by simp[execOp,go_sem])
     ·intro zl a1 w1 hI hup;have hb1:Below w.heap.size w w1:=hI.st;have hTT:=HTT.out;subst hTT;have z250:=hI.ptk 4 rfl (hup 4 (by decide));have z251:=hI.ptk 5 rfl (hup 5 (by decide));have hO:=hI.off;clear hI hup HTT;replace hR:=hR.off hO (by decide) (by decide);replace z5:=(hO.eval (by decide)).trans z5;clear hO;replace HBk:=zh hb1;generalize a1=a6 at *;generalize w1=w6 at *;simp only[Exit.then];refine wp_block ?_;refine wp_loop_ghost (fun k a' w'=>∃ i:Nat,i≤l.length∧k=l.length-i∧RF a' g o above∧a'.eval (.tmp 250)=.int .i64 (l.length:Int)∧a'.eval (.tmp 251)=.int .i64 (i:Int)∧a'.eval (.tmp 5)=.bool (RB&&bN (l.take i) h.kind)∧Below w.heap.size w w') l.length ⟨0,Nat.zero_le _,rfl,hR,z250,z251,by rw[z5];simp[bN],HBk.out⟩ ?_;clear hR z5 z250 z251 HBk hb1;rintro k a7 w7 ⟨i,hi,rfl,hR,z250,z251,z5,hbw⟩;have HBk:=zh hbw;clear hbw;refine wp_seq ?_
      obtain⟨lt,hlt⟩:∃ x,decide (i<l.length)=x:=⟨_,rfl⟩
      obtain⟨TT,hTT⟩:∃ TT:List (Nat×Nat×Value),TT=((0,252,.bool lt)::[]):=⟨_,rfl⟩
      have HTT:=zh hTT;clear hTT;refine bA (fun a0=>287≤a0.tmps.size∧a0.eval (.tmp 0)=.pointer (some ⟨g,o,none⟩)∧a0.eval (.tmp 1)=.int .i64 above∧a0.eval (.tmp 250)=.int .i64 (l.length:Int)∧a0.eval (.tmp 251)=.int .i64 (i:Int)) (252::[]) TT [] (fun w'=>Below w.heap.size w w') (by kernel_rfl) ⟨hR.sz,hR.s0,hR.s1,z250,z251⟩ HBk.out ?_ ?_
      ·rintro a0 ⟨hs,hq0,hq1,hq250,hq251⟩ zl a1 w1 zj o hsz hI hun ho zd;have hb1:Below w.heap.size w w1:=hI.st;have hTT:=HTT.out;have hk:okU (TT.map fun e=>(e.1,e.2.1)) (252::[]) 287=true:=by rw[hTT];rfl
       subst hTT;have e0x:=aA ((hI.off.eval (by decide)).trans hq0);have e1x:=aA ((hI.off.eval (by decide)).trans hq1);have e250x:=aA ((hI.off.eval (by decide)).trans hq250);have e251x:=aA ((hI.off.eval (by decide)).trans hq251);have hj:=Up.of_false hun;have hj12:zj<1:=by rw[hsz]at hj;exact hj
       have G:RG _ _ _ _ _ _ _ _ _ _ _:=⟨hk,hI,hs,hun,ho,zd⟩
       rcases(by omega:zj=0) with rfl
       ·obtain rfl:=oi ho;exact G.nl 0 rfl (by simp[execOp,go_sem,e250x,e251x,hlt])
      ·intro zl a1 w1 hI hup;have hb1:Below w.heap.size w w1:=hI.st;have hTT:=HTT.out;subst hTT;have z252:=hI.ptk 0 rfl (hup 0 (by decide));have hO:=hI.off;clear hI hup HTT;replace hR:=hR.off hO (by decide) (by decide);replace z5:=(hO.eval (by decide)).trans z5;replace z250:=(hO.eval (by decide)).trans z250;replace z251:=(hO.eval (by decide)).trans z251;clear hO;replace HBk:=zh hb1;clear hb1;generalize a1=a8 at *;generalize w1=w8 at *;simp only[Exit.then];refine wp_seq ?_;cases lt with
       | false=>
        refine wp_cond_false z252 (wp_exit ?_);have hie:i=l.length:=by have:=of_decide_eq_false hlt;omega
        subst hie;rw[List.take_length]at z5;simp only[Exit.then,Exit.inBlock,if_true];refine wp_seq ?_;obtain⟨TT,hTT⟩:∃ TT:List (Nat×Nat×Value),TT=((0,286,.bool (RB&&bN l h.kind))::(1,4,.bool (RB&&bN l h.kind))::[]):=⟨_,rfl⟩
        have HTT:=zh hTT;clear hTT;refine bA (fun a0=>287≤a0.tmps.size∧a0.eval (.tmp 0)=.pointer (some ⟨g,o,none⟩)∧a0.eval (.tmp 1)=.int .i64 above∧a0.eval (.tmp 5)=.bool (RB&&bN l h.kind)) (286::4::[]) TT [] (fun w'=>Below w.heap.size w w') (by kernel_rfl) ⟨hR.sz,hR.s0,hR.s1,z5⟩ HBk.out ?_ ?_
        ·rintro a0 ⟨hs,hq0,hq1,hq5⟩ zl a1 w1 zj o hsz hI hun ho zd;have hb1:Below w.heap.size w w1:=hI.st;have hTT:=HTT.out;have hk:okU (TT.map fun e=>(e.1,e.2.1)) (286::4::[]) 287=true:=by rw[hTT];rfl
         subst hTT;have e0x:=aA ((hI.off.eval (by decide)).trans hq0);have e1x:=aA ((hI.off.eval (by decide)).trans hq1);have e5x:=aA ((hI.off.eval (by decide)).trans hq5);have hj:=Up.of_false hun;have hj12:zj<2:=by rw[hsz]at hj;exact hj
         have G:RG _ _ _ _ _ _ _ _ _ _ _:=⟨hk,hI,hs,hun,ho,zd⟩
         rcases(by omega:zj=0∨zj=1) with rfl | rfl
         ·obtain rfl:=oi ho;exact G.nl 0 rfl (by simp[execOp,go_sem,e5x])
         ·obtain rfl:=oi ho;have p0:=G.d 0 rfl;exact G.nl 1 rfl (by simp[execOp,go_sem,aA p0])
        ·intro zl a1 w1 hI hup;have hb1:Below w.heap.size w w1:=hI.st;have hTT:=HTT.out;subst hTT;have z4:=hI.ptk 1 rfl (hup 1 (by decide));have hO:=hI.off;clear hI hup HTT;replace hR:=hR.off hO (by decide) (by decide);simp only[Exit.then];refine wp_ret ?_;exact uFP rfl hR.df z4 ⟨rfl,hb1⟩
       | true=>
        refine wp_cond_true z252 (wp_skip ?_);have hil:i<l.length:=by have:=of_decide_eq_true hlt;omega
        clear hlt z252;simp only[Exit.then];refine wp_seq ?_;refine wp_block ?_;refine wp_seq ?_;obtain⟨TT,hTT⟩:∃ TT:List (Nat×Nat×Value),TT=((0,253,.int .i64 (i:Int))::(1,6,.int .i64 (i:Int))::[]):=⟨_,rfl⟩
        have HTT:=zh hTT;clear hTT;refine bA (fun a0=>287≤a0.tmps.size∧a0.eval (.tmp 0)=.pointer (some ⟨g,o,none⟩)∧a0.eval (.tmp 1)=.int .i64 above∧a0.eval (.tmp 250)=.int .i64 (l.length:Int)∧a0.eval (.tmp 251)=.int .i64 (i:Int)) (253::6::[]) TT [] (fun w'=>Below w.heap.size w w') (by kernel_rfl) ⟨hR.sz,hR.s0,hR.s1,z250,z251⟩ HBk.out ?_ ?_
        ·rintro a0 ⟨hs,hq0,hq1,hq250,hq251⟩ zl a1 w1 zj o hsz hI hun ho zd;have hb1:Below w.heap.size w w1:=hI.st;have hTT:=HTT.out;have hk:okU (TT.map fun e=>(e.1,e.2.1)) (253::6::[]) 287=true:=by rw[hTT];rfl
         subst hTT;have e0x:=aA ((hI.off.eval (by decide)).trans hq0);have e1x:=aA ((hI.off.eval (by decide)).trans hq1);have e250x:=aA ((hI.off.eval (by decide)).trans hq250);have e251x:=aA ((hI.off.eval (by decide)).trans hq251);have hj:=Up.of_false hun;have hj12:zj<2:=by rw[hsz]at hj;exact hj
         have G:RG _ _ _ _ _ _ _ _ _ _ _:=⟨hk,hI,hs,hun,ho,zd⟩
         rcases(by omega:zj=0∨zj=1) with rfl | rfl
         ·obtain rfl:=oi ho;exact G.nl 0 rfl (by simp[execOp,go_sem,e251x])
         ·obtain rfl:=oi ho;have p0:=G.d 0 rfl;exact G.nl 1 rfl (by simp[execOp,go_sem,aA p0])
        ·intro zl a1 w1 hI hup;have hb1:Below w.heap.size w w1:=hI.st;have hTT:=HTT.out;subst hTT;have z6:=hI.ptk 1 rfl (hup 1 (by decide));have hO:=hI.off;clear hI hup HTT;replace hR:=hR.off hO (by decide) (by decide);replace z5:=(hO.eval (by decide)).trans z5;replace z250:=(hO.eval (by decide)).trans z250;replace z251:=(hO.eval (by decide)).trans z251;clear hO;replace HBk:=zh hb1;clear hb1;generalize a1=a9 at *;generalize w1=w9 at *;simp only[Exit.then];refine wp_seq ?_;refine wp_seq ?_;obtain⟨pv,hpv⟩:∃ x,(RB&&bN (l.take i) h.kind)=x:=⟨_,rfl⟩
         rw[hpv]at z5;obtain⟨TT,hTT⟩:∃ TT:List (Nat×Nat×Value),TT=((0,254,.bool pv)::(1,255,.bool (!pv))::[]):=⟨_,rfl⟩
         have HTT:=zh hTT;clear hTT;refine bA (fun a0=>287≤a0.tmps.size∧a0.eval (.tmp 0)=.pointer (some ⟨g,o,none⟩)∧a0.eval (.tmp 1)=.int .i64 above∧a0.eval (.tmp 250)=.int .i64 (l.length:Int)∧a0.eval (.tmp 251)=.int .i64 (i:Int)∧a0.eval (.tmp 5)=.bool pv∧a0.eval (.tmp 6)=.int .i64 (i:Int)) (254::255::[]) TT [] (fun w'=>Below w.heap.size w w') (by kernel_rfl) ⟨hR.sz,hR.s0,hR.s1,z250,z251,z5,z6⟩ HBk.out ?_ ?_
         ·rintro a0 ⟨hs,hq0,hq1,hq250,hq251,hq5,hq6⟩ zl a1 w1 zj o hsz hI hun ho zd;have hb1:Below w.heap.size w w1:=hI.st;have hTT:=HTT.out;have hk:okU (TT.map fun e=>(e.1,e.2.1)) (254::255::[]) 287=true:=by rw[hTT];rfl
          subst hTT;have e0x:=aA ((hI.off.eval (by decide)).trans hq0);have e1x:=aA ((hI.off.eval (by decide)).trans hq1);have e250x:=aA ((hI.off.eval (by decide)).trans hq250);have e251x:=aA ((hI.off.eval (by decide)).trans hq251);have e5x:=aA ((hI.off.eval (by decide)).trans hq5);have e6x:=aA ((hI.off.eval (by decide)).trans hq6);have hj:=Up.of_false hun;have hj12:zj<2:=by rw[hsz]at hj;exact hj
          have G:RG _ _ _ _ _ _ _ _ _ _ _:=⟨hk,hI,hs,hun,ho,zd⟩
          rcases(by omega:zj=0∨zj=1) with rfl | rfl
          ·obtain rfl:=oi ho;exact G.nl 0 rfl (by simp[execOp,go_sem,e5x])
          ·obtain rfl:=oi ho;have p0:=G.d 0 rfl;exact G.nl 1 rfl (by simp[execOp,go_sem,aA p0])
         ·intro zl a1 w1 hI hup;have hb1:Below w.heap.size w w1:=hI.st;have hTT:=HTT.out;subst hTT;have z255:=hI.ptk 1 rfl (hup 1 (by decide));have hO:=hI.off;clear hI hup HTT;replace hR:=hR.off hO (by decide) (by decide);replace z5:=(hO.eval (by decide)).trans z5;replace z250:=(hO.eval (by decide)).trans z250;replace z251:=(hO.eval (by decide)).trans z251;replace z6:=(hO.eval (by decide)).trans z6;clear hO;replace HBk:=zh hb1;clear hb1;generalize a1=a10 at *;generalize w1=w10 at *;simp only[Exit.then];cases pv with
          | false=>
           refine wp_cond_true z255 ?_;refine wp_seq ?_;obtain⟨TT,hTT⟩:∃ TT:List (Nat×Nat×Value),TT=((0,4,.bool false)::[]):=⟨_,rfl⟩
           have HTT:=zh hTT;clear hTT;refine bA (fun a0=>287≤a0.tmps.size∧a0.eval (.tmp 0)=.pointer (some ⟨g,o,none⟩)∧a0.eval (.tmp 1)=.int .i64 above) (4::[]) TT [] (fun w'=>Below w.heap.size w w') (by kernel_rfl) ⟨hR.sz,hR.s0,hR.s1⟩ HBk.out ?_ ?_
           ·rintro a0 ⟨hs,hq0,hq1⟩ zl a1 w1 zj o hsz hI hun ho zd;have hb1:Below w.heap.size w w1:=hI.st;have hTT:=HTT.out;have hk:okU (TT.map fun e=>(e.1,e.2.1)) (4::[]) 287=true:=by rw[hTT];rfl
            subst hTT;have e0x:=aA ((hI.off.eval (by decide)).trans hq0);have e1x:=aA ((hI.off.eval (by decide)).trans hq1);have hj:=Up.of_false hun;have hj12:zj<1:=by rw[hsz]at hj;exact hj
            have G:RG _ _ _ _ _ _ _ _ _ _ _:=⟨hk,hI,hs,hun,ho,zd⟩
            rcases(by omega:zj=0) with rfl
            ·obtain rfl:=oi ho;exact G.nl 0 rfl (by simp[execOp,go_sem])
           ·intro zl a1 w1 hI hup;have hb1:Below w.heap.size w w1:=hI.st;have hTT:=HTT.out;subst hTT;have z4:=hI.ptk 0 rfl (hup 0 (by decide));have hO:=hI.off;clear hI hup HTT;replace hR:=hR.off hO (by decide) (by decide);simp only[Exit.then];refine wp_ret ?_;simp only[Exit.then,Exit.inBlock];have hfin:(RB&&bN l h.kind)=false:=by
             cases RB with
             | false=>rfl
             | true=>rw[Bool.true_and]at hpv ⊢;exact uBC i hpv
            exact uFP rfl hR.df z4 ⟨by rw[hfin],hb1⟩
          | true=>
           refine wp_cond_false z255 (wp_skip ?_);simp only[Exit.then];obtain⟨g',hA,hW⟩:=HK.out i hil;subst hA;obtain⟨u,hu⟩:∃ u,l[i]'hil=u:=⟨_,rfl⟩
           rw[hu]at hW;obtain⟨b0,hb0⟩:∃ x,(h.kind != 8)=x:=⟨_,rfl⟩
           obtain⟨b1,hb1⟩:∃ x,(u.h.kind==0)=x:=⟨_,rfl⟩
           have hb1':=hb1;clear hb1;obtain⟨b2,hb2⟩:∃ x,u.right h.kind=x:=⟨_,rfl⟩
           obtain⟨d,hd⟩:∃ x,x=(b0||b1):=⟨_,rfl⟩
           obtain⟨e,he⟩:∃ x,x=(d&&b2):=⟨_,rfl⟩
           have hli:(i:Int)<(l.length:Int):=by omega
           obtain⟨TT,hTT⟩:∃ TT:List (Nat×Nat×Value),TT=((0,256,.pointer (some ⟨g,o,none⟩))::(1,257,.pointer (some ⟨g,o,none⟩))::(2,258,.pointer (some ⟨g,o,none⟩))::(3,259,.int .i64 h.kind)::(4,260,.bool b0)::(5,261,.bool b0)::(6,262,(bif b0 then undef else .pointer (some ⟨g,o,none⟩)))::(7,263,(bif b0 then undef else .pointer (some ⟨g,o,none⟩)))::(8,264,(bif b0 then undef else .pointer (some ⟨g,o+21,none⟩)))::(9,265,(bif b0 then undef else .slice (some ⟨g',0,none⟩) l.length cp))::(10,266,(bif b0 then undef else .int .i64 (i:Int)))::(11,267,(bif b0 then undef else .pointer (some ⟨g',i*22,none⟩)))::(12,268,(bif b0 then undef else .pointer (some ⟨g',i*22,none⟩)))::(13,269,(bif b0 then undef else .int .i64 u.h.kind))::(14,270,(bif b0 then undef else .bool b1))::(15,271,.bool d)::(16,272,.bool d)::(17,273,(bif d then .pointer (some ⟨g,o,none⟩) else undef))::(18,274,(bif d then .pointer (some ⟨g,o,none⟩) else undef))::(19,275,(bif d then .pointer (some ⟨g,o+21,none⟩) else undef))::(20,276,(bif d then .slice (some ⟨g',0,none⟩) l.length cp else undef))::(21,277,(bif d then .int .i64 (i:Int) else undef))::(22,278,(bif d then .pointer (some ⟨g',i*22,none⟩) else undef))::(23,279,(bif d then .pointer (some ⟨g,o,none⟩) else undef))::(24,280,(bif d then .pointer (some ⟨g,o,none⟩) else undef))::(25,281,(bif d then .pointer (some ⟨g,o,none⟩) else undef))::(26,282,(bif d then .int .i64 h.kind else undef))::(27,283,(bif d then .bool b2 else undef))::(28,284,.bool e)::(29,5,.bool e)::[]):=⟨_,rfl⟩
           have HTT:=zh hTT;clear hTT;refine bJ (fun a0=>287≤a0.tmps.size∧a0.eval (.tmp 0)=.pointer (some ⟨g,o,none⟩)∧a0.eval (.tmp 1)=.int .i64 above∧a0.eval (.tmp 6)=.int .i64 (i:Int)∧a0.eval (.tmp 250)=.int .i64 (l.length:Int)∧a0.eval (.tmp 251)=.int .i64 (i:Int)) (256::257::258::259::260::261::262::263::264::265::266::267::268::269::270::271::272::273::274::275::276::277::278::279::280::281::282::283::284::5::[]) TT [] (fun w'=>Below w.heap.size w w') (by kernel_rfl) (by kernel_rfl) ⟨hR.sz,hR.s0,hR.s1,z6,z250,z251⟩ HBk.out.drew ?_ ?_
           ·rintro a0 ⟨hs,hq0,hq1,hq6,hq250,hq251⟩ zl a1 w1 zj o hsz hI hun ho zd;have hb1:Below w.heap.size w w1:=hI.st;have hTT:=HTT.out;have hk:okU (TT.map fun e=>(e.1,e.2.1)) (256::257::258::259::260::261::262::263::264::265::266::267::268::269::270::271::272::273::274::275::276::277::278::279::280::281::282::283::284::5::[]) 287=true:=by rw[hTT];rfl
            subst hTT;have e0x:=aA ((hI.off.eval (by decide)).trans hq0);have e1x:=aA ((hI.off.eval (by decide)).trans hq1);have e6x:=aA ((hI.off.eval (by decide)).trans hq6);have e250x:=aA ((hI.off.eval (by decide)).trans hq250);have e251x:=aA ((hI.off.eval (by decide)).trans hq251);have hj:=Up.of_false hun;have hj12:zj<30:=by rw[hsz]at hj;exact hj
            have G:RG _ _ _ _ _ _ _ _ _ _ _:=⟨hk,hI,hs,hun,ho,zd⟩
            rcases(by omega:zj=0∨zj=1∨zj=2∨zj=3∨zj=4∨zj=5∨zj=6∨zj=7∨zj=8∨zj=9∨zj=10∨zj=11∨zj=12∨zj=13∨zj=14∨zj=15∨zj=16∨zj=17∨zj=18∨zj=19∨zj=20∨zj=21∨zj=22∨zj=23∨zj=24∨zj=25∨zj=26∨zj=27∨zj=28∨zj=29) with rfl | rfl | rfl | rfl | rfl | rfl | rfl | rfl | rfl | rfl | rfl | rfl | rfl | rfl | rfl | rfl | rfl | rfl | rfl | rfl | rfl | rfl | rfl | rfl | rfl | rfl | rfl | rfl | rfl | rfl
            ·obtain rfl:=oi ho;exact G.nl 0 rfl (by simp[execOp,go_sem,e0x])
            ·obtain rfl:=oi ho;have p0:=G.d 0 rfl;exact G.nl 1 rfl (by simp[execOp,go_sem,aA p0])
            ·obtain rfl:=oi ho;have p1:=G.d 1 rfl;exact G.nl 2 rfl (by simp[execOp,go_sem,aA p1])
            ·obtain rfl:=oi ho;have hn1:=NodeIn.kp HN.out (Kp.of_below hb1);have x0:w1.cell? ⟨g,o,none⟩=some (.int .i64 h.kind):=hn1.2 0 (by decide);have p2:=G.d 2 rfl;exact G.nl 3 rfl (by simp[execOp,go_sem,aA p2,x0])
            ·obtain rfl:=oi ho;have p3:=G.d 3 rfl;exact G.nl 4 rfl (by simp[execOp,go_sem,aA p3,hb0])
            ·obtain rfl:=oi ho;have p4:=G.d 4 rfl;exact G.nl 5 rfl (by simp[execOp,go_sem,aA p4])
            ·obtain rfl:=oi ho;have pg:=G.g 5 rfl;cases b0 with
             | true=>exact G.sk 6 rfl pg rfl
             | false=>
              exact G.vl 6 rfl pg rfl (by simp[execOp,go_sem,e0x])
            ·obtain rfl:=oi ho;have pg:=G.g 5 rfl;cases b0 with
             | true=>exact G.sk 7 rfl pg rfl
             | false=>
              have p6:=G.d 6 rfl;exact G.vl 7 rfl pg rfl (by simp[execOp,go_sem,aA p6])
            ·obtain rfl:=oi ho;have pg:=G.g 5 rfl;cases b0 with
             | true=>exact G.sk 8 rfl pg rfl
             | false=>
              have p7:=G.d 7 rfl;exact G.vl 8 rfl pg rfl (by simp[execOp,go_sem,aA p7])
            ·obtain rfl:=oi ho;have pg:=G.g 5 rfl;cases b0 with
             | true=>exact G.sk 9 rfl pg rfl
             | false=>
              have hn1:=NodeIn.kp HN.out (Kp.of_below hb1);have x21:w1.cell? ⟨g,o+21,none⟩=some (.slice (some ⟨g',0,none⟩) l.length cp):=hn1.2 21 (by decide);have p8:=G.d 8 rfl;exact G.vl 9 rfl pg rfl (by simp[execOp,go_sem,aA p8,x21])
            ·obtain rfl:=oi ho;have pg:=G.g 5 rfl;cases b0 with
             | true=>exact G.sk 10 rfl pg rfl
             | false=>
              exact G.vl 10 rfl pg rfl (by simp[execOp,go_sem,e6x])
            ·obtain rfl:=oi ho;have pg:=G.g 5 rfl;cases b0 with
             | true=>exact G.sk 11 rfl pg rfl
             | false=>
              have p9:=G.d 9 rfl;have p10:=G.d 10 rfl;exact G.vl 11 rfl pg rfl (by simp[execOp,go_sem,aA p9,aA p10,hli])
            ·obtain rfl:=oi ho;have pg:=G.g 5 rfl;cases b0 with
             | true=>exact G.sk 12 rfl pg rfl
             | false=>
              have p11:=G.d 11 rfl;exact G.vl 12 rfl pg rfl (by simp[execOp,go_sem,aA p11])
            ·obtain rfl:=oi ho;have pg:=G.g 5 rfl;cases b0 with
             | true=>exact G.sk 13 rfl pg rfl
             | false=>
              have xk:=(hW w1 hb1).1;have p12:=G.d 12 rfl;exact G.vl 13 rfl pg rfl (by simp[execOp,go_sem,aA p12,xk])
            ·obtain rfl:=oi ho;have pg:=G.g 5 rfl;cases b0 with
             | true=>exact G.sk 14 rfl pg rfl
             | false=>
              have p13:=G.d 13 rfl;exact G.vl 14 rfl pg rfl (by simp[execOp,go_sem,aA p13,hb1'])
            ·obtain rfl:=oi ho;cases b0
             all_goals have p5:=G.d 5 rfl
             all_goals have p14:=G.d 14 rfl
             all_goals exact G.nl 15 rfl (by simp[execOp,go_sem,aA p5,aA p14,hd])
            ·obtain rfl:=oi ho;have p15:=G.d 15 rfl;exact G.nl 16 rfl (by simp[execOp,go_sem,aA p15])
            ·obtain rfl:=oi ho;have pg:=G.g 16 rfl;cases d with
             | false=>exact G.sk 17 rfl pg rfl
             | true=>
              exact G.vl 17 rfl pg rfl (by simp[execOp,go_sem,e0x])
            ·obtain rfl:=oi ho;have pg:=G.g 16 rfl;cases d with
             | false=>exact G.sk 18 rfl pg rfl
             | true=>
              have p17:=G.d 17 rfl;exact G.vl 18 rfl pg rfl (by simp[execOp,go_sem,aA p17])
            ·obtain rfl:=oi ho;have pg:=G.g 16 rfl;cases d with
             | false=>exact G.sk 19 rfl pg rfl
             | true=>
              have p18:=G.d 18 rfl;exact G.vl 19 rfl pg rfl (by simp[execOp,go_sem,aA p18])
            ·obtain rfl:=oi ho;have pg:=G.g 16 rfl;cases d with
             | false=>exact G.sk 20 rfl pg rfl
             | true=>
              have hn1:=NodeIn.kp HN.out (Kp.of_below hb1);have x21:w1.cell? ⟨g,o+21,none⟩=some (.slice (some ⟨g',0,none⟩) l.length cp):=hn1.2 21 (by decide);have p19:=G.d 19 rfl;exact G.vl 20 rfl pg rfl (by simp[execOp,go_sem,aA p19,x21])
            ·obtain rfl:=oi ho;have pg:=G.g 16 rfl;cases d with
             | false=>exact G.sk 21 rfl pg rfl
             | true=>
              exact G.vl 21 rfl pg rfl (by simp[execOp,go_sem,e6x])
            ·obtain rfl:=oi ho;have pg:=G.g 16 rfl;cases d with
             | false=>exact G.sk 22 rfl pg rfl
             | true=>
              have p20:=G.d 20 rfl;have p21:=G.d 21 rfl;exact G.vl 22 rfl pg rfl (by simp[execOp,go_sem,aA p20,aA p21,hli])
            ·obtain rfl:=oi ho;have pg:=G.g 16 rfl;cases d with
             | false=>exact G.sk 23 rfl pg rfl
             | true=>
              exact G.vl 23 rfl pg rfl (by simp[execOp,go_sem,e0x])
            ·obtain rfl:=oi ho;have pg:=G.g 16 rfl;cases d with
             | false=>exact G.sk 24 rfl pg rfl
             | true=>
              have p23:=G.d 23 rfl;exact G.vl 24 rfl pg rfl (by simp[execOp,go_sem,aA p23])
            ·obtain rfl:=oi ho;have pg:=G.g 16 rfl;cases d with
             | false=>exact G.sk 25 rfl pg rfl
             | true=>
              have p24:=G.d 24 rfl;exact G.vl 25 rfl pg rfl (by simp[execOp,go_sem,aA p24])
            ·obtain rfl:=oi ho;have pg:=G.g 16 rfl;cases d with
             | false=>exact G.sk 26 rfl pg rfl
             | true=>
              have hn1:=NodeIn.kp HN.out (Kp.of_below hb1);have x0:w1.cell? ⟨g,o,none⟩=some (.int .i64 h.kind):=hn1.2 0 (by decide);have p25:=G.d 25 rfl;exact G.vl 26 rfl pg rfl (by simp[execOp,go_sem,aA p25,x0])
            ·obtain rfl:=oi ho;have pg:=G.g 16 rfl;cases d with
             | false=>exact G.sk 27 rfl pg rfl
             | true=>
              have p22:=G.d 22 rfl;have p26:=G.d 26 rfl;refine dA (inT 27 rfl) hk hI hs hun ho zd (Eq.trans (aN rfl rfl rfl pg) rfl) rfl 38 #[.pointer (some ⟨g',i*22,none⟩),.int .i64 h.kind] (by simp[go_sem,aA p22,aA p26]) ?_;have hB:=(hW w1 hb1).2 h.kind;rw[hb2]at hB;refine hB.mono ?_;rintro e w2 ⟨rfl,hb⟩;exact⟨rfl,hb1.trans (hb.mono hb1.size)⟩
            ·obtain rfl:=oi ho;cases d
             all_goals have p16:=G.d 16 rfl
             all_goals have p27:=G.d 27 rfl
             all_goals exact G.nl 28 rfl (by simp[execOp,go_sem,aA p16,aA p27,he])
            ·obtain rfl:=oi ho;have p28:=G.d 28 rfl;exact G.nl 29 rfl (by simp[execOp,go_sem,aA p28])
           ·intro zl a1 w1 hI hup;have hb1:Below w.heap.size w w1:=hI.st;have hTT:=HTT.out;subst hTT;have z5:=hI.ptk 29 rfl (hup 29 (by decide));have hO:=hI.off;clear hI hup HTT;replace hR:=hR.off hO (by decide) (by decide);replace z250:=(hO.eval (by decide)).trans z250;replace z251:=(hO.eval (by decide)).trans z251;clear hO;replace HBk:=zh hb1;clear hb1;generalize a1=a11 at *;generalize w1=w11 at *;simp only[Exit.then,Exit.inBlock];have hnx:(i:Int)+1≤1000000:=by have:=HLB.out;omega
            have hwi:IntKind.i64.wrap ((i:Int)+1)=(i:Int)+1:=IntWalk.i64_in _ (by omega);refine wp_inc z251 hwi (by have:=hR.sz;omega) (by have:=hR.sz;omega) (fun a' hO hz=>?_);simp only[Exit.then];refine⟨l.length-(i+1),by omega,i+1,by omega,rfl,hR.off hO (by decide) (by decide),(hO.eval (by decide)).trans z250,hz.trans rfl,?_,HBk.out⟩;rw[(hO.eval (by decide)).trans z5,List.take_succ_eq_append_getElem hil,rH,← Bool.and_assoc,hpv,Bool.true_and,hu,he,hd,← hb0,← hb1',← hb2]
            congr 2
            congr 1
            all_goals first | rfl |(rw[Bool.eq_iff_iff];simp)
end Go.Proofs.YtmgjidnalpgegaaGreatDoor
