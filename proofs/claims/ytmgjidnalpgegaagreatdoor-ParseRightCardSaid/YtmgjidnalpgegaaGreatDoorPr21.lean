/-
  Lemmas, part 21: PaQ.
-/
import Derived.Test.YtmgjidnalpgegaaGreatDoorPr20
set_option maxHeartbeats 100000000
namespace Go.Proofs.YtmgjidnalpgegaaGreatDoor
open Go.RowKit
theorem infoCor:(Tryz.prog.info? 36).map (·.size)=some 6:=by kernel_rfl
theorem uFT:(Tryz.prog.info? 34).map (·.size)=some 2:=by kernel_rfl
theorem ek{b:Bool}{h:Prop}[Decidable h](e:decide h=b):(b=true↔h):=by rw[<- e];simp
set_option maxRecDepth 1000000 in
theorem uFD:∀ (m:Nat) (t:Tree) (above:Int) (g o:Nat) (w:World),t.size<=m->t.size<=1000000->t.fine->g<w.heap.size->NodeAt w [] g o t ->
  Calls Tryz.prog 38 #[.pointer (some ⟨g,o,none⟩),.int .i64 above] w fun e w'=>e=.returned (.bool (t.right above))/\Below w.heap.size w w':=by
 intro m
 induction m with
 |zero=>intro t _ _ _ _ hs;cases t;simp[Tree.size]at hs
 |succ m ih=>
 rintro⟨h,l⟩ above g o w hs jo ⟨kn,hfl⟩ hg ⟨A,cp,ik,zo⟩;have HN:Hid (NodeIn w g o h A l.length cp):=zh ⟨hg,ik⟩;have iq:Hid (l.length<=1000000):=zh (by have h1:=cV l;have h2:bB l+1<=1000000:=jo;omega);have HKS:=zh zo;have HF:=zh kn;have HK:Hid (∀ (i:Nat) (hi:i<l.length),∃ g',A=some ⟨g',0,none⟩/\∀ W:World,Below w.heap.size w W->W.cell? ⟨g',i*22,none⟩=some (.int .i64 (l[i]'hi).h.kind)/\∀ k:Int,Calls Tryz.prog 38 #[.pointer (some ⟨g',i*22,none⟩),.int .i64 k] W fun e w'=>e=.returned (.bool ((l[i]'hi).right k))/\Below W.heap.size W w'):=zh (by
  intro i hi;rcases zo with h0|⟨g',hA,hx,o6,hka⟩
  ·subst h0;exact absurd hi (by simp)
  have hn:=KidsAt.get i hi hka;rw[Nat.zero_add]at hn;refine⟨g',hA,fun W hW=>?_⟩;have gy:Kp [] w W:=Kp.of_below hW;have hnW:=NodeAt.kp gy o6 hx hn;refine⟨?_,fun k=>ih _ k g' (i*22) W ?_ ?_ (vM i hi hfl) (yu o6 gy.size) hnW⟩
  ·generalize l[i]=u at *;cases u with
   |mk uh ul=>
    obtain⟨A2,c2,h1,_⟩:=hnW;exact h1 0 (by decide)
  ·have h9:(l[i]'hi).size<(Tree.mk h l).size:=gN (t:=.mk h l) (i:=i) hi;omega
  have h9:(l[i]'hi).size<(Tree.mk h l).size:=gN (t:=.mk h l) (i:=i) hi;omega)
 clear ih hs jo kn hfl ik zo;have hS:Tree.right (.mk h l) above=(bE h l.length (l.map fun t=>t.h.kind) above&&bK l h.kind):=rfl;rw[hS];clear hS;obtain⟨RB,hRB⟩:∃ x,bE h l.length (l.map fun t=>t.h.kind) above=x:=⟨_,rfl⟩
 rw[hRB];have zs:=zh hRB;clear hRB;have nz:∀ A:Option Addr,∀ c:Nat,True:=fun _ _=>trivial
 clear nz
 go_enter Tryz.func38,Tryz.ntmps38
 refine wp_seq ?_;have jk:Hid (Below w.heap.size w w):=zh (Below.refl _ _);obtain⟨TT,ae⟩:∃ TT:List (Nat×Nat×Value),TT=((0,4,.bool false)::[]):=⟨_,rfl⟩
 have am:=zh ae;clear ae;refine bD (fun a0=>287<=a0.tmps.size/\a0.eval (.tmp 0)=.pointer (some ⟨g,o,none⟩)/\a0.eval (.tmp 1)=.int .i64 above) (4::[]) TT [] (fun w'=>Below w.heap.size w w') (by kernel_rfl) ⟨by simp,rfl,rfl⟩ jk.out ?_ ?_
 ·rintro a0 ⟨hs,dh,dt⟩ zl a1 w1 zj o bg hI aa ho zd;have af:Below w.heap.size w w1:=hI.st;have ae:=am.out;have hk:okU (TT.map fun e=>(e.1,e.2.1)) (4::[]) 287=true:=by rw[ae];rfl
  subst ae;have e0x:=aE ((hI.off.eval (by decide)).trans dh);have e1x:=aE ((hI.off.eval (by decide)).trans dt);have hj:=Up.of_false aa;have hj12:zj<1:=by rw[bg]at hj;exact hj
  have G:RG _ _ _ _ _ _ _ _ _ _ _:=⟨hk,hI,hs,aa,ho,zd⟩
  rcases(by omega:zj=0) with rfl;obtain rfl:=oi ho;exact G.nl 0 rfl (by simp[execOp,go_sem])
 intro zl a1 w1 hI ap;have af:Below w.heap.size w w1:=hI.st;have ae:=am.out;subst ae;have z4:=hI.ptk 0 rfl (ap 0 (by decide));have hO:=hI.off;clear hI ap am;have hR:RF a1 g o above:=⟨by rw[hO.size];simp,(hO.eval (by decide)).trans rfl,(hO.eval (by decide)).trans rfl,hO.defers.trans rfl⟩
 clear hO;replace jk:=zh af;clear z4;generalize a1=a2 at *;generalize w1=w2 at *;simp only[Exit.then];refine wp_seq ?_;obtain⟨TT,ae⟩:∃ TT:List (Nat×Nat×Value),TT=((0,5,.bool false)::[]):=⟨_,rfl⟩
 have am:=zh ae;clear ae;refine bD (fun a0=>287<=a0.tmps.size/\a0.eval (.tmp 0)=.pointer (some ⟨g,o,none⟩)/\a0.eval (.tmp 1)=.int .i64 above) (5::[]) TT [] (fun w'=>Below w.heap.size w w') (by kernel_rfl) ⟨hR.sz,hR.s0,hR.s1⟩ jk.out ?_ ?_
 ·rintro a0 ⟨hs,dh,dt⟩ zl a1 w1 zj o bg hI aa ho zd;have af:Below w.heap.size w w1:=hI.st;have ae:=am.out;have hk:okU (TT.map fun e=>(e.1,e.2.1)) (5::[]) 287=true:=by rw[ae];rfl
  subst ae;have e0x:=aE ((hI.off.eval (by decide)).trans dh);have e1x:=aE ((hI.off.eval (by decide)).trans dt);have hj:=Up.of_false aa;have hj12:zj<1:=by rw[bg]at hj;exact hj
  have G:RG _ _ _ _ _ _ _ _ _ _ _:=⟨hk,hI,hs,aa,ho,zd⟩
  rcases(by omega:zj=0) with rfl;obtain rfl:=oi ho;exact G.nl 0 rfl (by simp[execOp,go_sem])
 intro zl a1 w1 hI ap;have af:Below w.heap.size w w1:=hI.st;have ae:=am.out;subst ae;have z5:=hI.ptk 0 rfl (ap 0 (by decide));have hO:=hI.off;clear hI ap am;replace hR:=hR.off hO (by decide) (by decide);clear hO;replace jk:=zh af;generalize a1=a3 at *;generalize w1=w3 at *;simp only[Exit.then];refine wp_seq ?_;refine wp_seq ?_;obtain⟨TT,ae⟩:∃ TT:List (Nat×Nat×Value),TT=((0,7,.pointer (some ⟨g,o,none⟩))::(1,8,.pointer (some ⟨g,o,none⟩))::(2,9,.pointer (some ⟨g,o,none⟩))::(3,10,.int .i64 h.kind)::[]):=⟨_,rfl⟩
 have am:=zh ae;clear ae;refine bD (fun a0=>287<=a0.tmps.size/\a0.eval (.tmp 0)=.pointer (some ⟨g,o,none⟩)/\a0.eval (.tmp 1)=.int .i64 above) (7::8::9::10::[]) TT [] (fun w'=>Below w.heap.size w w') (by kernel_rfl) ⟨hR.sz,hR.s0,hR.s1⟩ jk.out ?_ ?_
 ·rintro a0 ⟨hs,dh,dt⟩ zl a1 w1 zj o bg hI aa ho zd;have af:Below w.heap.size w w1:=hI.st;have ae:=am.out;have hk:okU (TT.map fun e=>(e.1,e.2.1)) (7::8::9::10::[]) 287=true:=by rw[ae];rfl
  subst ae;have e0x:=aE ((hI.off.eval (by decide)).trans dh);have e1x:=aE ((hI.off.eval (by decide)).trans dt);have hj:=Up.of_false aa;have hj12:zj<4:=by rw[bg]at hj;exact hj
  have G:RG _ _ _ _ _ _ _ _ _ _ _:=⟨hk,hI,hs,aa,ho,zd⟩
  rcases(by omega:zj=0\/zj=1\/zj=2\/zj=3) with rfl|rfl|rfl|rfl<;>obtain rfl:=oi ho
  ·exact G.nl 0 rfl (by simp[execOp,go_sem,e0x])
  ·exact G.nl 1 rfl (by simp[execOp,go_sem,G.t 0 rfl])
  ·exact G.nl 2 rfl (by simp[execOp,go_sem,G.t 1 rfl])
  have au:=NodeIn.kp HN.out (Kp.of_below af);have x0:w1.cell? ⟨g,o,none⟩=some (.int .i64 h.kind):=au.2 0 (by decide);exact G.nl 3 rfl (by simp[execOp,go_sem,G.t 2 rfl,x0])
 intro zl a1 w1 hI ap;have af:Below w.heap.size w w1:=hI.st;have ae:=am.out;subst ae;have z10:=hI.ptk 3 rfl (ap 3 (by decide));have hO:=hI.off;clear hI ap am;replace hR:=hR.off hO (by decide) (by decide);replace z5:=(hO.eval (by decide)).trans z5;clear hO;replace jk:=zh af;generalize a1=a4 at *;generalize w1=w4 at *;simp only[Exit.then];refine wp_mono (Q:=fun e a' w'=>e=.normal/\RF a' g o above/\a'.eval (.tmp 5)=.bool RB/\Below w.heap.size w w') ?blk ?rest
 case blk=>
  refine wp_block ?_;refine wp_seq ?_;by_cases k0:h.kind=0
  ·refine eT true z10 (by simp[k0]) (by have:=hR.sz;omega) (by have:=hR.sz;omega) (fun a' hO hz=>?_);replace hR:=hR.off hO (by decide) (by decide);replace z10:=(hO.eval (by decide)).trans z10;replace z5:=(hO.eval (by decide)).trans z5;clear hO;simp only[Exit.then];refine wp_cond_true hz ?_;obtain⟨e8,he8⟩:∃ x,(above==8)=x:=⟨_,rfl⟩
   obtain⟨b0,ct⟩:∃ x,cA h.v e8=x:=⟨_,rfl⟩
   obtain⟨s1,jo⟩:∃ x,(NodeH.same h ⟨0,h.v,[],aG,aG,0⟩&&decide (l.length=0))=x:=⟨_,rfl⟩
   obtain⟨c1,fg⟩:∃ x,x=(b0&&s1):=⟨_,rfl⟩
   have HL:RB=c1:=by
    rw[<- zs.out];unfold bE;rw[if_pos k0,fg,<- ct,<- jo,show decide (above=8)=e8 from by rw[<- he8,ze];simp,Bool.and_assoc]
   obtain⟨TT,ae⟩:∃ TT:List (Nat×Nat×Value),TT=((0,13,.pointer (some ⟨g,o,none⟩))::(1,14,.pointer (some ⟨g,o,none⟩))::(2,15,.pointer (some ⟨g,o+1,none⟩))::(3,16,mM h.v)::(4,17,.int .i64 above)::(5,18,.bool e8)::(6,19,.bool b0)::(7,20,.bool b0)::(8,21,(bif b0 then .pointer (some ⟨g,o,none⟩) else undef))::(9,22,(bif b0 then .pointer (some ⟨g,o,none⟩) else undef))::(10,23,(bif b0 then .pointer (some ⟨g,o,none⟩) else undef))::(11,24,(bif b0 then .pointer (some ⟨g,o+1,none⟩) else undef))::(12,25,(bif b0 then mM h.v else undef))::(13,26,(bif b0 then dA ⟨0,h.v,[],aG,aG,0⟩ none 0 0 else undef))::(14,27,(bif b0 then .bool s1 else undef))::(15,28,.bool c1)::(16,5,.bool c1)::[]):=⟨_,rfl⟩
   have am:=zh ae;clear ae;refine bD (fun a0=>287<=a0.tmps.size/\a0.eval (.tmp 0)=.pointer (some ⟨g,o,none⟩)/\a0.eval (.tmp 1)=.int .i64 above) (13::14::15::16::17::18::19::20::21::22::23::24::25::26::27::28::5::[]) TT [] (fun w'=>Below w.heap.size w w') (by kernel_rfl) ⟨hR.sz,hR.s0,hR.s1⟩ jk.out ?_ ?_
   ·rintro a0 ⟨hs,dh,dt⟩ zl a1 w1 zj o bg hI aa ho zd;have af:Below w.heap.size w w1:=hI.st;have ae:=am.out;have hk:okU (TT.map fun e=>(e.1,e.2.1)) (13::14::15::16::17::18::19::20::21::22::23::24::25::26::27::28::5::[]) 287=true:=by rw[ae];rfl
    subst ae;have e0x:=aE ((hI.off.eval (by decide)).trans dh);have e1x:=aE ((hI.off.eval (by decide)).trans dt);have hj:=Up.of_false aa;have hj12:zj<17:=by rw[bg]at hj;exact hj
    have G:RG _ _ _ _ _ _ _ _ _ _ _:=⟨hk,hI,hs,aa,ho,zd⟩
    (iterate 16 rcases zq hj12 with hj12|rfl);obtain rfl:=cz hj12;all_goals obtain rfl:=oi ho
    ·exact G.nl 0 rfl (by simp[execOp,go_sem,e0x])
    ·exact G.nl 1 rfl (by simp[execOp,go_sem,G.t 0 rfl])
    ·exact G.nl 2 rfl (by simp[execOp,go_sem,G.t 1 rfl])
    ·have au:=NodeIn.kp HN.out (Kp.of_below af);have p2:=G.d 2 rfl;exact G.nl 3 rfl (aL 32 (.tmp 15) rfl g (o+1) p2 _ _ (au.sub 1 [.int .i64 h.v.kind,.int .i64 h.v.mant,.int .i64 h.v.exp,.string ⟨h.v.text.toArray⟩,.bool h.v.truth,.int .i64 h.v.fault] (by simp) rfl) Tryz.underlying32 rfl jB)
    ·exact G.nl 4 rfl (by simp[execOp,go_sem,e1x])
    ·exact G.nl 5 rfl (by simp[execOp,go_sem,G.t 4 rfl,he8])
    ·refine cR (inT 6 rfl) hk hI hs aa ho zd (aC rfl) rfl 51 #[mM h.v,.bool e8] (by simp[go_sem,G.t 3 rfl,G.t 5 rfl]) ?_;have hB:=tLit_any h.v e8 w1 HF.out.1 HF.out.2.1 HF.out.2.2.1;rw[ct]at hB;refine hB.mono ?_;rintro e w2 ⟨rfl,hb⟩;exact⟨rfl,af.trans (hb.mono af.size)⟩
    ·exact G.nl 7 rfl (by simp[execOp,go_sem,G.t 6 rfl])
    ·refine G.gv 7 8 rfl rfl rfl ?_;rintro rfl;simp[execOp,go_sem,e0x]
    ·refine G.gv 7 9 rfl rfl rfl ?_;rintro rfl;simp[execOp,go_sem,e0x]
    ·refine G.gv 7 10 rfl rfl rfl ?_;rintro rfl;simp[execOp,go_sem,G.t 9 rfl]
    ·refine G.gv 7 11 rfl rfl rfl ?_;rintro rfl;simp[execOp,go_sem,G.t 10 rfl]
    ·refine G.gv 7 12 rfl rfl rfl ?_;rintro rfl;have au:=NodeIn.kp HN.out (Kp.of_below af);have p11:=G.d 11 rfl;exact aL 32 (.tmp 24) rfl g (o+1) p11 _ _ (au.sub 1 [.int .i64 h.v.kind,.int .i64 h.v.mant,.int .i64 h.v.exp,.string ⟨h.v.text.toArray⟩,.bool h.v.truth,.int .i64 h.v.fault] (by simp) rfl) Tryz.underlying32 rfl jB
    ·refine G.gv 7 13 rfl rfl rfl ?_;rintro rfl;simp[execOp,go_sem,G.t 12 rfl,dA,aY]
    ·have pg:=G.g 7 rfl;cases b0
     ·exact G.sk 14 rfl pg rfl
     refine cR (inT 14 rfl) hk hI hs aa ho zd (Eq.trans (aH rfl rfl rfl pg) rfl) rfl 52 #[.pointer (some ⟨g,o,none⟩),dA ⟨0,h.v,[],aG,aG,0⟩ none 0 0] (by simp[go_sem,G.t 8 rfl,G.t 13 rfl]) ?_;have au:=NodeIn.kp HN.out (Kp.of_below af);have hB:=fO h ⟨0,h.v,[],aG,aG,0⟩ A none l.length 0 cp 0 g o w1 au;dsimp only at hB;rw[k0]at hB;rw[jo]at hB;refine hB.mono ?_;rintro e w2 ⟨rfl,hb⟩;exact⟨rfl,af.trans (hb.mono af.size)⟩
    ·cases b0
     all_goals have p7:=G.d 7 rfl
     all_goals have p14:=G.d 14 rfl
     all_goals exact G.nl 15 rfl (by simp[execOp,go_sem,aE p7,aE p14,fg])
    exact G.nl 16 rfl (by simp[execOp,go_sem,G.t 15 rfl])
   intro zl a1 w1 hI ap;have af:Below w.heap.size w w1:=hI.st;have ae:=am.out;subst ae;have z5:=hI.ptk 16 rfl (ap 16 (by decide));have hO:=hI.off;clear hI ap am;exact⟨rfl,hR.off hO (by decide) (by decide),by rw[z5,HL],af⟩
  refine eT false z10 (by simp[k0]) (by have:=hR.sz;omega) (by have:=hR.sz;omega) (fun a' hO hz=>?_);replace hR:=hR.off hO (by decide) (by decide);replace z10:=(hO.eval (by decide)).trans z10;replace z5:=(hO.eval (by decide)).trans z5;clear hO;simp only[Exit.then];refine wp_cond_false hz ?_;refine wp_seq ?_;refine wp_mono (Q:=fun e a' w'=>e=.normal/\w'=w4/\RF a' g o above/\a'.eval (.tmp 10)=.int .i64 h.kind/\a'.eval (.tmp 5)=.bool false/\a'.eval (.tmp 29)=.bool (decide (h.kind=1)||decide (h.kind=3))) ?c13 ?r13
  case c13=>
   refine wp_seq ?_;by_cases k1:h.kind=1
   ·refine eT true z10 (by simp[k1]) (by have:=hR.sz;omega) (by have:=hR.sz;omega) (fun a' hO hz=>?_);simp only[Exit.then];refine wp_cond_true hz (wp_skip ?_);exact⟨rfl,rfl,hR.off hO (by decide) (by decide),(hO.eval (by decide)).trans z10,(hO.eval (by decide)).trans z5,by rw[hz,k1];rfl⟩
   refine eT false z10 (by simp[k1]) (by have:=hR.sz;omega) (by have:=hR.sz;omega) (fun a' hO hz=>?_);replace hR:=hR.off hO (by decide) (by decide);replace z10:=(hO.eval (by decide)).trans z10;replace z5:=(hO.eval (by decide)).trans z5;clear hO;simp only[Exit.then];refine wp_cond_false hz ?_;clear hz;refine eT (h.kind==3) z10 rfl (by have:=hR.sz;omega) (by have:=hR.sz;omega) (fun a' hO hz=>?_);exact⟨rfl,rfl,hR.off hO (by decide) (by decide),(hO.eval (by decide)).trans z10,(hO.eval (by decide)).trans z5,by rw[hz,show decide (h.kind=1)=false from decide_eq_false k1,Bool.false_or,ze.2 (show (h.kind==3)=true↔decide (h.kind=3)=true by simp)]⟩
  case r13=>
   rintro e a' w' ⟨rfl,rfl,hR,z10,z5,hz⟩;simp only[Exit.then];by_cases k13:h.kind=1\/h.kind=3
   ·refine wp_cond_true (by rw[hz];rcases k13 with k|k <;> simp[k]) ?_;obtain⟨r,hr⟩:∃ x,decide (h.a.row≠id0)=x:=⟨_,rfl⟩
    obtain⟨k,hk⟩:∃ x,decide (h.a.col≠id0)=x:=⟨_,rfl⟩
    obtain⟨s1,jo⟩:∃ x,(NodeH.same h ⟨h.kind,aD,[],h.a,aG,0⟩&&decide (l.length=0))=x:=⟨_,rfl⟩
    obtain⟨c1,fg⟩:∃ x,x=(r&&k):=⟨_,rfl⟩
    obtain⟨c2,gw⟩:∃ x,x=(c1&&s1):=⟨_,rfl⟩
    have N1:∀ w:World,(binOp .neq 34 (idV h.a.row) (idV id0)).run Tryz.prog w=.ok (.bool r) w:=fun w=>by rw[fU,hr]
    have N2:∀ w:World,(binOp .neq 34 (idV h.a.col) (idV id0)).run Tryz.prog w=.ok (.bool k) w:=fun w=>by rw[fU,hk]
    have HL:RB=c2:=by
     rw[<- zs.out];unfold bE;rw[if_neg k0,if_pos k13,gw,fg,<- hr,<- hk,<- jo];simp only[Bool.and_assoc]
    obtain⟨TT,ae⟩:∃ TT:List (Nat×Nat×Value),TT=((0,32,.pointer (some ⟨g,o,none⟩))::(1,33,.pointer (some ⟨g,o,none⟩))::(2,34,.pointer (some ⟨g,o+8,none⟩))::(3,35,.pointer (some ⟨g,o+8,none⟩))::(4,36,.pointer (some ⟨g,o+8,none⟩))::(5,37,idV h.a.row)::(6,38,idV id0)::(7,39,.bool r)::(8,40,.bool r)::(9,41,(bif r then .pointer (some ⟨g,o,none⟩) else undef))::(10,42,(bif r then .pointer (some ⟨g,o,none⟩) else undef))::(11,43,(bif r then .pointer (some ⟨g,o+8,none⟩) else undef))::(12,44,(bif r then .pointer (some ⟨g,o+8,none⟩) else undef))::(13,45,(bif r then .pointer (some ⟨g,o+10,none⟩) else undef))::(14,46,(bif r then idV h.a.col else undef))::(15,47,(bif r then idV id0 else undef))::(16,48,(bif r then .bool k else undef))::(17,49,.bool c1)::(18,50,.bool c1)::(19,51,(bif c1 then .pointer (some ⟨g,o,none⟩) else undef))::(20,52,(bif c1 then .pointer (some ⟨g,o,none⟩) else undef))::(21,53,(bif c1 then .pointer (some ⟨g,o,none⟩) else undef))::(22,54,(bif c1 then .pointer (some ⟨g,o+8,none⟩) else undef))::(23,55,(bif c1 then .pointer (some ⟨g,o+8,none⟩) else undef))::(24,56,(bif c1 then .agg ([.int .i64 h.a.row.a,.int .i64 h.a.row.n,.int .i64 h.a.col.a,.int .i64 h.a.col.n,.bool h.a.fr,.bool h.a.fc]:List Value).toArray else undef))::(25,57,(bif c1 then arV h.a aG else undef))::(26,58,(bif c1 then dA ⟨0,aD,[],h.a,aG,0⟩ none 0 0 else undef))::(27,59,(bif c1 then .bool s1 else undef))::(28,60,.bool c2)::(29,5,.bool c2)::[]):=⟨_,rfl⟩
    have am:=zh ae;clear ae;refine bD (fun a0=>287<=a0.tmps.size/\a0.eval (.tmp 0)=.pointer (some ⟨g,o,none⟩)/\a0.eval (.tmp 1)=.int .i64 above) (32::33::34::35::36::37::38::39::40::41::42::43::44::45::46::47::48::49::50::51::52::53::54::55::56::57::58::59::60::5::[]) TT [] (fun w'=>Below w.heap.size w w') (by kernel_rfl) ⟨hR.sz,hR.s0,hR.s1⟩ jk.out ?_ ?_
    ·rintro a0 ⟨hs,dh,dt⟩ zl a1 w1 zj o bg hI aa ho zd;have af:Below w.heap.size w w1:=hI.st;have ae:=am.out;have hk:okU (TT.map fun e=>(e.1,e.2.1)) (32::33::34::35::36::37::38::39::40::41::42::43::44::45::46::47::48::49::50::51::52::53::54::55::56::57::58::59::60::5::[]) 287=true:=by rw[ae];rfl
     subst ae;have e0x:=aE ((hI.off.eval (by decide)).trans dh);have e1x:=aE ((hI.off.eval (by decide)).trans dt);have hj:=Up.of_false aa;have hj12:zj<30:=by rw[bg]at hj;exact hj
     have G:RG _ _ _ _ _ _ _ _ _ _ _:=⟨hk,hI,hs,aa,ho,zd⟩
     (iterate 29 rcases zq hj12 with hj12|rfl);obtain rfl:=cz hj12;all_goals obtain rfl:=oi ho
     ·exact G.nl 0 rfl (by simp[execOp,go_sem,e0x])
     ·exact G.nl 1 rfl (by simp[execOp,go_sem,G.t 0 rfl])
     ·exact G.nl 2 rfl (by simp[execOp,go_sem,G.t 1 rfl])
     ·exact G.nl 3 rfl (by simp[execOp,go_sem,G.t 2 rfl])
     ·exact G.nl 4 rfl (by simp[execOp,go_sem,G.t 3 rfl])
     ·have au:=NodeIn.kp HN.out (Kp.of_below af);have p4:=G.d 4 rfl;exact G.nl 5 rfl (aL 34 (.tmp 36) rfl g (o+8) p4 _ _ (au.sub 8 [.int .i64 h.a.row.a,.int .i64 h.a.row.n] (by simp) rfl) Tryz.underlying34 rfl uFT)
     ·exact G.nl 6 rfl (by simp[execOp,go_sem])
     ·exact G.nl 7 rfl (by simp[execOp,go_sem,G.t 5 rfl,G.t 6 rfl,N1])
     ·exact G.nl 8 rfl (by simp[execOp,go_sem,G.t 7 rfl])
     ·refine G.gv 8 9 rfl rfl rfl ?_;rintro rfl;simp[execOp,go_sem,e0x]
     ·refine G.gv 8 10 rfl rfl rfl ?_;rintro rfl;simp[execOp,go_sem,G.t 9 rfl]
     ·refine G.gv 8 11 rfl rfl rfl ?_;rintro rfl;simp[execOp,go_sem,G.t 10 rfl]
     ·refine G.gv 8 12 rfl rfl rfl ?_;rintro rfl;simp[execOp,go_sem,G.t 11 rfl]
     ·refine G.gv 8 13 rfl rfl rfl ?_;rintro rfl;simp[execOp,go_sem,G.t 12 rfl]
     ·refine G.gv 8 14 rfl rfl rfl ?_;rintro rfl;have au:=NodeIn.kp HN.out (Kp.of_below af);have p13:=G.d 13 rfl;exact aL 34 (.tmp 45) rfl g (o+10) p13 _ _ (au.sub 10 [.int .i64 h.a.col.a,.int .i64 h.a.col.n] (by simp) rfl) Tryz.underlying34 rfl uFT
     ·refine G.gv 8 15 rfl rfl rfl ?_;rintro rfl;simp[execOp,go_sem]
     ·refine G.gv 8 16 rfl rfl rfl ?_;rintro rfl;simp[execOp,go_sem,G.t 14 rfl,G.t 15 rfl,N2]
     ·cases r
      all_goals have p8:=G.d 8 rfl
      all_goals have p16:=G.d 16 rfl
      all_goals exact G.nl 17 rfl (by simp[execOp,go_sem,aE p8,aE p16,fg])
     ·exact G.nl 18 rfl (by simp[execOp,go_sem,G.t 17 rfl])
     ·refine G.gv 18 19 rfl rfl rfl ?_;rintro rfl;simp[execOp,go_sem,e0x]
     ·refine G.gv 18 20 rfl rfl rfl ?_;rintro rfl;simp[execOp,go_sem,e0x]
     ·refine G.gv 18 21 rfl rfl rfl ?_;rintro rfl;simp[execOp,go_sem,G.t 20 rfl]
     ·refine G.gv 18 22 rfl rfl rfl ?_;rintro rfl;simp[execOp,go_sem,G.t 21 rfl]
     ·refine G.gv 18 23 rfl rfl rfl ?_;rintro rfl;simp[execOp,go_sem,G.t 22 rfl]
     ·refine G.gv 18 24 rfl rfl rfl ?_;rintro rfl;have au:=NodeIn.kp HN.out (Kp.of_below af);have p23:=G.d 23 rfl;exact aL 36 (.tmp 55) rfl g (o+8) p23 _ _ (au.sub 8 [.int .i64 h.a.row.a,.int .i64 h.a.row.n,.int .i64 h.a.col.a,.int .i64 h.a.col.n,.bool h.a.fr,.bool h.a.fc] (by simp) rfl) Tryz.underlying36 rfl infoCor
     ·refine G.gv 18 25 rfl rfl rfl ?_;rintro rfl;simp[execOp,go_sem,G.t 24 rfl]
     ·refine G.gv 18 26 rfl rfl rfl ?_;rintro rfl;simp[execOp,go_sem,G.t 25 rfl,dA,aY,aD]
     ·have pg:=G.g 18 rfl;cases c1
      ·exact G.sk 27 rfl pg rfl
      refine cR (inT 27 rfl) hk hI hs aa ho zd (Eq.trans (aH rfl rfl rfl pg) rfl) rfl 52 #[.pointer (some ⟨g,o,none⟩),dA ⟨0,aD,[],h.a,aG,0⟩ none 0 0] (by simp[go_sem,G.t 19 rfl,G.t 26 rfl]) ?_;have au:=NodeIn.kp HN.out (Kp.of_below af);have hB:=fO h ⟨0,aD,[],h.a,aG,0⟩ A none l.length 0 cp 0 g o w1 au;dsimp only at hB;rw[jo]at hB;refine hB.mono ?_;rintro e w2 ⟨rfl,hb⟩;exact⟨rfl,af.trans (hb.mono af.size)⟩
     ·cases c1
      all_goals have p18:=G.d 18 rfl
      all_goals have p27:=G.d 27 rfl
      all_goals exact G.nl 28 rfl (by simp[execOp,go_sem,aE p18,aE p27,gw])
     exact G.nl 29 rfl (by simp[execOp,go_sem,G.t 28 rfl])
    intro zl a1 w1 hI ap;have af:Below w.heap.size w w1:=hI.st;have ae:=am.out;subst ae;have z5:=hI.ptk 29 rfl (ap 29 (by decide));have hO:=hI.off;clear hI ap am;exact⟨rfl,hR.off hO (by decide) (by decide),by rw[z5,HL],af⟩
   have j7:a'.eval (.tmp 29)=.bool false:=by rw[hz];simp[not_or]at k13;simp[k13.1,k13.2]
   refine wp_cond_false j7 ?_;clear hz j7;refine wp_seq ?_;by_cases k2:h.kind=2
   ·refine eT true z10 (by simp[k2]) (by have:=hR.sz;omega) (by have:=hR.sz;omega) (fun a' hO hz=>?_);replace hR:=hR.off hO (by decide) (by decide);replace z10:=(hO.eval (by decide)).trans z10;replace z5:=(hO.eval (by decide)).trans z5;clear hO;simp only[Exit.then];refine wp_cond_true hz ?_;obtain⟨b0,ct⟩:∃ x,cY h.a h.b=x:=⟨_,rfl⟩
    obtain⟨s1,jo⟩:∃ x,(NodeH.same h ⟨2,aD,[],h.a,h.b,0⟩&&decide (l.length=0))=x:=⟨_,rfl⟩
    obtain⟨c1,fg⟩:∃ x,x=(b0&&s1):=⟨_,rfl⟩
    have HL:RB=c1:=by
     rw[<- zs.out];unfold bE;rw[if_neg k0,if_neg k13,if_pos k2,fg,<- ct,<- jo,Bool.and_assoc]
    obtain⟨TT,ae⟩:∃ TT:List (Nat×Nat×Value),TT=((0,63,.pointer (some ⟨g,o,none⟩))::(1,64,.pointer (some ⟨g,o,none⟩))::(2,65,.pointer (some ⟨g,o+8,none⟩))::(3,66,arV h.a h.b)::(4,67,.bool b0)::(5,68,.bool b0)::(6,69,(bif b0 then .pointer (some ⟨g,o,none⟩) else undef))::(7,70,(bif b0 then .pointer (some ⟨g,o,none⟩) else undef))::(8,71,(bif b0 then .pointer (some ⟨g,o,none⟩) else undef))::(9,72,(bif b0 then .pointer (some ⟨g,o+8,none⟩) else undef))::(10,73,(bif b0 then arV h.a h.b else undef))::(11,74,(bif b0 then dA ⟨0,aD,[],h.a,h.b,0⟩ none 0 0 else undef))::(12,75,(bif b0 then .bool s1 else undef))::(13,76,.bool c1)::(14,5,.bool c1)::[]):=⟨_,rfl⟩
    have am:=zh ae;clear ae;refine bD (fun a0=>287<=a0.tmps.size/\a0.eval (.tmp 0)=.pointer (some ⟨g,o,none⟩)/\a0.eval (.tmp 1)=.int .i64 above) (63::64::65::66::67::68::69::70::71::72::73::74::75::76::5::[]) TT [] (fun w'=>Below w.heap.size w w') (by kernel_rfl) ⟨hR.sz,hR.s0,hR.s1⟩ jk.out ?_ ?_
    ·rintro a0 ⟨hs,dh,dt⟩ zl a1 w1 zj o bg hI aa ho zd;have af:Below w.heap.size w w1:=hI.st;have ae:=am.out;have hk:okU (TT.map fun e=>(e.1,e.2.1)) (63::64::65::66::67::68::69::70::71::72::73::74::75::76::5::[]) 287=true:=by rw[ae];rfl
     subst ae;have e0x:=aE ((hI.off.eval (by decide)).trans dh);have e1x:=aE ((hI.off.eval (by decide)).trans dt);have hj:=Up.of_false aa;have hj12:zj<15:=by rw[bg]at hj;exact hj
     have G:RG _ _ _ _ _ _ _ _ _ _ _:=⟨hk,hI,hs,aa,ho,zd⟩
     (iterate 14 rcases zq hj12 with hj12|rfl);obtain rfl:=cz hj12;all_goals obtain rfl:=oi ho
     ·exact G.nl 0 rfl (by simp[execOp,go_sem,e0x])
     ·exact G.nl 1 rfl (by simp[execOp,go_sem,G.t 0 rfl])
     ·exact G.nl 2 rfl (by simp[execOp,go_sem,G.t 1 rfl])
     ·have au:=NodeIn.kp HN.out (Kp.of_below af);have p2:=G.d 2 rfl;exact G.nl 3 rfl (aL 38 (.tmp 65) rfl g (o+8) p2 _ _ (au.sub 8 [.int .i64 h.a.row.a,.int .i64 h.a.row.n,.int .i64 h.a.col.a,.int .i64 h.a.col.n,.bool h.a.fr,.bool h.a.fc,.int .i64 h.b.row.a,.int .i64 h.b.row.n,.int .i64 h.b.col.a,.int .i64 h.b.col.n,.bool h.b.fr,.bool h.b.fc] (by simp) rfl) Tryz.underlying38 rfl jA)
     ·refine cR (inT 4 rfl) hk hI hs aa ho zd (aC rfl) rfl 53 #[arV h.a h.b] (by simp[go_sem,G.t 3 rfl]) ?_;have hB:=uFC h.a h.b w1;rw[ct]at hB;refine hB.mono ?_;rintro e w2 ⟨rfl,hb⟩;exact⟨rfl,af.trans (hb.mono af.size)⟩
     ·exact G.nl 5 rfl (by simp[execOp,go_sem,G.t 4 rfl])
     ·refine G.gv 5 6 rfl rfl rfl ?_;rintro rfl;simp[execOp,go_sem,e0x]
     ·refine G.gv 5 7 rfl rfl rfl ?_;rintro rfl;simp[execOp,go_sem,e0x]
     ·refine G.gv 5 8 rfl rfl rfl ?_;rintro rfl;simp[execOp,go_sem,G.t 7 rfl]
     ·refine G.gv 5 9 rfl rfl rfl ?_;rintro rfl;simp[execOp,go_sem,G.t 8 rfl]
     ·refine G.gv 5 10 rfl rfl rfl ?_;rintro rfl;have au:=NodeIn.kp HN.out (Kp.of_below af);have p9:=G.d 9 rfl;exact aL 38 (.tmp 72) rfl g (o+8) p9 _ _ (au.sub 8 [.int .i64 h.a.row.a,.int .i64 h.a.row.n,.int .i64 h.a.col.a,.int .i64 h.a.col.n,.bool h.a.fr,.bool h.a.fc,.int .i64 h.b.row.a,.int .i64 h.b.row.n,.int .i64 h.b.col.a,.int .i64 h.b.col.n,.bool h.b.fr,.bool h.b.fc] (by simp) rfl) Tryz.underlying38 rfl jA
     ·refine G.gv 5 11 rfl rfl rfl ?_;rintro rfl;simp[execOp,go_sem,G.t 10 rfl,dA,aY,aD]
     ·have pg:=G.g 5 rfl;cases b0
      ·exact G.sk 12 rfl pg rfl
      refine cR (inT 12 rfl) hk hI hs aa ho zd (Eq.trans (aH rfl rfl rfl pg) rfl) rfl 52 #[.pointer (some ⟨g,o,none⟩),dA ⟨0,aD,[],h.a,h.b,0⟩ none 0 0] (by simp[go_sem,G.t 6 rfl,G.t 11 rfl]) ?_;have au:=NodeIn.kp HN.out (Kp.of_below af);have hB:=fO h ⟨0,aD,[],h.a,h.b,0⟩ A none l.length 0 cp 0 g o w1 au;dsimp only at hB;rw[k2]at hB;rw[jo]at hB;refine hB.mono ?_;rintro e w2 ⟨rfl,hb⟩;exact⟨rfl,af.trans (hb.mono af.size)⟩
     ·cases b0
      all_goals have p5:=G.d 5 rfl
      all_goals have p12:=G.d 12 rfl
      all_goals exact G.nl 13 rfl (by simp[execOp,go_sem,aE p5,aE p12,fg])
     exact G.nl 14 rfl (by simp[execOp,go_sem,G.t 13 rfl])
    intro zl a1 w1 hI ap;have af:Below w.heap.size w w1:=hI.st;have ae:=am.out;subst ae;have z5:=hI.ptk 14 rfl (ap 14 (by decide));have hO:=hI.off;clear hI ap am;exact⟨rfl,hR.off hO (by decide) (by decide),by rw[z5,HL],af⟩
   refine eT false z10 (by simp[k2]) (by have:=hR.sz;omega) (by have:=hR.sz;omega) (fun a' hO hz=>?_);replace hR:=hR.off hO (by decide) (by decide);replace z10:=(hO.eval (by decide)).trans z10;replace z5:=(hO.eval (by decide)).trans z5;clear hO;simp only[Exit.then];refine wp_cond_false hz ?_;refine wp_seq ?_;by_cases k4:h.kind=4
   ·refine eT true z10 (by simp[k4]) (by have:=hR.sz;omega) (by have:=hR.sz;omega) (fun a' hO hz=>?_);replace hR:=hR.off hO (by decide) (by decide);replace z10:=(hO.eval (by decide)).trans z10;replace z5:=(hO.eval (by decide)).trans z5;clear hO;simp only[Exit.then];refine wp_cond_true hz ?_;obtain⟨b0,ct⟩:∃ x,bN h.name=x:=⟨_,rfl⟩
    obtain⟨b1,af⟩:∃ x,decide (l.length<=32)=x:=⟨_,rfl⟩
    have kc:decide ((l.length:Int)<=32)=b1:=by rw[<- af,decide_eq_decide];omega
    obtain⟨e1,he1⟩:∃ x,((l.length:Int)==1)=x:=⟨_,rfl⟩
    obtain⟨g',k9,hKK⟩:∃ g' k9,e1=true->A=some ⟨g',0,none⟩/\l.length=1/\(∀ W:World,Below w.heap.size w W->W.cell? ⟨g',0,none⟩=some (.int .i64 k9))/\(l.map fun t=>t.h.kind)=[k9]:=by
     by_cases hl:l.length=1
     ·obtain⟨g',hA,hW⟩:=HK.out 0 (by omega);refine⟨g',(l[0]'(by omega)).h.kind,fun _=>⟨hA,hl,fun W hb=>by have:=(hW W hb).1;rwa [Nat.zero_mul]at this,?_⟩⟩;obtain⟨t,rfl⟩:=List.length_eq_one_iff.1 hl;rfl
     exact⟨0,0,fun he=>absurd (by rw[<- he1,beq_iff_eq]at he;omega) hl⟩
    obtain⟨e9,he9⟩:∃ x,(k9==9)=x:=⟨_,rfl⟩
    obtain⟨m,hm⟩:∃ x,x=(e1&&e9):=⟨_,rfl⟩
    obtain⟨nm,hnm⟩:∃ x,x=(!m):=⟨_,rfl⟩
    obtain⟨b3,b9⟩:∃ x,NodeH.same h ⟨4,aD,h.name,aG,aG,0⟩=x:=⟨_,rfl⟩
    obtain⟨c1,fg⟩:∃ x,x=(b0&&b1):=⟨_,rfl⟩
    obtain⟨c2,gw⟩:∃ x,x=(c1&&nm):=⟨_,rfl⟩
    obtain⟨c3,s7⟩:∃ x,x=(c2&&b3):=⟨_,rfl⟩
    have HL:RB=c3:=by
     rw[<- zs.out];unfold bE;rw[if_neg k0,if_neg k13,if_neg k2,if_pos k4,s7,gw,fg,hnm,hm,<- ct,<- af,<- b9]
     congr 2
     congr 1
     cases he:e1 with
     |true=>
      obtain⟨_,hl1,_,hk⟩:=hKK he;rw[hk,hl1,<- he9,show (k9==9)=decide (k9=9) from by rw[ze];simp];simp
     |false=>
      have:l.length≠1:=fun hl=>by rw[<- he1,hl]at he;simp at he
      simp[this]
    obtain⟨TT,ae⟩:∃ TT:List (Nat×Nat×Value),TT=((0,79,.pointer (some ⟨g,o,none⟩))::(1,80,.pointer (some ⟨g,o,none⟩))::(2,81,.pointer (some ⟨g,o+7,none⟩))::(3,82,.string ⟨h.name.toArray⟩)::(4,83,.bool b0)::(5,84,.bool b0)::(6,85,(bif b0 then .pointer (some ⟨g,o,none⟩) else undef))::(7,86,(bif b0 then .pointer (some ⟨g,o,none⟩) else undef))::(8,87,(bif b0 then .pointer (some ⟨g,o+21,none⟩) else undef))::(9,88,(bif b0 then .slice A l.length cp else undef))::(10,89,(bif b0 then .int .i64 (l.length:Nat) else undef))::(11,90,(bif b0 then .bool b1 else undef))::(12,91,.bool c1)::(13,92,.bool c1)::(14,93,(bif c1 then .pointer (some ⟨g,o,none⟩) else undef))::(15,94,(bif c1 then .pointer (some ⟨g,o,none⟩) else undef))::(16,95,(bif c1 then .pointer (some ⟨g,o+21,none⟩) else undef))::(17,96,(bif c1 then .slice A l.length cp else undef))::(18,97,(bif c1 then .int .i64 (l.length:Nat) else undef))::(19,98,(bif c1 then .bool e1 else undef))::(20,99,(bif c1 then .bool e1 else undef))::(21,100,(bif c1 then (bif e1 then .pointer (some ⟨g,o,none⟩) else undef) else undef))::(22,101,(bif c1 then (bif e1 then .pointer (some ⟨g,o,none⟩) else undef) else undef))::(23,102,(bif c1 then (bif e1 then .pointer (some ⟨g,o+21,none⟩) else undef) else undef))::(24,103,(bif c1 then (bif e1 then .slice A l.length cp else undef) else undef))::(25,104,(bif c1 then (bif e1 then .pointer (some ⟨g',0,none⟩) else undef) else undef))::(26,105,(bif c1 then (bif e1 then .pointer (some ⟨g',0,none⟩) else undef) else undef))::(27,106,(bif c1 then (bif e1 then .int .i64 k9 else undef) else undef))::(28,107,(bif c1 then (bif e1 then .bool e9 else undef) else undef))::(29,108,(bif c1 then .bool m else undef))::(30,109,(bif c1 then .bool nm else undef))::(31,110,.bool c2)::(32,111,.bool c2)::(33,112,(bif c2 then .pointer (some ⟨g,o,none⟩) else undef))::(34,113,(bif c2 then .pointer (some ⟨g,o,none⟩) else undef))::(35,114,(bif c2 then .pointer (some ⟨g,o,none⟩) else undef))::(36,115,(bif c2 then .pointer (some ⟨g,o+7,none⟩) else undef))::(37,116,(bif c2 then .string ⟨h.name.toArray⟩ else undef))::(38,117,(bif c2 then .pointer (some ⟨g,o,none⟩) else undef))::(39,118,(bif c2 then .pointer (some ⟨g,o,none⟩) else undef))::(40,119,(bif c2 then .pointer (some ⟨g,o+21,none⟩) else undef))::(41,120,(bif c2 then .slice A l.length cp else undef))::(42,121,(bif c2 then dA ⟨0,aD,h.name,aG,aG,0⟩ A l.length cp else undef))::(43,122,(bif c2 then .bool b3 else undef))::(44,123,.bool c3)::(45,5,.bool c3)::[]):=⟨_,rfl⟩
    have am:=zh ae;clear ae;refine bC (fun a0=>287<=a0.tmps.size/\a0.eval (.tmp 0)=.pointer (some ⟨g,o,none⟩)/\a0.eval (.tmp 1)=.int .i64 above) (79::80::81::82::83::84::85::86::87::88::89::90::91::92::93::94::95::96::97::98::99::100::101::102::103::104::105::106::107::108::109::110::111::112::113::114::115::116::117::118::119::120::121::122::123::5::[]) TT [] (fun w'=>Below w.heap.size w w') (by kernel_rfl) (by kernel_rfl) ⟨hR.sz,hR.s0,hR.s1⟩ jk.out.drew ?_ ?_
    ·rintro a0 ⟨hs,dh,dt⟩ zl a1 w1 zj o bg hI aa ho zd;have af:Below w.heap.size w w1:=hI.st;have ae:=am.out;have hk:okU (TT.map fun e=>(e.1,e.2.1)) (79::80::81::82::83::84::85::86::87::88::89::90::91::92::93::94::95::96::97::98::99::100::101::102::103::104::105::106::107::108::109::110::111::112::113::114::115::116::117::118::119::120::121::122::123::5::[]) 287=true:=by rw[ae];rfl
     subst ae;have e0x:=aE ((hI.off.eval (by decide)).trans dh);have e1x:=aE ((hI.off.eval (by decide)).trans dt);have hj:=Up.of_false aa;have hj12:zj<46:=by rw[bg]at hj;exact hj
     have G:RG _ _ _ _ _ _ _ _ _ _ _:=⟨hk,hI,hs,aa,ho,zd⟩
     (iterate 45 rcases zq hj12 with hj12|rfl);obtain rfl:=cz hj12;all_goals obtain rfl:=oi ho
     ·exact G.nl 0 rfl (by simp[execOp,go_sem,e0x])
     ·exact G.nl 1 rfl (by simp[execOp,go_sem,G.t 0 rfl])
     ·exact G.nl 2 rfl (by simp[execOp,go_sem,G.t 1 rfl])
     ·have au:=NodeIn.kp HN.out (Kp.of_below af);have x7:w1.cell? ⟨g,o+7,none⟩=some (.string ⟨h.name.toArray⟩):=au.2 7 (by decide);exact G.nl 3 rfl (by simp[execOp,go_sem,G.t 2 rfl,x7])
     ·refine cR (inT 4 rfl) hk hI hs aa ho zd (aC rfl) rfl 54 #[.string ⟨h.name.toArray⟩] (by simp[go_sem,G.t 3 rfl]) ?_;have hB:=uIY h.name w1 HF.out.2.2.2;rw[ct]at hB;refine hB.mono ?_;rintro e w2 ⟨rfl,hb⟩
      first|exact⟨rfl,af.trans (hb.mono af.size)⟩ |(subst hb;exact⟨rfl,af⟩)
     ·exact G.nl 5 rfl (by simp[execOp,go_sem,G.t 4 rfl])
     ·refine G.gv 5 6 rfl rfl rfl ?_;rintro rfl;simp[execOp,go_sem,e0x]
     ·refine G.gv 5 7 rfl rfl rfl ?_;rintro rfl;simp[execOp,go_sem,G.t 6 rfl]
     ·refine G.gv 5 8 rfl rfl rfl ?_;rintro rfl;simp[execOp,go_sem,G.t 7 rfl]
     ·refine G.gv 5 9 rfl rfl rfl ?_;rintro rfl;have au:=NodeIn.kp HN.out (Kp.of_below af);have x21:w1.cell? ⟨g,o+21,none⟩=some (.slice A l.length cp):=au.2 21 (by decide);simp[execOp,go_sem,G.t 8 rfl,x21]
     ·refine G.gv 5 10 rfl rfl rfl ?_;rintro rfl;simp[go_sem,G.t 9 rfl]
     ·refine G.gv 5 11 rfl rfl rfl ?_;rintro rfl;simp[execOp,go_sem,G.t 10 rfl,kc]
     ·cases b0
      all_goals have p5:=G.d 5 rfl
      all_goals have p11:=G.d 11 rfl
      all_goals exact G.nl 12 rfl (by simp[execOp,go_sem,aE p5,aE p11,fg])
     ·exact G.nl 13 rfl (by simp[execOp,go_sem,G.t 12 rfl])
     ·refine G.gv 13 14 rfl rfl rfl ?_;rintro rfl;simp[execOp,go_sem,e0x]
     ·refine G.gv 13 15 rfl rfl rfl ?_;rintro rfl;simp[execOp,go_sem,G.t 14 rfl]
     ·refine G.gv 13 16 rfl rfl rfl ?_;rintro rfl;simp[execOp,go_sem,G.t 15 rfl]
     ·refine G.gv 13 17 rfl rfl rfl ?_;rintro rfl;have au:=NodeIn.kp HN.out (Kp.of_below af);have x21:w1.cell? ⟨g,o+21,none⟩=some (.slice A l.length cp):=au.2 21 (by decide);simp[execOp,go_sem,G.t 16 rfl,x21]
     ·refine G.gv 13 18 rfl rfl rfl ?_;rintro rfl;simp[go_sem,G.t 17 rfl]
     ·refine G.gv 13 19 rfl rfl rfl ?_;rintro rfl;simp[execOp,go_sem,G.t 18 rfl,he1]
     ·refine G.gv 13 20 rfl rfl rfl ?_;rintro rfl;simp[execOp,go_sem,G.t 19 rfl]
     ·have pg:=G.g 20 rfl;cases c1
      ·exact aZ hk hI hs (inT 21 rfl) fD aa ho zd (aU rfl rfl rfl pg) rfl
      cases e1
      ·exact G.sk 21 rfl pg rfl
      exact G.vl 21 rfl pg rfl (by simp[execOp,go_sem,e0x])
     ·have pg:=G.g 20 rfl;cases c1
      ·exact aZ hk hI hs (inT 22 rfl) fD aa ho zd (aU rfl rfl rfl pg) rfl
      cases e1
      ·exact G.sk 22 rfl pg rfl
      exact G.vl 22 rfl pg rfl (by simp[execOp,go_sem,G.t 21 rfl])
     ·have pg:=G.g 20 rfl;cases c1
      ·exact aZ hk hI hs (inT 23 rfl) fD aa ho zd (aU rfl rfl rfl pg) rfl
      cases e1
      ·exact G.sk 23 rfl pg rfl
      exact G.vl 23 rfl pg rfl (by simp[execOp,go_sem,G.t 22 rfl])
     ·have pg:=G.g 20 rfl;cases c1
      ·exact aZ hk hI hs (inT 24 rfl) fD aa ho zd (aU rfl rfl rfl pg) rfl
      cases e1
      ·exact G.sk 24 rfl pg rfl
      have au:=NodeIn.kp HN.out (Kp.of_below af);have x21:w1.cell? ⟨g,o+21,none⟩=some (.slice A l.length cp):=au.2 21 (by decide);exact G.vl 24 rfl pg rfl (by simp[execOp,go_sem,G.t 23 rfl,x21])
     ·have pg:=G.g 20 rfl;cases c1
      ·exact aZ hk hI hs (inT 25 rfl) fD aa ho zd (aU rfl rfl rfl pg) rfl
      cases e1
      ·exact G.sk 25 rfl pg rfl
      obtain⟨hA,hl1,rn,-⟩:=hKK rfl;exact G.vl 25 rfl pg rfl (by simp[execOp,go_sem,G.t 24 rfl,hA,hl1])
     ·have pg:=G.g 20 rfl;cases c1
      ·exact aZ hk hI hs (inT 26 rfl) fD aa ho zd (aU rfl rfl rfl pg) rfl
      cases e1
      ·exact G.sk 26 rfl pg rfl
      exact G.vl 26 rfl pg rfl (by simp[execOp,go_sem,G.t 25 rfl])
     ·have pg:=G.g 20 rfl;cases c1
      ·exact aZ hk hI hs (inT 27 rfl) fD aa ho zd (aU rfl rfl rfl pg) rfl
      cases e1
      ·exact G.sk 27 rfl pg rfl
      obtain⟨hA,hl1,rn,-⟩:=hKK rfl;have xk:=rn w1 af;exact G.vl 27 rfl pg rfl (by simp[execOp,go_sem,G.t 26 rfl,xk])
     ·have pg:=G.g 20 rfl;cases c1
      ·exact aZ hk hI hs (inT 28 rfl) fD aa ho zd (aU rfl rfl rfl pg) rfl
      cases e1
      ·exact G.sk 28 rfl pg rfl
      exact G.vl 28 rfl pg rfl (by simp[execOp,go_sem,G.t 27 rfl,he9])
     ·have pg:=G.g 13 rfl;cases c1
      ·exact G.sk 29 rfl pg rfl
      cases e1
      all_goals have p20:=G.d 20 rfl
      all_goals have p28:=G.d 28 rfl
      all_goals exact G.vl 29 rfl pg rfl (by simp[execOp,go_sem,aE p20,aE p28,hm])
     ·refine G.gv 13 30 rfl rfl rfl ?_;rintro rfl;simp[execOp,go_sem,G.t 29 rfl,hnm]
     ·cases c1
      all_goals have p13:=G.d 13 rfl
      all_goals have p30:=G.d 30 rfl
      all_goals exact G.nl 31 rfl (by simp[execOp,go_sem,aE p13,aE p30,gw])
     ·exact G.nl 32 rfl (by simp[execOp,go_sem,G.t 31 rfl])
     ·refine G.gv 32 33 rfl rfl rfl ?_;rintro rfl;simp[execOp,go_sem,e0x]
     ·refine G.gv 32 34 rfl rfl rfl ?_;rintro rfl;simp[execOp,go_sem,e0x]
     ·refine G.gv 32 35 rfl rfl rfl ?_;rintro rfl;simp[execOp,go_sem,G.t 34 rfl]
     ·refine G.gv 32 36 rfl rfl rfl ?_;rintro rfl;simp[execOp,go_sem,G.t 35 rfl]
     ·refine G.gv 32 37 rfl rfl rfl ?_;rintro rfl;have au:=NodeIn.kp HN.out (Kp.of_below af);have x7:w1.cell? ⟨g,o+7,none⟩=some (.string ⟨h.name.toArray⟩):=au.2 7 (by decide);simp[execOp,go_sem,G.t 36 rfl,x7]
     ·refine G.gv 32 38 rfl rfl rfl ?_;rintro rfl;simp[execOp,go_sem,e0x]
     ·refine G.gv 32 39 rfl rfl rfl ?_;rintro rfl;simp[execOp,go_sem,G.t 38 rfl]
     ·refine G.gv 32 40 rfl rfl rfl ?_;rintro rfl;simp[execOp,go_sem,G.t 39 rfl]
     ·refine G.gv 32 41 rfl rfl rfl ?_;rintro rfl;have au:=NodeIn.kp HN.out (Kp.of_below af);have x21:w1.cell? ⟨g,o+21,none⟩=some (.slice A l.length cp):=au.2 21 (by decide);simp[execOp,go_sem,G.t 40 rfl,x21]
     ·refine G.gv 32 42 rfl rfl rfl ?_;rintro rfl;simp[execOp,go_sem,G.t 37 rfl,G.t 41 rfl,dA,aY,aD]
     ·have pg:=G.g 32 rfl;cases c2
      ·exact G.sk 43 rfl pg rfl
      refine cR (inT 43 rfl) hk hI hs aa ho zd (Eq.trans (aH rfl rfl rfl pg) rfl) rfl 52 #[.pointer (some ⟨g,o,none⟩),dA ⟨0,aD,h.name,aG,aG,0⟩ A l.length cp] (by simp[go_sem,G.t 33 rfl,G.t 42 rfl]) ?_;have au:=NodeIn.kp HN.out (Kp.of_below af);have hB:=fO h ⟨0,aD,h.name,aG,aG,0⟩ A A l.length l.length cp cp g o w1 au;dsimp only at hB;rw[k4,decide_eq_true rfl,Bool.and_true]at hB;rw[b9]at hB;refine hB.mono ?_;rintro e w2 ⟨rfl,hb⟩;exact⟨rfl,af.trans (hb.mono af.size)⟩
     ·cases c2
      all_goals have p32:=G.d 32 rfl
      all_goals have p43:=G.d 43 rfl
      all_goals exact G.nl 44 rfl (by simp[execOp,go_sem,aE p32,aE p43,s7])
     exact G.nl 45 rfl (by simp[execOp,go_sem,G.t 44 rfl])
    intro zl a1 w1 hI ap;have af:Below w.heap.size w w1:=hI.st;have ae:=am.out;subst ae;have z5:=hI.ptk 45 rfl (ap 45 (by decide));have hO:=hI.off;clear hI ap am;exact⟨rfl,hR.off hO (by decide) (by decide),by rw[z5,HL],af⟩
   refine eT false z10 (by simp[k4]) (by have:=hR.sz;omega) (by have:=hR.sz;omega) (fun a' hO hz=>?_);replace hR:=hR.off hO (by decide) (by decide);replace z10:=(hO.eval (by decide)).trans z10;replace z5:=(hO.eval (by decide)).trans z5;clear hO;simp only[Exit.then];refine wp_cond_false hz ?_;refine wp_seq ?_;by_cases k5:h.kind=5
   ·refine eT true z10 (by simp[k5]) (by have:=hR.sz;omega) (by have:=hR.sz;omega) (fun a' hO hz=>?_);replace hR:=hR.off hO (by decide) (by decide);replace z10:=(hO.eval (by decide)).trans z10;replace z5:=(hO.eval (by decide)).trans z5;clear hO;simp only[Exit.then];refine wp_cond_true hz ?_;obtain⟨b0,ct⟩:∃ x,unB h.name=x:=⟨_,rfl⟩
    obtain⟨b1,af⟩:∃ x,decide (l.length=1)=x:=⟨_,rfl⟩
    have kc:((l.length:Int)==1)=b1:=by rw[<- af,ze];simp;omega
    obtain⟨b3,b9⟩:∃ x,NodeH.same h ⟨5,aD,h.name,aG,aG,0⟩=x:=⟨_,rfl⟩
    obtain⟨c1,fg⟩:∃ x,x=(b0&&b1):=⟨_,rfl⟩
    obtain⟨c2,gw⟩:∃ x,x=(c1&&b3):=⟨_,rfl⟩
    have HL:RB=c2:=by
     rw[<- zs.out];unfold bE;rw[if_neg k0,if_neg k13,if_neg k2,if_neg k4,if_pos k5,gw,fg,<- ct,<- af,<- b9]
    obtain⟨TT,ae⟩:∃ TT:List (Nat×Nat×Value),TT=((0,126,.pointer (some ⟨g,o,none⟩))::(1,127,.pointer (some ⟨g,o,none⟩))::(2,128,.pointer (some ⟨g,o+7,none⟩))::(3,129,.string ⟨h.name.toArray⟩)::(4,130,.bool b0)::(5,131,.bool b0)::(6,132,(bif b0 then .pointer (some ⟨g,o,none⟩) else undef))::(7,133,(bif b0 then .pointer (some ⟨g,o,none⟩) else undef))::(8,134,(bif b0 then .pointer (some ⟨g,o+21,none⟩) else undef))::(9,135,(bif b0 then .slice A l.length cp else undef))::(10,136,(bif b0 then .int .i64 (l.length:Nat) else undef))::(11,137,(bif b0 then .bool b1 else undef))::(12,138,.bool c1)::(13,139,.bool c1)::(14,140,(bif c1 then .pointer (some ⟨g,o,none⟩) else undef))::(15,141,(bif c1 then .pointer (some ⟨g,o,none⟩) else undef))::(16,142,(bif c1 then .pointer (some ⟨g,o,none⟩) else undef))::(17,143,(bif c1 then .pointer (some ⟨g,o+7,none⟩) else undef))::(18,144,(bif c1 then .string ⟨h.name.toArray⟩ else undef))::(19,145,(bif c1 then .pointer (some ⟨g,o,none⟩) else undef))::(20,146,(bif c1 then .pointer (some ⟨g,o,none⟩) else undef))::(21,147,(bif c1 then .pointer (some ⟨g,o+21,none⟩) else undef))::(22,148,(bif c1 then .slice A l.length cp else undef))::(23,149,(bif c1 then dA ⟨0,aD,h.name,aG,aG,0⟩ A l.length cp else undef))::(24,150,(bif c1 then .bool b3 else undef))::(25,151,.bool c2)::(26,5,.bool c2)::[]):=⟨_,rfl⟩
    have am:=zh ae;clear ae;refine bC (fun a0=>287<=a0.tmps.size/\a0.eval (.tmp 0)=.pointer (some ⟨g,o,none⟩)/\a0.eval (.tmp 1)=.int .i64 above) (126::127::128::129::130::131::132::133::134::135::136::137::138::139::140::141::142::143::144::145::146::147::148::149::150::151::5::[]) TT [] (fun w'=>Below w.heap.size w w') (by kernel_rfl) (by kernel_rfl) ⟨hR.sz,hR.s0,hR.s1⟩ jk.out.drew ?_ ?_
    ·rintro a0 ⟨hs,dh,dt⟩ zl a1 w1 zj o bg hI aa ho zd;have af:Below w.heap.size w w1:=hI.st;have ae:=am.out;have hk:okU (TT.map fun e=>(e.1,e.2.1)) (126::127::128::129::130::131::132::133::134::135::136::137::138::139::140::141::142::143::144::145::146::147::148::149::150::151::5::[]) 287=true:=by rw[ae];rfl
     subst ae;have e0x:=aE ((hI.off.eval (by decide)).trans dh);have e1x:=aE ((hI.off.eval (by decide)).trans dt);have hj:=Up.of_false aa;have hj12:zj<27:=by rw[bg]at hj;exact hj
     have G:RG _ _ _ _ _ _ _ _ _ _ _:=⟨hk,hI,hs,aa,ho,zd⟩
     (iterate 26 rcases zq hj12 with hj12|rfl);obtain rfl:=cz hj12;all_goals obtain rfl:=oi ho
     ·exact G.nl 0 rfl (by simp[execOp,go_sem,e0x])
     ·exact G.nl 1 rfl (by simp[execOp,go_sem,G.t 0 rfl])
     ·exact G.nl 2 rfl (by simp[execOp,go_sem,G.t 1 rfl])
     ·have au:=NodeIn.kp HN.out (Kp.of_below af);have x7:w1.cell? ⟨g,o+7,none⟩=some (.string ⟨h.name.toArray⟩):=au.2 7 (by decide);exact G.nl 3 rfl (by simp[execOp,go_sem,G.t 2 rfl,x7])
     ·refine cR (inT 4 rfl) hk hI hs aa ho zd (aC rfl) rfl 55 #[.string ⟨h.name.toArray⟩] (by simp[go_sem,G.t 3 rfl]) ?_;have hB:=uFE h.name w1;rw[ct]at hB;refine hB.mono ?_;rintro e w2 ⟨rfl,hb⟩
      first|exact⟨rfl,af.trans (hb.mono af.size)⟩ |(subst hb;exact⟨rfl,af⟩)
     ·exact G.nl 5 rfl (by simp[execOp,go_sem,G.t 4 rfl])
     ·refine G.gv 5 6 rfl rfl rfl ?_;rintro rfl;simp[execOp,go_sem,e0x]
     ·refine G.gv 5 7 rfl rfl rfl ?_;rintro rfl;simp[execOp,go_sem,G.t 6 rfl]
     ·refine G.gv 5 8 rfl rfl rfl ?_;rintro rfl;simp[execOp,go_sem,G.t 7 rfl]
     ·refine G.gv 5 9 rfl rfl rfl ?_;rintro rfl;have au:=NodeIn.kp HN.out (Kp.of_below af);have x21:w1.cell? ⟨g,o+21,none⟩=some (.slice A l.length cp):=au.2 21 (by decide);simp[execOp,go_sem,G.t 8 rfl,x21]
     ·refine G.gv 5 10 rfl rfl rfl ?_;rintro rfl;simp[go_sem,G.t 9 rfl]
     ·refine G.gv 5 11 rfl rfl rfl ?_;rintro rfl;simp[execOp,go_sem,G.t 10 rfl,kc]
     ·cases b0
      all_goals have p5:=G.d 5 rfl
      all_goals have p11:=G.d 11 rfl
      all_goals exact G.nl 12 rfl (by simp[execOp,go_sem,aE p5,aE p11,fg])
     ·exact G.nl 13 rfl (by simp[execOp,go_sem,G.t 12 rfl])
     ·refine G.gv 13 14 rfl rfl rfl ?_;rintro rfl;simp[execOp,go_sem,e0x]
     ·refine G.gv 13 15 rfl rfl rfl ?_;rintro rfl;simp[execOp,go_sem,e0x]
     ·refine G.gv 13 16 rfl rfl rfl ?_;rintro rfl;simp[execOp,go_sem,G.t 15 rfl]
     ·refine G.gv 13 17 rfl rfl rfl ?_;rintro rfl;simp[execOp,go_sem,G.t 16 rfl]
     ·refine G.gv 13 18 rfl rfl rfl ?_;rintro rfl;have au:=NodeIn.kp HN.out (Kp.of_below af);have x7:w1.cell? ⟨g,o+7,none⟩=some (.string ⟨h.name.toArray⟩):=au.2 7 (by decide);simp[execOp,go_sem,G.t 17 rfl,x7]
     ·refine G.gv 13 19 rfl rfl rfl ?_;rintro rfl;simp[execOp,go_sem,e0x]
     ·refine G.gv 13 20 rfl rfl rfl ?_;rintro rfl;simp[execOp,go_sem,G.t 19 rfl]
     ·refine G.gv 13 21 rfl rfl rfl ?_;rintro rfl;simp[execOp,go_sem,G.t 20 rfl]
     ·refine G.gv 13 22 rfl rfl rfl ?_;rintro rfl;have au:=NodeIn.kp HN.out (Kp.of_below af);have x21:w1.cell? ⟨g,o+21,none⟩=some (.slice A l.length cp):=au.2 21 (by decide);simp[execOp,go_sem,G.t 21 rfl,x21]
     ·refine G.gv 13 23 rfl rfl rfl ?_;rintro rfl;simp[execOp,go_sem,G.t 18 rfl,G.t 22 rfl,dA,aY,aD]
     ·have pg:=G.g 13 rfl;cases c1
      ·exact G.sk 24 rfl pg rfl
      refine cR (inT 24 rfl) hk hI hs aa ho zd (Eq.trans (aH rfl rfl rfl pg) rfl) rfl 52 #[.pointer (some ⟨g,o,none⟩),dA ⟨0,aD,h.name,aG,aG,0⟩ A l.length cp] (by simp[go_sem,G.t 14 rfl,G.t 23 rfl]) ?_;have au:=NodeIn.kp HN.out (Kp.of_below af);have hB:=fO h ⟨0,aD,h.name,aG,aG,0⟩ A A l.length l.length cp cp g o w1 au;dsimp only at hB;rw[k5,decide_eq_true rfl,Bool.and_true]at hB;rw[b9]at hB;refine hB.mono ?_;rintro e w2 ⟨rfl,hb⟩;exact⟨rfl,af.trans (hb.mono af.size)⟩
     ·cases c1
      all_goals have p13:=G.d 13 rfl
      all_goals have p24:=G.d 24 rfl
      all_goals exact G.nl 25 rfl (by simp[execOp,go_sem,aE p13,aE p24,gw])
     exact G.nl 26 rfl (by simp[execOp,go_sem,G.t 25 rfl])
    intro zl a1 w1 hI ap;have af:Below w.heap.size w w1:=hI.st;have ae:=am.out;subst ae;have z5:=hI.ptk 26 rfl (ap 26 (by decide));have hO:=hI.off;clear hI ap am;exact⟨rfl,hR.off hO (by decide) (by decide),by rw[z5,HL],af⟩
   refine eT false z10 (by simp[k5]) (by have:=hR.sz;omega) (by have:=hR.sz;omega) (fun a' hO hz=>?_);replace hR:=hR.off hO (by decide) (by decide);replace z10:=(hO.eval (by decide)).trans z10;replace z5:=(hO.eval (by decide)).trans z5;clear hO;simp only[Exit.then];refine wp_cond_false hz ?_;refine wp_seq ?_;by_cases k6:h.kind=6
   ·refine eT true z10 (by simp[k6]) (by have:=hR.sz;omega) (by have:=hR.sz;omega) (fun a' hO hz=>?_);replace hR:=hR.off hO (by decide) (by decide);replace z10:=(hO.eval (by decide)).trans z10;replace z5:=(hO.eval (by decide)).trans z5;clear hO;simp only[Exit.then];refine wp_cond_true hz ?_;obtain⟨b0,ct⟩:∃ x,lS h.name=x:=⟨_,rfl⟩
    obtain⟨b1,af⟩:∃ x,decide (l.length=2)=x:=⟨_,rfl⟩
    have kc:((l.length:Int)==2)=b1:=by rw[<- af,ze];simp;omega
    obtain⟨b3,b9⟩:∃ x,NodeH.same h ⟨6,aD,h.name,aG,aG,0⟩=x:=⟨_,rfl⟩
    obtain⟨c1,fg⟩:∃ x,x=(b0&&b1):=⟨_,rfl⟩
    obtain⟨c2,gw⟩:∃ x,x=(c1&&b3):=⟨_,rfl⟩
    have HL:RB=c2:=by
     rw[<- zs.out];unfold bE;rw[if_neg k0,if_neg k13,if_neg k2,if_neg k4,if_neg k5,if_pos k6,gw,fg,<- ct,<- af,<- b9]
    obtain⟨TT,ae⟩:∃ TT:List (Nat×Nat×Value),TT=((0,154,.pointer (some ⟨g,o,none⟩))::(1,155,.pointer (some ⟨g,o,none⟩))::(2,156,.pointer (some ⟨g,o+7,none⟩))::(3,157,.string ⟨h.name.toArray⟩)::(4,158,.bool b0)::(5,159,.bool b0)::(6,160,(bif b0 then .pointer (some ⟨g,o,none⟩) else undef))::(7,161,(bif b0 then .pointer (some ⟨g,o,none⟩) else undef))::(8,162,(bif b0 then .pointer (some ⟨g,o+21,none⟩) else undef))::(9,163,(bif b0 then .slice A l.length cp else undef))::(10,164,(bif b0 then .int .i64 (l.length:Nat) else undef))::(11,165,(bif b0 then .bool b1 else undef))::(12,166,.bool c1)::(13,167,.bool c1)::(14,168,(bif c1 then .pointer (some ⟨g,o,none⟩) else undef))::(15,169,(bif c1 then .pointer (some ⟨g,o,none⟩) else undef))::(16,170,(bif c1 then .pointer (some ⟨g,o,none⟩) else undef))::(17,171,(bif c1 then .pointer (some ⟨g,o+7,none⟩) else undef))::(18,172,(bif c1 then .string ⟨h.name.toArray⟩ else undef))::(19,173,(bif c1 then .pointer (some ⟨g,o,none⟩) else undef))::(20,174,(bif c1 then .pointer (some ⟨g,o,none⟩) else undef))::(21,175,(bif c1 then .pointer (some ⟨g,o+21,none⟩) else undef))::(22,176,(bif c1 then .slice A l.length cp else undef))::(23,177,(bif c1 then dA ⟨0,aD,h.name,aG,aG,0⟩ A l.length cp else undef))::(24,178,(bif c1 then .bool b3 else undef))::(25,179,.bool c2)::(26,5,.bool c2)::[]):=⟨_,rfl⟩
    have am:=zh ae;clear ae;refine bC (fun a0=>287<=a0.tmps.size/\a0.eval (.tmp 0)=.pointer (some ⟨g,o,none⟩)/\a0.eval (.tmp 1)=.int .i64 above) (154::155::156::157::158::159::160::161::162::163::164::165::166::167::168::169::170::171::172::173::174::175::176::177::178::179::5::[]) TT [] (fun w'=>Below w.heap.size w w') (by kernel_rfl) (by kernel_rfl) ⟨hR.sz,hR.s0,hR.s1⟩ jk.out.drew ?_ ?_
    ·rintro a0 ⟨hs,dh,dt⟩ zl a1 w1 zj o bg hI aa ho zd;have af:Below w.heap.size w w1:=hI.st;have ae:=am.out;have hk:okU (TT.map fun e=>(e.1,e.2.1)) (154::155::156::157::158::159::160::161::162::163::164::165::166::167::168::169::170::171::172::173::174::175::176::177::178::179::5::[]) 287=true:=by rw[ae];rfl
     subst ae;have e0x:=aE ((hI.off.eval (by decide)).trans dh);have e1x:=aE ((hI.off.eval (by decide)).trans dt);have hj:=Up.of_false aa;have hj12:zj<27:=by rw[bg]at hj;exact hj
     have G:RG _ _ _ _ _ _ _ _ _ _ _:=⟨hk,hI,hs,aa,ho,zd⟩
     (iterate 26 rcases zq hj12 with hj12|rfl);obtain rfl:=cz hj12;all_goals obtain rfl:=oi ho
     ·exact G.nl 0 rfl (by simp[execOp,go_sem,e0x])
     ·exact G.nl 1 rfl (by simp[execOp,go_sem,G.t 0 rfl])
     ·exact G.nl 2 rfl (by simp[execOp,go_sem,G.t 1 rfl])
     ·have au:=NodeIn.kp HN.out (Kp.of_below af);have x7:w1.cell? ⟨g,o+7,none⟩=some (.string ⟨h.name.toArray⟩):=au.2 7 (by decide);exact G.nl 3 rfl (by simp[execOp,go_sem,G.t 2 rfl,x7])
     ·refine cR (inT 4 rfl) hk hI hs aa ho zd (aC rfl) rfl 56 #[.string ⟨h.name.toArray⟩] (by simp[go_sem,G.t 3 rfl]) ?_;have hB:=uBK h.name w1;rw[ct]at hB;refine hB.mono ?_;rintro e w2 ⟨rfl,hb⟩
      first|exact⟨rfl,af.trans (hb.mono af.size)⟩ |(subst hb;exact⟨rfl,af⟩)
     ·exact G.nl 5 rfl (by simp[execOp,go_sem,G.t 4 rfl])
     ·refine G.gv 5 6 rfl rfl rfl ?_;rintro rfl;simp[execOp,go_sem,e0x]
     ·refine G.gv 5 7 rfl rfl rfl ?_;rintro rfl;simp[execOp,go_sem,G.t 6 rfl]
     ·refine G.gv 5 8 rfl rfl rfl ?_;rintro rfl;simp[execOp,go_sem,G.t 7 rfl]
     ·refine G.gv 5 9 rfl rfl rfl ?_;rintro rfl;have au:=NodeIn.kp HN.out (Kp.of_below af);have x21:w1.cell? ⟨g,o+21,none⟩=some (.slice A l.length cp):=au.2 21 (by decide);simp[execOp,go_sem,G.t 8 rfl,x21]
     ·refine G.gv 5 10 rfl rfl rfl ?_;rintro rfl;simp[go_sem,G.t 9 rfl]
     ·refine G.gv 5 11 rfl rfl rfl ?_;rintro rfl;simp[execOp,go_sem,G.t 10 rfl,kc]
     ·cases b0
      all_goals have p5:=G.d 5 rfl
      all_goals have p11:=G.d 11 rfl
      all_goals exact G.nl 12 rfl (by simp[execOp,go_sem,aE p5,aE p11,fg])
     ·exact G.nl 13 rfl (by simp[execOp,go_sem,G.t 12 rfl])
     ·refine G.gv 13 14 rfl rfl rfl ?_;rintro rfl;simp[execOp,go_sem,e0x]
     ·refine G.gv 13 15 rfl rfl rfl ?_;rintro rfl;simp[execOp,go_sem,e0x]
     ·refine G.gv 13 16 rfl rfl rfl ?_;rintro rfl;simp[execOp,go_sem,G.t 15 rfl]
     ·refine G.gv 13 17 rfl rfl rfl ?_;rintro rfl;simp[execOp,go_sem,G.t 16 rfl]
     ·refine G.gv 13 18 rfl rfl rfl ?_;rintro rfl;have au:=NodeIn.kp HN.out (Kp.of_below af);have x7:w1.cell? ⟨g,o+7,none⟩=some (.string ⟨h.name.toArray⟩):=au.2 7 (by decide);simp[execOp,go_sem,G.t 17 rfl,x7]
     ·refine G.gv 13 19 rfl rfl rfl ?_;rintro rfl;simp[execOp,go_sem,e0x]
     ·refine G.gv 13 20 rfl rfl rfl ?_;rintro rfl;simp[execOp,go_sem,G.t 19 rfl]
     ·refine G.gv 13 21 rfl rfl rfl ?_;rintro rfl;simp[execOp,go_sem,G.t 20 rfl]
     ·refine G.gv 13 22 rfl rfl rfl ?_;rintro rfl;have au:=NodeIn.kp HN.out (Kp.of_below af);have x21:w1.cell? ⟨g,o+21,none⟩=some (.slice A l.length cp):=au.2 21 (by decide);simp[execOp,go_sem,G.t 21 rfl,x21]
     ·refine G.gv 13 23 rfl rfl rfl ?_;rintro rfl;simp[execOp,go_sem,G.t 18 rfl,G.t 22 rfl,dA,aY,aD]
     ·have pg:=G.g 13 rfl;cases c1
      ·exact G.sk 24 rfl pg rfl
      refine cR (inT 24 rfl) hk hI hs aa ho zd (Eq.trans (aH rfl rfl rfl pg) rfl) rfl 52 #[.pointer (some ⟨g,o,none⟩),dA ⟨0,aD,h.name,aG,aG,0⟩ A l.length cp] (by simp[go_sem,G.t 14 rfl,G.t 23 rfl]) ?_;have au:=NodeIn.kp HN.out (Kp.of_below af);have hB:=fO h ⟨0,aD,h.name,aG,aG,0⟩ A A l.length l.length cp cp g o w1 au;dsimp only at hB;rw[k6,decide_eq_true rfl,Bool.and_true]at hB;rw[b9]at hB;refine hB.mono ?_;rintro e w2 ⟨rfl,hb⟩;exact⟨rfl,af.trans (hb.mono af.size)⟩
     ·cases c1
      all_goals have p13:=G.d 13 rfl
      all_goals have p24:=G.d 24 rfl
      all_goals exact G.nl 25 rfl (by simp[execOp,go_sem,aE p13,aE p24,gw])
     exact G.nl 26 rfl (by simp[execOp,go_sem,G.t 25 rfl])
    intro zl a1 w1 hI ap;have af:Below w.heap.size w w1:=hI.st;have ae:=am.out;subst ae;have z5:=hI.ptk 26 rfl (ap 26 (by decide));have hO:=hI.off;clear hI ap am;exact⟨rfl,hR.off hO (by decide) (by decide),by rw[z5,HL],af⟩
   refine eT false z10 (by simp[k6]) (by have:=hR.sz;omega) (by have:=hR.sz;omega) (fun a' hO hz=>?_);replace hR:=hR.off hO (by decide) (by decide);replace z10:=(hO.eval (by decide)).trans z10;replace z5:=(hO.eval (by decide)).trans z5;clear hO;simp only[Exit.then];refine wp_cond_false hz ?_;refine wp_seq ?_;by_cases k7:h.kind=7
   ·refine eT true z10 (by simp[k7]) (by have:=hR.sz;omega) (by have:=hR.sz;omega) (fun a' hO hz=>?_);replace hR:=hR.off hO (by decide) (by decide);replace z10:=(hO.eval (by decide)).trans z10;replace z5:=(hO.eval (by decide)).trans z5;clear hO;simp only[Exit.then];refine wp_cond_true hz ?_;obtain⟨b0,ct⟩:∃ x,bM h.name=x:=⟨_,rfl⟩
    obtain⟨s1,jo⟩:∃ x,(NodeH.same h ⟨7,aD,h.name,aG,aG,0⟩&&decide (l.length=0))=x:=⟨_,rfl⟩
    obtain⟨c1,fg⟩:∃ x,x=(b0&&s1):=⟨_,rfl⟩
    have HL:RB=c1:=by
     rw[<- zs.out];unfold bE;rw[if_neg k0,if_neg k13,if_neg k2,if_neg k4,if_neg k5,if_neg k6,if_pos k7,fg,<- ct,<- jo,Bool.and_assoc]
    obtain⟨TT,ae⟩:∃ TT:List (Nat×Nat×Value),TT=((0,182,.pointer (some ⟨g,o,none⟩))::(1,183,.pointer (some ⟨g,o,none⟩))::(2,184,.pointer (some ⟨g,o+7,none⟩))::(3,185,.string ⟨h.name.toArray⟩)::(4,186,.bool b0)::(5,187,.bool b0)::(6,188,(bif b0 then .pointer (some ⟨g,o,none⟩) else undef))::(7,189,(bif b0 then .pointer (some ⟨g,o,none⟩) else undef))::(8,190,(bif b0 then .pointer (some ⟨g,o,none⟩) else undef))::(9,191,(bif b0 then .pointer (some ⟨g,o+7,none⟩) else undef))::(10,192,(bif b0 then .string ⟨h.name.toArray⟩ else undef))::(11,193,(bif b0 then dA ⟨0,aD,h.name,aG,aG,0⟩ none 0 0 else undef))::(12,194,(bif b0 then .bool s1 else undef))::(13,195,.bool c1)::(14,5,.bool c1)::[]):=⟨_,rfl⟩
    have am:=zh ae;clear ae;refine bD (fun a0=>287<=a0.tmps.size/\a0.eval (.tmp 0)=.pointer (some ⟨g,o,none⟩)/\a0.eval (.tmp 1)=.int .i64 above) (182::183::184::185::186::187::188::189::190::191::192::193::194::195::5::[]) TT [] (fun w'=>Below w.heap.size w w') (by kernel_rfl) ⟨hR.sz,hR.s0,hR.s1⟩ jk.out ?_ ?_
    ·rintro a0 ⟨hs,dh,dt⟩ zl a1 w1 zj o bg hI aa ho zd;have af:Below w.heap.size w w1:=hI.st;have ae:=am.out;have hk:okU (TT.map fun e=>(e.1,e.2.1)) (182::183::184::185::186::187::188::189::190::191::192::193::194::195::5::[]) 287=true:=by rw[ae];rfl
     subst ae;have e0x:=aE ((hI.off.eval (by decide)).trans dh);have e1x:=aE ((hI.off.eval (by decide)).trans dt);have hj:=Up.of_false aa;have hj12:zj<15:=by rw[bg]at hj;exact hj
     have G:RG _ _ _ _ _ _ _ _ _ _ _:=⟨hk,hI,hs,aa,ho,zd⟩
     (iterate 14 rcases zq hj12 with hj12|rfl);obtain rfl:=cz hj12;all_goals obtain rfl:=oi ho
     ·exact G.nl 0 rfl (by simp[execOp,go_sem,e0x])
     ·exact G.nl 1 rfl (by simp[execOp,go_sem,G.t 0 rfl])
     ·exact G.nl 2 rfl (by simp[execOp,go_sem,G.t 1 rfl])
     ·have au:=NodeIn.kp HN.out (Kp.of_below af);have x7:w1.cell? ⟨g,o+7,none⟩=some (.string ⟨h.name.toArray⟩):=au.2 7 (by decide);exact G.nl 3 rfl (by simp[execOp,go_sem,G.t 2 rfl,x7])
     ·refine cR (inT 4 rfl) hk hI hs aa ho zd (aC rfl) rfl 57 #[.string ⟨h.name.toArray⟩] (by simp[go_sem,G.t 3 rfl]) ?_;have hB:=uJA h.name w1 HF.out.2.2.2;rw[ct]at hB;refine hB.mono ?_;rintro e w2 ⟨rfl,hb⟩
      first|exact⟨rfl,af.trans (hb.mono af.size)⟩ |(subst hb;exact⟨rfl,af⟩)
     ·exact G.nl 5 rfl (by simp[execOp,go_sem,G.t 4 rfl])
     ·refine G.gv 5 6 rfl rfl rfl ?_;rintro rfl;simp[execOp,go_sem,e0x]
     ·refine G.gv 5 7 rfl rfl rfl ?_;rintro rfl;simp[execOp,go_sem,e0x]
     ·refine G.gv 5 8 rfl rfl rfl ?_;rintro rfl;simp[execOp,go_sem,G.t 7 rfl]
     ·refine G.gv 5 9 rfl rfl rfl ?_;rintro rfl;simp[execOp,go_sem,G.t 8 rfl]
     ·refine G.gv 5 10 rfl rfl rfl ?_;rintro rfl;have au:=NodeIn.kp HN.out (Kp.of_below af);have x7:w1.cell? ⟨g,o+7,none⟩=some (.string ⟨h.name.toArray⟩):=au.2 7 (by decide);simp[execOp,go_sem,G.t 9 rfl,x7]
     ·refine G.gv 5 11 rfl rfl rfl ?_;rintro rfl;simp[execOp,go_sem,G.t 10 rfl,dA,aY,aD]
     ·have pg:=G.g 5 rfl;cases b0
      ·exact G.sk 12 rfl pg rfl
      refine cR (inT 12 rfl) hk hI hs aa ho zd (Eq.trans (aH rfl rfl rfl pg) rfl) rfl 52 #[.pointer (some ⟨g,o,none⟩),dA ⟨0,aD,h.name,aG,aG,0⟩ none 0 0] (by simp[go_sem,G.t 6 rfl,G.t 11 rfl]) ?_;have au:=NodeIn.kp HN.out (Kp.of_below af);have hB:=fO h ⟨0,aD,h.name,aG,aG,0⟩ A none l.length 0 cp 0 g o w1 au;dsimp only at hB;rw[k7]at hB;rw[jo]at hB;refine hB.mono ?_;rintro e w2 ⟨rfl,hb⟩;exact⟨rfl,af.trans (hb.mono af.size)⟩
     ·cases b0
      all_goals have p5:=G.d 5 rfl
      all_goals have p12:=G.d 12 rfl
      all_goals exact G.nl 13 rfl (by simp[execOp,go_sem,aE p5,aE p12,fg])
     exact G.nl 14 rfl (by simp[execOp,go_sem,G.t 13 rfl])
    intro zl a1 w1 hI ap;have af:Below w.heap.size w w1:=hI.st;have ae:=am.out;subst ae;have z5:=hI.ptk 14 rfl (ap 14 (by decide));have hO:=hI.off;clear hI ap am;exact⟨rfl,hR.off hO (by decide) (by decide),by rw[z5,HL],af⟩
   refine eT false z10 (by simp[k7]) (by have:=hR.sz;omega) (by have:=hR.sz;omega) (fun a' hO hz=>?_);replace hR:=hR.off hO (by decide) (by decide);replace z10:=(hO.eval (by decide)).trans z10;replace z5:=(hO.eval (by decide)).trans z5;clear hO;simp only[Exit.then];refine wp_cond_false hz ?_;refine wp_seq ?_;by_cases k8:h.kind=8
   ·refine eT true z10 (by simp[k8]) (by have:=hR.sz;omega) (by have:=hR.sz;omega) (fun a' hO hz=>?_);replace hR:=hR.off hO (by decide) (by decide);replace z10:=(hO.eval (by decide)).trans z10;replace z5:=(hO.eval (by decide)).trans z5;clear hO;simp only[Exit.then];refine wp_cond_true hz ?_;obtain⟨b0,ct⟩:∃ x,decide (1<=h.rows)=x:=⟨_,rfl⟩
    obtain⟨b1,af⟩:∃ x,decide (1<=l.length)=x:=⟨_,rfl⟩
    have kc:decide (1<=(l.length:Int))=b1:=by rw[<- af,decide_eq_decide];omega
    obtain⟨b2,ay⟩:∃ x,((l.length:Int).tmod h.rows==0)=x:=⟨_,rfl⟩
    obtain⟨b3,b9⟩:∃ x,NodeH.same h ⟨8,aD,[],aG,aG,h.rows⟩=x:=⟨_,rfl⟩
    obtain⟨c1,fg⟩:∃ x,x=(b0&&b1):=⟨_,rfl⟩
    obtain⟨c2,gw⟩:∃ x,x=(c1&&b2):=⟨_,rfl⟩
    obtain⟨c3,s7⟩:∃ x,x=(c2&&b3):=⟨_,rfl⟩
    have bi:c1=true->1<=h.rows:=fun hc=>by rw[fg,yh,<- ct]at hc;exact of_decide_eq_true hc.1
    have bp:1<=h.rows->h.rows≠0:=fun hh=>by omega
    have HL:RB=c3:=by
     rw[<- zs.out];unfold bE;rw[if_neg k0,if_neg k13,if_neg k2,if_neg k4,if_neg k5,if_neg k6,if_neg k7,if_pos k8,s7,gw,fg,<- ct,<- af,<- ay,<- b9]
     congr 2
    obtain⟨TT,ae⟩:∃ TT:List (Nat×Nat×Value),TT=((0,198,.pointer (some ⟨g,o,none⟩))::(1,199,.pointer (some ⟨g,o,none⟩))::(2,200,.pointer (some ⟨g,o+20,none⟩))::(3,201,.int .i64 h.rows)::(4,202,.bool b0)::(5,203,.bool b0)::(6,204,(bif b0 then .pointer (some ⟨g,o,none⟩) else undef))::(7,205,(bif b0 then .pointer (some ⟨g,o,none⟩) else undef))::(8,206,(bif b0 then .pointer (some ⟨g,o+21,none⟩) else undef))::(9,207,(bif b0 then .slice A l.length cp else undef))::(10,208,(bif b0 then .int .i64 (l.length:Nat) else undef))::(11,209,(bif b0 then .bool b1 else undef))::(12,210,.bool c1)::(13,211,.bool c1)::(14,212,(bif c1 then .pointer (some ⟨g,o,none⟩) else undef))::(15,213,(bif c1 then .pointer (some ⟨g,o,none⟩) else undef))::(16,214,(bif c1 then .pointer (some ⟨g,o+21,none⟩) else undef))::(17,215,(bif c1 then .slice A l.length cp else undef))::(18,216,(bif c1 then .int .i64 (l.length:Nat) else undef))::(19,217,(bif c1 then .pointer (some ⟨g,o,none⟩) else undef))::(20,218,(bif c1 then .pointer (some ⟨g,o,none⟩) else undef))::(21,219,(bif c1 then .pointer (some ⟨g,o+20,none⟩) else undef))::(22,220,(bif c1 then .int .i64 h.rows else undef))::(23,221,(bif c1 then .int .i64 ((l.length:Int).tmod h.rows) else undef))::(24,222,(bif c1 then .bool b2 else undef))::(25,223,.bool c2)::(26,224,.bool c2)::(27,225,(bif c2 then .pointer (some ⟨g,o,none⟩) else undef))::(28,226,(bif c2 then .pointer (some ⟨g,o,none⟩) else undef))::(29,227,(bif c2 then .pointer (some ⟨g,o,none⟩) else undef))::(30,228,(bif c2 then .pointer (some ⟨g,o+20,none⟩) else undef))::(31,229,(bif c2 then .int .i64 h.rows else undef))::(32,230,(bif c2 then .pointer (some ⟨g,o,none⟩) else undef))::(33,231,(bif c2 then .pointer (some ⟨g,o,none⟩) else undef))::(34,232,(bif c2 then .pointer (some ⟨g,o+21,none⟩) else undef))::(35,233,(bif c2 then .slice A l.length cp else undef))::(36,234,(bif c2 then dA ⟨0,aD,[],aG,aG,h.rows⟩ A l.length cp else undef))::(37,235,(bif c2 then .bool b3 else undef))::(38,236,.bool c3)::(39,5,.bool c3)::[]):=⟨_,rfl⟩
    have am:=zh ae;clear ae;refine bC (fun a0=>287<=a0.tmps.size/\a0.eval (.tmp 0)=.pointer (some ⟨g,o,none⟩)/\a0.eval (.tmp 1)=.int .i64 above) (198::199::200::201::202::203::204::205::206::207::208::209::210::211::212::213::214::215::216::217::218::219::220::221::222::223::224::225::226::227::228::229::230::231::232::233::234::235::236::5::[]) TT [] (fun w'=>Below w.heap.size w w') (by kernel_rfl) (by kernel_rfl) ⟨hR.sz,hR.s0,hR.s1⟩ jk.out.drew ?_ ?_
    ·rintro a0 ⟨hs,dh,dt⟩ zl a1 w1 zj o bg hI aa ho zd;have af:Below w.heap.size w w1:=hI.st;have ae:=am.out;have hk:okU (TT.map fun e=>(e.1,e.2.1)) (198::199::200::201::202::203::204::205::206::207::208::209::210::211::212::213::214::215::216::217::218::219::220::221::222::223::224::225::226::227::228::229::230::231::232::233::234::235::236::5::[]) 287=true:=by rw[ae];rfl
     subst ae;have e0x:=aE ((hI.off.eval (by decide)).trans dh);have e1x:=aE ((hI.off.eval (by decide)).trans dt);have hj:=Up.of_false aa;have hj12:zj<40:=by rw[bg]at hj;exact hj
     have G:RG _ _ _ _ _ _ _ _ _ _ _:=⟨hk,hI,hs,aa,ho,zd⟩
     (iterate 39 rcases zq hj12 with hj12|rfl);obtain rfl:=cz hj12;all_goals obtain rfl:=oi ho
     ·exact G.nl 0 rfl (by simp[execOp,go_sem,e0x])
     ·exact G.nl 1 rfl (by simp[execOp,go_sem,G.t 0 rfl])
     ·exact G.nl 2 rfl (by simp[execOp,go_sem,G.t 1 rfl])
     ·have au:=NodeIn.kp HN.out (Kp.of_below af);have x20:w1.cell? ⟨g,o+20,none⟩=some (.int .i64 h.rows):=au.2 20 (by decide);exact G.nl 3 rfl (by simp[execOp,go_sem,G.t 2 rfl,x20])
     ·exact G.nl 4 rfl (by simp[execOp,go_sem,G.t 3 rfl,ct])
     ·exact G.nl 5 rfl (by simp[execOp,go_sem,G.t 4 rfl])
     ·refine G.gv 5 6 rfl rfl rfl ?_;rintro rfl;simp[execOp,go_sem,e0x]
     ·refine G.gv 5 7 rfl rfl rfl ?_;rintro rfl;simp[execOp,go_sem,G.t 6 rfl]
     ·refine G.gv 5 8 rfl rfl rfl ?_;rintro rfl;simp[execOp,go_sem,G.t 7 rfl]
     ·refine G.gv 5 9 rfl rfl rfl ?_;rintro rfl;have au:=NodeIn.kp HN.out (Kp.of_below af);have x21:w1.cell? ⟨g,o+21,none⟩=some (.slice A l.length cp):=au.2 21 (by decide);simp[execOp,go_sem,G.t 8 rfl,x21]
     ·refine G.gv 5 10 rfl rfl rfl ?_;rintro rfl;simp[go_sem,G.t 9 rfl]
     ·refine G.gv 5 11 rfl rfl rfl ?_;rintro rfl;simp[execOp,go_sem,G.t 10 rfl,kc]
     ·cases b0
      all_goals have p5:=G.d 5 rfl
      all_goals have p11:=G.d 11 rfl
      all_goals exact G.nl 12 rfl (by simp[execOp,go_sem,aE p5,aE p11,fg])
     ·exact G.nl 13 rfl (by simp[execOp,go_sem,G.t 12 rfl])
     ·refine G.gv 13 14 rfl rfl rfl ?_;rintro rfl;simp[execOp,go_sem,e0x]
     ·refine G.gv 13 15 rfl rfl rfl ?_;rintro rfl;simp[execOp,go_sem,G.t 14 rfl]
     ·refine G.gv 13 16 rfl rfl rfl ?_;rintro rfl;simp[execOp,go_sem,G.t 15 rfl]
     ·refine G.gv 13 17 rfl rfl rfl ?_;rintro rfl;have au:=NodeIn.kp HN.out (Kp.of_below af);have x21:w1.cell? ⟨g,o+21,none⟩=some (.slice A l.length cp):=au.2 21 (by decide);simp[execOp,go_sem,G.t 16 rfl,x21]
     ·refine G.gv 13 18 rfl rfl rfl ?_;rintro rfl;simp[go_sem,G.t 17 rfl]
     ·refine G.gv 13 19 rfl rfl rfl ?_;rintro rfl;simp[execOp,go_sem,e0x]
     ·refine G.gv 13 20 rfl rfl rfl ?_;rintro rfl;simp[execOp,go_sem,G.t 19 rfl]
     ·refine G.gv 13 21 rfl rfl rfl ?_;rintro rfl;simp[execOp,go_sem,G.t 20 rfl]
     ·refine G.gv 13 22 rfl rfl rfl ?_;rintro rfl;have au:=NodeIn.kp HN.out (Kp.of_below af);have x20:w1.cell? ⟨g,o+20,none⟩=some (.int .i64 h.rows):=au.2 20 (by decide);simp[execOp,go_sem,G.t 21 rfl,x20]
     ·refine G.gv 13 23 rfl rfl rfl ?_;rintro rfl;have i7:=bi rfl;simp[execOp,go_sem,G.t 18 rfl,G.t 22 rfl,bp i7]
     ·refine G.gv 13 24 rfl rfl rfl ?_;rintro rfl;simp[execOp,go_sem,G.t 23 rfl,ay]
     ·cases c1
      all_goals have p13:=G.d 13 rfl
      all_goals have p24:=G.d 24 rfl
      all_goals exact G.nl 25 rfl (by simp[execOp,go_sem,aE p13,aE p24,gw])
     ·exact G.nl 26 rfl (by simp[execOp,go_sem,G.t 25 rfl])
     ·refine G.gv 26 27 rfl rfl rfl ?_;rintro rfl;simp[execOp,go_sem,e0x]
     ·refine G.gv 26 28 rfl rfl rfl ?_;rintro rfl;simp[execOp,go_sem,e0x]
     ·refine G.gv 26 29 rfl rfl rfl ?_;rintro rfl;simp[execOp,go_sem,G.t 28 rfl]
     ·refine G.gv 26 30 rfl rfl rfl ?_;rintro rfl;simp[execOp,go_sem,G.t 29 rfl]
     ·refine G.gv 26 31 rfl rfl rfl ?_;rintro rfl;have au:=NodeIn.kp HN.out (Kp.of_below af);have x20:w1.cell? ⟨g,o+20,none⟩=some (.int .i64 h.rows):=au.2 20 (by decide);simp[execOp,go_sem,G.t 30 rfl,x20]
     ·refine G.gv 26 32 rfl rfl rfl ?_;rintro rfl;simp[execOp,go_sem,e0x]
     ·refine G.gv 26 33 rfl rfl rfl ?_;rintro rfl;simp[execOp,go_sem,G.t 32 rfl]
     ·refine G.gv 26 34 rfl rfl rfl ?_;rintro rfl;simp[execOp,go_sem,G.t 33 rfl]
     ·refine G.gv 26 35 rfl rfl rfl ?_;rintro rfl;have au:=NodeIn.kp HN.out (Kp.of_below af);have x21:w1.cell? ⟨g,o+21,none⟩=some (.slice A l.length cp):=au.2 21 (by decide);simp[execOp,go_sem,G.t 34 rfl,x21]
     ·refine G.gv 26 36 rfl rfl rfl ?_;rintro rfl;simp[execOp,go_sem,G.t 31 rfl,G.t 35 rfl,dA,aY,aD]
     ·have pg:=G.g 26 rfl;cases c2
      ·exact G.sk 37 rfl pg rfl
      refine cR (inT 37 rfl) hk hI hs aa ho zd (Eq.trans (aH rfl rfl rfl pg) rfl) rfl 52 #[.pointer (some ⟨g,o,none⟩),dA ⟨0,aD,[],aG,aG,h.rows⟩ A l.length cp] (by simp[go_sem,G.t 27 rfl,G.t 36 rfl]) ?_;have au:=NodeIn.kp HN.out (Kp.of_below af);have hB:=fO h ⟨0,aD,[],aG,aG,h.rows⟩ A A l.length l.length cp cp g o w1 au;dsimp only at hB;rw[k8,decide_eq_true rfl,Bool.and_true]at hB;rw[b9]at hB;refine hB.mono ?_;rintro e w2 ⟨rfl,hb⟩;exact⟨rfl,af.trans (hb.mono af.size)⟩
     ·cases c2
      all_goals have p26:=G.d 26 rfl
      all_goals have p37:=G.d 37 rfl
      all_goals exact G.nl 38 rfl (by simp[execOp,go_sem,aE p26,aE p37,s7])
     exact G.nl 39 rfl (by simp[execOp,go_sem,G.t 38 rfl])
    intro zl a1 w1 hI ap;have af:Below w.heap.size w w1:=hI.st;have ae:=am.out;subst ae;have z5:=hI.ptk 39 rfl (ap 39 (by decide));have hO:=hI.off;clear hI ap am;exact⟨rfl,hR.off hO (by decide) (by decide),by rw[z5,HL],af⟩
   refine eT false z10 (by simp[k8]) (by have:=hR.sz;omega) (by have:=hR.sz;omega) (fun a' hO hz=>?_);replace hR:=hR.off hO (by decide) (by decide);replace z10:=(hO.eval (by decide)).trans z10;replace z5:=(hO.eval (by decide)).trans z5;clear hO;simp only[Exit.then];refine wp_cond_false hz ?_;refine wp_seq ?_;by_cases k9:h.kind=9
   ·refine eT true z10 (by simp[k9]) (by have:=hR.sz;omega) (by have:=hR.sz;omega) (fun a' hO hz=>?_);replace hR:=hR.off hO (by decide) (by decide);replace z10:=(hO.eval (by decide)).trans z10;replace z5:=(hO.eval (by decide)).trans z5;clear hO;simp only[Exit.then];refine wp_cond_true hz ?_;obtain⟨b0,ct⟩:∃ x,(above==4)=x:=⟨_,rfl⟩
    obtain⟨s1,jo⟩:∃ x,(NodeH.same h ⟨9,aD,[],aG,aG,0⟩&&decide (l.length=0))=x:=⟨_,rfl⟩
    obtain⟨c1,fg⟩:∃ x,x=(b0&&s1):=⟨_,rfl⟩
    have HL:RB=c1:=by
     rw[<- zs.out];unfold bE;rw[if_neg k0,if_neg k13,if_neg k2,if_neg k4,if_neg k5,if_neg k6,if_neg k7,if_neg k8,if_pos k9,fg,<- ct,<- jo,show decide (above=4)=(above==4) from by rw[ze];simp,Bool.and_assoc]
    obtain⟨TT,ae⟩:∃ TT:List (Nat×Nat×Value),TT=((0,239,.int .i64 above)::(1,240,.bool b0)::(2,241,.bool b0)::(3,242,(bif b0 then .pointer (some ⟨g,o,none⟩) else undef))::(4,243,(bif b0 then dA ⟨0,aD,[],aG,aG,0⟩ none 0 0 else undef))::(5,244,(bif b0 then .bool s1 else undef))::(6,245,.bool c1)::(7,5,.bool c1)::[]):=⟨_,rfl⟩
    have am:=zh ae;clear ae;refine bD (fun a0=>287<=a0.tmps.size/\a0.eval (.tmp 0)=.pointer (some ⟨g,o,none⟩)/\a0.eval (.tmp 1)=.int .i64 above) (239::240::241::242::243::244::245::5::[]) TT [] (fun w'=>Below w.heap.size w w') (by kernel_rfl) ⟨hR.sz,hR.s0,hR.s1⟩ jk.out ?_ ?_
    ·rintro a0 ⟨hs,dh,dt⟩ zl a1 w1 zj o bg hI aa ho zd;have af:Below w.heap.size w w1:=hI.st;have ae:=am.out;have hk:okU (TT.map fun e=>(e.1,e.2.1)) (239::240::241::242::243::244::245::5::[]) 287=true:=by rw[ae];rfl
     subst ae;have e0x:=aE ((hI.off.eval (by decide)).trans dh);have e1x:=aE ((hI.off.eval (by decide)).trans dt);have hj:=Up.of_false aa;have hj12:zj<8:=by rw[bg]at hj;exact hj
     have G:RG _ _ _ _ _ _ _ _ _ _ _:=⟨hk,hI,hs,aa,ho,zd⟩
     (iterate 7 rcases zq hj12 with hj12|rfl);obtain rfl:=cz hj12;all_goals obtain rfl:=oi ho
     ·exact G.nl 0 rfl (by simp[execOp,go_sem,e1x])
     ·exact G.nl 1 rfl (by simp[execOp,go_sem,G.t 0 rfl,ct])
     ·exact G.nl 2 rfl (by simp[execOp,go_sem,G.t 1 rfl])
     ·refine G.gv 2 3 rfl rfl rfl ?_;rintro rfl;simp[execOp,go_sem,e0x]
     ·refine G.gv 2 4 rfl rfl rfl ?_;rintro rfl;simp[execOp,go_sem,dA,aY,aD]
     ·have pg:=G.g 2 rfl;cases b0
      ·exact G.sk 5 rfl pg rfl
      refine cR (inT 5 rfl) hk hI hs aa ho zd (Eq.trans (aH rfl rfl rfl pg) rfl) rfl 52 #[.pointer (some ⟨g,o,none⟩),dA ⟨0,aD,[],aG,aG,0⟩ none 0 0] (by simp[go_sem,G.t 3 rfl,G.t 4 rfl]) ?_;have au:=NodeIn.kp HN.out (Kp.of_below af);have hB:=fO h ⟨0,aD,[],aG,aG,0⟩ A none l.length 0 cp 0 g o w1 au;dsimp only at hB;rw[k9]at hB;rw[jo]at hB;refine hB.mono ?_;rintro e w2 ⟨rfl,hb⟩;exact⟨rfl,af.trans (hb.mono af.size)⟩
     ·cases b0
      all_goals have p2:=G.d 2 rfl
      all_goals have p5:=G.d 5 rfl
      all_goals exact G.nl 6 rfl (by simp[execOp,go_sem,aE p2,aE p5,fg])
     exact G.nl 7 rfl (by simp[execOp,go_sem,G.t 6 rfl])
    intro zl a1 w1 hI ap;have af:Below w.heap.size w w1:=hI.st;have ae:=am.out;subst ae;have z5:=hI.ptk 7 rfl (ap 7 (by decide));have hO:=hI.off;clear hI ap am;exact⟨rfl,hR.off hO (by decide) (by decide),by rw[z5,HL],af⟩
   refine eT false z10 (by simp[k9]) (by have:=hR.sz;omega) (by have:=hR.sz;omega) (fun a' hO hz=>?_);replace hR:=hR.off hO (by decide) (by decide);replace z10:=(hO.eval (by decide)).trans z10;replace z5:=(hO.eval (by decide)).trans z5;clear hO;simp only[Exit.then];refine wp_cond_false hz ?_;refine wp_skip ?_;exact⟨rfl,hR,by rw[z5,<- zs.out];unfold bE;rw[if_neg k0,if_neg k13,if_neg k2,if_neg k4,if_neg k5,if_neg k6,if_neg k7,if_neg k8,if_neg k9],jk.out⟩
 case rest=>
  rintro e a' w' ⟨rfl,hR,z5,m4⟩;replace jk:=zh m4;clear z10 m4;simp only[Exit.then];refine wp_seq ?_;refine wp_seq ?_;obtain⟨TT,ae⟩:∃ TT:List (Nat×Nat×Value),TT=((0,246,.pointer (some ⟨g,o,none⟩))::(1,247,.pointer (some ⟨g,o,none⟩))::(2,248,.pointer (some ⟨g,o+21,none⟩))::(3,249,.slice A l.length cp)::(4,250,.int .i64 (l.length:Nat))::(5,251,.int .i64 0)::[]):=⟨_,rfl⟩
  have am:=zh ae;clear ae;refine bD (fun a0=>287<=a0.tmps.size/\a0.eval (.tmp 0)=.pointer (some ⟨g,o,none⟩)/\a0.eval (.tmp 1)=.int .i64 above) (246::247::248::249::250::251::[]) TT [] (fun w'=>Below w.heap.size w w') (by kernel_rfl) ⟨hR.sz,hR.s0,hR.s1⟩ jk.out ?_ ?_
  ·rintro a0 ⟨hs,dh,dt⟩ zl a1 w1 zj o bg hI aa ho zd;have af:Below w.heap.size w w1:=hI.st;have ae:=am.out;have hk:okU (TT.map fun e=>(e.1,e.2.1)) (246::247::248::249::250::251::[]) 287=true:=by rw[ae];rfl
   subst ae;have e0x:=aE ((hI.off.eval (by decide)).trans dh);have e1x:=aE ((hI.off.eval (by decide)).trans dt);have hj:=Up.of_false aa;have hj12:zj<6:=by rw[bg]at hj;exact hj
   have G:RG _ _ _ _ _ _ _ _ _ _ _:=⟨hk,hI,hs,aa,ho,zd⟩
   rcases(by omega:zj=0\/zj=1\/zj=2\/zj=3\/zj=4\/zj=5) with rfl|rfl|rfl|rfl|rfl|rfl<;>obtain rfl:=oi ho
   ·exact G.nl 0 rfl (by simp[execOp,go_sem,e0x])
   ·exact G.nl 1 rfl (by simp[execOp,go_sem,G.t 0 rfl])
   ·exact G.nl 2 rfl (by simp[execOp,go_sem,G.t 1 rfl])
   ·have au:=NodeIn.kp HN.out (Kp.of_below af);have x21:w1.cell? ⟨g,o+21,none⟩=some (.slice A l.length cp):=au.2 21 (by decide);exact G.nl 3 rfl (by simp[execOp,go_sem,G.t 2 rfl,x21])
   ·exact G.nl 4 rfl (by simp[go_sem,G.t 3 rfl])
   exact G.nl 5 rfl (by simp[execOp,go_sem])
  intro zl a1 w1 hI ap;have af:Below w.heap.size w w1:=hI.st;have ae:=am.out;subst ae;have z250:=hI.ptk 4 rfl (ap 4 (by decide));have z251:=hI.ptk 5 rfl (ap 5 (by decide));have hO:=hI.off;clear hI ap am;replace hR:=hR.off hO (by decide) (by decide);replace z5:=(hO.eval (by decide)).trans z5;clear hO;replace jk:=zh af;generalize a1=a6 at *;generalize w1=w6 at *;simp only[Exit.then];refine wp_block ?_;refine wp_loop_ghost (fun k a' w'=>∃ i:Nat,i<=l.length/\k=l.length-i/\RF a' g o above/\a'.eval (.tmp 250)=.int .i64 (l.length:Int)/\a'.eval (.tmp 251)=.int .i64 (i:Int)/\a'.eval (.tmp 5)=.bool (RB&&bK (l.take i) h.kind)/\Below w.heap.size w w') l.length ⟨0,zm _,rfl,hR,z250,z251,by rw[z5];simp[bK],jk.out⟩ ?_;clear hR z5 z250 z251 jk af;rintro k a7 w7 ⟨i,hi,rfl,hR,z250,z251,z5,m4⟩;have jk:=zh m4;clear m4;refine wp_seq ?_
  obtain⟨lt,hlt⟩:∃ x,decide (i<l.length)=x:=⟨_,rfl⟩
  obtain⟨TT,ae⟩:∃ TT:List (Nat×Nat×Value),TT=((0,252,.bool lt)::[]):=⟨_,rfl⟩
  have am:=zh ae;clear ae;refine bD (fun a0=>287<=a0.tmps.size/\a0.eval (.tmp 0)=.pointer (some ⟨g,o,none⟩)/\a0.eval (.tmp 1)=.int .i64 above/\a0.eval (.tmp 250)=.int .i64 (l.length:Int)/\a0.eval (.tmp 251)=.int .i64 (i:Int)) (252::[]) TT [] (fun w'=>Below w.heap.size w w') (by kernel_rfl) ⟨hR.sz,hR.s0,hR.s1,z250,z251⟩ jk.out ?_ ?_
  ·rintro a0 ⟨hs,dh,dt,l9,ma⟩ zl a1 w1 zj o bg hI aa ho zd;have af:Below w.heap.size w w1:=hI.st;have ae:=am.out;have hk:okU (TT.map fun e=>(e.1,e.2.1)) (252::[]) 287=true:=by rw[ae];rfl
   subst ae;have e0x:=aE ((hI.off.eval (by decide)).trans dh);have e1x:=aE ((hI.off.eval (by decide)).trans dt);have e250x:=aE ((hI.off.eval (by decide)).trans l9);have e251x:=aE ((hI.off.eval (by decide)).trans ma);have hj:=Up.of_false aa;have hj12:zj<1:=by rw[bg]at hj;exact hj
   have G:RG _ _ _ _ _ _ _ _ _ _ _:=⟨hk,hI,hs,aa,ho,zd⟩
   rcases(by omega:zj=0) with rfl;obtain rfl:=oi ho;exact G.nl 0 rfl (by simp[execOp,go_sem,e250x,e251x,hlt])
  intro zl a1 w1 hI ap;have af:Below w.heap.size w w1:=hI.st;have ae:=am.out;subst ae;have z252:=hI.ptk 0 rfl (ap 0 (by decide));have hO:=hI.off;clear hI ap am;replace hR:=hR.off hO (by decide) (by decide);replace z5:=(hO.eval (by decide)).trans z5;replace z250:=(hO.eval (by decide)).trans z250;replace z251:=(hO.eval (by decide)).trans z251;clear hO;replace jk:=zh af;clear af;generalize a1=a8 at *;generalize w1=w8 at *;simp only[Exit.then];refine wp_seq ?_;cases lt
  ·refine wp_cond_false z252 (wp_exit ?_);have uw:i=l.length:=by have:=of_decide_eq_false hlt;omega
   subst uw;rw[List.take_length]at z5;simp only[Exit.then,Exit.inBlock,if_true];refine wp_seq ?_;obtain⟨TT,ae⟩:∃ TT:List (Nat×Nat×Value),TT=((0,286,.bool (RB&&bK l h.kind))::(1,4,.bool (RB&&bK l h.kind))::[]):=⟨_,rfl⟩
   have am:=zh ae;clear ae;refine bD (fun a0=>287<=a0.tmps.size/\a0.eval (.tmp 0)=.pointer (some ⟨g,o,none⟩)/\a0.eval (.tmp 1)=.int .i64 above/\a0.eval (.tmp 5)=.bool (RB&&bK l h.kind)) (286::4::[]) TT [] (fun w'=>Below w.heap.size w w') (by kernel_rfl) ⟨hR.sz,hR.s0,hR.s1,z5⟩ jk.out ?_ ?_
   ·rintro a0 ⟨hs,dh,dt,qo⟩ zl a1 w1 zj o bg hI aa ho zd;have af:Below w.heap.size w w1:=hI.st;have ae:=am.out;have hk:okU (TT.map fun e=>(e.1,e.2.1)) (286::4::[]) 287=true:=by rw[ae];rfl
    subst ae;have e0x:=aE ((hI.off.eval (by decide)).trans dh);have e1x:=aE ((hI.off.eval (by decide)).trans dt);have e5x:=aE ((hI.off.eval (by decide)).trans qo);have hj:=Up.of_false aa;have hj12:zj<2:=by rw[bg]at hj;exact hj
    have G:RG _ _ _ _ _ _ _ _ _ _ _:=⟨hk,hI,hs,aa,ho,zd⟩
    rcases(by omega:zj=0\/zj=1) with rfl|rfl<;>obtain rfl:=oi ho
    ·exact G.nl 0 rfl (by simp[execOp,go_sem,e5x])
    exact G.nl 1 rfl (by simp[execOp,go_sem,G.t 0 rfl])
   intro zl a1 w1 hI ap;have af:Below w.heap.size w w1:=hI.st;have ae:=am.out;subst ae;have z4:=hI.ptk 1 rfl (ap 1 (by decide));have hO:=hI.off;clear hI ap am;replace hR:=hR.off hO (by decide) (by decide);simp only[Exit.then];refine wp_ret ?_;exact uGB rfl hR.df z4 ⟨rfl,af⟩
  refine wp_cond_true z252 (wp_skip ?_);have ox:i<l.length:=by have:=of_decide_eq_true hlt;omega
  clear hlt z252;simp only[Exit.then];refine wp_seq ?_;refine wp_block ?_;refine wp_seq ?_;obtain⟨TT,ae⟩:∃ TT:List (Nat×Nat×Value),TT=((0,253,.int .i64 (i:Int))::(1,6,.int .i64 (i:Int))::[]):=⟨_,rfl⟩
  have am:=zh ae;clear ae;refine bD (fun a0=>287<=a0.tmps.size/\a0.eval (.tmp 0)=.pointer (some ⟨g,o,none⟩)/\a0.eval (.tmp 1)=.int .i64 above/\a0.eval (.tmp 250)=.int .i64 (l.length:Int)/\a0.eval (.tmp 251)=.int .i64 (i:Int)) (253::6::[]) TT [] (fun w'=>Below w.heap.size w w') (by kernel_rfl) ⟨hR.sz,hR.s0,hR.s1,z250,z251⟩ jk.out ?_ ?_
  ·rintro a0 ⟨hs,dh,dt,l9,ma⟩ zl a1 w1 zj o bg hI aa ho zd;have af:Below w.heap.size w w1:=hI.st;have ae:=am.out;have hk:okU (TT.map fun e=>(e.1,e.2.1)) (253::6::[]) 287=true:=by rw[ae];rfl
   subst ae;have e0x:=aE ((hI.off.eval (by decide)).trans dh);have e1x:=aE ((hI.off.eval (by decide)).trans dt);have e250x:=aE ((hI.off.eval (by decide)).trans l9);have e251x:=aE ((hI.off.eval (by decide)).trans ma);have hj:=Up.of_false aa;have hj12:zj<2:=by rw[bg]at hj;exact hj
   have G:RG _ _ _ _ _ _ _ _ _ _ _:=⟨hk,hI,hs,aa,ho,zd⟩
   rcases(by omega:zj=0\/zj=1) with rfl|rfl<;>obtain rfl:=oi ho
   ·exact G.nl 0 rfl (by simp[execOp,go_sem,e251x])
   exact G.nl 1 rfl (by simp[execOp,go_sem,G.t 0 rfl])
  intro zl a1 w1 hI ap;have af:Below w.heap.size w w1:=hI.st;have ae:=am.out;subst ae;have z6:=hI.ptk 1 rfl (ap 1 (by decide));have hO:=hI.off;clear hI ap am;replace hR:=hR.off hO (by decide) (by decide);replace z5:=(hO.eval (by decide)).trans z5;replace z250:=(hO.eval (by decide)).trans z250;replace z251:=(hO.eval (by decide)).trans z251;clear hO;replace jk:=zh af;clear af;generalize a1=a9 at *;generalize w1=w9 at *;simp only[Exit.then];refine wp_seq ?_;refine wp_seq ?_;obtain⟨pv,hpv⟩:∃ x,(RB&&bK (l.take i) h.kind)=x:=⟨_,rfl⟩
  rw[hpv]at z5;obtain⟨TT,ae⟩:∃ TT:List (Nat×Nat×Value),TT=((0,254,.bool pv)::(1,255,.bool (!pv))::[]):=⟨_,rfl⟩
  have am:=zh ae;clear ae;refine bD (fun a0=>287<=a0.tmps.size/\a0.eval (.tmp 0)=.pointer (some ⟨g,o,none⟩)/\a0.eval (.tmp 1)=.int .i64 above/\a0.eval (.tmp 250)=.int .i64 (l.length:Int)/\a0.eval (.tmp 251)=.int .i64 (i:Int)/\a0.eval (.tmp 5)=.bool pv/\a0.eval (.tmp 6)=.int .i64 (i:Int)) (254::255::[]) TT [] (fun w'=>Below w.heap.size w w') (by kernel_rfl) ⟨hR.sz,hR.s0,hR.s1,z250,z251,z5,z6⟩ jk.out ?_ ?_
  ·rintro a0 ⟨hs,dh,dt,l9,ma,qo,mu⟩ zl a1 w1 zj o bg hI aa ho zd;have af:Below w.heap.size w w1:=hI.st;have ae:=am.out;have hk:okU (TT.map fun e=>(e.1,e.2.1)) (254::255::[]) 287=true:=by rw[ae];rfl
   subst ae;have e0x:=aE ((hI.off.eval (by decide)).trans dh);have e1x:=aE ((hI.off.eval (by decide)).trans dt);have e250x:=aE ((hI.off.eval (by decide)).trans l9);have e251x:=aE ((hI.off.eval (by decide)).trans ma);have e5x:=aE ((hI.off.eval (by decide)).trans qo);have e6x:=aE ((hI.off.eval (by decide)).trans mu);have hj:=Up.of_false aa;have hj12:zj<2:=by rw[bg]at hj;exact hj
   have G:RG _ _ _ _ _ _ _ _ _ _ _:=⟨hk,hI,hs,aa,ho,zd⟩
   rcases(by omega:zj=0\/zj=1) with rfl|rfl<;>obtain rfl:=oi ho
   ·exact G.nl 0 rfl (by simp[execOp,go_sem,e5x])
   exact G.nl 1 rfl (by simp[execOp,go_sem,G.t 0 rfl])
  intro zl a1 w1 hI ap;have af:Below w.heap.size w w1:=hI.st;have ae:=am.out;subst ae;have z255:=hI.ptk 1 rfl (ap 1 (by decide));have hO:=hI.off;clear hI ap am;replace hR:=hR.off hO (by decide) (by decide);replace z5:=(hO.eval (by decide)).trans z5;replace z250:=(hO.eval (by decide)).trans z250;replace z251:=(hO.eval (by decide)).trans z251;replace z6:=(hO.eval (by decide)).trans z6;clear hO;replace jk:=zh af;clear af;generalize a1=a10 at *;generalize w1=w10 at *;simp only[Exit.then];cases pv
  ·refine wp_cond_true z255 ?_;refine wp_seq ?_;obtain⟨TT,ae⟩:∃ TT:List (Nat×Nat×Value),TT=((0,4,.bool false)::[]):=⟨_,rfl⟩
   have am:=zh ae;clear ae;refine bD (fun a0=>287<=a0.tmps.size/\a0.eval (.tmp 0)=.pointer (some ⟨g,o,none⟩)/\a0.eval (.tmp 1)=.int .i64 above) (4::[]) TT [] (fun w'=>Below w.heap.size w w') (by kernel_rfl) ⟨hR.sz,hR.s0,hR.s1⟩ jk.out ?_ ?_
   ·rintro a0 ⟨hs,dh,dt⟩ zl a1 w1 zj o bg hI aa ho zd;have af:Below w.heap.size w w1:=hI.st;have ae:=am.out;have hk:okU (TT.map fun e=>(e.1,e.2.1)) (4::[]) 287=true:=by rw[ae];rfl
    subst ae;have e0x:=aE ((hI.off.eval (by decide)).trans dh);have e1x:=aE ((hI.off.eval (by decide)).trans dt);have hj:=Up.of_false aa;have hj12:zj<1:=by rw[bg]at hj;exact hj
    have G:RG _ _ _ _ _ _ _ _ _ _ _:=⟨hk,hI,hs,aa,ho,zd⟩
    rcases(by omega:zj=0) with rfl;obtain rfl:=oi ho;exact G.nl 0 rfl (by simp[execOp,go_sem])
   intro zl a1 w1 hI ap;have af:Below w.heap.size w w1:=hI.st;have ae:=am.out;subst ae;have z4:=hI.ptk 0 rfl (ap 0 (by decide));have hO:=hI.off;clear hI ap am;replace hR:=hR.off hO (by decide) (by decide);simp only[Exit.then];refine wp_ret ?_;simp only[Exit.then,Exit.inBlock];have kq:(RB&&bK l h.kind)=false:=by
    cases RB
    ·rfl
    rw[Bool.true_and]at hpv ⊢;exact uBC i hpv
   exact uGB rfl hR.df z4 ⟨by rw[kq],af⟩
  refine wp_cond_false z255 (wp_skip ?_);simp only[Exit.then];obtain⟨g',hA,hW⟩:=HK.out i ox;subst hA;obtain⟨u,hu⟩:∃ u,l[i]'ox=u:=⟨_,rfl⟩
  rw[hu]at hW;obtain⟨b0,ct⟩:∃ x,(h.kind != 8)=x:=⟨_,rfl⟩
  obtain⟨b1,af⟩:∃ x,(u.h.kind==0)=x:=⟨_,rfl⟩
  have kc:=af;clear af;obtain⟨b2,ay⟩:∃ x,u.right h.kind=x:=⟨_,rfl⟩
  obtain⟨d,hd⟩:∃ x,x=(b0||b1):=⟨_,rfl⟩
  obtain⟨e,he⟩:∃ x,x=(d&&b2):=⟨_,rfl⟩
  have rt:(i:Int)<(l.length:Int):=by omega
  obtain⟨TT,ae⟩:∃ TT:List (Nat×Nat×Value),TT=((0,256,.pointer (some ⟨g,o,none⟩))::(1,257,.pointer (some ⟨g,o,none⟩))::(2,258,.pointer (some ⟨g,o,none⟩))::(3,259,.int .i64 h.kind)::(4,260,.bool b0)::(5,261,.bool b0)::(6,262,(bif b0 then undef else .pointer (some ⟨g,o,none⟩)))::(7,263,(bif b0 then undef else .pointer (some ⟨g,o,none⟩)))::(8,264,(bif b0 then undef else .pointer (some ⟨g,o+21,none⟩)))::(9,265,(bif b0 then undef else .slice (some ⟨g',0,none⟩) l.length cp))::(10,266,(bif b0 then undef else .int .i64 (i:Int)))::(11,267,(bif b0 then undef else .pointer (some ⟨g',i*22,none⟩)))::(12,268,(bif b0 then undef else .pointer (some ⟨g',i*22,none⟩)))::(13,269,(bif b0 then undef else .int .i64 u.h.kind))::(14,270,(bif b0 then undef else .bool b1))::(15,271,.bool d)::(16,272,.bool d)::(17,273,(bif d then .pointer (some ⟨g,o,none⟩) else undef))::(18,274,(bif d then .pointer (some ⟨g,o,none⟩) else undef))::(19,275,(bif d then .pointer (some ⟨g,o+21,none⟩) else undef))::(20,276,(bif d then .slice (some ⟨g',0,none⟩) l.length cp else undef))::(21,277,(bif d then .int .i64 (i:Int) else undef))::(22,278,(bif d then .pointer (some ⟨g',i*22,none⟩) else undef))::(23,279,(bif d then .pointer (some ⟨g,o,none⟩) else undef))::(24,280,(bif d then .pointer (some ⟨g,o,none⟩) else undef))::(25,281,(bif d then .pointer (some ⟨g,o,none⟩) else undef))::(26,282,(bif d then .int .i64 h.kind else undef))::(27,283,(bif d then .bool b2 else undef))::(28,284,.bool e)::(29,5,.bool e)::[]):=⟨_,rfl⟩
  have am:=zh ae;clear ae;refine bC (fun a0=>287<=a0.tmps.size/\a0.eval (.tmp 0)=.pointer (some ⟨g,o,none⟩)/\a0.eval (.tmp 1)=.int .i64 above/\a0.eval (.tmp 6)=.int .i64 (i:Int)/\a0.eval (.tmp 250)=.int .i64 (l.length:Int)/\a0.eval (.tmp 251)=.int .i64 (i:Int)) (256::257::258::259::260::261::262::263::264::265::266::267::268::269::270::271::272::273::274::275::276::277::278::279::280::281::282::283::284::5::[]) TT [] (fun w'=>Below w.heap.size w w') (by kernel_rfl) (by kernel_rfl) ⟨hR.sz,hR.s0,hR.s1,z6,z250,z251⟩ jk.out.drew ?_ ?_
  ·rintro a0 ⟨hs,dh,dt,mu,l9,ma⟩ zl a1 w1 zj o bg hI aa ho zd;have af:Below w.heap.size w w1:=hI.st;have ae:=am.out;have hk:okU (TT.map fun e=>(e.1,e.2.1)) (256::257::258::259::260::261::262::263::264::265::266::267::268::269::270::271::272::273::274::275::276::277::278::279::280::281::282::283::284::5::[]) 287=true:=by rw[ae];rfl
   subst ae;have e0x:=aE ((hI.off.eval (by decide)).trans dh);have e1x:=aE ((hI.off.eval (by decide)).trans dt);have e6x:=aE ((hI.off.eval (by decide)).trans mu);have e250x:=aE ((hI.off.eval (by decide)).trans l9);have e251x:=aE ((hI.off.eval (by decide)).trans ma);have hj:=Up.of_false aa;have hj12:zj<30:=by rw[bg]at hj;exact hj
   have G:RG _ _ _ _ _ _ _ _ _ _ _:=⟨hk,hI,hs,aa,ho,zd⟩
   (iterate 29 rcases zq hj12 with hj12|rfl);obtain rfl:=cz hj12;all_goals obtain rfl:=oi ho
   ·exact G.nl 0 rfl (by simp[execOp,go_sem,e0x])
   ·exact G.nl 1 rfl (by simp[execOp,go_sem,G.t 0 rfl])
   ·exact G.nl 2 rfl (by simp[execOp,go_sem,G.t 1 rfl])
   ·have au:=NodeIn.kp HN.out (Kp.of_below af);have x0:w1.cell? ⟨g,o,none⟩=some (.int .i64 h.kind):=au.2 0 (by decide);exact G.nl 3 rfl (by simp[execOp,go_sem,G.t 2 rfl,x0])
   ·exact G.nl 4 rfl (by simp[execOp,go_sem,G.t 3 rfl,ct])
   ·exact G.nl 5 rfl (by simp[execOp,go_sem,G.t 4 rfl])
   ·refine G.gn 5 6 rfl rfl rfl ?_;rintro rfl;simp[execOp,go_sem,e0x]
   ·refine G.gn 5 7 rfl rfl rfl ?_;rintro rfl;simp[execOp,go_sem,G.t 6 rfl]
   ·refine G.gn 5 8 rfl rfl rfl ?_;rintro rfl;simp[execOp,go_sem,G.t 7 rfl]
   ·refine G.gn 5 9 rfl rfl rfl ?_;rintro rfl;have au:=NodeIn.kp HN.out (Kp.of_below af);have x21:w1.cell? ⟨g,o+21,none⟩=some (.slice (some ⟨g',0,none⟩) l.length cp):=au.2 21 (by decide);simp[execOp,go_sem,G.t 8 rfl,x21]
   ·refine G.gn 5 10 rfl rfl rfl ?_;rintro rfl;simp[execOp,go_sem,e6x]
   ·refine G.gn 5 11 rfl rfl rfl ?_;rintro rfl;simp[execOp,go_sem,G.t 9 rfl,G.t 10 rfl,rt]
   ·refine G.gn 5 12 rfl rfl rfl ?_;rintro rfl;simp[execOp,go_sem,G.t 11 rfl]
   ·refine G.gn 5 13 rfl rfl rfl ?_;rintro rfl;have xk:=(hW w1 af).1;simp[execOp,go_sem,G.t 12 rfl,xk]
   ·refine G.gn 5 14 rfl rfl rfl ?_;rintro rfl;simp[execOp,go_sem,G.t 13 rfl,kc]
   ·cases b0
    all_goals have p5:=G.d 5 rfl
    all_goals have p14:=G.d 14 rfl
    all_goals exact G.nl 15 rfl (by simp[execOp,go_sem,aE p5,aE p14,hd])
   ·exact G.nl 16 rfl (by simp[execOp,go_sem,G.t 15 rfl])
   ·refine G.gv 16 17 rfl rfl rfl ?_;rintro rfl;simp[execOp,go_sem,e0x]
   ·refine G.gv 16 18 rfl rfl rfl ?_;rintro rfl;simp[execOp,go_sem,G.t 17 rfl]
   ·refine G.gv 16 19 rfl rfl rfl ?_;rintro rfl;simp[execOp,go_sem,G.t 18 rfl]
   ·refine G.gv 16 20 rfl rfl rfl ?_;rintro rfl;have au:=NodeIn.kp HN.out (Kp.of_below af);have x21:w1.cell? ⟨g,o+21,none⟩=some (.slice (some ⟨g',0,none⟩) l.length cp):=au.2 21 (by decide);simp[execOp,go_sem,G.t 19 rfl,x21]
   ·refine G.gv 16 21 rfl rfl rfl ?_;rintro rfl;simp[execOp,go_sem,e6x]
   ·refine G.gv 16 22 rfl rfl rfl ?_;rintro rfl;simp[execOp,go_sem,G.t 20 rfl,G.t 21 rfl,rt]
   ·refine G.gv 16 23 rfl rfl rfl ?_;rintro rfl;simp[execOp,go_sem,e0x]
   ·refine G.gv 16 24 rfl rfl rfl ?_;rintro rfl;simp[execOp,go_sem,G.t 23 rfl]
   ·refine G.gv 16 25 rfl rfl rfl ?_;rintro rfl;simp[execOp,go_sem,G.t 24 rfl]
   ·refine G.gv 16 26 rfl rfl rfl ?_;rintro rfl;have au:=NodeIn.kp HN.out (Kp.of_below af);have x0:w1.cell? ⟨g,o,none⟩=some (.int .i64 h.kind):=au.2 0 (by decide);simp[execOp,go_sem,G.t 25 rfl,x0]
   ·have pg:=G.g 16 rfl;cases d
    ·exact G.sk 27 rfl pg rfl
    refine cR (inT 27 rfl) hk hI hs aa ho zd (Eq.trans (aH rfl rfl rfl pg) rfl) rfl 38 #[.pointer (some ⟨g',i*22,none⟩),.int .i64 h.kind] (by simp[go_sem,G.t 22 rfl,G.t 26 rfl]) ?_;have hB:=(hW w1 af).2 h.kind;rw[ay]at hB;refine hB.mono ?_;rintro e w2 ⟨rfl,hb⟩;exact⟨rfl,af.trans (hb.mono af.size)⟩
   ·cases d
    all_goals have p16:=G.d 16 rfl
    all_goals have p27:=G.d 27 rfl
    all_goals exact G.nl 28 rfl (by simp[execOp,go_sem,aE p16,aE p27,he])
   exact G.nl 29 rfl (by simp[execOp,go_sem,G.t 28 rfl])
  intro zl a1 w1 hI ap;have af:Below w.heap.size w w1:=hI.st;have ae:=am.out;subst ae;have z5:=hI.ptk 29 rfl (ap 29 (by decide));have hO:=hI.off;clear hI ap am;replace hR:=hR.off hO (by decide) (by decide);replace z250:=(hO.eval (by decide)).trans z250;replace z251:=(hO.eval (by decide)).trans z251;clear hO;replace jk:=zh af;clear af;generalize a1=a11 at *;generalize w1=w11 at *;simp only[Exit.then,Exit.inBlock];have mq:(i:Int)+1<=1000000:=by have:=iq.out;omega
  have hwi:IntKind.i64.wrap ((i:Int)+1)=(i:Int)+1:=IntWalk.i64_in _ (by omega);refine wp_inc z251 hwi (by have:=hR.sz;omega) (by have:=hR.sz;omega) (fun a' hO hz=>?_);simp only[Exit.then];refine⟨l.length-(i+1),by omega,i+1,by omega,rfl,hR.off hO (by decide) (by decide),(hO.eval (by decide)).trans z250,hz.trans rfl,?_,jk.out⟩;rw[(hO.eval (by decide)).trans z5,yw ox,qX,<- Bool.and_assoc,hpv,Bool.true_and,hu,he,hd,<- ct,<- kc,<- ay]
  congr 2
  congr 1
  all_goals first|rfl |(rw[ze];simp)
end Go.Proofs.YtmgjidnalpgegaaGreatDoor
