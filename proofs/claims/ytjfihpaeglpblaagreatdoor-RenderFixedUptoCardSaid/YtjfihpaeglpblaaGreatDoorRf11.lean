/-
  Lemmas, part 11: PaQ.
-/
import Derived.Test.YtjfihpaeglpblaaGreatDoorRf10
set_option maxHeartbeats 100000000
set_option maxRecDepth 1000000
namespace Go.Proofs.YtjfihpaeglpblaaGreatDoor
open Go.RowKit
theorem infoCor:(Tryz.prog.info? 29).map (·.size)=some 6:=by kernel_rfl
theorem uDG:(Tryz.prog.info? 27).map (·.size)=some 2:=by kernel_rfl
theorem ek{b:Bool}{h:Prop}[Decidable h](e:decide h=b):(b=true↔h):=by rw[<- e];simp
theorem uBU:∀ (m:Nat) (t:Tree) (above:Int) (g o:Nat) (w:World),t.size<=m->t.size<=1000000->t.fine->g<w.heap.size->NodeAt w [] g o t ->
  Calls Tryz.prog 97 #[vP g o,vI above] w fun e w'=>e=.returned (.bool (t.right above))/\Below w.heap.size w w':=by
 intro m
 induction m with
 |zero=>intro t _ _ _ _ hs;cases t;simp[Tree.size]at hs
 |succ m ih=>
 rintro⟨h,l⟩ above g o w hs fe ⟨xl,hfl⟩ hg ⟨A,cp,ep,vm⟩;have HN:Hid (NodeIn w g o h A l.length cp):=zh ⟨hg,ep⟩;have fm:Hid (l.length<=1000000):=zh (by have h1:=bS l;have h2:aM l+1<=1000000:=fe;omega);have HKS:=zh vm;have HF:=zh xl;have HK:Hid (∀ (i:Nat) (hi:i<l.length),∃ g' o',A=some ⟨g',o',none⟩/\∀ W:World,Below w.heap.size w W->W.cell? ⟨g',o'+i*22,none⟩=some (vI (l[i]'hi).h.kind)/\∀ k:Int,Calls Tryz.prog 97 #[vP g' (o'+i*22),vI k] W fun e w'=>e=.returned (.bool ((l[i]'hi).right k))/\Below W.heap.size W w'):=zh (by
  intro i hi;rcases vm with h0|⟨g',o',hA,hx,jq,hka⟩
  ·subst h0;exact absurd hi (by simp)
  have hn:=KidsAt.get i hi hka;refine⟨g',o',hA,fun W hW=>?_⟩;have gq:Kp [] w W:=Kp.of_below hW;have hnW:=NodeAt.kp gq jq hx hn;refine⟨?_,fun k=>ih _ k g' (o'+i*22) W ?_ ?_ (nN i hi hfl) (yu jq gq.size) hnW⟩
  ·generalize l[i]=u at *;cases u with
   |mk uh ul=>
    obtain⟨A2,c2,h1,_⟩:=hnW;exact h1 0 (by decide)
  ·have h9:(l[i]'hi).size<(Tree.mk h l).size:=eF (t:=.mk h l) (i:=i) hi;omega
  have h9:(l[i]'hi).size<(Tree.mk h l).size:=eF (t:=.mk h l) (i:=i) hi;omega)
 clear ih hs fe xl hfl ep vm;have hS:Tree.right (.mk h l) above=(aV h l.length (l.map fun t=>t.h.kind) above&&aT l h.kind):=rfl;rw[hS];clear hS;obtain⟨RB,xh⟩:∃ x,aV h l.length (l.map fun t=>t.h.kind) above=x:=⟨_,rfl⟩
 rw[xh];have uu:=zh xh;clear xh;have nz:∀ A:Option Addr,∀ c:Nat,True:=fun _ _=>trivial
 clear nz
 go_in
 refine wp_seq ?_;have iv:Hid (Below w.heap.size w w):=zh zB;obtain⟨TT,ag⟩:∃ TT:List (Nat×Nat×Value),TT=((0,4,.bool false)::[]):=⟨_,rfl⟩
 have aw:=zh ag;clear ag;refine aS (fun a0=>287<=a0.tmps.size/\a0.eval (.tmp 0)=vP g o/\a0.eval (.tmp 1)=vI above) (4::[]) TT [] (fun w'=>Below w.heap.size w w') (by kernel_rfl) ⟨by simp,rfl,rfl⟩ iv.out ?_ ?_
 ·rintro a0 ⟨hs,dh,cr⟩ zl a1 w1 zj o ap hI ah ho zd;have ab:Below w.heap.size w w1:=hI.st;have ag:=aw.out
  subst ag;have e0x:=hI.off.q dh;have e1x:=hI.off.q cr;have hj:=Up.of_false ah;have hj12:zj<1:=by rw[ap]at hj;exact hj
  have G:RG _ _ _ _ _ _ _ _ _ _ _:=⟨by rfl,hI,hs,ah,ho,zd⟩
  rcases(by omega:zj=0) with rfl;obtain rfl:=oi ho;exact G.nl 0 rfl (by simp[execOp,go_sem])
 intro zl a1 w1 hI bd;have ab:Below w.heap.size w w1:=hI.st;have ag:=aw.out;subst ag;have z4:=hI.ptk 0 rfl (bd 0 (by decide));have hO:=hI.off;clear hI bd aw;have hR:RF a1 g o above:=⟨by rw[hO.size];simp,(hO.eval (by decide)).trans rfl,(hO.eval (by decide)).trans rfl,hO.defers.trans rfl⟩
 clear hO;replace iv:=zh ab;clear z4;generalize a1=a2 at *;generalize w1=w2 at *;simp only[Exit.then];refine wp_seq ?_;obtain⟨TT,ag⟩:∃ TT:List (Nat×Nat×Value),TT=((0,5,.bool false)::[]):=⟨_,rfl⟩
 have aw:=zh ag;clear ag;refine aS (fun a0=>287<=a0.tmps.size/\a0.eval (.tmp 0)=vP g o/\a0.eval (.tmp 1)=vI above) (5::[]) TT [] (fun w'=>Below w.heap.size w w') (by kernel_rfl) ⟨hR.sz,hR.s0,hR.s1⟩ iv.out ?_ ?_
 ·rintro a0 ⟨hs,dh,cr⟩ zl a1 w1 zj o ap hI ah ho zd;have ab:Below w.heap.size w w1:=hI.st;have ag:=aw.out
  subst ag;have e0x:=hI.off.q dh;have e1x:=hI.off.q cr;have hj:=Up.of_false ah;have hj12:zj<1:=by rw[ap]at hj;exact hj
  have G:RG _ _ _ _ _ _ _ _ _ _ _:=⟨by rfl,hI,hs,ah,ho,zd⟩
  rcases(by omega:zj=0) with rfl;obtain rfl:=oi ho;exact G.nl 0 rfl (by simp[execOp,go_sem])
 intro zl a1 w1 hI bd;have ab:Below w.heap.size w w1:=hI.st;have ag:=aw.out;subst ag;have z5:=hI.ptk 0 rfl (bd 0 (by decide));have hO:=hI.off;clear hI bd aw;replace hR:=hR.off hO (by decide) (by decide);clear hO;replace iv:=zh ab;generalize a1=a3 at *;generalize w1=w3 at *;simp only[Exit.then];refine wp_seq ?_;refine wp_seq ?_;obtain⟨TT,ag⟩:∃ TT:List (Nat×Nat×Value),TT=((0,7,vP g o)::(1,8,vP g o)::(2,9,vP g o)::(3,10,vI h.kind)::[]):=⟨_,rfl⟩
 have aw:=zh ag;clear ag;refine aS (fun a0=>287<=a0.tmps.size/\a0.eval (.tmp 0)=vP g o/\a0.eval (.tmp 1)=vI above) (7::8::9::10::[]) TT [] (fun w'=>Below w.heap.size w w') (by kernel_rfl) ⟨hR.sz,hR.s0,hR.s1⟩ iv.out ?_ ?_
 ·rintro a0 ⟨hs,dh,cr⟩ zl a1 w1 zj o ap hI ah ho zd;have ab:Below w.heap.size w w1:=hI.st;have ag:=aw.out
  subst ag;have e0x:=hI.off.q dh;have e1x:=hI.off.q cr;have hj:=Up.of_false ah;have hj12:zj<4:=by rw[ap]at hj;exact hj
  have G:RG _ _ _ _ _ _ _ _ _ _ _:=⟨by rfl,hI,hs,ah,ho,zd⟩
  rcases(by omega:zj=0\/zj=1\/zj=2\/zj=3) with rfl|rfl|rfl|rfl<;>obtain rfl:=oi ho
  ·exact G.nl 0 rfl (by simp[execOp,go_sem,e0x])
  ·exact G.nl 1 rfl (by simp[execOp,go_sem,G.t 0])
  ·exact G.nl 2 rfl (by simp[execOp,go_sem,G.t 1])
  have bg:=NodeIn.kp HN.out (Kp.of_below ab);have x0:w1.cell? ⟨g,o,none⟩=some (vI h.kind):=bg.2 0 (by decide);exact G.nl 3 rfl (by simp[execOp,go_sem,G.t 2,x0])
 intro zl a1 w1 hI bd;have ab:Below w.heap.size w w1:=hI.st;have ag:=aw.out;subst ag;have z10:=hI.ptk 3 rfl (bd 3 (by decide));have hO:=hI.off;clear hI bd aw;replace hR:=hR.off hO (by decide) (by decide);replace z5:=(hO.eval (by decide)).trans z5;clear hO;replace iv:=zh ab;generalize a1=a4 at *;generalize w1=w4 at *;simp only[Exit.then];refine wp_mono (Q:=fun e a' w'=>e=.normal/\RF a' g o above/\a'.eval (.tmp 5)=.bool RB/\Below w.heap.size w w') ?blk ?rest
 case blk=>
  refine wp_block ?_;refine wp_seq ?_;by_cases k0:h.kind=0
  ·refine dC true z10 (by simp[k0]) (by have:=hR.sz;omega) (by have:=hR.sz;omega) (fun a' hO hz=>?_);replace hR:=hR.off hO (by decide) (by decide);replace z10:=(hO.eval (by decide)).trans z10;replace z5:=(hO.eval (by decide)).trans z5;clear hO;simp only[Exit.then];refine wp_cond_true hz ?_;obtain⟨e8,he8⟩:∃ x,(above==8)=x:=⟨_,rfl⟩
   obtain⟨b0,ev⟩:∃ x,cS h.v e8=x:=⟨_,rfl⟩
   obtain⟨s1,fe⟩:∃ x,(NodeH.same h ⟨0,h.v,[],aN,aN,0⟩&&decide (l.length=0))=x:=⟨_,rfl⟩
   obtain⟨c1,du⟩:∃ x,x=(b0&&s1):=⟨_,rfl⟩
   have HL:RB=c1:=by
    rw[<- uu.out];unfold aV;rw[if_pos k0,du,<- ev,<- fe,show decide (above=8)=e8 from by rw[<- he8,ze];simp,Bool.and_assoc]
   obtain⟨TT,ag⟩:∃ TT:List (Nat×Nat×Value),TT=((0,13,vP g o)::(1,14,vP g o)::(2,15,vP g (o+1))::(3,16,iB h.v)::(4,17,vI above)::(5,18,.bool e8)::(6,19,.bool b0)::(7,20,.bool b0)::(8,21,(bif b0 then vP g o else undef))::(9,22,(bif b0 then vP g o else undef))::(10,23,(bif b0 then vP g o else undef))::(11,24,(bif b0 then vP g (o+1) else undef))::(12,25,(bif b0 then iB h.v else undef))::(13,26,(bif b0 then cE ⟨0,h.v,[],aN,aN,0⟩ none 0 0 else undef))::(14,27,(bif b0 then .bool s1 else undef))::(15,28,.bool c1)::(16,5,.bool c1)::[]):=⟨_,rfl⟩
   have aw:=zh ag;clear ag;refine aS (fun a0=>287<=a0.tmps.size/\a0.eval (.tmp 0)=vP g o/\a0.eval (.tmp 1)=vI above) (13::14::15::16::17::18::19::20::21::22::23::24::25::26::27::28::5::[]) TT [] (fun w'=>Below w.heap.size w w') (by kernel_rfl) ⟨hR.sz,hR.s0,hR.s1⟩ iv.out ?_ ?_
   ·rintro a0 ⟨hs,dh,cr⟩ zl a1 w1 zj o ap hI ah ho zd;have ab:Below w.heap.size w w1:=hI.st;have ag:=aw.out
    subst ag;have e0x:=hI.off.q dh;have e1x:=hI.off.q cr;have hj:=Up.of_false ah;have hj12:zj<17:=by rw[ap]at hj;exact hj
    have G:RG _ _ _ _ _ _ _ _ _ _ _:=⟨by rfl,hI,hs,ah,ho,zd⟩
    (iterate 16 rcases zq hj12 with hj12|rfl);obtain rfl:=cz hj12;all_goals obtain rfl:=oi ho
    ·exact G.nl 0 rfl (by simp[execOp,go_sem,e0x])
    ·exact G.nl 1 rfl (by simp[execOp,go_sem,G.t 0])
    ·exact G.nl 2 rfl (by simp[execOp,go_sem,G.t 1])
    ·have bg:=NodeIn.kp HN.out (Kp.of_below ab);have p2:=G.d 2;exact G.nl 3 rfl (aO 25 (.tmp 15) rfl g (o+1) p2 _ _ (bg.sub 1 [vI h.v.kind,vI h.v.mant,vI h.v.exp,vT h.v.text,.bool h.v.truth,vI h.v.fault] (by simp) rfl) Tryz.underlying25 rfl gI)
    ·exact G.nl 4 rfl (by simp[execOp,go_sem,e1x])
    ·exact G.nl 5 rfl (by simp[execOp,go_sem,G.t 4,he8])
    ·refine G.cn 6 rfl 161 #[iB h.v,.bool e8] (by simp[go_sem,G.t 3,G.t 5]) ?_;have hB:=tLit_any h.v e8 w1 HF.out.1 HF.out.2.1 HF.out.2.2.1;rw[ev]at hB;refine hB.mono ?_;rintro e w2 ⟨rfl,hb⟩;exact⟨rfl,zU ab hb⟩
    ·exact G.nl 7 rfl (by simp[execOp,go_sem,G.t 6])
    ·refine G.gv 7 8 ?_;rintro rfl;simp[execOp,go_sem,e0x]
    ·refine G.gv 7 9 ?_;rintro rfl;simp[execOp,go_sem,e0x]
    ·refine G.gv 7 10 ?_;rintro rfl;simp[execOp,go_sem,G.t 9]
    ·refine G.gv 7 11 ?_;rintro rfl;simp[execOp,go_sem,G.t 10]
    ·refine G.gv 7 12 ?_;rintro rfl;have bg:=NodeIn.kp HN.out (Kp.of_below ab);have p11:=G.d 11;exact aO 25 (.tmp 24) rfl g (o+1) p11 _ _ (bg.sub 1 [vI h.v.kind,vI h.v.mant,vI h.v.exp,vT h.v.text,.bool h.v.truth,vI h.v.fault] (by simp) rfl) Tryz.underlying25 rfl gI
    ·refine G.gv 7 13 ?_;rintro rfl;simp[execOp,go_sem,G.t 12,cE,aH]
    ·have pg:=G.g 7;cases b0
     ·exact G.sk 14 pg
     refine G.cw 14 rfl pg 162 #[vP g o,cE ⟨0,h.v,[],aN,aN,0⟩ none 0 0] (by simp[go_sem,G.t 8,G.t 13]) ?_;have bg:=NodeIn.kp HN.out (Kp.of_below ab);have hB:=dY h ⟨0,h.v,[],aN,aN,0⟩ A none l.length 0 cp 0 g o w1 bg;dsimp only at hB;rw[k0]at hB;rw[fe]at hB;refine hB.mono ?_;rintro e w2 ⟨rfl,hb⟩;exact⟨rfl,zU ab hb⟩
    ·cases b0
     all_goals exact G.nl 15 rfl (by simp[execOp,go_sem,G.t 7,G.t 14,du])
    exact G.nl 16 rfl (by simp[execOp,go_sem,G.t 15])
   intro zl a1 w1 hI bd;have ab:Below w.heap.size w w1:=hI.st;have ag:=aw.out;subst ag;have z5:=hI.ptk 16 rfl (bd 16 (by decide));have hO:=hI.off;clear hI bd aw;exact⟨rfl,hR.off hO (by decide) (by decide),by rw[z5,HL],ab⟩
  refine dC false z10 (by simp[k0]) (by have:=hR.sz;omega) (by have:=hR.sz;omega) (fun a' hO hz=>?_);replace hR:=hR.off hO (by decide) (by decide);replace z10:=(hO.eval (by decide)).trans z10;replace z5:=(hO.eval (by decide)).trans z5;clear hO;simp only[Exit.then];refine wp_cond_false hz ?_;refine wp_seq ?_;refine wp_mono (Q:=fun e a' w'=>e=.normal/\w'=w4/\RF a' g o above/\a'.eval (.tmp 10)=vI h.kind/\a'.eval (.tmp 5)=.bool false/\a'.eval (.tmp 29)=.bool (decide (h.kind=1)||decide (h.kind=3))) ?c13 ?r13
  case c13=>
   refine wp_seq ?_;by_cases k1:h.kind=1
   ·refine dC true z10 (by simp[k1]) (by have:=hR.sz;omega) (by have:=hR.sz;omega) (fun a' hO hz=>?_);simp only[Exit.then];refine wp_cond_true hz (wp_skip ?_);exact⟨rfl,rfl,hR.off hO (by decide) (by decide),(hO.eval (by decide)).trans z10,(hO.eval (by decide)).trans z5,by rw[hz,k1];rfl⟩
   refine dC false z10 (by simp[k1]) (by have:=hR.sz;omega) (by have:=hR.sz;omega) (fun a' hO hz=>?_);replace hR:=hR.off hO (by decide) (by decide);replace z10:=(hO.eval (by decide)).trans z10;replace z5:=(hO.eval (by decide)).trans z5;clear hO;simp only[Exit.then];refine wp_cond_false hz ?_;clear hz;refine dC (h.kind==3) z10 rfl (by have:=hR.sz;omega) (by have:=hR.sz;omega) (fun a' hO hz=>?_);exact⟨rfl,rfl,hR.off hO (by decide) (by decide),(hO.eval (by decide)).trans z10,(hO.eval (by decide)).trans z5,by rw[hz,show decide (h.kind=1)=false from decide_eq_false k1,Bool.false_or,ze.2 (show (h.kind==3)=true↔decide (h.kind=3)=true by simp)]⟩
  case r13=>
   rintro e a' w' ⟨rfl,rfl,hR,z10,z5,hz⟩;simp only[Exit.then];by_cases k13:h.kind=1\/h.kind=3
   ·refine wp_cond_true (by rw[hz];rcases k13 with k|k <;> simp[k]) ?_;obtain⟨r,hr⟩:∃ x,decide (h.a.row≠id0)=x:=⟨_,rfl⟩
    obtain⟨k,hk⟩:∃ x,decide (h.a.col≠id0)=x:=⟨_,rfl⟩
    obtain⟨s1,fe⟩:∃ x,(NodeH.same h ⟨h.kind,aD,[],h.a,aN,0⟩&&decide (l.length=0))=x:=⟨_,rfl⟩
    obtain⟨c1,du⟩:∃ x,x=(r&&k):=⟨_,rfl⟩
    obtain⟨c2,jt⟩:∃ x,x=(c1&&s1):=⟨_,rfl⟩
    have N1:∀ w:World,(binOp .neq 27 (idV h.a.row) (idV id0)).run Tryz.prog w=.ok (.bool r) w:=fun w=>by rw[dP,hr]
    have N2:∀ w:World,(binOp .neq 27 (idV h.a.col) (idV id0)).run Tryz.prog w=.ok (.bool k) w:=fun w=>by rw[dP,hk]
    have HL:RB=c2:=by
     rw[<- uu.out];unfold aV;rw[if_neg k0,if_pos k13,jt,du,<- hr,<- hk,<- fe];simp only[Bool.and_assoc]
    obtain⟨TT,ag⟩:∃ TT:List (Nat×Nat×Value),TT=((0,32,vP g o)::(1,33,vP g o)::(2,34,vP g (o+8))::(3,35,vP g (o+8))::(4,36,vP g (o+8))::(5,37,idV h.a.row)::(6,38,idV id0)::(7,39,.bool r)::(8,40,.bool r)::(9,41,(bif r then vP g o else undef))::(10,42,(bif r then vP g o else undef))::(11,43,(bif r then vP g (o+8) else undef))::(12,44,(bif r then vP g (o+8) else undef))::(13,45,(bif r then vP g (o+10) else undef))::(14,46,(bif r then idV h.a.col else undef))::(15,47,(bif r then idV id0 else undef))::(16,48,(bif r then .bool k else undef))::(17,49,.bool c1)::(18,50,.bool c1)::(19,51,(bif c1 then vP g o else undef))::(20,52,(bif c1 then vP g o else undef))::(21,53,(bif c1 then vP g o else undef))::(22,54,(bif c1 then vP g (o+8) else undef))::(23,55,(bif c1 then vP g (o+8) else undef))::(24,56,(bif c1 then .agg ([vI h.a.row.a,vI h.a.row.n,vI h.a.col.a,vI h.a.col.n,.bool h.a.fr,.bool h.a.fc]:List Value).toArray else undef))::(25,57,(bif c1 then arV h.a aN else undef))::(26,58,(bif c1 then cE ⟨0,aD,[],h.a,aN,0⟩ none 0 0 else undef))::(27,59,(bif c1 then .bool s1 else undef))::(28,60,.bool c2)::(29,5,.bool c2)::[]):=⟨_,rfl⟩
    have aw:=zh ag;clear ag;refine aS (fun a0=>287<=a0.tmps.size/\a0.eval (.tmp 0)=vP g o/\a0.eval (.tmp 1)=vI above) (32::33::34::35::36::37::38::39::40::41::42::43::44::45::46::47::48::49::50::51::52::53::54::55::56::57::58::59::60::5::[]) TT [] (fun w'=>Below w.heap.size w w') (by kernel_rfl) ⟨hR.sz,hR.s0,hR.s1⟩ iv.out ?_ ?_
    ·rintro a0 ⟨hs,dh,cr⟩ zl a1 w1 zj o ap hI ah ho zd;have ab:Below w.heap.size w w1:=hI.st;have ag:=aw.out
     subst ag;have e0x:=hI.off.q dh;have e1x:=hI.off.q cr;have hj:=Up.of_false ah;have hj12:zj<30:=by rw[ap]at hj;exact hj
     have G:RG _ _ _ _ _ _ _ _ _ _ _:=⟨by rfl,hI,hs,ah,ho,zd⟩
     (iterate 29 rcases zq hj12 with hj12|rfl);obtain rfl:=cz hj12;all_goals obtain rfl:=oi ho
     ·exact G.nl 0 rfl (by simp[execOp,go_sem,e0x])
     ·exact G.nl 1 rfl (by simp[execOp,go_sem,G.t 0])
     ·exact G.nl 2 rfl (by simp[execOp,go_sem,G.t 1])
     ·exact G.nl 3 rfl (by simp[execOp,go_sem,G.t 2])
     ·exact G.nl 4 rfl (by simp[execOp,go_sem,G.t 3])
     ·have bg:=NodeIn.kp HN.out (Kp.of_below ab);have p4:=G.d 4;exact G.nl 5 rfl (aO 27 (.tmp 36) rfl g (o+8) p4 _ _ (bg.sub 8 [vI h.a.row.a,vI h.a.row.n] (by simp) rfl) Tryz.underlying27 rfl uDG)
     ·exact G.nl 6 rfl (by simp[execOp,go_sem])
     ·exact G.nl 7 rfl (by simp[execOp,go_sem,G.t 5,G.t 6,N1])
     ·exact G.nl 8 rfl (by simp[execOp,go_sem,G.t 7])
     ·refine G.gv 8 9 ?_;rintro rfl;simp[execOp,go_sem,e0x]
     ·refine G.gv 8 10 ?_;rintro rfl;simp[execOp,go_sem,G.t 9]
     ·refine G.gv 8 11 ?_;rintro rfl;simp[execOp,go_sem,G.t 10]
     ·refine G.gv 8 12 ?_;rintro rfl;simp[execOp,go_sem,G.t 11]
     ·refine G.gv 8 13 ?_;rintro rfl;simp[execOp,go_sem,G.t 12]
     ·refine G.gv 8 14 ?_;rintro rfl;have bg:=NodeIn.kp HN.out (Kp.of_below ab);have p13:=G.d 13;exact aO 27 (.tmp 45) rfl g (o+10) p13 _ _ (bg.sub 10 [vI h.a.col.a,vI h.a.col.n] (by simp) rfl) Tryz.underlying27 rfl uDG
     ·refine G.gv 8 15 ?_;rintro rfl;simp[execOp,go_sem]
     ·refine G.gv 8 16 ?_;rintro rfl;simp[execOp,go_sem,G.t 14,G.t 15,N2]
     ·cases r
      all_goals exact G.nl 17 rfl (by simp[execOp,go_sem,G.t 8,G.t 16,du])
     ·exact G.nl 18 rfl (by simp[execOp,go_sem,G.t 17])
     ·refine G.gv 18 19 ?_;rintro rfl;simp[execOp,go_sem,e0x]
     ·refine G.gv 18 20 ?_;rintro rfl;simp[execOp,go_sem,e0x]
     ·refine G.gv 18 21 ?_;rintro rfl;simp[execOp,go_sem,G.t 20]
     ·refine G.gv 18 22 ?_;rintro rfl;simp[execOp,go_sem,G.t 21]
     ·refine G.gv 18 23 ?_;rintro rfl;simp[execOp,go_sem,G.t 22]
     ·refine G.gv 18 24 ?_;rintro rfl;have bg:=NodeIn.kp HN.out (Kp.of_below ab);have p23:=G.d 23;exact aO 29 (.tmp 55) rfl g (o+8) p23 _ _ (bg.sub 8 [vI h.a.row.a,vI h.a.row.n,vI h.a.col.a,vI h.a.col.n,.bool h.a.fr,.bool h.a.fc] (by simp) rfl) Tryz.underlying29 rfl infoCor
     ·refine G.gv 18 25 ?_;rintro rfl;simp[execOp,go_sem,G.t 24]
     ·refine G.gv 18 26 ?_;rintro rfl;simp[execOp,go_sem,G.t 25,cE,aH,aD]
     ·have pg:=G.g 18;cases c1
      ·exact G.sk 27 pg
      refine G.cw 27 rfl pg 162 #[vP g o,cE ⟨0,aD,[],h.a,aN,0⟩ none 0 0] (by simp[go_sem,G.t 19,G.t 26]) ?_;have bg:=NodeIn.kp HN.out (Kp.of_below ab);have hB:=dY h ⟨0,aD,[],h.a,aN,0⟩ A none l.length 0 cp 0 g o w1 bg;dsimp only at hB;rw[fe]at hB;refine hB.mono ?_;rintro e w2 ⟨rfl,hb⟩;exact⟨rfl,zU ab hb⟩
     ·cases c1
      all_goals exact G.nl 28 rfl (by simp[execOp,go_sem,G.t 18,G.t 27,jt])
     exact G.nl 29 rfl (by simp[execOp,go_sem,G.t 28])
    intro zl a1 w1 hI bd;have ab:Below w.heap.size w w1:=hI.st;have ag:=aw.out;subst ag;have z5:=hI.ptk 29 rfl (bd 29 (by decide));have hO:=hI.off;clear hI bd aw;exact⟨rfl,hR.off hO (by decide) (by decide),by rw[z5,HL],ab⟩
   have ku:a'.eval (.tmp 29)=.bool false:=by rw[hz];simp[not_or]at k13;simp[k13.1,k13.2]
   refine wp_cond_false ku ?_;clear hz ku;refine wp_seq ?_;by_cases k2:h.kind=2
   ·refine dC true z10 (by simp[k2]) (by have:=hR.sz;omega) (by have:=hR.sz;omega) (fun a' hO hz=>?_);replace hR:=hR.off hO (by decide) (by decide);replace z10:=(hO.eval (by decide)).trans z10;replace z5:=(hO.eval (by decide)).trans z5;clear hO;simp only[Exit.then];refine wp_cond_true hz ?_;obtain⟨b0,ev⟩:∃ x,bM h.a h.b=x:=⟨_,rfl⟩
    obtain⟨s1,fe⟩:∃ x,(NodeH.same h ⟨2,aD,[],h.a,h.b,0⟩&&decide (l.length=0))=x:=⟨_,rfl⟩
    obtain⟨c1,du⟩:∃ x,x=(b0&&s1):=⟨_,rfl⟩
    have HL:RB=c1:=by
     rw[<- uu.out];unfold aV;rw[if_neg k0,if_neg k13,if_pos k2,du,<- ev,<- fe,Bool.and_assoc]
    obtain⟨TT,ag⟩:∃ TT:List (Nat×Nat×Value),TT=((0,63,vP g o)::(1,64,vP g o)::(2,65,vP g (o+8))::(3,66,arV h.a h.b)::(4,67,.bool b0)::(5,68,.bool b0)::(6,69,(bif b0 then vP g o else undef))::(7,70,(bif b0 then vP g o else undef))::(8,71,(bif b0 then vP g o else undef))::(9,72,(bif b0 then vP g (o+8) else undef))::(10,73,(bif b0 then arV h.a h.b else undef))::(11,74,(bif b0 then cE ⟨0,aD,[],h.a,h.b,0⟩ none 0 0 else undef))::(12,75,(bif b0 then .bool s1 else undef))::(13,76,.bool c1)::(14,5,.bool c1)::[]):=⟨_,rfl⟩
    have aw:=zh ag;clear ag;refine aS (fun a0=>287<=a0.tmps.size/\a0.eval (.tmp 0)=vP g o/\a0.eval (.tmp 1)=vI above) (63::64::65::66::67::68::69::70::71::72::73::74::75::76::5::[]) TT [] (fun w'=>Below w.heap.size w w') (by kernel_rfl) ⟨hR.sz,hR.s0,hR.s1⟩ iv.out ?_ ?_
    ·rintro a0 ⟨hs,dh,cr⟩ zl a1 w1 zj o ap hI ah ho zd;have ab:Below w.heap.size w w1:=hI.st;have ag:=aw.out
     subst ag;have e0x:=hI.off.q dh;have e1x:=hI.off.q cr;have hj:=Up.of_false ah;have hj12:zj<15:=by rw[ap]at hj;exact hj
     have G:RG _ _ _ _ _ _ _ _ _ _ _:=⟨by rfl,hI,hs,ah,ho,zd⟩
     (iterate 14 rcases zq hj12 with hj12|rfl);obtain rfl:=cz hj12;all_goals obtain rfl:=oi ho
     ·exact G.nl 0 rfl (by simp[execOp,go_sem,e0x])
     ·exact G.nl 1 rfl (by simp[execOp,go_sem,G.t 0])
     ·exact G.nl 2 rfl (by simp[execOp,go_sem,G.t 1])
     ·have bg:=NodeIn.kp HN.out (Kp.of_below ab);have p2:=G.d 2;exact G.nl 3 rfl (aO 31 (.tmp 65) rfl g (o+8) p2 _ _ (bg.sub 8 [vI h.a.row.a,vI h.a.row.n,vI h.a.col.a,vI h.a.col.n,.bool h.a.fr,.bool h.a.fc,vI h.b.row.a,vI h.b.row.n,vI h.b.col.a,vI h.b.col.n,.bool h.b.fr,.bool h.b.fc] (by simp) rfl) Tryz.underlying31 rfl gH)
     ·refine G.cn 4 rfl 163 #[arV h.a h.b] (by simp[go_sem,G.t 3]) ?_;have hB:=uBT h.a h.b w1;rw[ev]at hB;refine hB.mono ?_;rintro e w2 ⟨rfl,hb⟩;exact⟨rfl,zU ab hb⟩
     ·exact G.nl 5 rfl (by simp[execOp,go_sem,G.t 4])
     ·refine G.gv 5 6 ?_;rintro rfl;simp[execOp,go_sem,e0x]
     ·refine G.gv 5 7 ?_;rintro rfl;simp[execOp,go_sem,e0x]
     ·refine G.gv 5 8 ?_;rintro rfl;simp[execOp,go_sem,G.t 7]
     ·refine G.gv 5 9 ?_;rintro rfl;simp[execOp,go_sem,G.t 8]
     ·refine G.gv 5 10 ?_;rintro rfl;have bg:=NodeIn.kp HN.out (Kp.of_below ab);have p9:=G.d 9;exact aO 31 (.tmp 72) rfl g (o+8) p9 _ _ (bg.sub 8 [vI h.a.row.a,vI h.a.row.n,vI h.a.col.a,vI h.a.col.n,.bool h.a.fr,.bool h.a.fc,vI h.b.row.a,vI h.b.row.n,vI h.b.col.a,vI h.b.col.n,.bool h.b.fr,.bool h.b.fc] (by simp) rfl) Tryz.underlying31 rfl gH
     ·refine G.gv 5 11 ?_;rintro rfl;simp[execOp,go_sem,G.t 10,cE,aH,aD]
     ·have pg:=G.g 5;cases b0
      ·exact G.sk 12 pg
      refine G.cw 12 rfl pg 162 #[vP g o,cE ⟨0,aD,[],h.a,h.b,0⟩ none 0 0] (by simp[go_sem,G.t 6,G.t 11]) ?_;have bg:=NodeIn.kp HN.out (Kp.of_below ab);have hB:=dY h ⟨0,aD,[],h.a,h.b,0⟩ A none l.length 0 cp 0 g o w1 bg;dsimp only at hB;rw[k2]at hB;rw[fe]at hB;refine hB.mono ?_;rintro e w2 ⟨rfl,hb⟩;exact⟨rfl,zU ab hb⟩
     ·cases b0
      all_goals exact G.nl 13 rfl (by simp[execOp,go_sem,G.t 5,G.t 12,du])
     exact G.nl 14 rfl (by simp[execOp,go_sem,G.t 13])
    intro zl a1 w1 hI bd;have ab:Below w.heap.size w w1:=hI.st;have ag:=aw.out;subst ag;have z5:=hI.ptk 14 rfl (bd 14 (by decide));have hO:=hI.off;clear hI bd aw;exact⟨rfl,hR.off hO (by decide) (by decide),by rw[z5,HL],ab⟩
   refine dC false z10 (by simp[k2]) (by have:=hR.sz;omega) (by have:=hR.sz;omega) (fun a' hO hz=>?_);replace hR:=hR.off hO (by decide) (by decide);replace z10:=(hO.eval (by decide)).trans z10;replace z5:=(hO.eval (by decide)).trans z5;clear hO;simp only[Exit.then];refine wp_cond_false hz ?_;refine wp_seq ?_;by_cases k4:h.kind=4
   ·refine dC true z10 (by simp[k4]) (by have:=hR.sz;omega) (by have:=hR.sz;omega) (fun a' hO hz=>?_);replace hR:=hR.off hO (by decide) (by decide);replace z10:=(hO.eval (by decide)).trans z10;replace z5:=(hO.eval (by decide)).trans z5;clear hO;simp only[Exit.then];refine wp_cond_true hz ?_;obtain⟨b0,ev⟩:∃ x,bN h.name=x:=⟨_,rfl⟩
    obtain⟨b1,ab⟩:∃ x,decide (l.length<=32)=x:=⟨_,rfl⟩
    have mc:decide ((l.length:Int)<=32)=b1:=by rw[<- ab,decide_eq_decide];omega
    obtain⟨e1,he1⟩:∃ x,((l.length:Int)==1)=x:=⟨_,rfl⟩
    obtain⟨g',o',k9,hKK⟩:∃ g' o' k9,e1=true->A=some ⟨g',o',none⟩/\l.length=1/\(∀ W:World,Below w.heap.size w W->W.cell? ⟨g',o',none⟩=some (vI k9))/\(l.map fun t=>t.h.kind)=[k9]:=by
     by_cases hl:l.length=1
     ·obtain⟨g',o',hA,hW⟩:=HK.out 0 (by omega);refine⟨g',o',(l[0]'(by omega)).h.kind,fun _=>⟨hA,hl,fun W hb=>by have:=(hW W hb).1;rwa [Nat.zero_mul,Nat.add_zero]at this,?_⟩⟩;obtain⟨t,rfl⟩:=List.length_eq_one_iff.1 hl;rfl
     exact⟨0,0,0,fun he=>absurd (by rw[<- he1,beq_iff_eq]at he;omega) hl⟩
    obtain⟨e9,he9⟩:∃ x,(k9==9)=x:=⟨_,rfl⟩
    obtain⟨m,hm⟩:∃ x,x=(e1&&e9):=⟨_,rfl⟩
    obtain⟨nm,hnm⟩:∃ x,x=(!m):=⟨_,rfl⟩
    obtain⟨b3,dt⟩:∃ x,NodeH.same h ⟨4,aD,h.name,aN,aN,0⟩=x:=⟨_,rfl⟩
    obtain⟨c1,du⟩:∃ x,x=(b0&&b1):=⟨_,rfl⟩
    obtain⟨c2,jt⟩:∃ x,x=(c1&&nm):=⟨_,rfl⟩
    obtain⟨c3,ur⟩:∃ x,x=(c2&&b3):=⟨_,rfl⟩
    have HL:RB=c3:=by
     rw[<- uu.out];unfold aV;rw[if_neg k0,if_neg k13,if_neg k2,if_pos k4,ur,jt,du,hnm,hm,<- ev,<- ab,<- dt]
     congr 2
     congr 1
     cases he:e1 with
     |true=>
      obtain⟨_,hl1,_,hk⟩:=hKK he;rw[hk,hl1,<- he9,show (k9==9)=decide (k9=9) from by rw[ze];simp];simp
     |false=>
      have:l.length≠1:=fun hl=>by rw[<- he1,hl]at he;simp at he
      simp[this]
    obtain⟨TT,ag⟩:∃ TT:List (Nat×Nat×Value),TT=((0,79,vP g o)::(1,80,vP g o)::(2,81,vP g (o+7))::(3,82,vT h.name)::(4,83,.bool b0)::(5,84,.bool b0)::(6,85,(bif b0 then vP g o else undef))::(7,86,(bif b0 then vP g o else undef))::(8,87,(bif b0 then vP g (o+21) else undef))::(9,88,(bif b0 then .slice A l.length cp else undef))::(10,89,(bif b0 then vI (l.length:Nat) else undef))::(11,90,(bif b0 then .bool b1 else undef))::(12,91,.bool c1)::(13,92,.bool c1)::(14,93,(bif c1 then vP g o else undef))::(15,94,(bif c1 then vP g o else undef))::(16,95,(bif c1 then vP g (o+21) else undef))::(17,96,(bif c1 then .slice A l.length cp else undef))::(18,97,(bif c1 then vI (l.length:Nat) else undef))::(19,98,(bif c1 then .bool e1 else undef))::(20,99,(bif c1 then .bool e1 else undef))::(21,100,(bif c1 then (bif e1 then vP g o else undef) else undef))::(22,101,(bif c1 then (bif e1 then vP g o else undef) else undef))::(23,102,(bif c1 then (bif e1 then vP g (o+21) else undef) else undef))::(24,103,(bif c1 then (bif e1 then .slice A l.length cp else undef) else undef))::(25,104,(bif c1 then (bif e1 then vP g' o' else undef) else undef))::(26,105,(bif c1 then (bif e1 then vP g' o' else undef) else undef))::(27,106,(bif c1 then (bif e1 then vI k9 else undef) else undef))::(28,107,(bif c1 then (bif e1 then .bool e9 else undef) else undef))::(29,108,(bif c1 then .bool m else undef))::(30,109,(bif c1 then .bool nm else undef))::(31,110,.bool c2)::(32,111,.bool c2)::(33,112,(bif c2 then vP g o else undef))::(34,113,(bif c2 then vP g o else undef))::(35,114,(bif c2 then vP g o else undef))::(36,115,(bif c2 then vP g (o+7) else undef))::(37,116,(bif c2 then vT h.name else undef))::(38,117,(bif c2 then vP g o else undef))::(39,118,(bif c2 then vP g o else undef))::(40,119,(bif c2 then vP g (o+21) else undef))::(41,120,(bif c2 then .slice A l.length cp else undef))::(42,121,(bif c2 then cE ⟨0,aD,h.name,aN,aN,0⟩ A l.length cp else undef))::(43,122,(bif c2 then .bool b3 else undef))::(44,123,.bool c3)::(45,5,.bool c3)::[]):=⟨_,rfl⟩
    have aw:=zh ag;clear ag;refine bK (fun a0=>287<=a0.tmps.size/\a0.eval (.tmp 0)=vP g o/\a0.eval (.tmp 1)=vI above) (79::80::81::82::83::84::85::86::87::88::89::90::91::92::93::94::95::96::97::98::99::100::101::102::103::104::105::106::107::108::109::110::111::112::113::114::115::116::117::118::119::120::121::122::123::5::[]) TT [] (fun w'=>Below w.heap.size w w') (by kernel_rfl) (by kernel_rfl) ⟨hR.sz,hR.s0,hR.s1⟩ iv.out.drew ?_ ?_
    ·rintro a0 ⟨hs,dh,cr⟩ zl a1 w1 zj o ap hI ah ho zd;have ab:Below w.heap.size w w1:=hI.st;have ag:=aw.out
     subst ag;have e0x:=hI.off.q dh;have e1x:=hI.off.q cr;have hj:=Up.of_false ah;have hj12:zj<46:=by rw[ap]at hj;exact hj
     have G:RG _ _ _ _ _ _ _ _ _ _ _:=⟨by rfl,hI,hs,ah,ho,zd⟩
     (iterate 45 rcases zq hj12 with hj12|rfl);obtain rfl:=cz hj12;all_goals obtain rfl:=oi ho
     ·exact G.nl 0 rfl (by simp[execOp,go_sem,e0x])
     ·exact G.nl 1 rfl (by simp[execOp,go_sem,G.t 0])
     ·exact G.nl 2 rfl (by simp[execOp,go_sem,G.t 1])
     ·have bg:=NodeIn.kp HN.out (Kp.of_below ab);have x7:w1.cell? ⟨g,o+7,none⟩=some (vT h.name):=bg.2 7 (by decide);exact G.nl 3 rfl (by simp[execOp,go_sem,G.t 2,x7])
     ·refine G.cn 4 rfl 164 #[vT h.name] (by simp[go_sem,G.t 3]) ?_;have hB:=uFQ h.name w1 HF.out.2.2.2;rw[ev]at hB;refine hB.mono ?_;rintro e w2 ⟨rfl,hb⟩
      first|exact⟨rfl,zU ab hb⟩ |(subst hb;exact⟨rfl,ab⟩)
     ·exact G.nl 5 rfl (by simp[execOp,go_sem,G.t 4])
     ·refine G.gv 5 6 ?_;rintro rfl;simp[execOp,go_sem,e0x]
     ·refine G.gv 5 7 ?_;rintro rfl;simp[execOp,go_sem,G.t 6]
     ·refine G.gv 5 8 ?_;rintro rfl;simp[execOp,go_sem,G.t 7]
     ·refine G.gv 5 9 ?_;rintro rfl;have bg:=NodeIn.kp HN.out (Kp.of_below ab);have x21:w1.cell? ⟨g,o+21,none⟩=some (.slice A l.length cp):=bg.2 21 (by decide);simp[execOp,go_sem,G.t 8,x21]
     ·refine G.gv 5 10 ?_;rintro rfl;simp[go_sem,G.t 9]
     ·refine G.gv 5 11 ?_;rintro rfl;simp[execOp,go_sem,G.t 10,mc]
     ·cases b0
      all_goals exact G.nl 12 rfl (by simp[execOp,go_sem,G.t 5,G.t 11,du])
     ·exact G.nl 13 rfl (by simp[execOp,go_sem,G.t 12])
     ·refine G.gv 13 14 ?_;rintro rfl;simp[execOp,go_sem,e0x]
     ·refine G.gv 13 15 ?_;rintro rfl;simp[execOp,go_sem,G.t 14]
     ·refine G.gv 13 16 ?_;rintro rfl;simp[execOp,go_sem,G.t 15]
     ·refine G.gv 13 17 ?_;rintro rfl;have bg:=NodeIn.kp HN.out (Kp.of_below ab);have x21:w1.cell? ⟨g,o+21,none⟩=some (.slice A l.length cp):=bg.2 21 (by decide);simp[execOp,go_sem,G.t 16,x21]
     ·refine G.gv 13 18 ?_;rintro rfl;simp[go_sem,G.t 17]
     ·refine G.gv 13 19 ?_;rintro rfl;simp[execOp,go_sem,G.t 18,he1]
     ·refine G.gv 13 20 ?_;rintro rfl;simp[execOp,go_sem,G.t 19]
     ·have pg:=G.g 20;cases c1
      ·exact G.su 21 pg
      cases e1
      ·exact G.sk 21 pg
      exact G.vl 21 rfl pg (by simp[execOp,go_sem,e0x])
     ·have pg:=G.g 20;cases c1
      ·exact G.su 22 pg
      cases e1
      ·exact G.sk 22 pg
      exact G.vl 22 rfl pg (by simp[execOp,go_sem,G.t 21])
     ·have pg:=G.g 20;cases c1
      ·exact G.su 23 pg
      cases e1
      ·exact G.sk 23 pg
      exact G.vl 23 rfl pg (by simp[execOp,go_sem,G.t 22])
     ·have pg:=G.g 20;cases c1
      ·exact G.su 24 pg
      cases e1
      ·exact G.sk 24 pg
      have bg:=NodeIn.kp HN.out (Kp.of_below ab);have x21:w1.cell? ⟨g,o+21,none⟩=some (.slice A l.length cp):=bg.2 21 (by decide);exact G.vl 24 rfl pg (by simp[execOp,go_sem,G.t 23,x21])
     ·have pg:=G.g 20;cases c1
      ·exact G.su 25 pg
      cases e1
      ·exact G.sk 25 pg
      obtain⟨hA,hl1,l9,-⟩:=hKK rfl;exact G.vl 25 rfl pg (by simp[execOp,go_sem,G.t 24,hA,hl1])
     ·have pg:=G.g 20;cases c1
      ·exact G.su 26 pg
      cases e1
      ·exact G.sk 26 pg
      exact G.vl 26 rfl pg (by simp[execOp,go_sem,G.t 25])
     ·have pg:=G.g 20;cases c1
      ·exact G.su 27 pg
      cases e1
      ·exact G.sk 27 pg
      obtain⟨hA,hl1,l9,-⟩:=hKK rfl;have xk:=l9 w1 ab;exact G.vl 27 rfl pg (by simp[execOp,go_sem,G.t 26,xk])
     ·have pg:=G.g 20;cases c1
      ·exact G.su 28 pg
      cases e1
      ·exact G.sk 28 pg
      exact G.vl 28 rfl pg (by simp[execOp,go_sem,G.t 27,he9])
     ·have pg:=G.g 13;cases c1
      ·exact G.sk 29 pg
      cases e1
      all_goals exact G.vl 29 rfl pg (by simp[execOp,go_sem,G.t 20,G.t 28,hm])
     ·refine G.gv 13 30 ?_;rintro rfl;simp[execOp,go_sem,G.t 29,hnm]
     ·cases c1
      all_goals exact G.nl 31 rfl (by simp[execOp,go_sem,G.t 13,G.t 30,jt])
     ·exact G.nl 32 rfl (by simp[execOp,go_sem,G.t 31])
     ·refine G.gv 32 33 ?_;rintro rfl;simp[execOp,go_sem,e0x]
     ·refine G.gv 32 34 ?_;rintro rfl;simp[execOp,go_sem,e0x]
     ·refine G.gv 32 35 ?_;rintro rfl;simp[execOp,go_sem,G.t 34]
     ·refine G.gv 32 36 ?_;rintro rfl;simp[execOp,go_sem,G.t 35]
     ·refine G.gv 32 37 ?_;rintro rfl;have bg:=NodeIn.kp HN.out (Kp.of_below ab);have x7:w1.cell? ⟨g,o+7,none⟩=some (vT h.name):=bg.2 7 (by decide);simp[execOp,go_sem,G.t 36,x7]
     ·refine G.gv 32 38 ?_;rintro rfl;simp[execOp,go_sem,e0x]
     ·refine G.gv 32 39 ?_;rintro rfl;simp[execOp,go_sem,G.t 38]
     ·refine G.gv 32 40 ?_;rintro rfl;simp[execOp,go_sem,G.t 39]
     ·refine G.gv 32 41 ?_;rintro rfl;have bg:=NodeIn.kp HN.out (Kp.of_below ab);have x21:w1.cell? ⟨g,o+21,none⟩=some (.slice A l.length cp):=bg.2 21 (by decide);simp[execOp,go_sem,G.t 40,x21]
     ·refine G.gv 32 42 ?_;rintro rfl;simp[execOp,go_sem,G.t 37,G.t 41,cE,aH,aD]
     ·have pg:=G.g 32;cases c2
      ·exact G.sk 43 pg
      refine G.cw 43 rfl pg 162 #[vP g o,cE ⟨0,aD,h.name,aN,aN,0⟩ A l.length cp] (by simp[go_sem,G.t 33,G.t 42]) ?_;have bg:=NodeIn.kp HN.out (Kp.of_below ab);have hB:=dY h ⟨0,aD,h.name,aN,aN,0⟩ A A l.length l.length cp cp g o w1 bg;dsimp only at hB;rw[k4,decide_eq_true rfl,Bool.and_true]at hB;rw[dt]at hB;refine hB.mono ?_;rintro e w2 ⟨rfl,hb⟩;exact⟨rfl,zU ab hb⟩
     ·cases c2
      all_goals exact G.nl 44 rfl (by simp[execOp,go_sem,G.t 32,G.t 43,ur])
     exact G.nl 45 rfl (by simp[execOp,go_sem,G.t 44])
    intro zl a1 w1 hI bd;have ab:Below w.heap.size w w1:=hI.st;have ag:=aw.out;subst ag;have z5:=hI.ptk 45 rfl (bd 45 (by decide));have hO:=hI.off;clear hI bd aw;exact⟨rfl,hR.off hO (by decide) (by decide),by rw[z5,HL],ab⟩
   refine dC false z10 (by simp[k4]) (by have:=hR.sz;omega) (by have:=hR.sz;omega) (fun a' hO hz=>?_);replace hR:=hR.off hO (by decide) (by decide);replace z10:=(hO.eval (by decide)).trans z10;replace z5:=(hO.eval (by decide)).trans z5;clear hO;simp only[Exit.then];refine wp_cond_false hz ?_;refine wp_seq ?_;by_cases k5:h.kind=5
   ·refine dC true z10 (by simp[k5]) (by have:=hR.sz;omega) (by have:=hR.sz;omega) (fun a' hO hz=>?_);replace hR:=hR.off hO (by decide) (by decide);replace z10:=(hO.eval (by decide)).trans z10;replace z5:=(hO.eval (by decide)).trans z5;clear hO;simp only[Exit.then];refine wp_cond_true hz ?_;obtain⟨b0,ev⟩:∃ x,unB h.name=x:=⟨_,rfl⟩
    obtain⟨b1,ab⟩:∃ x,decide (l.length=1)=x:=⟨_,rfl⟩
    have mc:((l.length:Int)==1)=b1:=by rw[<- ab,ze];simp;omega
    obtain⟨b3,dt⟩:∃ x,NodeH.same h ⟨5,aD,h.name,aN,aN,0⟩=x:=⟨_,rfl⟩
    obtain⟨c1,du⟩:∃ x,x=(b0&&b1):=⟨_,rfl⟩
    obtain⟨c2,jt⟩:∃ x,x=(c1&&b3):=⟨_,rfl⟩
    have HL:RB=c2:=by
     rw[<- uu.out];unfold aV;rw[if_neg k0,if_neg k13,if_neg k2,if_neg k4,if_pos k5,jt,du,<- ev,<- ab,<- dt]
    obtain⟨TT,ag⟩:∃ TT:List (Nat×Nat×Value),TT=((0,126,vP g o)::(1,127,vP g o)::(2,128,vP g (o+7))::(3,129,vT h.name)::(4,130,.bool b0)::(5,131,.bool b0)::(6,132,(bif b0 then vP g o else undef))::(7,133,(bif b0 then vP g o else undef))::(8,134,(bif b0 then vP g (o+21) else undef))::(9,135,(bif b0 then .slice A l.length cp else undef))::(10,136,(bif b0 then vI (l.length:Nat) else undef))::(11,137,(bif b0 then .bool b1 else undef))::(12,138,.bool c1)::(13,139,.bool c1)::(14,140,(bif c1 then vP g o else undef))::(15,141,(bif c1 then vP g o else undef))::(16,142,(bif c1 then vP g o else undef))::(17,143,(bif c1 then vP g (o+7) else undef))::(18,144,(bif c1 then vT h.name else undef))::(19,145,(bif c1 then vP g o else undef))::(20,146,(bif c1 then vP g o else undef))::(21,147,(bif c1 then vP g (o+21) else undef))::(22,148,(bif c1 then .slice A l.length cp else undef))::(23,149,(bif c1 then cE ⟨0,aD,h.name,aN,aN,0⟩ A l.length cp else undef))::(24,150,(bif c1 then .bool b3 else undef))::(25,151,.bool c2)::(26,5,.bool c2)::[]):=⟨_,rfl⟩
    have aw:=zh ag;clear ag;refine bK (fun a0=>287<=a0.tmps.size/\a0.eval (.tmp 0)=vP g o/\a0.eval (.tmp 1)=vI above) (126::127::128::129::130::131::132::133::134::135::136::137::138::139::140::141::142::143::144::145::146::147::148::149::150::151::5::[]) TT [] (fun w'=>Below w.heap.size w w') (by kernel_rfl) (by kernel_rfl) ⟨hR.sz,hR.s0,hR.s1⟩ iv.out.drew ?_ ?_
    ·rintro a0 ⟨hs,dh,cr⟩ zl a1 w1 zj o ap hI ah ho zd;have ab:Below w.heap.size w w1:=hI.st;have ag:=aw.out
     subst ag;have e0x:=hI.off.q dh;have e1x:=hI.off.q cr;have hj:=Up.of_false ah;have hj12:zj<27:=by rw[ap]at hj;exact hj
     have G:RG _ _ _ _ _ _ _ _ _ _ _:=⟨by rfl,hI,hs,ah,ho,zd⟩
     (iterate 26 rcases zq hj12 with hj12|rfl);obtain rfl:=cz hj12;all_goals obtain rfl:=oi ho
     ·exact G.nl 0 rfl (by simp[execOp,go_sem,e0x])
     ·exact G.nl 1 rfl (by simp[execOp,go_sem,G.t 0])
     ·exact G.nl 2 rfl (by simp[execOp,go_sem,G.t 1])
     ·have bg:=NodeIn.kp HN.out (Kp.of_below ab);have x7:w1.cell? ⟨g,o+7,none⟩=some (vT h.name):=bg.2 7 (by decide);exact G.nl 3 rfl (by simp[execOp,go_sem,G.t 2,x7])
     ·refine G.cn 4 rfl 165 #[vT h.name] (by simp[go_sem,G.t 3]) ?_;have hB:=uBV h.name w1;rw[ev]at hB;refine hB.mono ?_;rintro e w2 ⟨rfl,hb⟩
      first|exact⟨rfl,zU ab hb⟩ |(subst hb;exact⟨rfl,ab⟩)
     ·exact G.nl 5 rfl (by simp[execOp,go_sem,G.t 4])
     ·refine G.gv 5 6 ?_;rintro rfl;simp[execOp,go_sem,e0x]
     ·refine G.gv 5 7 ?_;rintro rfl;simp[execOp,go_sem,G.t 6]
     ·refine G.gv 5 8 ?_;rintro rfl;simp[execOp,go_sem,G.t 7]
     ·refine G.gv 5 9 ?_;rintro rfl;have bg:=NodeIn.kp HN.out (Kp.of_below ab);have x21:w1.cell? ⟨g,o+21,none⟩=some (.slice A l.length cp):=bg.2 21 (by decide);simp[execOp,go_sem,G.t 8,x21]
     ·refine G.gv 5 10 ?_;rintro rfl;simp[go_sem,G.t 9]
     ·refine G.gv 5 11 ?_;rintro rfl;simp[execOp,go_sem,G.t 10,mc]
     ·cases b0
      all_goals exact G.nl 12 rfl (by simp[execOp,go_sem,G.t 5,G.t 11,du])
     ·exact G.nl 13 rfl (by simp[execOp,go_sem,G.t 12])
     ·refine G.gv 13 14 ?_;rintro rfl;simp[execOp,go_sem,e0x]
     ·refine G.gv 13 15 ?_;rintro rfl;simp[execOp,go_sem,e0x]
     ·refine G.gv 13 16 ?_;rintro rfl;simp[execOp,go_sem,G.t 15]
     ·refine G.gv 13 17 ?_;rintro rfl;simp[execOp,go_sem,G.t 16]
     ·refine G.gv 13 18 ?_;rintro rfl;have bg:=NodeIn.kp HN.out (Kp.of_below ab);have x7:w1.cell? ⟨g,o+7,none⟩=some (vT h.name):=bg.2 7 (by decide);simp[execOp,go_sem,G.t 17,x7]
     ·refine G.gv 13 19 ?_;rintro rfl;simp[execOp,go_sem,e0x]
     ·refine G.gv 13 20 ?_;rintro rfl;simp[execOp,go_sem,G.t 19]
     ·refine G.gv 13 21 ?_;rintro rfl;simp[execOp,go_sem,G.t 20]
     ·refine G.gv 13 22 ?_;rintro rfl;have bg:=NodeIn.kp HN.out (Kp.of_below ab);have x21:w1.cell? ⟨g,o+21,none⟩=some (.slice A l.length cp):=bg.2 21 (by decide);simp[execOp,go_sem,G.t 21,x21]
     ·refine G.gv 13 23 ?_;rintro rfl;simp[execOp,go_sem,G.t 18,G.t 22,cE,aH,aD]
     ·have pg:=G.g 13;cases c1
      ·exact G.sk 24 pg
      refine G.cw 24 rfl pg 162 #[vP g o,cE ⟨0,aD,h.name,aN,aN,0⟩ A l.length cp] (by simp[go_sem,G.t 14,G.t 23]) ?_;have bg:=NodeIn.kp HN.out (Kp.of_below ab);have hB:=dY h ⟨0,aD,h.name,aN,aN,0⟩ A A l.length l.length cp cp g o w1 bg;dsimp only at hB;rw[k5,decide_eq_true rfl,Bool.and_true]at hB;rw[dt]at hB;refine hB.mono ?_;rintro e w2 ⟨rfl,hb⟩;exact⟨rfl,zU ab hb⟩
     ·cases c1
      all_goals exact G.nl 25 rfl (by simp[execOp,go_sem,G.t 13,G.t 24,jt])
     exact G.nl 26 rfl (by simp[execOp,go_sem,G.t 25])
    intro zl a1 w1 hI bd;have ab:Below w.heap.size w w1:=hI.st;have ag:=aw.out;subst ag;have z5:=hI.ptk 26 rfl (bd 26 (by decide));have hO:=hI.off;clear hI bd aw;exact⟨rfl,hR.off hO (by decide) (by decide),by rw[z5,HL],ab⟩
   refine dC false z10 (by simp[k5]) (by have:=hR.sz;omega) (by have:=hR.sz;omega) (fun a' hO hz=>?_);replace hR:=hR.off hO (by decide) (by decide);replace z10:=(hO.eval (by decide)).trans z10;replace z5:=(hO.eval (by decide)).trans z5;clear hO;simp only[Exit.then];refine wp_cond_false hz ?_;refine wp_seq ?_;by_cases k6:h.kind=6
   ·refine dC true z10 (by simp[k6]) (by have:=hR.sz;omega) (by have:=hR.sz;omega) (fun a' hO hz=>?_);replace hR:=hR.off hO (by decide) (by decide);replace z10:=(hO.eval (by decide)).trans z10;replace z5:=(hO.eval (by decide)).trans z5;clear hO;simp only[Exit.then];refine wp_cond_true hz ?_;obtain⟨b0,ev⟩:∃ x,lO h.name=x:=⟨_,rfl⟩
    obtain⟨b1,ab⟩:∃ x,decide (l.length=2)=x:=⟨_,rfl⟩
    have mc:((l.length:Int)==2)=b1:=by rw[<- ab,ze];simp;omega
    obtain⟨b3,dt⟩:∃ x,NodeH.same h ⟨6,aD,h.name,aN,aN,0⟩=x:=⟨_,rfl⟩
    obtain⟨c1,du⟩:∃ x,x=(b0&&b1):=⟨_,rfl⟩
    obtain⟨c2,jt⟩:∃ x,x=(c1&&b3):=⟨_,rfl⟩
    have HL:RB=c2:=by
     rw[<- uu.out];unfold aV;rw[if_neg k0,if_neg k13,if_neg k2,if_neg k4,if_neg k5,if_pos k6,jt,du,<- ev,<- ab,<- dt]
    obtain⟨TT,ag⟩:∃ TT:List (Nat×Nat×Value),TT=((0,154,vP g o)::(1,155,vP g o)::(2,156,vP g (o+7))::(3,157,vT h.name)::(4,158,.bool b0)::(5,159,.bool b0)::(6,160,(bif b0 then vP g o else undef))::(7,161,(bif b0 then vP g o else undef))::(8,162,(bif b0 then vP g (o+21) else undef))::(9,163,(bif b0 then .slice A l.length cp else undef))::(10,164,(bif b0 then vI (l.length:Nat) else undef))::(11,165,(bif b0 then .bool b1 else undef))::(12,166,.bool c1)::(13,167,.bool c1)::(14,168,(bif c1 then vP g o else undef))::(15,169,(bif c1 then vP g o else undef))::(16,170,(bif c1 then vP g o else undef))::(17,171,(bif c1 then vP g (o+7) else undef))::(18,172,(bif c1 then vT h.name else undef))::(19,173,(bif c1 then vP g o else undef))::(20,174,(bif c1 then vP g o else undef))::(21,175,(bif c1 then vP g (o+21) else undef))::(22,176,(bif c1 then .slice A l.length cp else undef))::(23,177,(bif c1 then cE ⟨0,aD,h.name,aN,aN,0⟩ A l.length cp else undef))::(24,178,(bif c1 then .bool b3 else undef))::(25,179,.bool c2)::(26,5,.bool c2)::[]):=⟨_,rfl⟩
    have aw:=zh ag;clear ag;refine bK (fun a0=>287<=a0.tmps.size/\a0.eval (.tmp 0)=vP g o/\a0.eval (.tmp 1)=vI above) (154::155::156::157::158::159::160::161::162::163::164::165::166::167::168::169::170::171::172::173::174::175::176::177::178::179::5::[]) TT [] (fun w'=>Below w.heap.size w w') (by kernel_rfl) (by kernel_rfl) ⟨hR.sz,hR.s0,hR.s1⟩ iv.out.drew ?_ ?_
    ·rintro a0 ⟨hs,dh,cr⟩ zl a1 w1 zj o ap hI ah ho zd;have ab:Below w.heap.size w w1:=hI.st;have ag:=aw.out
     subst ag;have e0x:=hI.off.q dh;have e1x:=hI.off.q cr;have hj:=Up.of_false ah;have hj12:zj<27:=by rw[ap]at hj;exact hj
     have G:RG _ _ _ _ _ _ _ _ _ _ _:=⟨by rfl,hI,hs,ah,ho,zd⟩
     (iterate 26 rcases zq hj12 with hj12|rfl);obtain rfl:=cz hj12;all_goals obtain rfl:=oi ho
     ·exact G.nl 0 rfl (by simp[execOp,go_sem,e0x])
     ·exact G.nl 1 rfl (by simp[execOp,go_sem,G.t 0])
     ·exact G.nl 2 rfl (by simp[execOp,go_sem,G.t 1])
     ·have bg:=NodeIn.kp HN.out (Kp.of_below ab);have x7:w1.cell? ⟨g,o+7,none⟩=some (vT h.name):=bg.2 7 (by decide);exact G.nl 3 rfl (by simp[execOp,go_sem,G.t 2,x7])
     ·refine G.cn 4 rfl 166 #[vT h.name] (by simp[go_sem,G.t 3]) ?_;have hB:=yA h.name w1;rw[ev]at hB;refine hB.mono ?_;rintro e w2 ⟨rfl,hb⟩
      first|exact⟨rfl,zU ab hb⟩ |(subst hb;exact⟨rfl,ab⟩)
     ·exact G.nl 5 rfl (by simp[execOp,go_sem,G.t 4])
     ·refine G.gv 5 6 ?_;rintro rfl;simp[execOp,go_sem,e0x]
     ·refine G.gv 5 7 ?_;rintro rfl;simp[execOp,go_sem,G.t 6]
     ·refine G.gv 5 8 ?_;rintro rfl;simp[execOp,go_sem,G.t 7]
     ·refine G.gv 5 9 ?_;rintro rfl;have bg:=NodeIn.kp HN.out (Kp.of_below ab);have x21:w1.cell? ⟨g,o+21,none⟩=some (.slice A l.length cp):=bg.2 21 (by decide);simp[execOp,go_sem,G.t 8,x21]
     ·refine G.gv 5 10 ?_;rintro rfl;simp[go_sem,G.t 9]
     ·refine G.gv 5 11 ?_;rintro rfl;simp[execOp,go_sem,G.t 10,mc]
     ·cases b0
      all_goals exact G.nl 12 rfl (by simp[execOp,go_sem,G.t 5,G.t 11,du])
     ·exact G.nl 13 rfl (by simp[execOp,go_sem,G.t 12])
     ·refine G.gv 13 14 ?_;rintro rfl;simp[execOp,go_sem,e0x]
     ·refine G.gv 13 15 ?_;rintro rfl;simp[execOp,go_sem,e0x]
     ·refine G.gv 13 16 ?_;rintro rfl;simp[execOp,go_sem,G.t 15]
     ·refine G.gv 13 17 ?_;rintro rfl;simp[execOp,go_sem,G.t 16]
     ·refine G.gv 13 18 ?_;rintro rfl;have bg:=NodeIn.kp HN.out (Kp.of_below ab);have x7:w1.cell? ⟨g,o+7,none⟩=some (vT h.name):=bg.2 7 (by decide);simp[execOp,go_sem,G.t 17,x7]
     ·refine G.gv 13 19 ?_;rintro rfl;simp[execOp,go_sem,e0x]
     ·refine G.gv 13 20 ?_;rintro rfl;simp[execOp,go_sem,G.t 19]
     ·refine G.gv 13 21 ?_;rintro rfl;simp[execOp,go_sem,G.t 20]
     ·refine G.gv 13 22 ?_;rintro rfl;have bg:=NodeIn.kp HN.out (Kp.of_below ab);have x21:w1.cell? ⟨g,o+21,none⟩=some (.slice A l.length cp):=bg.2 21 (by decide);simp[execOp,go_sem,G.t 21,x21]
     ·refine G.gv 13 23 ?_;rintro rfl;simp[execOp,go_sem,G.t 18,G.t 22,cE,aH,aD]
     ·have pg:=G.g 13;cases c1
      ·exact G.sk 24 pg
      refine G.cw 24 rfl pg 162 #[vP g o,cE ⟨0,aD,h.name,aN,aN,0⟩ A l.length cp] (by simp[go_sem,G.t 14,G.t 23]) ?_;have bg:=NodeIn.kp HN.out (Kp.of_below ab);have hB:=dY h ⟨0,aD,h.name,aN,aN,0⟩ A A l.length l.length cp cp g o w1 bg;dsimp only at hB;rw[k6,decide_eq_true rfl,Bool.and_true]at hB;rw[dt]at hB;refine hB.mono ?_;rintro e w2 ⟨rfl,hb⟩;exact⟨rfl,zU ab hb⟩
     ·cases c1
      all_goals exact G.nl 25 rfl (by simp[execOp,go_sem,G.t 13,G.t 24,jt])
     exact G.nl 26 rfl (by simp[execOp,go_sem,G.t 25])
    intro zl a1 w1 hI bd;have ab:Below w.heap.size w w1:=hI.st;have ag:=aw.out;subst ag;have z5:=hI.ptk 26 rfl (bd 26 (by decide));have hO:=hI.off;clear hI bd aw;exact⟨rfl,hR.off hO (by decide) (by decide),by rw[z5,HL],ab⟩
   refine dC false z10 (by simp[k6]) (by have:=hR.sz;omega) (by have:=hR.sz;omega) (fun a' hO hz=>?_);replace hR:=hR.off hO (by decide) (by decide);replace z10:=(hO.eval (by decide)).trans z10;replace z5:=(hO.eval (by decide)).trans z5;clear hO;simp only[Exit.then];refine wp_cond_false hz ?_;refine wp_seq ?_;by_cases k7:h.kind=7
   ·refine dC true z10 (by simp[k7]) (by have:=hR.sz;omega) (by have:=hR.sz;omega) (fun a' hO hz=>?_);replace hR:=hR.off hO (by decide) (by decide);replace z10:=(hO.eval (by decide)).trans z10;replace z5:=(hO.eval (by decide)).trans z5;clear hO;simp only[Exit.then];refine wp_cond_true hz ?_;obtain⟨b0,ev⟩:∃ x,bB h.name=x:=⟨_,rfl⟩
    obtain⟨s1,fe⟩:∃ x,(NodeH.same h ⟨7,aD,h.name,aN,aN,0⟩&&decide (l.length=0))=x:=⟨_,rfl⟩
    obtain⟨c1,du⟩:∃ x,x=(b0&&s1):=⟨_,rfl⟩
    have HL:RB=c1:=by
     rw[<- uu.out];unfold aV;rw[if_neg k0,if_neg k13,if_neg k2,if_neg k4,if_neg k5,if_neg k6,if_pos k7,du,<- ev,<- fe,Bool.and_assoc]
    obtain⟨TT,ag⟩:∃ TT:List (Nat×Nat×Value),TT=((0,182,vP g o)::(1,183,vP g o)::(2,184,vP g (o+7))::(3,185,vT h.name)::(4,186,.bool b0)::(5,187,.bool b0)::(6,188,(bif b0 then vP g o else undef))::(7,189,(bif b0 then vP g o else undef))::(8,190,(bif b0 then vP g o else undef))::(9,191,(bif b0 then vP g (o+7) else undef))::(10,192,(bif b0 then vT h.name else undef))::(11,193,(bif b0 then cE ⟨0,aD,h.name,aN,aN,0⟩ none 0 0 else undef))::(12,194,(bif b0 then .bool s1 else undef))::(13,195,.bool c1)::(14,5,.bool c1)::[]):=⟨_,rfl⟩
    have aw:=zh ag;clear ag;refine aS (fun a0=>287<=a0.tmps.size/\a0.eval (.tmp 0)=vP g o/\a0.eval (.tmp 1)=vI above) (182::183::184::185::186::187::188::189::190::191::192::193::194::195::5::[]) TT [] (fun w'=>Below w.heap.size w w') (by kernel_rfl) ⟨hR.sz,hR.s0,hR.s1⟩ iv.out ?_ ?_
    ·rintro a0 ⟨hs,dh,cr⟩ zl a1 w1 zj o ap hI ah ho zd;have ab:Below w.heap.size w w1:=hI.st;have ag:=aw.out
     subst ag;have e0x:=hI.off.q dh;have e1x:=hI.off.q cr;have hj:=Up.of_false ah;have hj12:zj<15:=by rw[ap]at hj;exact hj
     have G:RG _ _ _ _ _ _ _ _ _ _ _:=⟨by rfl,hI,hs,ah,ho,zd⟩
     (iterate 14 rcases zq hj12 with hj12|rfl);obtain rfl:=cz hj12;all_goals obtain rfl:=oi ho
     ·exact G.nl 0 rfl (by simp[execOp,go_sem,e0x])
     ·exact G.nl 1 rfl (by simp[execOp,go_sem,G.t 0])
     ·exact G.nl 2 rfl (by simp[execOp,go_sem,G.t 1])
     ·have bg:=NodeIn.kp HN.out (Kp.of_below ab);have x7:w1.cell? ⟨g,o+7,none⟩=some (vT h.name):=bg.2 7 (by decide);exact G.nl 3 rfl (by simp[execOp,go_sem,G.t 2,x7])
     ·refine G.cn 4 rfl 167 #[vT h.name] (by simp[go_sem,G.t 3]) ?_;have hB:=uFR h.name w1 HF.out.2.2.2;rw[ev]at hB;refine hB.mono ?_;rintro e w2 ⟨rfl,hb⟩
      first|exact⟨rfl,zU ab hb⟩ |(subst hb;exact⟨rfl,ab⟩)
     ·exact G.nl 5 rfl (by simp[execOp,go_sem,G.t 4])
     ·refine G.gv 5 6 ?_;rintro rfl;simp[execOp,go_sem,e0x]
     ·refine G.gv 5 7 ?_;rintro rfl;simp[execOp,go_sem,e0x]
     ·refine G.gv 5 8 ?_;rintro rfl;simp[execOp,go_sem,G.t 7]
     ·refine G.gv 5 9 ?_;rintro rfl;simp[execOp,go_sem,G.t 8]
     ·refine G.gv 5 10 ?_;rintro rfl;have bg:=NodeIn.kp HN.out (Kp.of_below ab);have x7:w1.cell? ⟨g,o+7,none⟩=some (vT h.name):=bg.2 7 (by decide);simp[execOp,go_sem,G.t 9,x7]
     ·refine G.gv 5 11 ?_;rintro rfl;simp[execOp,go_sem,G.t 10,cE,aH,aD]
     ·have pg:=G.g 5;cases b0
      ·exact G.sk 12 pg
      refine G.cw 12 rfl pg 162 #[vP g o,cE ⟨0,aD,h.name,aN,aN,0⟩ none 0 0] (by simp[go_sem,G.t 6,G.t 11]) ?_;have bg:=NodeIn.kp HN.out (Kp.of_below ab);have hB:=dY h ⟨0,aD,h.name,aN,aN,0⟩ A none l.length 0 cp 0 g o w1 bg;dsimp only at hB;rw[k7]at hB;rw[fe]at hB;refine hB.mono ?_;rintro e w2 ⟨rfl,hb⟩;exact⟨rfl,zU ab hb⟩
     ·cases b0
      all_goals exact G.nl 13 rfl (by simp[execOp,go_sem,G.t 5,G.t 12,du])
     exact G.nl 14 rfl (by simp[execOp,go_sem,G.t 13])
    intro zl a1 w1 hI bd;have ab:Below w.heap.size w w1:=hI.st;have ag:=aw.out;subst ag;have z5:=hI.ptk 14 rfl (bd 14 (by decide));have hO:=hI.off;clear hI bd aw;exact⟨rfl,hR.off hO (by decide) (by decide),by rw[z5,HL],ab⟩
   refine dC false z10 (by simp[k7]) (by have:=hR.sz;omega) (by have:=hR.sz;omega) (fun a' hO hz=>?_);replace hR:=hR.off hO (by decide) (by decide);replace z10:=(hO.eval (by decide)).trans z10;replace z5:=(hO.eval (by decide)).trans z5;clear hO;simp only[Exit.then];refine wp_cond_false hz ?_;refine wp_seq ?_;by_cases k8:h.kind=8
   ·refine dC true z10 (by simp[k8]) (by have:=hR.sz;omega) (by have:=hR.sz;omega) (fun a' hO hz=>?_);replace hR:=hR.off hO (by decide) (by decide);replace z10:=(hO.eval (by decide)).trans z10;replace z5:=(hO.eval (by decide)).trans z5;clear hO;simp only[Exit.then];refine wp_cond_true hz ?_;obtain⟨b0,ev⟩:∃ x,decide (1<=h.rows)=x:=⟨_,rfl⟩
    obtain⟨b1,ab⟩:∃ x,decide (1<=l.length)=x:=⟨_,rfl⟩
    have mc:decide (1<=(l.length:Int))=b1:=by rw[<- ab,decide_eq_decide];omega
    obtain⟨b2,hb2⟩:∃ x,((l.length:Int).tmod h.rows==0)=x:=⟨_,rfl⟩
    obtain⟨b3,dt⟩:∃ x,NodeH.same h ⟨8,aD,[],aN,aN,h.rows⟩=x:=⟨_,rfl⟩
    obtain⟨c1,du⟩:∃ x,x=(b0&&b1):=⟨_,rfl⟩
    obtain⟨c2,jt⟩:∃ x,x=(c1&&b2):=⟨_,rfl⟩
    obtain⟨c3,ur⟩:∃ x,x=(c2&&b3):=⟨_,rfl⟩
    have bp:c1=true->1<=h.rows:=fun hc=>by rw[du,yh,<- ev]at hc;exact of_decide_eq_true hc.1
    have cg:1<=h.rows->h.rows≠0:=fun hh=>by omega
    have HL:RB=c3:=by
     rw[<- uu.out];unfold aV;rw[if_neg k0,if_neg k13,if_neg k2,if_neg k4,if_neg k5,if_neg k6,if_neg k7,if_pos k8,ur,jt,du,<- ev,<- ab,<- hb2,<- dt]
     congr 2
    obtain⟨TT,ag⟩:∃ TT:List (Nat×Nat×Value),TT=((0,198,vP g o)::(1,199,vP g o)::(2,200,vP g (o+20))::(3,201,vI h.rows)::(4,202,.bool b0)::(5,203,.bool b0)::(6,204,(bif b0 then vP g o else undef))::(7,205,(bif b0 then vP g o else undef))::(8,206,(bif b0 then vP g (o+21) else undef))::(9,207,(bif b0 then .slice A l.length cp else undef))::(10,208,(bif b0 then vI (l.length:Nat) else undef))::(11,209,(bif b0 then .bool b1 else undef))::(12,210,.bool c1)::(13,211,.bool c1)::(14,212,(bif c1 then vP g o else undef))::(15,213,(bif c1 then vP g o else undef))::(16,214,(bif c1 then vP g (o+21) else undef))::(17,215,(bif c1 then .slice A l.length cp else undef))::(18,216,(bif c1 then vI (l.length:Nat) else undef))::(19,217,(bif c1 then vP g o else undef))::(20,218,(bif c1 then vP g o else undef))::(21,219,(bif c1 then vP g (o+20) else undef))::(22,220,(bif c1 then vI h.rows else undef))::(23,221,(bif c1 then vI ((l.length:Int).tmod h.rows) else undef))::(24,222,(bif c1 then .bool b2 else undef))::(25,223,.bool c2)::(26,224,.bool c2)::(27,225,(bif c2 then vP g o else undef))::(28,226,(bif c2 then vP g o else undef))::(29,227,(bif c2 then vP g o else undef))::(30,228,(bif c2 then vP g (o+20) else undef))::(31,229,(bif c2 then vI h.rows else undef))::(32,230,(bif c2 then vP g o else undef))::(33,231,(bif c2 then vP g o else undef))::(34,232,(bif c2 then vP g (o+21) else undef))::(35,233,(bif c2 then .slice A l.length cp else undef))::(36,234,(bif c2 then cE ⟨0,aD,[],aN,aN,h.rows⟩ A l.length cp else undef))::(37,235,(bif c2 then .bool b3 else undef))::(38,236,.bool c3)::(39,5,.bool c3)::[]):=⟨_,rfl⟩
    have aw:=zh ag;clear ag;refine bK (fun a0=>287<=a0.tmps.size/\a0.eval (.tmp 0)=vP g o/\a0.eval (.tmp 1)=vI above) (198::199::200::201::202::203::204::205::206::207::208::209::210::211::212::213::214::215::216::217::218::219::220::221::222::223::224::225::226::227::228::229::230::231::232::233::234::235::236::5::[]) TT [] (fun w'=>Below w.heap.size w w') (by kernel_rfl) (by kernel_rfl) ⟨hR.sz,hR.s0,hR.s1⟩ iv.out.drew ?_ ?_
    ·rintro a0 ⟨hs,dh,cr⟩ zl a1 w1 zj o ap hI ah ho zd;have ab:Below w.heap.size w w1:=hI.st;have ag:=aw.out
     subst ag;have e0x:=hI.off.q dh;have e1x:=hI.off.q cr;have hj:=Up.of_false ah;have hj12:zj<40:=by rw[ap]at hj;exact hj
     have G:RG _ _ _ _ _ _ _ _ _ _ _:=⟨by rfl,hI,hs,ah,ho,zd⟩
     (iterate 39 rcases zq hj12 with hj12|rfl);obtain rfl:=cz hj12;all_goals obtain rfl:=oi ho
     ·exact G.nl 0 rfl (by simp[execOp,go_sem,e0x])
     ·exact G.nl 1 rfl (by simp[execOp,go_sem,G.t 0])
     ·exact G.nl 2 rfl (by simp[execOp,go_sem,G.t 1])
     ·have bg:=NodeIn.kp HN.out (Kp.of_below ab);have x20:w1.cell? ⟨g,o+20,none⟩=some (vI h.rows):=bg.2 20 (by decide);exact G.nl 3 rfl (by simp[execOp,go_sem,G.t 2,x20])
     ·exact G.nl 4 rfl (by simp[execOp,go_sem,G.t 3,ev])
     ·exact G.nl 5 rfl (by simp[execOp,go_sem,G.t 4])
     ·refine G.gv 5 6 ?_;rintro rfl;simp[execOp,go_sem,e0x]
     ·refine G.gv 5 7 ?_;rintro rfl;simp[execOp,go_sem,G.t 6]
     ·refine G.gv 5 8 ?_;rintro rfl;simp[execOp,go_sem,G.t 7]
     ·refine G.gv 5 9 ?_;rintro rfl;have bg:=NodeIn.kp HN.out (Kp.of_below ab);have x21:w1.cell? ⟨g,o+21,none⟩=some (.slice A l.length cp):=bg.2 21 (by decide);simp[execOp,go_sem,G.t 8,x21]
     ·refine G.gv 5 10 ?_;rintro rfl;simp[go_sem,G.t 9]
     ·refine G.gv 5 11 ?_;rintro rfl;simp[execOp,go_sem,G.t 10,mc]
     ·cases b0
      all_goals exact G.nl 12 rfl (by simp[execOp,go_sem,G.t 5,G.t 11,du])
     ·exact G.nl 13 rfl (by simp[execOp,go_sem,G.t 12])
     ·refine G.gv 13 14 ?_;rintro rfl;simp[execOp,go_sem,e0x]
     ·refine G.gv 13 15 ?_;rintro rfl;simp[execOp,go_sem,G.t 14]
     ·refine G.gv 13 16 ?_;rintro rfl;simp[execOp,go_sem,G.t 15]
     ·refine G.gv 13 17 ?_;rintro rfl;have bg:=NodeIn.kp HN.out (Kp.of_below ab);have x21:w1.cell? ⟨g,o+21,none⟩=some (.slice A l.length cp):=bg.2 21 (by decide);simp[execOp,go_sem,G.t 16,x21]
     ·refine G.gv 13 18 ?_;rintro rfl;simp[go_sem,G.t 17]
     ·refine G.gv 13 19 ?_;rintro rfl;simp[execOp,go_sem,e0x]
     ·refine G.gv 13 20 ?_;rintro rfl;simp[execOp,go_sem,G.t 19]
     ·refine G.gv 13 21 ?_;rintro rfl;simp[execOp,go_sem,G.t 20]
     ·refine G.gv 13 22 ?_;rintro rfl;have bg:=NodeIn.kp HN.out (Kp.of_below ab);have x20:w1.cell? ⟨g,o+20,none⟩=some (vI h.rows):=bg.2 20 (by decide);simp[execOp,go_sem,G.t 21,x20]
     ·refine G.gv 13 23 ?_;rintro rfl;have i7:=bp rfl;simp[execOp,go_sem,G.t 18,G.t 22,cg i7]
     ·refine G.gv 13 24 ?_;rintro rfl;simp[execOp,go_sem,G.t 23,hb2]
     ·cases c1
      all_goals exact G.nl 25 rfl (by simp[execOp,go_sem,G.t 13,G.t 24,jt])
     ·exact G.nl 26 rfl (by simp[execOp,go_sem,G.t 25])
     ·refine G.gv 26 27 ?_;rintro rfl;simp[execOp,go_sem,e0x]
     ·refine G.gv 26 28 ?_;rintro rfl;simp[execOp,go_sem,e0x]
     ·refine G.gv 26 29 ?_;rintro rfl;simp[execOp,go_sem,G.t 28]
     ·refine G.gv 26 30 ?_;rintro rfl;simp[execOp,go_sem,G.t 29]
     ·refine G.gv 26 31 ?_;rintro rfl;have bg:=NodeIn.kp HN.out (Kp.of_below ab);have x20:w1.cell? ⟨g,o+20,none⟩=some (vI h.rows):=bg.2 20 (by decide);simp[execOp,go_sem,G.t 30,x20]
     ·refine G.gv 26 32 ?_;rintro rfl;simp[execOp,go_sem,e0x]
     ·refine G.gv 26 33 ?_;rintro rfl;simp[execOp,go_sem,G.t 32]
     ·refine G.gv 26 34 ?_;rintro rfl;simp[execOp,go_sem,G.t 33]
     ·refine G.gv 26 35 ?_;rintro rfl;have bg:=NodeIn.kp HN.out (Kp.of_below ab);have x21:w1.cell? ⟨g,o+21,none⟩=some (.slice A l.length cp):=bg.2 21 (by decide);simp[execOp,go_sem,G.t 34,x21]
     ·refine G.gv 26 36 ?_;rintro rfl;simp[execOp,go_sem,G.t 31,G.t 35,cE,aH,aD]
     ·have pg:=G.g 26;cases c2
      ·exact G.sk 37 pg
      refine G.cw 37 rfl pg 162 #[vP g o,cE ⟨0,aD,[],aN,aN,h.rows⟩ A l.length cp] (by simp[go_sem,G.t 27,G.t 36]) ?_;have bg:=NodeIn.kp HN.out (Kp.of_below ab);have hB:=dY h ⟨0,aD,[],aN,aN,h.rows⟩ A A l.length l.length cp cp g o w1 bg;dsimp only at hB;rw[k8,decide_eq_true rfl,Bool.and_true]at hB;rw[dt]at hB;refine hB.mono ?_;rintro e w2 ⟨rfl,hb⟩;exact⟨rfl,zU ab hb⟩
     ·cases c2
      all_goals exact G.nl 38 rfl (by simp[execOp,go_sem,G.t 26,G.t 37,ur])
     exact G.nl 39 rfl (by simp[execOp,go_sem,G.t 38])
    intro zl a1 w1 hI bd;have ab:Below w.heap.size w w1:=hI.st;have ag:=aw.out;subst ag;have z5:=hI.ptk 39 rfl (bd 39 (by decide));have hO:=hI.off;clear hI bd aw;exact⟨rfl,hR.off hO (by decide) (by decide),by rw[z5,HL],ab⟩
   refine dC false z10 (by simp[k8]) (by have:=hR.sz;omega) (by have:=hR.sz;omega) (fun a' hO hz=>?_);replace hR:=hR.off hO (by decide) (by decide);replace z10:=(hO.eval (by decide)).trans z10;replace z5:=(hO.eval (by decide)).trans z5;clear hO;simp only[Exit.then];refine wp_cond_false hz ?_;refine wp_seq ?_;by_cases k9:h.kind=9
   ·refine dC true z10 (by simp[k9]) (by have:=hR.sz;omega) (by have:=hR.sz;omega) (fun a' hO hz=>?_);replace hR:=hR.off hO (by decide) (by decide);replace z10:=(hO.eval (by decide)).trans z10;replace z5:=(hO.eval (by decide)).trans z5;clear hO;simp only[Exit.then];refine wp_cond_true hz ?_;obtain⟨b0,ev⟩:∃ x,(above==4)=x:=⟨_,rfl⟩
    obtain⟨s1,fe⟩:∃ x,(NodeH.same h ⟨9,aD,[],aN,aN,0⟩&&decide (l.length=0))=x:=⟨_,rfl⟩
    obtain⟨c1,du⟩:∃ x,x=(b0&&s1):=⟨_,rfl⟩
    have HL:RB=c1:=by
     rw[<- uu.out];unfold aV;rw[if_neg k0,if_neg k13,if_neg k2,if_neg k4,if_neg k5,if_neg k6,if_neg k7,if_neg k8,if_pos k9,du,<- ev,<- fe,show decide (above=4)=(above==4) from by rw[ze];simp,Bool.and_assoc]
    obtain⟨TT,ag⟩:∃ TT:List (Nat×Nat×Value),TT=((0,239,vI above)::(1,240,.bool b0)::(2,241,.bool b0)::(3,242,(bif b0 then vP g o else undef))::(4,243,(bif b0 then cE ⟨0,aD,[],aN,aN,0⟩ none 0 0 else undef))::(5,244,(bif b0 then .bool s1 else undef))::(6,245,.bool c1)::(7,5,.bool c1)::[]):=⟨_,rfl⟩
    have aw:=zh ag;clear ag;refine aS (fun a0=>287<=a0.tmps.size/\a0.eval (.tmp 0)=vP g o/\a0.eval (.tmp 1)=vI above) (239::240::241::242::243::244::245::5::[]) TT [] (fun w'=>Below w.heap.size w w') (by kernel_rfl) ⟨hR.sz,hR.s0,hR.s1⟩ iv.out ?_ ?_
    ·rintro a0 ⟨hs,dh,cr⟩ zl a1 w1 zj o ap hI ah ho zd;have ab:Below w.heap.size w w1:=hI.st;have ag:=aw.out
     subst ag;have e0x:=hI.off.q dh;have e1x:=hI.off.q cr;have hj:=Up.of_false ah;have hj12:zj<8:=by rw[ap]at hj;exact hj
     have G:RG _ _ _ _ _ _ _ _ _ _ _:=⟨by rfl,hI,hs,ah,ho,zd⟩
     (iterate 7 rcases zq hj12 with hj12|rfl);obtain rfl:=cz hj12;all_goals obtain rfl:=oi ho
     ·exact G.nl 0 rfl (by simp[execOp,go_sem,e1x])
     ·exact G.nl 1 rfl (by simp[execOp,go_sem,G.t 0,ev])
     ·exact G.nl 2 rfl (by simp[execOp,go_sem,G.t 1])
     ·refine G.gv 2 3 ?_;rintro rfl;simp[execOp,go_sem,e0x]
     ·refine G.gv 2 4 ?_;rintro rfl;simp[execOp,go_sem,cE,aH,aD]
     ·have pg:=G.g 2;cases b0
      ·exact G.sk 5 pg
      refine G.cw 5 rfl pg 162 #[vP g o,cE ⟨0,aD,[],aN,aN,0⟩ none 0 0] (by simp[go_sem,G.t 3,G.t 4]) ?_;have bg:=NodeIn.kp HN.out (Kp.of_below ab);have hB:=dY h ⟨0,aD,[],aN,aN,0⟩ A none l.length 0 cp 0 g o w1 bg;dsimp only at hB;rw[k9]at hB;rw[fe]at hB;refine hB.mono ?_;rintro e w2 ⟨rfl,hb⟩;exact⟨rfl,zU ab hb⟩
     ·cases b0
      all_goals exact G.nl 6 rfl (by simp[execOp,go_sem,G.t 2,G.t 5,du])
     exact G.nl 7 rfl (by simp[execOp,go_sem,G.t 6])
    intro zl a1 w1 hI bd;have ab:Below w.heap.size w w1:=hI.st;have ag:=aw.out;subst ag;have z5:=hI.ptk 7 rfl (bd 7 (by decide));have hO:=hI.off;clear hI bd aw;exact⟨rfl,hR.off hO (by decide) (by decide),by rw[z5,HL],ab⟩
   refine dC false z10 (by simp[k9]) (by have:=hR.sz;omega) (by have:=hR.sz;omega) (fun a' hO hz=>?_);replace hR:=hR.off hO (by decide) (by decide);replace z10:=(hO.eval (by decide)).trans z10;replace z5:=(hO.eval (by decide)).trans z5;clear hO;simp only[Exit.then];refine wp_cond_false hz ?_;refine wp_skip ?_;exact⟨rfl,hR,by rw[z5,<- uu.out];unfold aV;rw[if_neg k0,if_neg k13,if_neg k2,if_neg k4,if_neg k5,if_neg k6,if_neg k7,if_neg k8,if_neg k9],iv.out⟩
 case rest=>
  rintro e a' w' ⟨rfl,hR,z5,hbw⟩;replace iv:=zh hbw;clear z10 hbw;simp only[Exit.then];refine wp_seq ?_;refine wp_seq ?_;obtain⟨TT,ag⟩:∃ TT:List (Nat×Nat×Value),TT=((0,246,vP g o)::(1,247,vP g o)::(2,248,vP g (o+21))::(3,249,.slice A l.length cp)::(4,250,vI (l.length:Nat))::(5,251,vI 0)::[]):=⟨_,rfl⟩
  have aw:=zh ag;clear ag;refine aS (fun a0=>287<=a0.tmps.size/\a0.eval (.tmp 0)=vP g o/\a0.eval (.tmp 1)=vI above) (246::247::248::249::250::251::[]) TT [] (fun w'=>Below w.heap.size w w') (by kernel_rfl) ⟨hR.sz,hR.s0,hR.s1⟩ iv.out ?_ ?_
  ·rintro a0 ⟨hs,dh,cr⟩ zl a1 w1 zj o ap hI ah ho zd;have ab:Below w.heap.size w w1:=hI.st;have ag:=aw.out
   subst ag;have e0x:=hI.off.q dh;have e1x:=hI.off.q cr;have hj:=Up.of_false ah;have hj12:zj<6:=by rw[ap]at hj;exact hj
   have G:RG _ _ _ _ _ _ _ _ _ _ _:=⟨by rfl,hI,hs,ah,ho,zd⟩
   rcases(by omega:zj=0\/zj=1\/zj=2\/zj=3\/zj=4\/zj=5) with rfl|rfl|rfl|rfl|rfl|rfl<;>obtain rfl:=oi ho
   ·exact G.nl 0 rfl (by simp[execOp,go_sem,e0x])
   ·exact G.nl 1 rfl (by simp[execOp,go_sem,G.t 0])
   ·exact G.nl 2 rfl (by simp[execOp,go_sem,G.t 1])
   ·have bg:=NodeIn.kp HN.out (Kp.of_below ab);have x21:w1.cell? ⟨g,o+21,none⟩=some (.slice A l.length cp):=bg.2 21 (by decide);exact G.nl 3 rfl (by simp[execOp,go_sem,G.t 2,x21])
   ·exact G.nl 4 rfl (by simp[go_sem,G.t 3])
   exact G.nl 5 rfl (by simp[execOp,go_sem])
  intro zl a1 w1 hI bd;have ab:Below w.heap.size w w1:=hI.st;have ag:=aw.out;subst ag;have z250:=hI.ptk 4 rfl (bd 4 (by decide));have z251:=hI.ptk 5 rfl (bd 5 (by decide));have hO:=hI.off;clear hI bd aw;replace hR:=hR.off hO (by decide) (by decide);replace z5:=(hO.eval (by decide)).trans z5;clear hO;replace iv:=zh ab;generalize a1=a6 at *;generalize w1=w6 at *;simp only[Exit.then];refine wp_block ?_;refine wp_loop_ghost (fun k a' w'=>∃ i:Nat,i<=l.length/\k=l.length-i/\RF a' g o above/\a'.eval (.tmp 250)=vI (l.length:Int)/\a'.eval (.tmp 251)=vI (i:Int)/\a'.eval (.tmp 5)=.bool (RB&&aT (l.take i) h.kind)/\Below w.heap.size w w') l.length ⟨0,zm _,rfl,hR,z250,z251,by rw[z5];simp[aT],iv.out⟩ ?_;clear hR z5 z250 z251 iv ab;rintro k a7 w7 ⟨i,hi,rfl,hR,z250,z251,z5,hbw⟩;have iv:=zh hbw;clear hbw;refine wp_seq ?_
  obtain⟨lt,hlt⟩:∃ x,decide (i<l.length)=x:=⟨_,rfl⟩
  obtain⟨TT,ag⟩:∃ TT:List (Nat×Nat×Value),TT=((0,252,.bool lt)::[]):=⟨_,rfl⟩
  have aw:=zh ag;clear ag;refine aS (fun a0=>287<=a0.tmps.size/\a0.eval (.tmp 0)=vP g o/\a0.eval (.tmp 1)=vI above/\a0.eval (.tmp 250)=vI (l.length:Int)/\a0.eval (.tmp 251)=vI (i:Int)) (252::[]) TT [] (fun w'=>Below w.heap.size w w') (by kernel_rfl) ⟨hR.sz,hR.s0,hR.s1,z250,z251⟩ iv.out ?_ ?_
  ·rintro a0 ⟨hs,dh,cr,lm,ln⟩ zl a1 w1 zj o ap hI ah ho zd;have ab:Below w.heap.size w w1:=hI.st;have ag:=aw.out
   subst ag;have e0x:=hI.off.q dh;have e1x:=hI.off.q cr;have e250x:=hI.off.q lm;have e251x:=hI.off.q ln;have hj:=Up.of_false ah;have hj12:zj<1:=by rw[ap]at hj;exact hj
   have G:RG _ _ _ _ _ _ _ _ _ _ _:=⟨by rfl,hI,hs,ah,ho,zd⟩
   rcases(by omega:zj=0) with rfl;obtain rfl:=oi ho;exact G.nl 0 rfl (by simp[execOp,go_sem,e250x,e251x,hlt])
  intro zl a1 w1 hI bd;have ab:Below w.heap.size w w1:=hI.st;have ag:=aw.out;subst ag;have z252:=hI.ptk 0 rfl (bd 0 (by decide));have hO:=hI.off;clear hI bd aw;replace hR:=hR.off hO (by decide) (by decide);replace z5:=(hO.eval (by decide)).trans z5;replace z250:=(hO.eval (by decide)).trans z250;replace z251:=(hO.eval (by decide)).trans z251;clear hO;replace iv:=zh ab;clear ab;generalize a1=a8 at *;generalize w1=w8 at *;simp only[Exit.then];refine wp_seq ?_;cases lt
  ·refine wp_cond_false z252 (wp_exit ?_);have hie:i=l.length:=by have:=of_decide_eq_false hlt;omega
   subst hie;rw[List.take_length]at z5;simp only[Exit.then,Exit.inBlock,if_true];refine wp_seq ?_;obtain⟨TT,ag⟩:∃ TT:List (Nat×Nat×Value),TT=((0,286,.bool (RB&&aT l h.kind))::(1,4,.bool (RB&&aT l h.kind))::[]):=⟨_,rfl⟩
   have aw:=zh ag;clear ag;refine aS (fun a0=>287<=a0.tmps.size/\a0.eval (.tmp 0)=vP g o/\a0.eval (.tmp 1)=vI above/\a0.eval (.tmp 5)=.bool (RB&&aT l h.kind)) (286::4::[]) TT [] (fun w'=>Below w.heap.size w w') (by kernel_rfl) ⟨hR.sz,hR.s0,hR.s1,z5⟩ iv.out ?_ ?_
   ·rintro a0 ⟨hs,dh,cr,pu⟩ zl a1 w1 zj o ap hI ah ho zd;have ab:Below w.heap.size w w1:=hI.st;have ag:=aw.out
    subst ag;have e0x:=hI.off.q dh;have e1x:=hI.off.q cr;have e5x:=hI.off.q pu;have hj:=Up.of_false ah;have hj12:zj<2:=by rw[ap]at hj;exact hj
    have G:RG _ _ _ _ _ _ _ _ _ _ _:=⟨by rfl,hI,hs,ah,ho,zd⟩
    rcases(by omega:zj=0\/zj=1) with rfl|rfl<;>obtain rfl:=oi ho
    ·exact G.nl 0 rfl (by simp[execOp,go_sem,e5x])
    exact G.nl 1 rfl (by simp[execOp,go_sem,G.t 0])
   intro zl a1 w1 hI bd;have ab:Below w.heap.size w w1:=hI.st;have ag:=aw.out;subst ag;have z4:=hI.ptk 1 rfl (bd 1 (by decide));have hO:=hI.off;clear hI bd aw;replace hR:=hR.off hO (by decide) (by decide);simp only[Exit.then];refine wp_ret ?_;exact uDP rfl hR.df z4 ⟨rfl,ab⟩
  refine wp_cond_true z252 (wp_skip ?_);have lc:i<l.length:=by have:=of_decide_eq_true hlt;omega
  clear hlt z252;simp only[Exit.then];refine wp_seq ?_;refine wp_block ?_;refine wp_seq ?_;obtain⟨TT,ag⟩:∃ TT:List (Nat×Nat×Value),TT=((0,253,vI (i:Int))::(1,6,vI (i:Int))::[]):=⟨_,rfl⟩
  have aw:=zh ag;clear ag;refine aS (fun a0=>287<=a0.tmps.size/\a0.eval (.tmp 0)=vP g o/\a0.eval (.tmp 1)=vI above/\a0.eval (.tmp 250)=vI (l.length:Int)/\a0.eval (.tmp 251)=vI (i:Int)) (253::6::[]) TT [] (fun w'=>Below w.heap.size w w') (by kernel_rfl) ⟨hR.sz,hR.s0,hR.s1,z250,z251⟩ iv.out ?_ ?_
  ·rintro a0 ⟨hs,dh,cr,lm,ln⟩ zl a1 w1 zj o ap hI ah ho zd;have ab:Below w.heap.size w w1:=hI.st;have ag:=aw.out
   subst ag;have e0x:=hI.off.q dh;have e1x:=hI.off.q cr;have e250x:=hI.off.q lm;have e251x:=hI.off.q ln;have hj:=Up.of_false ah;have hj12:zj<2:=by rw[ap]at hj;exact hj
   have G:RG _ _ _ _ _ _ _ _ _ _ _:=⟨by rfl,hI,hs,ah,ho,zd⟩
   rcases(by omega:zj=0\/zj=1) with rfl|rfl<;>obtain rfl:=oi ho
   ·exact G.nl 0 rfl (by simp[execOp,go_sem,e251x])
   exact G.nl 1 rfl (by simp[execOp,go_sem,G.t 0])
  intro zl a1 w1 hI bd;have ab:Below w.heap.size w w1:=hI.st;have ag:=aw.out;subst ag;have z6:=hI.ptk 1 rfl (bd 1 (by decide));have hO:=hI.off;clear hI bd aw;replace hR:=hR.off hO (by decide) (by decide);replace z5:=(hO.eval (by decide)).trans z5;replace z250:=(hO.eval (by decide)).trans z250;replace z251:=(hO.eval (by decide)).trans z251;clear hO;replace iv:=zh ab;clear ab;generalize a1=a9 at *;generalize w1=w9 at *;simp only[Exit.then];refine wp_seq ?_;refine wp_seq ?_;obtain⟨pv,hpv⟩:∃ x,(RB&&aT (l.take i) h.kind)=x:=⟨_,rfl⟩
  rw[hpv]at z5;obtain⟨TT,ag⟩:∃ TT:List (Nat×Nat×Value),TT=((0,254,.bool pv)::(1,255,.bool (!pv))::[]):=⟨_,rfl⟩
  have aw:=zh ag;clear ag;refine aS (fun a0=>287<=a0.tmps.size/\a0.eval (.tmp 0)=vP g o/\a0.eval (.tmp 1)=vI above/\a0.eval (.tmp 250)=vI (l.length:Int)/\a0.eval (.tmp 251)=vI (i:Int)/\a0.eval (.tmp 5)=.bool pv/\a0.eval (.tmp 6)=vI (i:Int)) (254::255::[]) TT [] (fun w'=>Below w.heap.size w w') (by kernel_rfl) ⟨hR.sz,hR.s0,hR.s1,z250,z251,z5,z6⟩ iv.out ?_ ?_
  ·rintro a0 ⟨hs,dh,cr,lm,ln,pu,vh⟩ zl a1 w1 zj o ap hI ah ho zd;have ab:Below w.heap.size w w1:=hI.st;have ag:=aw.out
   subst ag;have e0x:=hI.off.q dh;have e1x:=hI.off.q cr;have e250x:=hI.off.q lm;have e251x:=hI.off.q ln;have e5x:=hI.off.q pu;have e6x:=hI.off.q vh;have hj:=Up.of_false ah;have hj12:zj<2:=by rw[ap]at hj;exact hj
   have G:RG _ _ _ _ _ _ _ _ _ _ _:=⟨by rfl,hI,hs,ah,ho,zd⟩
   rcases(by omega:zj=0\/zj=1) with rfl|rfl<;>obtain rfl:=oi ho
   ·exact G.nl 0 rfl (by simp[execOp,go_sem,e5x])
   exact G.nl 1 rfl (by simp[execOp,go_sem,G.t 0])
  intro zl a1 w1 hI bd;have ab:Below w.heap.size w w1:=hI.st;have ag:=aw.out;subst ag;have z255:=hI.ptk 1 rfl (bd 1 (by decide));have hO:=hI.off;clear hI bd aw;replace hR:=hR.off hO (by decide) (by decide);replace z5:=(hO.eval (by decide)).trans z5;replace z250:=(hO.eval (by decide)).trans z250;replace z251:=(hO.eval (by decide)).trans z251;replace z6:=(hO.eval (by decide)).trans z6;clear hO;replace iv:=zh ab;clear ab;generalize a1=a10 at *;generalize w1=w10 at *;simp only[Exit.then];cases pv
  ·refine wp_cond_true z255 ?_;refine wp_seq ?_;obtain⟨TT,ag⟩:∃ TT:List (Nat×Nat×Value),TT=((0,4,.bool false)::[]):=⟨_,rfl⟩
   have aw:=zh ag;clear ag;refine aS (fun a0=>287<=a0.tmps.size/\a0.eval (.tmp 0)=vP g o/\a0.eval (.tmp 1)=vI above) (4::[]) TT [] (fun w'=>Below w.heap.size w w') (by kernel_rfl) ⟨hR.sz,hR.s0,hR.s1⟩ iv.out ?_ ?_
   ·rintro a0 ⟨hs,dh,cr⟩ zl a1 w1 zj o ap hI ah ho zd;have ab:Below w.heap.size w w1:=hI.st;have ag:=aw.out
    subst ag;have e0x:=hI.off.q dh;have e1x:=hI.off.q cr;have hj:=Up.of_false ah;have hj12:zj<1:=by rw[ap]at hj;exact hj
    have G:RG _ _ _ _ _ _ _ _ _ _ _:=⟨by rfl,hI,hs,ah,ho,zd⟩
    rcases(by omega:zj=0) with rfl;obtain rfl:=oi ho;exact G.nl 0 rfl (by simp[execOp,go_sem])
   intro zl a1 w1 hI bd;have ab:Below w.heap.size w w1:=hI.st;have ag:=aw.out;subst ag;have z4:=hI.ptk 0 rfl (bd 0 (by decide));have hO:=hI.off;clear hI bd aw;replace hR:=hR.off hO (by decide) (by decide);simp only[Exit.then];refine wp_ret ?_;simp only[Exit.then,Exit.inBlock];have hfin:(RB&&aT l h.kind)=false:=by
    cases RB
    ·rfl
    rw[Bool.true_and]at hpv ⊢;exact xT i hpv
   exact uDP rfl hR.df z4 ⟨by rw[hfin],ab⟩
  refine wp_cond_false z255 (wp_skip ?_);simp only[Exit.then];obtain⟨g',o',hA,hW⟩:=HK.out i lc;subst hA;obtain⟨u,hu⟩:=zE (l[i]'lc)
  rw[hu]at hW;obtain⟨b0,ev⟩:∃ x,(h.kind != 8)=x:=⟨_,rfl⟩
  obtain⟨b1,ab⟩:∃ x,(u.h.kind==0)=x:=⟨_,rfl⟩
  have mc:=ab;clear ab;obtain⟨b2,hb2⟩:∃ x,u.right h.kind=x:=⟨_,rfl⟩
  obtain⟨d,hd⟩:∃ x,x=(b0||b1):=⟨_,rfl⟩
  obtain⟨e,he⟩:∃ x,x=(d&&b2):=⟨_,rfl⟩
  have tp:(i:Int)<(l.length:Int):=by omega
  obtain⟨TT,ag⟩:∃ TT:List (Nat×Nat×Value),TT=((0,256,vP g o)::(1,257,vP g o)::(2,258,vP g o)::(3,259,vI h.kind)::(4,260,.bool b0)::(5,261,.bool b0)::(6,262,(bif b0 then undef else vP g o))::(7,263,(bif b0 then undef else vP g o))::(8,264,(bif b0 then undef else vP g (o+21)))::(9,265,(bif b0 then undef else .slice (some ⟨g',o',none⟩) l.length cp))::(10,266,(bif b0 then undef else vI (i:Int)))::(11,267,(bif b0 then undef else vP g' (o'+i*22)))::(12,268,(bif b0 then undef else vP g' (o'+i*22)))::(13,269,(bif b0 then undef else vI u.h.kind))::(14,270,(bif b0 then undef else .bool b1))::(15,271,.bool d)::(16,272,.bool d)::(17,273,(bif d then vP g o else undef))::(18,274,(bif d then vP g o else undef))::(19,275,(bif d then vP g (o+21) else undef))::(20,276,(bif d then .slice (some ⟨g',o',none⟩) l.length cp else undef))::(21,277,(bif d then vI (i:Int) else undef))::(22,278,(bif d then vP g' (o'+i*22) else undef))::(23,279,(bif d then vP g o else undef))::(24,280,(bif d then vP g o else undef))::(25,281,(bif d then vP g o else undef))::(26,282,(bif d then vI h.kind else undef))::(27,283,(bif d then .bool b2 else undef))::(28,284,.bool e)::(29,5,.bool e)::[]):=⟨_,rfl⟩
  have aw:=zh ag;clear ag;refine bK (fun a0=>287<=a0.tmps.size/\a0.eval (.tmp 0)=vP g o/\a0.eval (.tmp 1)=vI above/\a0.eval (.tmp 6)=vI (i:Int)/\a0.eval (.tmp 250)=vI (l.length:Int)/\a0.eval (.tmp 251)=vI (i:Int)) (256::257::258::259::260::261::262::263::264::265::266::267::268::269::270::271::272::273::274::275::276::277::278::279::280::281::282::283::284::5::[]) TT [] (fun w'=>Below w.heap.size w w') (by kernel_rfl) (by kernel_rfl) ⟨hR.sz,hR.s0,hR.s1,z6,z250,z251⟩ iv.out.drew ?_ ?_
  ·rintro a0 ⟨hs,dh,cr,vh,lm,ln⟩ zl a1 w1 zj o ap hI ah ho zd;have ab:Below w.heap.size w w1:=hI.st;have ag:=aw.out
   subst ag;have e0x:=hI.off.q dh;have e1x:=hI.off.q cr;have e6x:=hI.off.q vh;have e250x:=hI.off.q lm;have e251x:=hI.off.q ln;have hj:=Up.of_false ah;have hj12:zj<30:=by rw[ap]at hj;exact hj
   have G:RG _ _ _ _ _ _ _ _ _ _ _:=⟨by rfl,hI,hs,ah,ho,zd⟩
   (iterate 29 rcases zq hj12 with hj12|rfl);obtain rfl:=cz hj12;all_goals obtain rfl:=oi ho
   ·exact G.nl 0 rfl (by simp[execOp,go_sem,e0x])
   ·exact G.nl 1 rfl (by simp[execOp,go_sem,G.t 0])
   ·exact G.nl 2 rfl (by simp[execOp,go_sem,G.t 1])
   ·have bg:=NodeIn.kp HN.out (Kp.of_below ab);have x0:w1.cell? ⟨g,o,none⟩=some (vI h.kind):=bg.2 0 (by decide);exact G.nl 3 rfl (by simp[execOp,go_sem,G.t 2,x0])
   ·exact G.nl 4 rfl (by simp[execOp,go_sem,G.t 3,ev])
   ·exact G.nl 5 rfl (by simp[execOp,go_sem,G.t 4])
   ·refine G.gn 5 6 ?_;rintro rfl;simp[execOp,go_sem,e0x]
   ·refine G.gn 5 7 ?_;rintro rfl;simp[execOp,go_sem,G.t 6]
   ·refine G.gn 5 8 ?_;rintro rfl;simp[execOp,go_sem,G.t 7]
   ·refine G.gn 5 9 ?_;rintro rfl;have bg:=NodeIn.kp HN.out (Kp.of_below ab);have x21:w1.cell? ⟨g,o+21,none⟩=some (.slice (some ⟨g',o',none⟩) l.length cp):=bg.2 21 (by decide);simp[execOp,go_sem,G.t 8,x21]
   ·refine G.gn 5 10 ?_;rintro rfl;simp[execOp,go_sem,e6x]
   ·refine G.gn 5 11 ?_;rintro rfl;simp[execOp,go_sem,G.t 9,G.t 10,tp]
   ·refine G.gn 5 12 ?_;rintro rfl;simp[execOp,go_sem,G.t 11]
   ·refine G.gn 5 13 ?_;rintro rfl;have xk:=(hW w1 ab).1;simp[execOp,go_sem,G.t 12,xk]
   ·refine G.gn 5 14 ?_;rintro rfl;simp[execOp,go_sem,G.t 13,mc]
   ·cases b0
    all_goals exact G.nl 15 rfl (by simp[execOp,go_sem,G.t 5,G.t 14,hd])
   ·exact G.nl 16 rfl (by simp[execOp,go_sem,G.t 15])
   ·refine G.gv 16 17 ?_;rintro rfl;simp[execOp,go_sem,e0x]
   ·refine G.gv 16 18 ?_;rintro rfl;simp[execOp,go_sem,G.t 17]
   ·refine G.gv 16 19 ?_;rintro rfl;simp[execOp,go_sem,G.t 18]
   ·refine G.gv 16 20 ?_;rintro rfl;have bg:=NodeIn.kp HN.out (Kp.of_below ab);have x21:w1.cell? ⟨g,o+21,none⟩=some (.slice (some ⟨g',o',none⟩) l.length cp):=bg.2 21 (by decide);simp[execOp,go_sem,G.t 19,x21]
   ·refine G.gv 16 21 ?_;rintro rfl;simp[execOp,go_sem,e6x]
   ·refine G.gv 16 22 ?_;rintro rfl;simp[execOp,go_sem,G.t 20,G.t 21,tp]
   ·refine G.gv 16 23 ?_;rintro rfl;simp[execOp,go_sem,e0x]
   ·refine G.gv 16 24 ?_;rintro rfl;simp[execOp,go_sem,G.t 23]
   ·refine G.gv 16 25 ?_;rintro rfl;simp[execOp,go_sem,G.t 24]
   ·refine G.gv 16 26 ?_;rintro rfl;have bg:=NodeIn.kp HN.out (Kp.of_below ab);have x0:w1.cell? ⟨g,o,none⟩=some (vI h.kind):=bg.2 0 (by decide);simp[execOp,go_sem,G.t 25,x0]
   ·have pg:=G.g 16;cases d
    ·exact G.sk 27 pg
    refine G.cw 27 rfl pg 97 #[vP g' (o'+i*22),vI h.kind] (by simp[go_sem,G.t 22,G.t 26]) ?_;have hB:=(hW w1 ab).2 h.kind;rw[hb2]at hB;refine hB.mono ?_;rintro e w2 ⟨rfl,hb⟩;exact⟨rfl,zU ab hb⟩
   ·cases d
    all_goals exact G.nl 28 rfl (by simp[execOp,go_sem,G.t 16,G.t 27,he])
   exact G.nl 29 rfl (by simp[execOp,go_sem,G.t 28])
  intro zl a1 w1 hI bd;have ab:Below w.heap.size w w1:=hI.st;have ag:=aw.out;subst ag;have z5:=hI.ptk 29 rfl (bd 29 (by decide));have hO:=hI.off;clear hI bd aw;replace hR:=hR.off hO (by decide) (by decide);replace z250:=(hO.eval (by decide)).trans z250;replace z251:=(hO.eval (by decide)).trans z251;clear hO;replace iv:=zh ab;clear ab;generalize a1=a11 at *;generalize w1=w11 at *;simp only[Exit.then,Exit.inBlock];have hnx:(i:Int)+1<=1000000:=by have:=fm.out;omega
  have hwi:IntKind.i64.wrap ((i:Int)+1)=(i:Int)+1:=IntWalk.i64_in _ (by omega);refine wp_inc z251 hwi (by have:=hR.sz;omega) (by have:=hR.sz;omega) (fun a' hO hz=>?_);simp only[Exit.then];refine⟨l.length-(i+1),by omega,i+1,by omega,rfl,hR.off hO (by decide) (by decide),(hO.eval (by decide)).trans z250,hz.trans rfl,?_,iv.out⟩;rw[(hO.eval (by decide)).trans z5,yw lc,xS,<- Bool.and_assoc,hpv,Bool.true_and,hu,he,hd,<- ev,<- mc,<- hb2]
  congr 2
  congr 1
  all_goals first|rfl |(rw[ze];simp)
end Go.Proofs.YtjfihpaeglpblaaGreatDoor
