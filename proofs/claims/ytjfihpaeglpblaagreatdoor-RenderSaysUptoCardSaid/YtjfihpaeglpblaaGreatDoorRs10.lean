/-
  Lemmas, part 10: PaJ PaM PaB PaC PaD PaN.
-/
import Derived.Lib.SlBytesConst
import Derived.Test.YtjfihpaeglpblaaGreatDoorRs9
set_option maxHeartbeats 100000000
set_option maxRecDepth 1000000
namespace Go.Proofs.YtjfihpaeglpblaaGreatDoor
open Go.RowKit
theorem inT{α:Type}{l:List α}{x:α}(n:Nat)(h:l[n]?=some x):x∈l:=List.mem_of_getElem? h
theorem GU.ptk{ops:Array Oper}{S:List Nat}{T:List (Nat×Nat×Value)}{ms:List (Nat×(World->Prop))}{P:World->Prop}{a0 a:Act}{zl:Array Bool}{w:World}(hI:GU ops S T ms P a0 zl a w)(n:Nat){i s:Nat}{v:Value}(h:T[n]?=some (i,s,v))(hu:Up zl i):a.eval (.tmp s)=v:=hI.pt (i,s,v) (inT n h) hu
theorem nomk{i:Nat}:∀ m∈([]:List (Nat×(World->Prop))),m.1≠i:=fun m hm=>by cases hm
theorem uEI(h h':NodeH)(A A':Option Addr)(n n' cp lc g1 o1 g2 o2:Nat)(w:World)(h1:NodeIn w g1 o1 h A n cp)(h2:NodeIn w g2 o2 h' A' n' lc) :
  Calls Tryz.prog 207 #[vP g1 o1,vP g2 o2] w fun e w'=>e=.returned (.bool (NodeH.same h h'&&decide (n=n')))/\Below w.heap.size w w':=by
 have HB:Hid (Below w.heap.size w w.drew):=zh zB.drew;have k0:w.drew.cell? ⟨g1,o1,none⟩=some (vI h.kind):=h1.2 0 (by decide);have m0:w.drew.cell? ⟨g2,o2,none⟩=some (vI h'.kind):=h2.2 0 (by decide);have k7:w.drew.cell? ⟨g1,o1+7,none⟩=some (vT h.name):=h1.2 7 (by decide);have m7:w.drew.cell? ⟨g2,o2+7,none⟩=some (vT h'.name):=h2.2 7 (by decide);have k20:w.drew.cell? ⟨g1,o1+20,none⟩=some (vI h.rows):=h1.2 20 (by decide);have m20:w.drew.cell? ⟨g2,o2+20,none⟩=some (vI h'.rows):=h2.2 20 (by decide);have k21:w.drew.cell? ⟨g1,o1+21,none⟩=some (.slice A n cp):=h1.2 21 (by decide);have m21:w.drew.cell? ⟨g2,o2+21,none⟩=some (.slice A' n' lc):=h2.2 21 (by decide);obtain⟨VA,hVA⟩:∃ VA:List Value,VA=[vI h.v.kind,vI h.v.mant,vI h.v.exp,vT h.v.text,.bool h.v.truth,vI h.v.fault]:=⟨_,rfl⟩
 obtain⟨VB,hVB⟩:∃ VA:List Value,VA=[vI h'.v.kind,vI h'.v.mant,vI h'.v.exp,vT h'.v.text,.bool h'.v.truth,vI h'.v.fault]:=⟨_,rfl⟩
 obtain⟨RA,hRA⟩:∃ VA:List Value,VA=[vI h.a.row.a,vI h.a.row.n,vI h.a.col.a,vI h.a.col.n,.bool h.a.fr,.bool h.a.fc,vI h.b.row.a,vI h.b.row.n,vI h.b.col.a,vI h.b.col.n,.bool h.b.fr,.bool h.b.fc]:=⟨_,rfl⟩
 obtain⟨RB,xu⟩:∃ VA:List Value,VA=[vI h'.a.row.a,vI h'.a.row.n,vI h'.a.col.a,vI h'.a.col.n,.bool h'.a.fr,.bool h'.a.fc,vI h'.b.row.a,vI h'.b.row.n,vI h'.b.col.a,vI h'.b.col.n,.bool h'.b.fr,.bool h'.b.fc]:=⟨_,rfl⟩
 have l1:Hid (w.drew.rangeAt g1 (o1+1) VA):=zh (by rw[hVA];exact NodeIn.sub (W:=w.drew) h1 1 _ (by simp) rfl);have l2:Hid (w.drew.rangeAt g2 (o2+1) VB):=zh (by rw[hVB];exact NodeIn.sub (W:=w.drew) h2 1 _ (by simp) rfl);have l3:Hid (w.drew.rangeAt g1 (o1+8) RA):=zh (by rw[hRA];exact NodeIn.sub (W:=w.drew) h1 8 _ (by simp) rfl);have l4:Hid (w.drew.rangeAt g2 (o2+8) RB):=zh (by rw[xu];exact NodeIn.sub (W:=w.drew) h2 8 _ (by simp) rfl);have i1:(Tryz.prog.info? 25).map (·.size)=some VA.length:=by rw[hVA];exact gX
 have i2:(Tryz.prog.info? 25).map (·.size)=some VB.length:=by rw[hVB];exact gX
 have i3:(Tryz.prog.info? 31).map (·.size)=some RA.length:=by rw[hRA];exact gW
 have i4:(Tryz.prog.info? 31).map (·.size)=some RB.length:=by rw[xu];exact gW
 have hev:∀ w:World,(binOp .eql 25 (.agg VA.toArray) (.agg VB.toArray)).run Tryz.prog w=.ok (.bool (bC h.v h'.v)) w:=by intro w;rw[hVA,hVB];exact eG _ _ _ _ _ _ _ _ _ _ _ _ w
 have hea:∀ w:World,(binOp .eql 31 (.agg RA.toArray) (.agg RB.toArray)).run Tryz.prog w=.ok (.bool (decide (h.a=h'.a)&&decide (h.b=h'.b))) w:=by intro w;rw[hRA,xu];exact eql_area h.a h.b h'.a h'.b w
 clear hVA hVB hRA xu h1 h2;obtain⟨bb,tm⟩:∃ bb,(NodeH.same h h'&&decide (n=n'))=bb:=⟨_,rfl⟩
 have ua:Hid (bb=(decide (h.kind=h'.kind)&&bC h.v h'.v&&decide (h.name=h'.name)&&(decide (h.a=h'.a)&&decide (h.b=h'.b))&&decide (h.rows=h'.rows)&&decide (n=n'))):=zh (by rw[<- tm];unfold NodeH.same;rw[show (h.name==h'.name)=decide (h.name=h'.name) from by rw[ze];simp];cases bC h.v h'.v <;> cases decide (h.a=h'.a) <;> cases decide (h.b=h'.b) <;> cases decide (h.kind=h'.kind) <;> cases decide (h.name=h'.name) <;> cases decide (h.rows=h'.rows) <;> cases decide (n=n') <;> rfl);rw[tm];clear tm;generalize du:bC h.v h'.v=b1 at *;generalize rh:(decide (h.a=h'.a)&&decide (h.b=h'.b))=b3 at *;clear du rh;generalize h.kind=x0 at *;generalize h'.kind=y0 at *;generalize h.name=x7 at *;generalize h'.name=y7 at *;generalize h.rows=x20 at *;generalize h'.rows=y20 at *;obtain⟨b0,e0⟩:=zE (decide (x0=y0))
 obtain⟨b2,e2⟩:=zE (decide (x7=y7))
 obtain⟨b4,e4⟩:=zE (decide (x20=y20))
 obtain⟨b5,e5⟩:=zE (decide (n=n'))
 rw[e0,e2,e4,e5]at ua;have e0':(x0==y0)=b0:=by rw[<- e0,ze];simp
 have e2':(x7==y7)=b2:=by rw[<- e2,ze];simp
 have e4':(x20==y20)=b4:=by rw[<- e4,ze];simp
 have e5':(n==n')=b5:=by rw[<- e5,ze];simp
 have e5z:((n:Int)==(n':Int))=b5:=by rw[<- e5,ze];simp;omega
 obtain⟨c1,h1⟩:∃ c1,c1=(b0&&b1):=⟨_,rfl⟩
 obtain⟨c2,h2⟩:∃ c2,c2=(c1&&b2):=⟨_,rfl⟩
 obtain⟨c3,h3⟩:∃ c3,c3=(c2&&b3):=⟨_,rfl⟩
 obtain⟨c4,h4⟩:∃ c4,c4=(c3&&b4):=⟨_,rfl⟩
 obtain⟨c5,h5⟩:∃ c5,c5=(c4&&b5):=⟨_,rfl⟩
 rw[<- h1,<- h2,<- h3,<- h4,<- h5]at ua;have HH:=zh (And.intro h1 (And.intro h2 (And.intro h3 (And.intro h4 (And.intro h5 (And.intro e0 (And.intro e2 (And.intro e4 (And.intro e5 (And.intro e0' (And.intro e2' (And.intro e4' (And.intro e5' e5z)))))))))))));clear h1 h2 h3 h4 h5 e0 e2 e4 e5 e0' e2' e4' e5' e5z
 go_in
 go_upto_region 1 with fail
 dsimp only[List.append];obtain⟨h1,h2,h3,h4,h5,e0,e2,e4,e5,e0',e2',e4',e5',e5z⟩:=HH.out
 obtain⟨TT,ah⟩:∃ TT:List (Nat×Nat×Value),TT=((0,5,vP g1 o1)::(1,6,vP g1 o1)::(2,7,vP g1 o1)::(3,8,vI x0)::(4,9,vP g2 o2)::(5,10,vP g2 o2)::(6,11,vP g2 o2)::(7,12,vI y0)::(8,13,.bool b0)::(9,14,.bool b0)::(10,15,(bif b0 then vP g1 o1 else undef))::(11,16,(bif b0 then vP g1 o1 else undef))::(12,17,(bif b0 then vP g1 (o1+1) else undef))::(13,18,(bif b0 then .agg VA.toArray else undef))::(14,19,(bif b0 then vP g2 o2 else undef))::(15,20,(bif b0 then vP g2 o2 else undef))::(16,21,(bif b0 then vP g2 (o2+1) else undef))::(17,22,(bif b0 then .agg VB.toArray else undef))::(18,23,(bif b0 then .bool b1 else undef))::(19,24,.bool c1)::(20,25,.bool c1)::(21,26,(bif c1 then vP g1 o1 else undef))::(22,27,(bif c1 then vP g1 o1 else undef))::(23,28,(bif c1 then vP g1 (o1+7) else undef))::(24,29,(bif c1 then vT x7 else undef))::(25,30,(bif c1 then vP g2 o2 else undef))::(26,31,(bif c1 then vP g2 o2 else undef))::(27,32,(bif c1 then vP g2 (o2+7) else undef))::(28,33,(bif c1 then vT y7 else undef))::(29,34,(bif c1 then .bool b2 else undef))::(30,35,.bool c2)::(31,36,.bool c2)::(32,37,(bif c2 then vP g1 o1 else undef))::(33,38,(bif c2 then vP g1 o1 else undef))::(34,39,(bif c2 then vP g1 (o1+8) else undef))::(35,40,(bif c2 then .agg RA.toArray else undef))::(36,41,(bif c2 then vP g2 o2 else undef))::(37,42,(bif c2 then vP g2 o2 else undef))::(38,43,(bif c2 then vP g2 (o2+8) else undef))::(39,44,(bif c2 then .agg RB.toArray else undef))::(40,45,(bif c2 then .bool b3 else undef))::(41,46,.bool c3)::(42,47,.bool c3)::(43,48,(bif c3 then vP g1 o1 else undef))::(44,49,(bif c3 then vP g1 o1 else undef))::(45,50,(bif c3 then vP g1 (o1+20) else undef))::(46,51,(bif c3 then vI x20 else undef))::(47,52,(bif c3 then vP g2 o2 else undef))::(48,53,(bif c3 then vP g2 o2 else undef))::(49,54,(bif c3 then vP g2 (o2+20) else undef))::(50,55,(bif c3 then vI y20 else undef))::(51,56,(bif c3 then .bool b4 else undef))::(52,57,.bool c4)::(53,58,.bool c4)::(54,59,(bif c4 then vP g1 o1 else undef))::(55,60,(bif c4 then vP g1 o1 else undef))::(56,61,(bif c4 then vP g1 (o1+21) else undef))::(57,62,(bif c4 then .slice A n cp else undef))::(58,63,(bif c4 then vI (n:Nat) else undef))::(59,64,(bif c4 then vP g2 o2 else undef))::(60,65,(bif c4 then vP g2 o2 else undef))::(61,66,(bif c4 then vP g2 (o2+21) else undef))::(62,67,(bif c4 then .slice A' n' lc else undef))::(63,68,(bif c4 then vI (n':Nat) else undef))::(64,69,(bif c4 then .bool b5 else undef))::(65,70,.bool c5)::(66,4,.bool c5)::[]):=⟨_,rfl⟩
 have bd:=zh ah;clear ah;refine bV (fun a0=>71<=a0.tmps.size/\a0.eval (.tmp 0)=vP g1 o1/\a0.eval (.tmp 1)=vP g2 o2) (5::6::7::8::9::10::11::12::13::14::15::16::17::18::19::20::21::22::23::24::25::26::27::28::29::30::31::32::33::34::35::36::37::38::39::40::41::42::43::44::45::46::47::48::49::50::51::52::53::54::55::56::57::58::59::60::61::62::63::64::65::66::67::68::69::70::4::[]) TT [] (fun w'=>w'=w.drew) (by kernel_rfl) (by kernel_rfl) ⟨by simp,rfl,rfl⟩ rfl ?_ ?_
 ·rintro a0 ⟨hs,dv,da⟩ zl a1 w1 zj o aq hI aj ho zd;obtain rfl:w1=w.drew:=hI.st;have ah:=bd.out
  subst ah;have e0x:=hI.off.q dv;have e1x:=hI.off.q da;have hj:=Up.of_false aj;have hj12:zj<67:=by rw[aq]at hj;exact hj
  have G:RG _ _ _ _ _ _ _ _ _ _ _:=⟨by rfl,hI,hs,aj,ho,zd⟩
  (iterate 66 rcases zq hj12 with hj12|rfl);obtain rfl:=cz hj12;all_goals obtain rfl:=oi ho
  ·exact G.nl 0 rfl (by simp[execOp,go_sem,e0x])
  ·exact G.nl 1 rfl (by simp[execOp,go_sem,G.t 0])
  ·exact G.nl 2 rfl (by simp[execOp,go_sem,G.t 1])
  ·exact G.nl 3 rfl (by simp[execOp,go_sem,G.t 2,k0])
  ·exact G.nl 4 rfl (by simp[execOp,go_sem,e1x])
  ·exact G.nl 5 rfl (by simp[execOp,go_sem,G.t 4])
  ·exact G.nl 6 rfl (by simp[execOp,go_sem,G.t 5])
  ·exact G.nl 7 rfl (by simp[execOp,go_sem,G.t 6,m0])
  ·exact G.nl 8 rfl (by simp[execOp,go_sem,G.t 3,G.t 7,e0'])
  ·exact G.nl 9 rfl (by simp[execOp,go_sem,G.t 8])
  ·refine G.gv 9 10 ?_;rintro rfl;simp[execOp,go_sem,e0x]
  ·refine G.gv 9 11 ?_;rintro rfl;simp[execOp,go_sem,G.t 10]
  ·refine G.gv 9 12 ?_;rintro rfl;simp[execOp,go_sem,G.t 11]
  ·refine G.gv 9 13 ?_;rintro rfl;have p12:=G.d 12;exact aQ 25 (.tmp 17) rfl g1 (o1+1) p12 VA _ l1.out Tryz.underlying25 rfl i1
  ·refine G.gv 9 14 ?_;rintro rfl;simp[execOp,go_sem,e1x]
  ·refine G.gv 9 15 ?_;rintro rfl;simp[execOp,go_sem,G.t 14]
  ·refine G.gv 9 16 ?_;rintro rfl;simp[execOp,go_sem,G.t 15]
  ·refine G.gv 9 17 ?_;rintro rfl;have p16:=G.d 16;exact aQ 25 (.tmp 21) rfl g2 (o2+1) p16 VB _ l2.out Tryz.underlying25 rfl i2
  ·refine G.gv 9 18 ?_;rintro rfl;simp[execOp,go_sem,G.t 13,G.t 17,hev]
  ·cases b0
   all_goals exact G.nl 19 rfl (by simp[execOp,go_sem,G.t 9,G.t 18,h1])
  ·exact G.nl 20 rfl (by simp[execOp,go_sem,G.t 19])
  ·refine G.gv 20 21 ?_;rintro rfl;simp[execOp,go_sem,e0x]
  ·refine G.gv 20 22 ?_;rintro rfl;simp[execOp,go_sem,G.t 21]
  ·refine G.gv 20 23 ?_;rintro rfl;simp[execOp,go_sem,G.t 22]
  ·refine G.gv 20 24 ?_;rintro rfl;simp[execOp,go_sem,G.t 23,k7]
  ·refine G.gv 20 25 ?_;rintro rfl;simp[execOp,go_sem,e1x]
  ·refine G.gv 20 26 ?_;rintro rfl;simp[execOp,go_sem,G.t 25]
  ·refine G.gv 20 27 ?_;rintro rfl;simp[execOp,go_sem,G.t 26]
  ·refine G.gv 20 28 ?_;rintro rfl;simp[execOp,go_sem,G.t 27,m7]
  ·refine G.gv 20 29 ?_;rintro rfl;simp[execOp,go_sem,G.t 24,G.t 28,e2']
  ·cases c1
   all_goals exact G.nl 30 rfl (by simp[execOp,go_sem,G.t 20,G.t 29,h2])
  ·exact G.nl 31 rfl (by simp[execOp,go_sem,G.t 30])
  ·refine G.gv 31 32 ?_;rintro rfl;simp[execOp,go_sem,e0x]
  ·refine G.gv 31 33 ?_;rintro rfl;simp[execOp,go_sem,G.t 32]
  ·refine G.gv 31 34 ?_;rintro rfl;simp[execOp,go_sem,G.t 33]
  ·refine G.gv 31 35 ?_;rintro rfl;have p34:=G.d 34;exact aQ 31 (.tmp 39) rfl g1 (o1+8) p34 RA _ l3.out Tryz.underlying31 rfl i3
  ·refine G.gv 31 36 ?_;rintro rfl;simp[execOp,go_sem,e1x]
  ·refine G.gv 31 37 ?_;rintro rfl;simp[execOp,go_sem,G.t 36]
  ·refine G.gv 31 38 ?_;rintro rfl;simp[execOp,go_sem,G.t 37]
  ·refine G.gv 31 39 ?_;rintro rfl;have p38:=G.d 38;exact aQ 31 (.tmp 43) rfl g2 (o2+8) p38 RB _ l4.out Tryz.underlying31 rfl i4
  ·refine G.gv 31 40 ?_;rintro rfl;simp[execOp,go_sem,G.t 35,G.t 39,hea]
  ·cases c2
   all_goals exact G.nl 41 rfl (by simp[execOp,go_sem,G.t 31,G.t 40,h3])
  ·exact G.nl 42 rfl (by simp[execOp,go_sem,G.t 41])
  ·refine G.gv 42 43 ?_;rintro rfl;simp[execOp,go_sem,e0x]
  ·refine G.gv 42 44 ?_;rintro rfl;simp[execOp,go_sem,G.t 43]
  ·refine G.gv 42 45 ?_;rintro rfl;simp[execOp,go_sem,G.t 44]
  ·refine G.gv 42 46 ?_;rintro rfl;simp[execOp,go_sem,G.t 45,k20]
  ·refine G.gv 42 47 ?_;rintro rfl;simp[execOp,go_sem,e1x]
  ·refine G.gv 42 48 ?_;rintro rfl;simp[execOp,go_sem,G.t 47]
  ·refine G.gv 42 49 ?_;rintro rfl;simp[execOp,go_sem,G.t 48]
  ·refine G.gv 42 50 ?_;rintro rfl;simp[execOp,go_sem,G.t 49,m20]
  ·refine G.gv 42 51 ?_;rintro rfl;simp[execOp,go_sem,G.t 46,G.t 50,e4']
  ·cases c3
   all_goals exact G.nl 52 rfl (by simp[execOp,go_sem,G.t 42,G.t 51,h4])
  ·exact G.nl 53 rfl (by simp[execOp,go_sem,G.t 52])
  ·refine G.gv 53 54 ?_;rintro rfl;simp[execOp,go_sem,e0x]
  ·refine G.gv 53 55 ?_;rintro rfl;simp[execOp,go_sem,G.t 54]
  ·refine G.gv 53 56 ?_;rintro rfl;simp[execOp,go_sem,G.t 55]
  ·refine G.gv 53 57 ?_;rintro rfl;simp[execOp,go_sem,G.t 56,k21]
  ·refine G.gv 53 58 ?_;rintro rfl;simp[go_sem,G.t 57]
  ·refine G.gv 53 59 ?_;rintro rfl;simp[execOp,go_sem,e1x]
  ·refine G.gv 53 60 ?_;rintro rfl;simp[execOp,go_sem,G.t 59]
  ·refine G.gv 53 61 ?_;rintro rfl;simp[execOp,go_sem,G.t 60]
  ·refine G.gv 53 62 ?_;rintro rfl;simp[execOp,go_sem,G.t 61,m21]
  ·refine G.gv 53 63 ?_;rintro rfl;simp[go_sem,G.t 62]
  ·refine G.gv 53 64 ?_;rintro rfl;simp[execOp,go_sem,G.t 58,G.t 63,e5z]
  ·cases c4
   all_goals exact G.nl 65 rfl (by simp[execOp,go_sem,G.t 53,G.t 64,h5])
  exact G.nl 66 rfl (by simp[execOp,go_sem,G.t 65])
 intro zl a1 w1 hI bi;have ah:=bd.out;subst ah;obtain rfl:w1=w.drew:=hI.st;have z4:=hI.ptk 66 rfl (bi 66 (by decide));obtain⟨ff,rfl,hf⟩:=hI.off.forms;rw[<- hf 4]at z4;clear hI;simp only[List.foldl,Act.put,yz,List.set];rw[z4]
 go_wp2_with fail
 go_ret
 exact⟨by rw[ua.out];rfl,HB.out⟩
theorem Lies.node{W:World}{q:Nat}{h:NodeH}{A:Option Addr}{n c:Nat}(hl:Lies W q 34 (aJ h A n c)):NodeIn W q 0 h A n c:=⟨hl.lt,fun j _=>by rw[Nat.zero_add];exact hl.cell j⟩
theorem eH(h hw:NodeH)(A Aw:Option Addr)(n nw c cw g o:Nat)(w:World)(hn:NodeIn w g o h A n c) :
  Calls Tryz.prog 162 #[vP g o,cQ hw Aw nw cw] w fun e w'=>e=.returned (.bool (NodeH.same h { hw with kind:=h.kind }&&decide (n=nw)))/\Below w.heap.size w w':=by
 obtain⟨W1,an⟩:=zD (w.alloc (.cells (aJ hw Aw nw cw) 34))
 have al:=zh an;have HL:=zL an;have HB:=zA an;have HN:=zh (NodeIn.kp hn (Kp.of_below HB.out));have k0:W1.cell? ⟨g,o,none⟩=some (vI h.kind):=HN.out.2 0 (by decide);have hgl:=hn.1;clear an hn;obtain⟨bb,tm⟩:∃ bb,(NodeH.same h { hw with kind:=h.kind }&&decide (n=nw))=bb:=⟨_,rfl⟩
 have ua:=zh tm;rw[tm];clear tm
 go_in
 go_upto_region 1 with fail
 rw[<- al.out];generalize hq:w.heap.size=q at *;have hgq:g≠q:=by omega
 have x0:=HL.out.cell 0;have xf0:=HL.out.frozen 0;simp only[za,zb]at x0;have ir:=zh (HL.out.put 0 (vI h.kind));have HN2:Hid (NodeIn (W1.setCell ⟨q,0,none⟩ (vI h.kind)) g o h A n c):=zh ⟨by have:=HN.out.1;simpa using this,fun j hj=>by
  rw[<- HN.out.2 j hj];apply World.cell?_setCell_other;intro e;injection e with e;exact hgq e.symm⟩
 have au:Hid (Below q w (W1.setCell ⟨q,0,none⟩ (vI h.kind))):=zh (HB.out.setCell (p:=⟨q,0,none⟩) (Nat.le_refl q) _);clear HL HN HB al
 go_upto_region 2 with fail
 generalize World.setCell _ _ _=W2 at *;clear k0 x0 xf0;have HC:=zh (uEI h { hw with kind:=h.kind } A Aw n nw c cw g o q 0 W2 HN2.out (Lies.node ir.out));rw[ua.out]at HC;clear ua
 go_wp2_with fail
 refine HC.out.mono ?_;rintro e w3 ⟨rfl,hb⟩;have bf:=zh (au.out.trans (hb.mono (by have:=au.out.size;omega)));clear hb HC
 go_wp2_with fail
 go_ret
 exact⟨rfl,by first|exact bf.out |(rw[hq];exact bf.out)⟩
theorem dJ(c:UInt8)(w:World) :
  Calls Tryz.prog 208 #[.int .u8 (c.toNat:Int)] w fun e w'=>e=.returned (.bool (bJ c))/\w=w':=by
 go_in
 go_wp2
 all_goals go_ret
 all_goals exact⟨aA (by unfold bJ;rw[ze];simp;try omega),rfl⟩
theorem eE(c:UInt8)(w:World) :
  Calls Tryz.prog 209 #[.int .u8 (c.toNat:Int)] w fun e w'=>e=.returned (.bool (aB c))/\w=w':=by
 go_in
 go_wp2
 all_goals go_ret
 all_goals exact⟨aA (by unfold aB;rw[ze];simp;try omega),rfl⟩
theorem qP(l:Bs)(w:World)(hs:l.length<=maxLen) :
  Calls Tryz.prog 236 #[vT l] w fun e w'=>e=.returned (vI (aH l))/\w=w':=by
 unfold maxLen at hs;unfold aH
 go_in
 go_wp2
 go_loop [3] (fun i=>∃ k:Nat,k<=l.length/\i=vI k/\k<=bA aB l) (fun i=>l.length-(intOf i).toNat)
 case atStart=>exact⟨0,zm _,rfl,zm _⟩
 case round=>
  obtain⟨k,hk,rfl,hr⟩:=hrel;by_cases hlt:k<l.length
  ·cases hd:aB l[k]
   ·have HQ:=zh (oE _ _ _ hr hlt hd)
    go_wp2_with (go_at_call 209;refine(eE _ _).mono ?_;rintro e w' ⟨rfl,rfl⟩)
    go_ret
    exact⟨nZ (by rw[HQ.out]),rfl⟩
   have hq:=jD _ _ _ hr hlt hd
   go_wp2_with (go_at_call 209;refine(eE _ _).mono ?_;rintro e w' ⟨rfl,rfl⟩)
   go_round
   case rel=>exact⟨k+1,by omega,by go_num,hq⟩
   case measure=>simp[intOf];omega
  have hq:bA aB l=k:=by have:=cX aB l;omega
  have HQ:=zh hq;clear hq
  go_wp2
  go_ret
  exact⟨nZ (by rw[HQ.out]),rfl⟩
theorem tH(l:Bs)(w:World)(hs:l.length<=1000000) :
  Calls Tryz.prog 210 #[vT l] w fun e w'=>e=.returned (.tuple #[vI (aF l:Nat),vI (aH (l.drop (aF l)):Nat),.bool (decide (aF l+aH (l.drop (aF l))=l.length))])/\w=w':=by
 have hd:=fun k=>qP (l.drop k) w (by rw[yk];unfold maxLen;omega)
 have HD:=zh hd;have HDL:Hid (∀ k,aH (l.drop k)<=l.length):=zh (fun k=>by have:=cX aB (l.drop k);rw[yk]at this;unfold aH;omega);clear hd;unfold aF
 go_in
 go_wp2
 go_loop [2] (fun i=>∃ k:Nat,k<=l.length/\i=vI k/\k<=bA bJ l) (fun i=>l.length-(intOf i).toNat)
 case atStart=>exact⟨0,zm _,rfl,zm _⟩
 case round=>
  obtain⟨k,hk,rfl,hr⟩:=hrel;by_cases hlt:k<l.length
  ·cases hd:bJ l[k]
   ·have HQ:=zh (oE _ _ _ hr hlt hd);have sy:=zh (HD.out k);have rn:=HDL.out k;clear hr
    go_upto_region 3 with(go_at_call 208;refine(dJ _ _).mono ?_;rintro e w' ⟨rfl,rfl⟩)
    clear hd;generalize hdd:aH (l.drop k)=m at *
    go_wp2_with fail
    refine sy.out.mono ?_;rintro e w' ⟨rfl,rfl⟩
    go_wp2_with fail
    go_ret3
    rw[HQ.out,hdd];refine⟨?_,rfl⟩;have e1:((k:Int)+(m:Int)-(k:Int))=(m:Int):=by omega
    have e2:(((k:Int)+(m:Int))==(l.length:Int))=decide (k+m=l.length):=by rw[ze];simp;omega
    show Ending.returned (.tuple #[vI (k:Int),vI ((k:Int)+(m:Int)-(k:Int)),.bool (((k:Int)+(m:Int))==(l.length:Int))])=_;rw[e1,e2]
   have hq:=jD _ _ _ hr hlt hd
   go_wp2_with (go_at_call 208;refine(dJ _ _).mono ?_;rintro e w' ⟨rfl,rfl⟩)
   go_round
   case rel=>exact⟨k+1,by omega,by go_num,hq⟩
   case measure=>simp[intOf];omega
  have hq:bA bJ l=k:=by have:=cX bJ l;omega
  have HQ:=zh hq;have sy:=zh (HD.out k);have rn:=HDL.out k;clear hq hr;generalize hdd:aH (l.drop k)=m at *
  go_wp2_with fail
  refine sy.out.mono ?_;rintro e w' ⟨rfl,rfl⟩
  go_wp2_with fail
  go_ret3
  rw[HQ.out,hdd];refine⟨?_,rfl⟩;have e1:((k:Int)+(m:Int)-(k:Int))=(m:Int):=by omega
  have e2:(((k:Int)+(m:Int))==(l.length:Int))=decide (k+m=l.length):=by rw[ze];simp;omega
  show Ending.returned (.tuple #[vI (k:Int),vI ((k:Int)+(m:Int)-(k:Int)),.bool (((k:Int)+(m:Int))==(l.length:Int))])=_;rw[e1,e2]
theorem uCM(l:Bs)(w:World):Calls Tryz.prog 165 #[vT l] w fun e w'=>e=.returned (.bool (unB l))/\w=w':=by
 by_cases h0:l=[45]
 ·subst h0
  go_in
  go_wp2_with fail
  go_ret
  exact⟨rfl,rfl⟩
 have e0:(l==([45]:Bs))=false:=by simpa using h0
 by_cases h1:l=[43]
 ·subst h1
  go_in
  go_wp2_with fail
  go_ret
  exact⟨rfl,rfl⟩
 have e1:(l==([43]:Bs))=false:=by simpa using h1
 by_cases h2:l=[37]
 ·subst h2
  go_in
  go_wp2_with fail
  go_ret
  exact⟨rfl,rfl⟩
 have e2:(l==([37]:Bs))=false:=by simpa using h2
 have hr:unB l=false:=by unfold unB;simp only[e0,e1,e2,Bool.or_self]
 rw[hr];clear hr
 go_in
 go_wp2_with fail
 go_ret
 exact⟨rfl,rfl⟩
theorem zN(l:Bs)(w:World):Calls Tryz.prog 166 #[vT l] w fun e w'=>e=.returned (.bool (mR l))/\w=w':=by
 by_cases h0:l=[43]
 ·subst h0
  go_in
  go_wp2_with fail
  go_ret
  exact⟨rfl,rfl⟩
 have e0:(l==([43]:Bs))=false:=by simpa using h0
 by_cases h1:l=[45]
 ·subst h1
  go_in
  go_wp2_with fail
  go_ret
  exact⟨rfl,rfl⟩
 have e1:(l==([45]:Bs))=false:=by simpa using h1
 by_cases h2:l=[42]
 ·subst h2
  go_in
  go_wp2_with fail
  go_ret
  exact⟨rfl,rfl⟩
 have e2:(l==([42]:Bs))=false:=by simpa using h2
 by_cases h3:l=[47]
 ·subst h3
  go_in
  go_wp2_with fail
  go_ret
  exact⟨rfl,rfl⟩
 have e3:(l==([47]:Bs))=false:=by simpa using h3
 by_cases h4:l=[94]
 ·subst h4
  go_in
  go_wp2_with fail
  go_ret
  exact⟨rfl,rfl⟩
 have e4:(l==([94]:Bs))=false:=by simpa using h4
 by_cases h5:l=[38]
 ·subst h5
  go_in
  go_wp2_with fail
  go_ret
  exact⟨rfl,rfl⟩
 have e5:(l==([38]:Bs))=false:=by simpa using h5
 by_cases h6:l=[61]
 ·subst h6
  go_in
  go_wp2_with fail
  go_ret
  exact⟨rfl,rfl⟩
 have e6:(l==([61]:Bs))=false:=by simpa using h6
 by_cases h7:l=[60,62]
 ·subst h7
  go_in
  go_wp2_with fail
  go_ret
  exact⟨rfl,rfl⟩
 have e7:(l==([60,62]:Bs))=false:=by simpa using h7
 by_cases h8:l=[60]
 ·subst h8
  go_in
  go_wp2_with fail
  go_ret
  exact⟨rfl,rfl⟩
 have e8:(l==([60]:Bs))=false:=by simpa using h8
 by_cases h9:l=[60,61]
 ·subst h9
  go_in
  go_wp2_with fail
  go_ret
  exact⟨rfl,rfl⟩
 have e9:(l==([60,61]:Bs))=false:=by simpa using h9
 by_cases vi:l=[62]
 ·subst vi
  go_in
  go_wp2_with fail
  go_ret
  exact⟨rfl,rfl⟩
 have e10:(l==([62]:Bs))=false:=by simpa using vi
 by_cases h11:l=[62,61]
 ·subst h11
  go_in
  go_wp2_with fail
  go_ret
  exact⟨rfl,rfl⟩
 have e11:(l==([62,61]:Bs))=false:=by simpa using h11
 have hr:mR l=false:=by unfold mR;simp only[e0,e1,e2,e3,e4,e5,e6,e7,e8,e9,e10,e11,Bool.or_self]
 rw[hr];clear hr
 go_in
 go_wp2_with fail
 go_ret
 exact⟨rfl,rfl⟩
def dQ(s:Bs):Nat->Nat
 |0=>0
 |1=>if bM s 0 82 then 1+aH (s.drop 1) else 0
 |_=>let a:=if bM s 0 82 then 1+aH (s.drop 1) else 0
  if bM s a 67 then a+1+aH (s.drop (a+1)) else a
theorem kR(s:Bs):aH s<=s.length:=cX aB s
theorem zC(s:Bs):dQ s 1<=s.length:=by
 show (if bM s 0 82 then 1+aH (s.drop 1) else 0)<=s.length
 split
 ·rename_i h
  have:=kR (s.drop 1);rw[yk]at this;have:0<s.length:=by
   cases s with
   |nil=>cases h
   |cons=>simp
  omega
 omega
theorem uL(w:World)(C:Array Value)(e:TypeId)(f:Nat×Nat)(i:Nat):(w.alloc (.cells C e f)).cell? ⟨w.heap.size,i,none⟩=C[i]?:=by
 have h:(w.alloc (.cells C e f)).heap[w.heap.size]?=some (.cells C e f):=by
  show (w.heap.push (.cells C e f))[w.heap.size]?=_;simp
 unfold World.cell?;simp only[h];rfl
theorem seen_1(s:Bs):dQ s 1=if bM s 0 82 then 0+1+aH (s.drop (0+1)) else 0:=by
 show (if bM s 0 82 then 1+aH (s.drop 1) else 0)=_;rw[Nat.zero_add]
theorem seen_2(s:Bs):dQ s 2=if bM s (dQ s 1) 67 then dQ s 1+1+aH (s.drop (dQ s 1+1)) else dQ s 1:=rfl
theorem seen_le2(s:Bs):dQ s 2<=s.length:=by
 rw[seen_2]
 split
 ·rename_i h
  have h1:=xJ _ _ _ h;have:=kR (s.drop (dQ s 1+1));rw[yk]at this;omega
 exact zC s
theorem uGP(l:Bs)(w:World)(hs:l.length<=1000000) :
  Calls Tryz.prog 211 #[vT l] w fun e w'=>e=.returned (.bool (dY l))/\Below w.heap.size w w':=by
 have HD:=zh (fun k W=>qP (l.drop k) W (by rw[yk];unfold maxLen;omega));have HDL:Hid (∀ k,aH (l.drop k)<=l.length-k):=zh (fun k=>by have:=kR (l.drop k);rwa [yk]at this);have HR:Hid (dY l=decide (dQ l 2=l.length)):=zh rfl;have i8:=zh (zC l);have ir:=zh (seen_le2 l);have HB:Hid (Below w.heap.size w (w.alloc (.cells #[.int .u8 82,.int .u8 67] 5 (2,3)))):=zh (zp _);have HI:Hid ((w.alloc (.cells #[.int .u8 82,.int .u8 67] 5 (2,3))).cell? ⟨w.heap.size,0,none⟩=some (.int .u8 82)/\(w.alloc (.cells #[.int .u8 82,.int .u8 67] 5 (2,3))).cell? ⟨w.heap.size,1,none⟩=some (.int .u8 67)):=zh ⟨uL _ _ _ _ 0,uL _ _ _ _ 1⟩;have hcv:=Lib.run_convert_bytes_const (P:=Tryz.prog) w 110 5 #[.int .u8 82,.int .u8 67] 2 2 Tryz.underlying110 Tryz.underlying5
 simp only[yd,yi,List.length_nil,Nat.zero_add,Nat.reduceAdd]at hcv
 go_in
 go_wp2_with fail
 clear hcv;generalize w.alloc (.cells #[.int .u8 82,.int .u8 67] 5 (2,3))=W1 at HB HI ⊢;generalize w.heap.size=q at HI ⊢
 go_loop [3,9] (fun a i=>∃ k n:Nat,k<=2/\n=dQ l k/\i=vI (k:Int)/\a=vI (n:Int)) (fun _ i=>2-(intOf i).toNat)
 case atStart=>exact⟨0,0,by omega,rfl,rfl,rfl⟩
 case round=>
  obtain⟨k,n,hk,hn,rfl,rfl⟩:=hrel;obtain⟨x0,x1⟩:=HI.out;rcases(by omega:k=2\/k=0\/k=1) with rfl|rfl|rfl
  ·have HN:=zh hn;clear hn x0 x1;have uw:(n:Int)<=(l.length:Int):=by have:=ir.out;have:=HN.out;omega
   go_wp2_with fail
   go_ret
   refine⟨?_,HB.out⟩;rw[HR.out,<- HN.out];have e:((n:Int)==(l.length:Int))=decide (n=l.length):=by rw[ze];simp;try omega
   show Ending.returned (.bool ((n:Int)==(l.length:Int)))=_;rw[e]
  ·have eu:dQ l 1=if bM l n 82 then n+1+aH (l.drop (n+1)) else n:=by have h0:n=0:=hn;rw[h0];exact seen_1 l
   have uw:n<=l.length:=by have h0:n=0:=hn;omega
   have jm:=zh eu;clear eu hn hk;by_cases hlt:n<l.length
   ·have hb:=oL l n 82 82 rfl hlt;cases iq:bM l n 82 with
    |true=>
     rw[iq]at hb;have HN:Hid (dQ l 1=n+1+aH (l.drop (n+1))):=zh (by rw[jm.out,iq];rfl);have rn:=HDL.out (n+1);have sy:=zh (HD.out (n+1));clear jm iq;generalize hdd:aH (l.drop (n+1))=m at *;clear hdd
     go_wp2_with fail
     refine(sy.out _).mono ?_;rintro e w' ⟨rfl,rfl⟩
     go_wp2_with fail
     go_round
     case rel=>exact⟨1,n+1+m,by omega,HN.out.symm,rfl,by go_num⟩
     case measure=>simp[intOf]
    |false=>
     rw[iq]at hb;have HN:Hid (dQ l 1=n):=zh (by rw[jm.out,iq];rfl);clear jm iq
     go_wp2_with fail
     go_round
     case rel=>exact⟨1,n,by omega,HN.out.symm,rfl,rfl⟩
     case measure=>simp[intOf]
   have HN:Hid (dQ l 1=n):=zh (by rw[jm.out,oM l n 82 (by omega)];rfl);have hnl2:¬ (n:Int)<(l.length:Int):=by omega
   clear jm
   go_wp2_with fail
   go_round
   case rel=>exact⟨1,n,by omega,HN.out.symm,rfl,rfl⟩
   case measure=>simp[intOf]
  have eu:dQ l 2=if bM l n 67 then n+1+aH (l.drop (n+1)) else n:=by rw[hn];exact seen_2 l
  have uw:n<=l.length:=by have:=i8.out;omega
  have jm:=zh eu;clear eu hn hk;by_cases hlt:n<l.length
  ·have hb:=oL l n 67 67 rfl hlt;cases iq:bM l n 67 with
   |true=>
    rw[iq]at hb;have HN:Hid (dQ l 2=n+1+aH (l.drop (n+1))):=zh (by rw[jm.out,iq];rfl);have rn:=HDL.out (n+1);have sy:=zh (HD.out (n+1));clear jm iq;generalize hdd:aH (l.drop (n+1))=m at *;clear hdd
    go_wp2_with fail
    refine(sy.out _).mono ?_;rintro e w' ⟨rfl,rfl⟩
    go_wp2_with fail
    go_round
    case rel=>exact⟨2,n+1+m,by omega,HN.out.symm,rfl,by go_num⟩
    case measure=>simp[intOf]
   |false=>
    rw[iq]at hb;have HN:Hid (dQ l 2=n):=zh (by rw[jm.out,iq];rfl);clear jm iq
    go_wp2_with fail
    go_round
    case rel=>exact⟨2,n,by omega,HN.out.symm,rfl,rfl⟩
    case measure=>simp[intOf]
  have HN:Hid (dQ l 2=n):=zh (by rw[jm.out,oM l n 67 (by omega)];rfl);have hnl2:¬ (n:Int)<(l.length:Int):=by omega
  clear jm
  go_wp2_with fail
  go_round
  case rel=>exact⟨2,n,by omega,HN.out.symm,rfl,rfl⟩
  case measure=>simp[intOf]
def eB(c:UInt8):Bool:=bJ c||aB c||c==46
def dA(c:UInt8):Bool:=bJ c||aB c||c==95||c==46
theorem eK{p:UInt8->Bool}{l:Bs}{k:Nat}(h:(l.take k).all p=true)(hk:k<l.length)(hp:p l[k]=true):(l.take (k+1)).all p=true:=by
 rw[yw hk,List.all_append,h];simp[hp]
theorem mO{p:UInt8->Bool}{l:Bs}{k:Nat}(hk:k<l.length)(hp:p l[k]=false):l.all p=false:=by
 cases h:l.all p with
 |false=>rfl
 |true=>
  rw[List.all_eq_true]at h;rw[h _ (List.getElem_mem hk)]at hp;cases hp
theorem beq_u8(c:UInt8)(d:UInt8)(n:Int)(hn:(d.toNat:Int)=n):((c.toNat:Int)==n)=(c==d):=by
 subst hn;rw[ze,beq_iff_eq,beq_iff_eq];exact⟨fun h=>UInt8.toNat.inj (by omega),fun h=>by rw[h]⟩
theorem kO(c:UInt8)(d:UInt8)(n:Int)(hn:(d.toNat:Int)=n):((c.toNat:Int) != n)=!(c==d):=by rw[<- beq_u8 c d n hn];rfl
theorem uGN(l:Bs)(w:World)(hs:l.length<=100000) :
  Calls Tryz.prog 164 #[vT l] w fun e w'=>e=.returned (.bool (bX l))/\Below w.heap.size w w':=by
 rcases l with _|⟨c,t⟩
 ·go_in
  go_wp2_with fail
  go_ret
  exact⟨rfl,Below.refl _ _⟩
 have hlen:0<(c::t).length:=by simp
 have hhd:(c::t).headD 0=c:=rfl;have iq:(c::t)[0]'hlen=c:=rfl;have dg:((c::t:Bs)==[])=false:=rfl;have hne2:¬ (c::t:Bs)=[]:=by simp
 generalize (c::t:Bs)=l at *;have qu:=zh (fun W=>dJ c W);have HR:Hid (bX l=(decide (l.length<=32)&&bJ c&&l.all eB&&!(decide (aF l+aH (l.drop (aF l))=l.length)&&decide (aF l<=3)&&decide (1<=aH (l.drop (aF l)))&&decide (aH (l.drop (aF l))<=7)&&!bM l (aF l) 48))):=zh (by
  unfold bX;rw[hhd,decide_eq_true hlen,Bool.true_and];rfl)
 clear hhd;by_cases wd:32<l.length
 ·have hr:bX l=false:=by rw[HR.out,decide_eq_false (by omega)];rfl
  have qv:(32:Int)<(l.length:Int):=by omega
  rw[hr];clear hr
  go_in
  go_wp2_with fail
  go_ret
  exact⟨rfl,Below.refl _ _⟩
 have qv:¬ (32:Int)<(l.length:Int):=by omega
 cases jl:bJ c with
 |false=>
  have hr:bX l=false:=by rw[HR.out,jl,Bool.and_false];rfl
  rw[hr];clear hr HR
  go_in
  go_wp2_with fail
  refine(qu.out _).mono ?_;rintro e w' ⟨rfl,rfl⟩
  go_wp2_with fail
  go_ret
  exact⟨rfl,Below.refl _ _⟩
 |true=>
  have i7:Hid (bX l=(l.all eB&&!(decide (aF l+aH (l.drop (aF l))=l.length)&&decide (aF l<=3)&&decide (1<=aH (l.drop (aF l)))&&decide (aH (l.drop (aF l))<=7)&&!bM l (aF l) 48))):=zh (by rw[HR.out,jl,decide_eq_true (by omega)];rfl);clear HR;obtain⟨cap,W1,hcv,bp,hb⟩:=rG l w;have HB:=zh hb;have ub:=zh bp;clear hb bp;have HSp:=zh (fun W=>tH l W (by omega))
  go_in
  go_wp2_with fail
  refine(qu.out _).mono ?_;rintro e w' ⟨rfl,rfl⟩
  go_wp2_with fail
  clear hcv qu;generalize w.heap.size=q at ub ⊢
  go_loop [24] (fun i=>∃ k:Nat,k<=l.length/\i=vI k/\(l.take k).all eB=true) (fun i=>l.length-(intOf i).toNat)
  case atStart=>exact⟨0,zm _,rfl,by simp⟩
  case round=>
   obtain⟨k,hk,rfl,kg⟩:=hrel;by_cases hlt:k<l.length
   ·obtain⟨x0,xf0⟩:=ub.out k hlt;have lj:=kO l[k] 46 46 rfl;have HALL:=zh kg;clear kg;cases hd:eB l[k] with
    |false=>
     have hr:bX l=false:=by rw[i7.out,mO hlt hd];rfl
     have o4:=hd;unfold eB at o4;simp only[Bool.or_eq_false_iff]at o4;obtain⟨⟨d1,d2⟩,d3⟩:=o4;rw[d3]at lj;clear hd i7
     go_wp2_with (first |(go_at_call 208;refine(dJ _ _).mono ?_;rintro e w' ⟨rfl,rfl⟩) |(go_at_call 209;refine(eE _ _).mono ?_;rintro e w' ⟨rfl,rfl⟩))
     go_ret
     exact⟨by first|exact aA hr.symm|exact aA rfl,HB.out⟩
    |true=>
     have jm:=zh (eK HALL.out hlt hd);unfold eB at hd;cases d1:bJ l[k] with
     |true=>
      clear hd
      go_wp2_with (first |(go_at_call 208;refine(dJ _ _).mono ?_;rintro e w' ⟨rfl,rfl⟩) |(go_at_call 209;refine(eE _ _).mono ?_;rintro e w' ⟨rfl,rfl⟩))
      go_round
      case rel=>exact⟨k+1,by omega,by go_num,jm.out⟩
      case measure=>simp[intOf];omega
     |false=>
      cases d2:aB l[k] with
      |true=>
       clear hd
       go_wp2_with (first |(go_at_call 208;refine(dJ _ _).mono ?_;rintro e w' ⟨rfl,rfl⟩) |(go_at_call 209;refine(eE _ _).mono ?_;rintro e w' ⟨rfl,rfl⟩))
       go_round
       case rel=>exact⟨k+1,by omega,by go_num,jm.out⟩
       case measure=>simp[intOf];omega
      |false=>
       have d3:(l[k]==46)=true:=by rw[d1,d2]at hd;simpa using hd
       rw[d3]at lj;clear hd
       go_wp2_with (first |(go_at_call 208;refine(dJ _ _).mono ?_;rintro e w' ⟨rfl,rfl⟩) |(go_at_call 209;refine(eE _ _).mono ?_;rintro e w' ⟨rfl,rfl⟩))
       go_round
       case rel=>exact⟨k+1,by omega,by go_num,jm.out⟩
       case measure=>simp[intOf];omega
   have o5:k=l.length:=by omega
   have o8:l.all eB=true:=by rw[o5,List.take_length]at kg;exact kg
   clear kg;have lw:Hid (bX l=!(decide (aF l+aH (l.drop (aF l))=l.length)&&decide (aF l<=3)&&decide (1<=aH (l.drop (aF l)))&&decide (aH (l.drop (aF l))<=7)&&!bM l (aF l) 48)):=zh (by rw[i7.out,o8,Bool.true_and]);clear i7 o8;have HAL:Hid (aF l<=l.length):=zh (cX bJ l);generalize aH (l.drop (aF l))=d at *;generalize aF l=a at *;have vm:=HAL.out;subst o5
   go_wp2_with fail
   refine(HSp.out _).mono ?_;rintro e w' ⟨rfl,rfl⟩;by_cases e1:a+d=l.length
   ·rw[decide_eq_true e1]at lw ⊢;by_cases e2:a<=3
    ·by_cases e3:1<=d
     ·by_cases e4:d<=7
      ·have hq:=at_bne l a 48 48 rfl (by omega);have hala:a<l.length:=by omega
       have pw:Hid (bX l=!(!bM l a 48)):=zh (by rw[lw.out,decide_eq_true e2,decide_eq_true e3,decide_eq_true e4];rfl);clear lw
       go_wp2_with fail
       go_ret
       exact⟨aA (by rw[pw.out,Bool.not_not]),HB.out⟩
      have hr:bX l=true:=by rw[lw.out,decide_eq_false e4];simp
      clear lw
      go_wp2_with fail
      go_ret
      exact⟨by first|exact aA hr.symm|exact aA rfl,HB.out⟩
     have hr:bX l=true:=by rw[lw.out,decide_eq_false e3];simp
     clear lw
     go_wp2_with fail
     go_ret
     exact⟨by first|exact aA hr.symm|exact aA rfl,HB.out⟩
    have hr:bX l=true:=by rw[lw.out,decide_eq_false e2];simp
    clear lw
    go_wp2_with fail
    go_ret
    exact⟨by first|exact aA hr.symm|exact aA rfl,HB.out⟩
   have hr:bX l=true:=by rw[lw.out,decide_eq_false e1];simp
   rw[decide_eq_false e1];clear lw
   go_wp2_with fail
   go_ret
   exact⟨by first|exact aA hr.symm|exact aA rfl,HB.out⟩
theorem uGO(l:Bs)(w:World)(hs:l.length<=100000) :
  Calls Tryz.prog 167 #[vT l] w fun e w'=>e=.returned (.bool (bQ l))/\Below w.heap.size w w':=by
 rcases l with _|⟨c,t⟩
 ·go_in
  go_wp2_with fail
  go_ret
  exact⟨rfl,Below.refl _ _⟩
 have hlen:0<(c::t).length:=by simp
 have hhd:(c::t).headD 0=c:=rfl;have iq:(c::t)[0]'hlen=c:=rfl;have dg:((c::t:Bs)==[])=false:=rfl;have hne2:¬ (c::t:Bs)=[]:=by simp
 generalize (c::t:Bs)=l at *;have qu:=zh (fun W=>dJ c W);have HR:Hid (bQ l=(decide (l.length<=32)&&(bJ c||c==95)&&l.all dA&&!(l==mK||l==iP||dY l)&&!(decide (aF l+aH (l.drop (aF l))=l.length)&&decide (1<=aF l)&&decide (aF l<=3)&&decide (1<=aH (l.drop (aF l)))))):=zh (by
  unfold bQ;rw[hhd,decide_eq_true hlen,Bool.true_and];rfl)
 clear hhd;by_cases wd:32<l.length
 ·have hr:bQ l=false:=by rw[HR.out,decide_eq_false (by omega)];rfl
  have qv:(32:Int)<(l.length:Int):=by omega
  rw[hr];clear hr
  go_in
  go_wp2_with fail
  go_ret
  exact⟨rfl,Below.refl _ _⟩
 have qv:¬ (32:Int)<(l.length:Int):=by omega
 have h95:=kO c 95 95 rfl;cases jl:(bJ c||c==95) with
 |false=>
  have hr:bQ l=false:=by rw[HR.out,jl,Bool.and_false];rfl
  obtain⟨hcap1,xv⟩:bJ c=false/\(c==95)=false:=by simpa using jl
  rw[xv]at h95;clear jl xv;have jl:=hcap1;rw[hr];clear hr HR
  go_in
  go_wp2_with fail
  refine(qu.out _).mono ?_;rintro e w' ⟨rfl,rfl⟩
  go_wp2_with fail
  go_ret
  exact⟨rfl,Below.refl _ _⟩
 |true=>
  have i7:Hid (bQ l=(l.all dA&&!(l==mK||l==iP||dY l)&&!(decide (aF l+aH (l.drop (aF l))=l.length)&&decide (1<=aF l)&&decide (aF l<=3)&&decide (1<=aH (l.drop (aF l)))))):=zh (by rw[HR.out,jl,decide_eq_true (by omega)];rfl);clear HR;obtain⟨cap,W1,hcv,bp,hb⟩:=rG l w;have HB:=zh hb;have ub:=zh bp;clear hb bp;have HSp:=zh (fun W=>tH l W (by omega));have HSe:=zh (fun W=>uGP l W (by omega))
  go_in
  go_upto_region 1 with fail
  go_cut [25] (fun v wx=>v=.bool false/\Hid (wx=w))
  case first=>
   go_wp2_with fail
   refine(qu.out _).mono ?_;rintro e w' ⟨rfl,rfl⟩;cases du:bJ c with
   |true=>
    go_wp2_with fail
    all_goals go_meet
    exact⟨rfl,zh rfl⟩
   |false=>
    have h2:(c==95)=true:=by rw[du]at jl;simpa using jl
    rw[h2]at h95
    go_wp2_with fail
    all_goals go_meet
    exact⟨rfl,zh rfl⟩
  case rest=>
  obtain⟨rfl,hcut⟩:=hcut;have o9:=hcut.out;subst o9;clear hcut jl h95
  go_wp2_with fail
  clear hcv qu;generalize wc.heap.size=q at ub ⊢
  go_loop [29] (fun i=>∃ k:Nat,k<=l.length/\i=vI k/\(l.take k).all dA=true) (fun i=>l.length-(intOf i).toNat)
  case atStart=>exact⟨0,zm _,rfl,by simp⟩
  case round=>
   obtain⟨k,hk,rfl,kg⟩:=hrel;by_cases hlt:k<l.length
   ·obtain⟨x0,xf0⟩:=ub.out k hlt;have r6:=kO l[k] 95 95 rfl;have lj:=kO l[k] 46 46 rfl;have HALL:=zh kg;clear kg;cases hd:dA l[k] with
    |false=>
     have hr:bQ l=false:=by rw[i7.out,mO hlt hd];rfl
     have o4:=hd;unfold dA at o4;simp only[Bool.or_eq_false_iff]at o4;obtain⟨⟨⟨d1,d2⟩,d4⟩,d3⟩:=o4;rw[d3]at lj;rw[d4]at r6;clear hd i7
     go_wp2_with (first |(go_at_call 208;refine(dJ _ _).mono ?_;rintro e w' ⟨rfl,rfl⟩) |(go_at_call 209;refine(eE _ _).mono ?_;rintro e w' ⟨rfl,rfl⟩))
     go_ret
     exact⟨by first|exact aA hr.symm|exact aA rfl,HB.out⟩
    |true=>
     have jm:=zh (eK HALL.out hlt hd);unfold dA at hd;cases d1:bJ l[k] with
     |true=>
      clear hd
      go_wp2_with (first |(go_at_call 208;refine(dJ _ _).mono ?_;rintro e w' ⟨rfl,rfl⟩) |(go_at_call 209;refine(eE _ _).mono ?_;rintro e w' ⟨rfl,rfl⟩))
      go_round
      case rel=>exact⟨k+1,by omega,by go_num,jm.out⟩
      case measure=>simp[intOf];omega
     |false=>
      cases d2:aB l[k] with
      |true=>
       clear hd
       go_wp2_with (first |(go_at_call 208;refine(dJ _ _).mono ?_;rintro e w' ⟨rfl,rfl⟩) |(go_at_call 209;refine(eE _ _).mono ?_;rintro e w' ⟨rfl,rfl⟩))
       go_round
       case rel=>exact⟨k+1,by omega,by go_num,jm.out⟩
       case measure=>simp[intOf];omega
      |false=>
       cases d4:(l[k]==95) with
       |true=>
        rw[d4]at r6;clear hd
        go_wp2_with (first |(go_at_call 208;refine(dJ _ _).mono ?_;rintro e w' ⟨rfl,rfl⟩) |(go_at_call 209;refine(eE _ _).mono ?_;rintro e w' ⟨rfl,rfl⟩))
        go_round
        case rel=>exact⟨k+1,by omega,by go_num,jm.out⟩
        case measure=>simp[intOf];omega
       |false=>
        have d3:(l[k]==46)=true:=by rw[d1,d2,d4]at hd;simpa using hd
        rw[d3]at lj;rw[d4]at r6;clear hd
        go_wp2_with (first |(go_at_call 208;refine(dJ _ _).mono ?_;rintro e w' ⟨rfl,rfl⟩) |(go_at_call 209;refine(eE _ _).mono ?_;rintro e w' ⟨rfl,rfl⟩))
        go_round
        case rel=>exact⟨k+1,by omega,by go_num,jm.out⟩
        case measure=>simp[intOf];omega
   have o5:k=l.length:=by omega
   have o8:l.all dA=true:=by rw[o5,List.take_length]at kg;exact kg
   clear kg;have lw:Hid (bQ l=(!(l==mK||l==iP||dY l)&&!(decide (aF l+aH (l.drop (aF l))=l.length)&&decide (1<=aF l)&&decide (aF l<=3)&&decide (1<=aH (l.drop (aF l)))))):=zh (by rw[i7.out,o8,Bool.true_and]);clear i7 o8;subst o5;by_cases hT:l=[84,82,85,69]
   ·have hr:bQ l=false:=by rw[lw.out,hT];rfl
    clear lw;have nt:=zh hr;clear hr;have hT2:(l==([84,82,85,69]:Bs))=true:=by rw[hT];rfl
    have hTb:((⟨l.toArray⟩:ByteArray)==⟨#[84,82,85,69]⟩)=true:=by rw[hT];rfl
    clear hT
    go_wp2_with fail
    go_ret
    exact⟨by first|exact aA nt.out.symm|exact aA rfl,HB.out⟩
   have e1:(l==([84,82,85,69]:Bs))=false:=by simpa using hT
   by_cases hF:l=[70,65,76,83,69]
   ·have hr:bQ l=false:=by rw[lw.out,hF];rfl
    clear lw;have nt:=zh hr;clear hr;have hF2:(l==([70,65,76,83,69]:Bs))=true:=by rw[hF];rfl
    have hTb:((⟨l.toArray⟩:ByteArray)==⟨#[84,82,85,69]⟩)=false:=by rw[hF];rfl
    have hFb:((⟨l.toArray⟩:ByteArray)==⟨#[70,65,76,83,69]⟩)=true:=by rw[hF];rfl
    clear hF hT
    go_wp2_with fail
    go_ret
    exact⟨by first|exact aA nt.out.symm|exact aA rfl,HB.out⟩
   have e2:(l==([70,65,76,83,69]:Bs))=false:=by simpa using hF
   have pw:Hid (bQ l=(!dY l&&!(decide (aF l+aH (l.drop (aF l))=l.length)&&decide (1<=aF l)&&decide (aF l<=3)&&decide (1<=aH (l.drop (aF l)))))):=zh (by rw[lw.out,show (l==mK)=false from e1,show (l==iP)=false from e2];rfl);clear lw;have HAL:Hid (aF l<=l.length):=zh (cX bJ l);generalize aH (l.drop (aF l))=d at *;generalize aF l=a at *;have vm:=HAL.out
   go_wp2_with fail
   refine(HSe.out _).mono ?_;rintro e w2 ⟨rfl,hb⟩;have au:=zT HB hb;clear hb HSe;cases hse:dY l with
   |true=>
    have nt:Hid (bQ l=false):=zh (by rw[pw.out,hse];rfl);clear pw
    go_wp2_with fail
    go_ret
    exact⟨by first|exact aA nt.out.symm|exact aA rfl,au.out⟩
   |false=>
    rw[hse]at pw
    go_wp2_with fail
    refine(HSp.out _).mono ?_;rintro e w' ⟨rfl,rfl⟩;by_cases f1:a+d=l.length
    ·rw[decide_eq_true f1]at pw ⊢;by_cases f2:1<=a
     ·by_cases f3:a<=3
      ·by_cases f4:1<=d
       ·have nt:Hid (bQ l=false):=zh (by rw[pw.out,decide_eq_true f2,decide_eq_true f3,decide_eq_true f4];rfl);clear pw
        go_wp2_with fail
        go_ret
        exact⟨aA (by rw[nt.out];simp;omega),au.out⟩
       have nt:Hid (bQ l=true):=zh (by rw[pw.out,decide_eq_false f4];simp);clear pw
       go_wp2_with fail
       go_ret
       exact⟨aA (by rw[nt.out];simp;omega),au.out⟩
      have nt:Hid (bQ l=true):=zh (by rw[pw.out,decide_eq_false f3];simp);clear pw
      go_wp2_with fail
      go_ret
      exact⟨by first|exact aA nt.out.symm|exact aA rfl,au.out⟩
     have nt:Hid (bQ l=true):=zh (by rw[pw.out,decide_eq_false f2];simp);clear pw
     go_wp2_with fail
     go_ret
     exact⟨by first|exact aA nt.out.symm|exact aA rfl,au.out⟩
    have nt:Hid (bQ l=true):=zh (by rw[pw.out,decide_eq_false f1];simp);rw[decide_eq_false f1];clear pw
    go_wp2_with fail
    go_ret
    exact⟨by first|exact aA nt.out.symm|exact aA rfl,au.out⟩
theorem wanted_undef{ops:Array Oper}{o:Oper}{a:Act}{g sg:Nat}{pol:Bool}(h:o.guard=some (g,pol)){og:Oper}(hg:ops[g]?=some og)(hd:og.dst=some sg)(hv:a.eval (.tmp sg)=undef):Region.wanted o (yielded ops a.tmps)=false:=by
 have h1:a.tmps[sg]?.getD undef=undef:=cD hv;unfold Region.wanted yielded;rw[h];simp only[hg,Option.bind_some,hd];cases hq:a.tmps[sg]? with
 |none=>rfl
 |some x=>
  rw[hq]at h1;have h2:x=undef:=h1;subst h2;rfl
section
variable {ops:Array Oper} {S:List Nat} {T:List (Nat×Nat×Value)} {P:World->Prop} {w:World} {N:Nat} {a0 a:Act} {zl:Array Bool} {Q:Exit->Act->World->Prop} {o:Oper} {i s:Nat} {v:Value}
theorem gu_call(he:(i,s,v)∈T)(hk:okU (T.map fun e=>(e.1,e.2.1)) S N=true)(hI:GU ops S T [] P a0 zl a w)(hN:N<=a0.tmps.size)(aj:zl.getD i true=false)(ho:ops[i]?=some o)(zd:∀ e∈o.after,Region.binds .any e=true->Up zl e.on)(hw:Region.wanted o (yielded ops a.tmps)=true)(hd:o.dst=some s)
  (f:FuncId) (xs:Array Value) (hr:(execOp a.eval o).run Tryz.prog w=.ok (.enter f xs) w) (hc:Calls Tryz.prog f xs w fun e w1=>e=.returned v/\P w1):wpOp Tryz.prog ops Q i (GU ops S T [] P a0 (zl.setIfInBounds i true)) a w:=by
 have h:=nO hk hI hN he nomk aj ho zd;unfold wpOp;rw[ho];simp only;rw[if_pos hw];refine .inl (sK (v:=v) f xs hr (hc.mono ?_));rintro e w1 ⟨rfl,hP⟩;rw[hd];exact⟨rfl,h.off,h.pt,h.dn,hP⟩
end
theorem tLit_any(v:Val)(m:Bool)(w:World)(sr:-9223372036854775808<=v.mant)(wn:v.mant<=9223372036854775807)(hl:v.text.length<=1000000) :
  Calls Tryz.prog 161 #[iH v,.bool m] w fun e w'=>e=.returned (.bool (dG v m))/\Below w.heap.size w w':=by
 have HVR:=zh (fun W=>qS v W sr wn hl);obtain⟨W1,an⟩:=zD (w.alloc (.cells #[vI v.kind,vI v.mant,vI v.exp,vT v.text,.bool v.truth,vI v.fault] 25))
 have al:=zh an;have HL:=zL an;have HB:=zA an;clear an;obtain⟨b0,fe⟩:=zE (decide (v.kind≠0))
 obtain⟨b1,hb1⟩:=zE (aW v)
 obtain⟨b2,aw⟩:=zE (decide (0<=v.mant))
 have HR:Hid (dG v m=(b0&&b1&&(m||b2))):=zh (by unfold dG;rw[fe,hb1,aw]);have e0':(v.kind != 0)=b0:=by rw[<- fe,ze];simp
 obtain⟨c1,h1⟩:∃ c1,c1=(b0&&b1):=⟨_,rfl⟩
 obtain⟨d,hd⟩:∃ d,d=(m||b2):=⟨_,rfl⟩
 obtain⟨c2,h2⟩:∃ c2,c2=(c1&&d):=⟨_,rfl⟩
 rw[<- h1,<- hd,<- h2]at HR;have HH:=zh (And.intro h1 (And.intro h2 (And.intro hd (And.intro hb1 (And.intro aw e0')))));clear h1 h2 fe hb1 aw hd e0'
 go_in
 go_upto_region 1 with fail
 rw[<- al.out];generalize hq:w.heap.size=q at *;obtain⟨h1,h2,hd,hvr,aw,e0'⟩:=HH.out
 obtain⟨TT,ah⟩:∃ TT:List (Nat×Nat×Value),TT=((0,5,vP q 0)::(1,6,vI v.kind)::(2,7,.bool b0)::(3,8,.bool b0)::(4,9,(bif b0 then .agg ([vI v.kind,vI v.mant,vI v.exp,vT v.text,.bool v.truth,vI v.fault]:List Value).toArray else undef))::(5,10,(bif b0 then .bool b1 else undef))::(6,11,.bool c1)::(7,12,.bool c1)::(8,13,(bif c1 then .bool m else undef))::(9,14,(bif c1 then .bool m else undef))::(10,15,(bif c1 then (bif m then undef else vP q 1) else undef))::(11,16,(bif c1 then (bif m then undef else vP q 1) else undef))::(12,17,(bif c1 then (bif m then undef else vI v.mant) else undef))::(13,18,(bif c1 then (bif m then undef else .bool b2) else undef))::(14,19,(bif c1 then .bool d else undef))::(15,20,.bool c2)::(16,4,.bool c2)::[]):=⟨_,rfl⟩
 have bd:=zh ah;clear ah;refine aX (fun a0=>21<=a0.tmps.size/\a0.eval (.tmp 1)=.bool m/\a0.eval (.tmp 2)=vP q 0) (5::6::7::8::9::10::11::12::13::14::15::16::17::18::19::20::4::[]) TT [] (fun w'=>Below W1.heap.size W1 w') (by kernel_rfl) ⟨by simp,rfl,rfl⟩ zB ?_ ?_
 ·rintro a0 ⟨hs,da,sq⟩ zl a1 w1 zj o aq hI aj ho zd;have hb1:Below W1.heap.size W1 w1:=hI.st;have ah:=bd.out
  subst ah;have e1x:=hI.off.q da;have e2x:=hI.off.q sq;have hj:=Up.of_false aj;have hj12:zj<17:=by rw[aq]at hj;exact hj
  have G:RG _ _ _ _ _ _ _ _ _ _ _:=⟨by rfl,hI,hs,aj,ho,zd⟩
  (iterate 16 rcases zq hj12 with hj12|rfl);obtain rfl:=cz hj12;all_goals obtain rfl:=oi ho
  ·exact G.nl 0 rfl (by simp[execOp,go_sem,e2x])
  ·have HLw:=HL.out.next hb1;have x0:=HLw.cell 0;simp only[za,zb]at x0;exact G.nl 1 rfl (by simp[execOp,go_sem,G.t 0,x0])
  ·exact G.nl 2 rfl (by simp[execOp,go_sem,G.t 1,e0'])
  ·exact G.nl 3 rfl (by simp[execOp,go_sem,G.t 2])
  ·refine G.gv 3 4 ?_;rintro rfl;have HLw:=HL.out.next hb1;exact aQ 25 (.tmp 2) rfl q 0 ((hI.off.eval (by decide)).trans sq) _ _ HLw.range Tryz.underlying25 rfl gX
  ·have pg:=G.g 3;cases b0
   ·exact G.sk 5 pg
   refine G.cw 5 rfl pg 59 #[iH v] (by simp[go_sem,G.t 4]) ?_;refine(HVR.out w1).mono ?_;rintro e w2 ⟨rfl,hb⟩;rw[hvr];exact⟨rfl,zU hb1 hb⟩
  ·cases b0
   all_goals exact G.nl 6 rfl (by simp[execOp,go_sem,G.t 3,G.t 5,h1])
  ·exact G.nl 7 rfl (by simp[execOp,go_sem,G.t 6])
  ·refine G.gv 7 8 ?_;rintro rfl;simp[execOp,go_sem,e1x]
  ·refine G.gv 7 9 ?_;rintro rfl;simp[execOp,go_sem,G.t 8]
  ·have pg:=G.g 9;cases c1
   ·exact G.su 10 pg
   cases m
   ·exact G.vl 10 rfl pg (by simp[execOp,go_sem,e2x])
   exact G.sk 10 pg
  ·have pg:=G.g 9;cases c1
   ·exact G.su 11 pg
   cases m
   ·exact G.vl 11 rfl pg (by simp[execOp,go_sem,G.t 10])
   exact G.sk 11 pg
  ·have pg:=G.g 9;cases c1
   ·exact G.su 12 pg
   cases m
   ·have HLw:=HL.out.next hb1;have x1:=HLw.cell 1;simp only[za,zb,zf]at x1;exact G.vl 12 rfl pg (by simp[execOp,go_sem,G.t 11,x1])
   exact G.sk 12 pg
  ·have pg:=G.g 9;cases c1
   ·exact G.su 13 pg
   cases m
   ·exact G.vl 13 rfl pg (by simp[execOp,go_sem,G.t 12,aw])
   exact G.sk 13 pg
  ·have pg:=G.g 7;cases c1
   ·exact G.sk 14 pg
   cases m
   all_goals exact G.vl 14 rfl pg (by simp[execOp,go_sem,G.t 9,G.t 13,hd])
  ·cases c1
   all_goals exact G.nl 15 rfl (by simp[execOp,go_sem,G.t 7,G.t 14,h2])
  exact G.nl 16 rfl (by simp[execOp,go_sem,G.t 15])
 intro zl a1 w1 hI bi;have hb1:Below W1.heap.size W1 w1:=hI.st;have ah:=bd.out;subst ah;have z4:=hI.ptk 16 rfl (bi 16 (by decide));obtain⟨ff,rfl,hf⟩:=hI.off.forms;rw[<- hf 4]at z4;clear hI;simp only[List.foldl,Act.put,yz,List.set];rw[z4]
 go_wp2_with fail
 go_ret
 exact⟨by rw[HR.out];rfl,by first|exact zU HB.out hb1 |(rw[hq];exact HB.out.trans (hb1.mono (by have:=HB.out.size;omega)))⟩
end Go.Proofs.YtjfihpaeglpblaaGreatDoor
