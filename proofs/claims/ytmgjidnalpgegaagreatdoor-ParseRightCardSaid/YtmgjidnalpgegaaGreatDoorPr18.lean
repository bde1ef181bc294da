/-
  Lemmas, part 18: PaJ PaM ParZ PaA PaB.
-/
import Derived.Test.YtmgjidnalpgegaaGreatDoorPr17
set_option maxHeartbeats 100000000
namespace Go.Proofs.YtmgjidnalpgegaaGreatDoor
open Go.RowKit
theorem inT{α:Type}{l:List α}{x:α}(n:Nat)(h:l[n]?=some x):x∈l:=List.mem_of_getElem? h
theorem GU.ptk{ops:Array Oper}{S:List Nat}{T:List (Nat×Nat×Value)}{ms:List (Nat×(World->Prop))}{P:World->Prop}{a0 a:Act}{zl:Array Bool}{w:World}(hI:GU ops S T ms P a0 zl a w)(n:Nat){i s:Nat}{v:Value}(h:T[n]?=some (i,s,v))(hu:Up zl i):a.eval (.tmp s)=v:=hI.pt (i,s,v) (inT n h) hu
theorem fD{i:Nat}:∀ m∈([]:List (Nat×(World->Prop))),m.1≠i:=fun m hm=>by cases hm
set_option maxRecDepth 10000000 in
theorem uGN(h h':NodeH)(A A':Option Addr)(n n' cp rg g1 o1 g2 o2:Nat)(w:World)(h1:NodeIn w g1 o1 h A n cp)(h2:NodeIn w g2 o2 h' A' n' rg) :
  Calls Tryz.prog 78 #[.pointer (some ⟨g1,o1,none⟩),.pointer (some ⟨g2,o2,none⟩)] w fun e w'=>e=.returned (.bool (NodeH.same h h'&&decide (n=n')))/\Below w.heap.size w w':=by
 have HB:Hid (Below w.heap.size w w.drew):=zh (Below.refl _ _).drew;have k0:w.drew.cell? ⟨g1,o1,none⟩=some (.int .i64 h.kind):=h1.2 0 (by decide);have m0:w.drew.cell? ⟨g2,o2,none⟩=some (.int .i64 h'.kind):=h2.2 0 (by decide);have k7:w.drew.cell? ⟨g1,o1+7,none⟩=some (.string ⟨h.name.toArray⟩):=h1.2 7 (by decide);have m7:w.drew.cell? ⟨g2,o2+7,none⟩=some (.string ⟨h'.name.toArray⟩):=h2.2 7 (by decide);have k20:w.drew.cell? ⟨g1,o1+20,none⟩=some (.int .i64 h.rows):=h1.2 20 (by decide);have m20:w.drew.cell? ⟨g2,o2+20,none⟩=some (.int .i64 h'.rows):=h2.2 20 (by decide);have k21:w.drew.cell? ⟨g1,o1+21,none⟩=some (.slice A n cp):=h1.2 21 (by decide);have m21:w.drew.cell? ⟨g2,o2+21,none⟩=some (.slice A' n' rg):=h2.2 21 (by decide);obtain⟨VA,hVA⟩:∃ VA:List Value,VA=[.int .i64 h.v.kind,.int .i64 h.v.mant,.int .i64 h.v.exp,.string ⟨h.v.text.toArray⟩,.bool h.v.truth,.int .i64 h.v.fault]:=⟨_,rfl⟩
 obtain⟨VB,hVB⟩:∃ VA:List Value,VA=[.int .i64 h'.v.kind,.int .i64 h'.v.mant,.int .i64 h'.v.exp,.string ⟨h'.v.text.toArray⟩,.bool h'.v.truth,.int .i64 h'.v.fault]:=⟨_,rfl⟩
 obtain⟨RA,hRA⟩:∃ VA:List Value,VA=[.int .i64 h.a.row.a,.int .i64 h.a.row.n,.int .i64 h.a.col.a,.int .i64 h.a.col.n,.bool h.a.fr,.bool h.a.fc,.int .i64 h.b.row.a,.int .i64 h.b.row.n,.int .i64 h.b.col.a,.int .i64 h.b.col.n,.bool h.b.fr,.bool h.b.fc]:=⟨_,rfl⟩
 obtain⟨RB,hRB⟩:∃ VA:List Value,VA=[.int .i64 h'.a.row.a,.int .i64 h'.a.row.n,.int .i64 h'.a.col.a,.int .i64 h'.a.col.n,.bool h'.a.fr,.bool h'.a.fc,.int .i64 h'.b.row.a,.int .i64 h'.b.row.n,.int .i64 h'.b.col.a,.int .i64 h'.b.col.n,.bool h'.b.fr,.bool h'.b.fc]:=⟨_,rfl⟩
 have l1:Hid (w.drew.rangeAt g1 (o1+1) VA):=zh (by rw[hVA];exact NodeIn.sub (W:=w.drew) h1 1 _ (by simp) rfl);have l2:Hid (w.drew.rangeAt g2 (o2+1) VB):=zh (by rw[hVB];exact NodeIn.sub (W:=w.drew) h2 1 _ (by simp) rfl);have l3:Hid (w.drew.rangeAt g1 (o1+8) RA):=zh (by rw[hRA];exact NodeIn.sub (W:=w.drew) h1 8 _ (by simp) rfl);have l4:Hid (w.drew.rangeAt g2 (o2+8) RB):=zh (by rw[hRB];exact NodeIn.sub (W:=w.drew) h2 8 _ (by simp) rfl);have i1:(Tryz.prog.info? 32).map (·.size)=some VA.length:=by rw[hVA];exact jB
 have i2:(Tryz.prog.info? 32).map (·.size)=some VB.length:=by rw[hVB];exact jB
 have i3:(Tryz.prog.info? 38).map (·.size)=some RA.length:=by rw[hRA];exact jA
 have i4:(Tryz.prog.info? 38).map (·.size)=some RB.length:=by rw[hRB];exact jA
 have hev:∀ w:World,(binOp .eql 32 (.agg VA.toArray) (.agg VB.toArray)).run Tryz.prog w=.ok (.bool (cG h.v h'.v)) w:=by intro w;rw[hVA,hVB];exact fN _ _ _ _ _ _ _ _ _ _ _ _ w
 have hea:∀ w:World,(binOp .eql 38 (.agg RA.toArray) (.agg RB.toArray)).run Tryz.prog w=.ok (.bool (decide (h.a=h'.a)&&decide (h.b=h'.b))) w:=by intro w;rw[hRA,hRB];exact eql_area h.a h.b h'.a h'.b w
 clear hVA hVB hRA hRB h1 h2;obtain⟨bb,kb⟩:∃ bb,(NodeH.same h h'&&decide (n=n'))=bb:=⟨_,rfl⟩
 have rh:Hid (bb=(decide (h.kind=h'.kind)&&cG h.v h'.v&&decide (h.name=h'.name)&&(decide (h.a=h'.a)&&decide (h.b=h'.b))&&decide (h.rows=h'.rows)&&decide (n=n'))):=zh (by rw[<- kb];unfold NodeH.same;rw[show (h.name==h'.name)=decide (h.name=h'.name) from by rw[ze];simp];cases cG h.v h'.v <;> cases decide (h.a=h'.a) <;> cases decide (h.b=h'.b) <;> cases decide (h.kind=h'.kind) <;> cases decide (h.name=h'.name) <;> cases decide (h.rows=h'.rows) <;> cases decide (n=n') <;> rfl);rw[kb];clear kb;generalize fg:cG h.v h'.v=b1 at *;generalize s7:(decide (h.a=h'.a)&&decide (h.b=h'.b))=b3 at *;clear fg s7;generalize h.kind=x0 at *;generalize h'.kind=y0 at *;generalize h.name=x7 at *;generalize h'.name=y7 at *;generalize h.rows=x20 at *;generalize h'.rows=y20 at *;obtain⟨b0,e0⟩:∃ b0,decide (x0=y0)=b0:=⟨_,rfl⟩
 obtain⟨b2,e2⟩:∃ b2,decide (x7=y7)=b2:=⟨_,rfl⟩
 obtain⟨b4,e4⟩:∃ b4,decide (x20=y20)=b4:=⟨_,rfl⟩
 obtain⟨b5,e5⟩:∃ b5,decide (n=n')=b5:=⟨_,rfl⟩
 rw[e0,e2,e4,e5]at rh;have e0':(x0==y0)=b0:=by rw[<- e0,ze];simp
 have e2':(x7==y7)=b2:=by rw[<- e2,ze];simp
 have e4':(x20==y20)=b4:=by rw[<- e4,ze];simp
 have e5':(n==n')=b5:=by rw[<- e5,ze];simp
 have e5z:((n:Int)==(n':Int))=b5:=by rw[<- e5,ze];simp;omega
 obtain⟨c1,h1⟩:∃ c1,c1=(b0&&b1):=⟨_,rfl⟩
 obtain⟨c2,h2⟩:∃ c2,c2=(c1&&b2):=⟨_,rfl⟩
 obtain⟨c3,h3⟩:∃ c3,c3=(c2&&b3):=⟨_,rfl⟩
 obtain⟨c4,h4⟩:∃ c4,c4=(c3&&b4):=⟨_,rfl⟩
 obtain⟨c5,h5⟩:∃ c5,c5=(c4&&b5):=⟨_,rfl⟩
 rw[<- h1,<- h2,<- h3,<- h4,<- h5]at rh;have HH:=zh (And.intro h1 (And.intro h2 (And.intro h3 (And.intro h4 (And.intro h5 (And.intro e0 (And.intro e2 (And.intro e4 (And.intro e5 (And.intro e0' (And.intro e2' (And.intro e4' (And.intro e5' e5z)))))))))))));clear h1 h2 h3 h4 h5 e0 e2 e4 e5 e0' e2' e4' e5' e5z
 go_enter Tryz.func78,Tryz.ntmps78
 go_upto_region 1 with fail
 dsimp only[List.append];obtain⟨h1,h2,h3,h4,h5,e0,e2,e4,e5,e0',e2',e4',e5',e5z⟩:=HH.out
 obtain⟨TT,ae⟩:∃ TT:List (Nat×Nat×Value),TT=((0,5,.pointer (some ⟨g1,o1,none⟩))::(1,6,.pointer (some ⟨g1,o1,none⟩))::(2,7,.pointer (some ⟨g1,o1,none⟩))::(3,8,.int .i64 x0)::(4,9,.pointer (some ⟨g2,o2,none⟩))::(5,10,.pointer (some ⟨g2,o2,none⟩))::(6,11,.pointer (some ⟨g2,o2,none⟩))::(7,12,.int .i64 y0)::(8,13,.bool b0)::(9,14,.bool b0)::(10,15,(bif b0 then .pointer (some ⟨g1,o1,none⟩) else undef))::(11,16,(bif b0 then .pointer (some ⟨g1,o1,none⟩) else undef))::(12,17,(bif b0 then .pointer (some ⟨g1,o1+1,none⟩) else undef))::(13,18,(bif b0 then .agg VA.toArray else undef))::(14,19,(bif b0 then .pointer (some ⟨g2,o2,none⟩) else undef))::(15,20,(bif b0 then .pointer (some ⟨g2,o2,none⟩) else undef))::(16,21,(bif b0 then .pointer (some ⟨g2,o2+1,none⟩) else undef))::(17,22,(bif b0 then .agg VB.toArray else undef))::(18,23,(bif b0 then .bool b1 else undef))::(19,24,.bool c1)::(20,25,.bool c1)::(21,26,(bif c1 then .pointer (some ⟨g1,o1,none⟩) else undef))::(22,27,(bif c1 then .pointer (some ⟨g1,o1,none⟩) else undef))::(23,28,(bif c1 then .pointer (some ⟨g1,o1+7,none⟩) else undef))::(24,29,(bif c1 then .string ⟨x7.toArray⟩ else undef))::(25,30,(bif c1 then .pointer (some ⟨g2,o2,none⟩) else undef))::(26,31,(bif c1 then .pointer (some ⟨g2,o2,none⟩) else undef))::(27,32,(bif c1 then .pointer (some ⟨g2,o2+7,none⟩) else undef))::(28,33,(bif c1 then .string ⟨y7.toArray⟩ else undef))::(29,34,(bif c1 then .bool b2 else undef))::(30,35,.bool c2)::(31,36,.bool c2)::(32,37,(bif c2 then .pointer (some ⟨g1,o1,none⟩) else undef))::(33,38,(bif c2 then .pointer (some ⟨g1,o1,none⟩) else undef))::(34,39,(bif c2 then .pointer (some ⟨g1,o1+8,none⟩) else undef))::(35,40,(bif c2 then .agg RA.toArray else undef))::(36,41,(bif c2 then .pointer (some ⟨g2,o2,none⟩) else undef))::(37,42,(bif c2 then .pointer (some ⟨g2,o2,none⟩) else undef))::(38,43,(bif c2 then .pointer (some ⟨g2,o2+8,none⟩) else undef))::(39,44,(bif c2 then .agg RB.toArray else undef))::(40,45,(bif c2 then .bool b3 else undef))::(41,46,.bool c3)::(42,47,.bool c3)::(43,48,(bif c3 then .pointer (some ⟨g1,o1,none⟩) else undef))::(44,49,(bif c3 then .pointer (some ⟨g1,o1,none⟩) else undef))::(45,50,(bif c3 then .pointer (some ⟨g1,o1+20,none⟩) else undef))::(46,51,(bif c3 then .int .i64 x20 else undef))::(47,52,(bif c3 then .pointer (some ⟨g2,o2,none⟩) else undef))::(48,53,(bif c3 then .pointer (some ⟨g2,o2,none⟩) else undef))::(49,54,(bif c3 then .pointer (some ⟨g2,o2+20,none⟩) else undef))::(50,55,(bif c3 then .int .i64 y20 else undef))::(51,56,(bif c3 then .bool b4 else undef))::(52,57,.bool c4)::(53,58,.bool c4)::(54,59,(bif c4 then .pointer (some ⟨g1,o1,none⟩) else undef))::(55,60,(bif c4 then .pointer (some ⟨g1,o1,none⟩) else undef))::(56,61,(bif c4 then .pointer (some ⟨g1,o1+21,none⟩) else undef))::(57,62,(bif c4 then .slice A n cp else undef))::(58,63,(bif c4 then .int .i64 (n:Nat) else undef))::(59,64,(bif c4 then .pointer (some ⟨g2,o2,none⟩) else undef))::(60,65,(bif c4 then .pointer (some ⟨g2,o2,none⟩) else undef))::(61,66,(bif c4 then .pointer (some ⟨g2,o2+21,none⟩) else undef))::(62,67,(bif c4 then .slice A' n' rg else undef))::(63,68,(bif c4 then .int .i64 (n':Nat) else undef))::(64,69,(bif c4 then .bool b5 else undef))::(65,70,.bool c5)::(66,4,.bool c5)::[]):=⟨_,rfl⟩
 have am:=zh ae;clear ae;refine bC (fun a0=>71<=a0.tmps.size/\a0.eval (.tmp 0)=.pointer (some ⟨g1,o1,none⟩)/\a0.eval (.tmp 1)=.pointer (some ⟨g2,o2,none⟩)) (5::6::7::8::9::10::11::12::13::14::15::16::17::18::19::20::21::22::23::24::25::26::27::28::29::30::31::32::33::34::35::36::37::38::39::40::41::42::43::44::45::46::47::48::49::50::51::52::53::54::55::56::57::58::59::60::61::62::63::64::65::66::67::68::69::70::4::[]) TT [] (fun w'=>w'=w.drew) (by kernel_rfl) (by kernel_rfl) ⟨by simp,rfl,rfl⟩ rfl ?_ ?_
 ·rintro a0 ⟨hs,dh,dt⟩ zl a1 w1 zj o bg hI aa ho zd;obtain rfl:w1=w.drew:=hI.st;have ae:=am.out;have hk:okU (TT.map fun e=>(e.1,e.2.1)) (5::6::7::8::9::10::11::12::13::14::15::16::17::18::19::20::21::22::23::24::25::26::27::28::29::30::31::32::33::34::35::36::37::38::39::40::41::42::43::44::45::46::47::48::49::50::51::52::53::54::55::56::57::58::59::60::61::62::63::64::65::66::67::68::69::70::4::[]) 71=true:=by rw[ae];rfl
  subst ae;have e0x:=aE ((hI.off.eval (by decide)).trans dh);have e1x:=aE ((hI.off.eval (by decide)).trans dt);have hj:=Up.of_false aa;have hj12:zj<67:=by rw[bg]at hj;exact hj
  have G:RG _ _ _ _ _ _ _ _ _ _ _:=⟨hk,hI,hs,aa,ho,zd⟩
  (iterate 66 rcases zq hj12 with hj12|rfl);obtain rfl:=cz hj12;all_goals obtain rfl:=oi ho
  ·exact G.nl 0 rfl (by simp[execOp,go_sem,e0x])
  ·exact G.nl 1 rfl (by simp[execOp,go_sem,G.t 0 rfl])
  ·exact G.nl 2 rfl (by simp[execOp,go_sem,G.t 1 rfl])
  ·exact G.nl 3 rfl (by simp[execOp,go_sem,G.t 2 rfl,k0])
  ·exact G.nl 4 rfl (by simp[execOp,go_sem,e1x])
  ·exact G.nl 5 rfl (by simp[execOp,go_sem,G.t 4 rfl])
  ·exact G.nl 6 rfl (by simp[execOp,go_sem,G.t 5 rfl])
  ·exact G.nl 7 rfl (by simp[execOp,go_sem,G.t 6 rfl,m0])
  ·exact G.nl 8 rfl (by simp[execOp,go_sem,G.t 3 rfl,G.t 7 rfl,e0'])
  ·exact G.nl 9 rfl (by simp[execOp,go_sem,G.t 8 rfl])
  ·refine G.gv 9 10 rfl rfl rfl ?_;rintro rfl;simp[execOp,go_sem,e0x]
  ·refine G.gv 9 11 rfl rfl rfl ?_;rintro rfl;simp[execOp,go_sem,G.t 10 rfl]
  ·refine G.gv 9 12 rfl rfl rfl ?_;rintro rfl;simp[execOp,go_sem,G.t 11 rfl]
  ·refine G.gv 9 13 rfl rfl rfl ?_;rintro rfl;have p12:=G.d 12 rfl;exact aL 32 (.tmp 17) rfl g1 (o1+1) p12 VA _ l1.out Tryz.underlying32 rfl i1
  ·refine G.gv 9 14 rfl rfl rfl ?_;rintro rfl;simp[execOp,go_sem,e1x]
  ·refine G.gv 9 15 rfl rfl rfl ?_;rintro rfl;simp[execOp,go_sem,G.t 14 rfl]
  ·refine G.gv 9 16 rfl rfl rfl ?_;rintro rfl;simp[execOp,go_sem,G.t 15 rfl]
  ·refine G.gv 9 17 rfl rfl rfl ?_;rintro rfl;have p16:=G.d 16 rfl;exact aL 32 (.tmp 21) rfl g2 (o2+1) p16 VB _ l2.out Tryz.underlying32 rfl i2
  ·refine G.gv 9 18 rfl rfl rfl ?_;rintro rfl;simp[execOp,go_sem,G.t 13 rfl,G.t 17 rfl,hev]
  ·cases b0
   all_goals have p9:=G.d 9 rfl
   all_goals have p18:=G.d 18 rfl
   all_goals exact G.nl 19 rfl (by simp[execOp,go_sem,aE p9,aE p18,h1])
  ·exact G.nl 20 rfl (by simp[execOp,go_sem,G.t 19 rfl])
  ·refine G.gv 20 21 rfl rfl rfl ?_;rintro rfl;simp[execOp,go_sem,e0x]
  ·refine G.gv 20 22 rfl rfl rfl ?_;rintro rfl;simp[execOp,go_sem,G.t 21 rfl]
  ·refine G.gv 20 23 rfl rfl rfl ?_;rintro rfl;simp[execOp,go_sem,G.t 22 rfl]
  ·refine G.gv 20 24 rfl rfl rfl ?_;rintro rfl;simp[execOp,go_sem,G.t 23 rfl,k7]
  ·refine G.gv 20 25 rfl rfl rfl ?_;rintro rfl;simp[execOp,go_sem,e1x]
  ·refine G.gv 20 26 rfl rfl rfl ?_;rintro rfl;simp[execOp,go_sem,G.t 25 rfl]
  ·refine G.gv 20 27 rfl rfl rfl ?_;rintro rfl;simp[execOp,go_sem,G.t 26 rfl]
  ·refine G.gv 20 28 rfl rfl rfl ?_;rintro rfl;simp[execOp,go_sem,G.t 27 rfl,m7]
  ·refine G.gv 20 29 rfl rfl rfl ?_;rintro rfl;simp[execOp,go_sem,G.t 24 rfl,G.t 28 rfl,e2']
  ·cases c1
   all_goals have p20:=G.d 20 rfl
   all_goals have p29:=G.d 29 rfl
   all_goals exact G.nl 30 rfl (by simp[execOp,go_sem,aE p20,aE p29,h2])
  ·exact G.nl 31 rfl (by simp[execOp,go_sem,G.t 30 rfl])
  ·refine G.gv 31 32 rfl rfl rfl ?_;rintro rfl;simp[execOp,go_sem,e0x]
  ·refine G.gv 31 33 rfl rfl rfl ?_;rintro rfl;simp[execOp,go_sem,G.t 32 rfl]
  ·refine G.gv 31 34 rfl rfl rfl ?_;rintro rfl;simp[execOp,go_sem,G.t 33 rfl]
  ·refine G.gv 31 35 rfl rfl rfl ?_;rintro rfl;have p34:=G.d 34 rfl;exact aL 38 (.tmp 39) rfl g1 (o1+8) p34 RA _ l3.out Tryz.underlying38 rfl i3
  ·refine G.gv 31 36 rfl rfl rfl ?_;rintro rfl;simp[execOp,go_sem,e1x]
  ·refine G.gv 31 37 rfl rfl rfl ?_;rintro rfl;simp[execOp,go_sem,G.t 36 rfl]
  ·refine G.gv 31 38 rfl rfl rfl ?_;rintro rfl;simp[execOp,go_sem,G.t 37 rfl]
  ·refine G.gv 31 39 rfl rfl rfl ?_;rintro rfl;have p38:=G.d 38 rfl;exact aL 38 (.tmp 43) rfl g2 (o2+8) p38 RB _ l4.out Tryz.underlying38 rfl i4
  ·refine G.gv 31 40 rfl rfl rfl ?_;rintro rfl;simp[execOp,go_sem,G.t 35 rfl,G.t 39 rfl,hea]
  ·cases c2
   all_goals have p31:=G.d 31 rfl
   all_goals have p40:=G.d 40 rfl
   all_goals exact G.nl 41 rfl (by simp[execOp,go_sem,aE p31,aE p40,h3])
  ·exact G.nl 42 rfl (by simp[execOp,go_sem,G.t 41 rfl])
  ·refine G.gv 42 43 rfl rfl rfl ?_;rintro rfl;simp[execOp,go_sem,e0x]
  ·refine G.gv 42 44 rfl rfl rfl ?_;rintro rfl;simp[execOp,go_sem,G.t 43 rfl]
  ·refine G.gv 42 45 rfl rfl rfl ?_;rintro rfl;simp[execOp,go_sem,G.t 44 rfl]
  ·refine G.gv 42 46 rfl rfl rfl ?_;rintro rfl;simp[execOp,go_sem,G.t 45 rfl,k20]
  ·refine G.gv 42 47 rfl rfl rfl ?_;rintro rfl;simp[execOp,go_sem,e1x]
  ·refine G.gv 42 48 rfl rfl rfl ?_;rintro rfl;simp[execOp,go_sem,G.t 47 rfl]
  ·refine G.gv 42 49 rfl rfl rfl ?_;rintro rfl;simp[execOp,go_sem,G.t 48 rfl]
  ·refine G.gv 42 50 rfl rfl rfl ?_;rintro rfl;simp[execOp,go_sem,G.t 49 rfl,m20]
  ·refine G.gv 42 51 rfl rfl rfl ?_;rintro rfl;simp[execOp,go_sem,G.t 46 rfl,G.t 50 rfl,e4']
  ·cases c3
   all_goals have p42:=G.d 42 rfl
   all_goals have p51:=G.d 51 rfl
   all_goals exact G.nl 52 rfl (by simp[execOp,go_sem,aE p42,aE p51,h4])
  ·exact G.nl 53 rfl (by simp[execOp,go_sem,G.t 52 rfl])
  ·refine G.gv 53 54 rfl rfl rfl ?_;rintro rfl;simp[execOp,go_sem,e0x]
  ·refine G.gv 53 55 rfl rfl rfl ?_;rintro rfl;simp[execOp,go_sem,G.t 54 rfl]
  ·refine G.gv 53 56 rfl rfl rfl ?_;rintro rfl;simp[execOp,go_sem,G.t 55 rfl]
  ·refine G.gv 53 57 rfl rfl rfl ?_;rintro rfl;simp[execOp,go_sem,G.t 56 rfl,k21]
  ·refine G.gv 53 58 rfl rfl rfl ?_;rintro rfl;simp[go_sem,G.t 57 rfl]
  ·refine G.gv 53 59 rfl rfl rfl ?_;rintro rfl;simp[execOp,go_sem,e1x]
  ·refine G.gv 53 60 rfl rfl rfl ?_;rintro rfl;simp[execOp,go_sem,G.t 59 rfl]
  ·refine G.gv 53 61 rfl rfl rfl ?_;rintro rfl;simp[execOp,go_sem,G.t 60 rfl]
  ·refine G.gv 53 62 rfl rfl rfl ?_;rintro rfl;simp[execOp,go_sem,G.t 61 rfl,m21]
  ·refine G.gv 53 63 rfl rfl rfl ?_;rintro rfl;simp[go_sem,G.t 62 rfl]
  ·refine G.gv 53 64 rfl rfl rfl ?_;rintro rfl;simp[execOp,go_sem,G.t 58 rfl,G.t 63 rfl,e5z]
  ·cases c4
   all_goals have p53:=G.d 53 rfl
   all_goals have p64:=G.d 64 rfl
   all_goals exact G.nl 65 rfl (by simp[execOp,go_sem,aE p53,aE p64,h5])
  exact G.nl 66 rfl (by simp[execOp,go_sem,G.t 65 rfl])
 intro zl a1 w1 hI ap;have ae:=am.out;subst ae;obtain rfl:w1=w.drew:=hI.st;have z4:=hI.ptk 66 rfl (ap 66 (by decide));obtain⟨ff,rfl,hf⟩:=hI.off.forms;rw[<- hf 4]at z4;clear hI;simp only[List.foldl,Act.put,yz,List.set];rw[z4]
 go_wp2_with fail
 go_ret
 exact⟨by rw[rh.out];rfl,HB.out⟩
theorem Lies.node{W:World}{q:Nat}{h:NodeH}{A:Option Addr}{n c:Nat}(hl:Lies W q 41 (aY h A n c)):NodeIn W q 0 h A n c:=⟨hl.lt,fun j _=>by rw[Nat.zero_add];exact hl.cell j⟩
set_option maxRecDepth 100000 in
theorem fO(h hw:NodeH)(A Aw:Option Addr)(n nw c cw g o:Nat)(w:World)(hn:NodeIn w g o h A n c) :
  Calls Tryz.prog 52 #[.pointer (some ⟨g,o,none⟩),dA hw Aw nw cw] w fun e w'=>e=.returned (.bool (NodeH.same h { hw with kind:=h.kind }&&decide (n=nw)))/\Below w.heap.size w w':=by
 obtain⟨W1,bt⟩:∃ W1,W1=w.alloc (.cells (aY hw Aw nw cw) 41):=⟨_,rfl⟩
 have bu:=zh bt;have HL:Hid (Lies W1 w.heap.size 41 (aY hw Aw nw cw)):=zh (by rw[bt];exact Lies.new _ _ _);have HB:Hid (Below w.heap.size w W1):=zh (by rw[bt];exact zp _);have HN:=zh (NodeIn.kp hn (Kp.of_below HB.out));have k0:W1.cell? ⟨g,o,none⟩=some (.int .i64 h.kind):=HN.out.2 0 (by decide);have km:=hn.1;clear bt hn;obtain⟨bb,kb⟩:∃ bb,(NodeH.same h { hw with kind:=h.kind }&&decide (n=nw))=bb:=⟨_,rfl⟩
 have rh:=zh kb;rw[kb];clear kb
 go_enter Tryz.func52,Tryz.ntmps52
 go_upto_region 1 with fail
 rw[<- bu.out];generalize hq:w.heap.size=q at *;have hgq:g≠q:=by omega
 have x0:=HL.out.cell 0;have xf0:=HL.out.frozen 0;simp only[za,zb]at x0;have jt:=zh (HL.out.put 0 (.int .i64 h.kind));have iu:Hid (NodeIn (W1.setCell ⟨q,0,none⟩ (.int .i64 h.kind)) g o h A n c):=zh ⟨by have:=HN.out.1;simpa using this,fun j hj=>by
  rw[<- HN.out.2 j hj];apply World.cell?_setCell_other;intro e;injection e with e;exact hgq e.symm⟩
 have cq:Hid (Below q w (W1.setCell ⟨q,0,none⟩ (.int .i64 h.kind))):=zh (HB.out.setCell (p:=⟨q,0,none⟩) (Nat.le_refl q) _);clear HL HN HB bu
 go_upto_region 2 with fail
 generalize World.setCell _ _ _=W2 at *;clear k0 x0 xf0;have HC:=zh (uGN h { hw with kind:=h.kind } A Aw n nw c cw g o q 0 W2 iu.out (Lies.node jt.out));rw[rh.out]at HC;clear rh
 go_wp2_with fail
 refine HC.out.mono ?_;rintro e w3 ⟨rfl,hb⟩;have aq:=zh (cq.out.trans (hb.mono (by have:=cq.out.size;omega)));clear hb HC
 go_wp2_with fail
 go_ret
 exact⟨rfl,by first|exact aq.out |(rw[hq];exact aq.out)⟩
theorem wp_bs1{o:Oper}{a:Act}{w:World}{K:Act->World->Prop}{Q:Exit->Act->World->Prop}(x:Operand)(ho:o.op=.buildSlice 39 1 #[(0,x)])(cs:List Value)(hx:a.eval x=.agg cs.toArray)(fz:cs.length=22)
  (h:K (a.put o.dst (.slice (some ⟨w.heap.size,0,none⟩) 1 1)) (w.alloc (.cells cs.toArray 41))):o.wp Tryz.prog a w K Q:=by
 have hf:Tryz.prog.builtSlice 41 1 ((#[(0,x)]:Array (Nat×Operand)).map fun(i,x)=>(i,a.eval x)).toList=some cs.toArray:=by
  simp only[List.map_toArray,List.map_cons,List.map_nil,hx];exact built1 cs fz
 unfold Program.builtSlice at hf;cases uw:Tryz.prog.info? 41 with
 |none=>simp[uw]at hf
 |some ie=>
  simp only[uw]at hf;cases hz:ie.zero with
  |none=>simp[hz]at hf
  |some z=>
   simp only[hz]at hf;by_cases hc:1*ie.size > 2 ^ 24\/1*ie.size=0
   ·rw[if_pos hc]at hf;cases hf
   rw[if_neg hc]at hf;exact wp_buildSlice 39 41 1 #[(0,x)] ho cs.toArray ie z qD uw hz (fun h'=>hc (Or.inl h')) (fun h'=>hc (Or.inr h')) hf h
theorem uDD{t:Tok}(h:¬ t.kind=5):dV t=false:=by simp[dV,isS,h]
theorem uHO(tx:Bs)(tp:Nat):dV ⟨5,tx,tp⟩=gM.contains tx:=by
 unfold dV isS gM;simp only[decide_true,Bool.true_and,List.contains_cons,List.contains_nil,Bool.or_false]
theorem uGL{E:Env}{k:Nat}(h:k<E.L.length):bF (E.L.drop k)=if dV (E.at k) then bF (E.L.drop (k+1))+1 else 0:=by
 rw[yx h,E.at_lt h];rfl
def mI(E:Env)(k2 i:Nat)(t:Tree):Tree:=((E.L.drop i).take (k2-i)).foldr (fun s n=>tUn s.text n) t
theorem uEV{E:Env}{k2 i:Nat}{t:Tree}(h:i<k2)(hk:k2<=E.L.length):mI E k2 i t=tUn (E.at i).text (mI E k2 (i+1) t):=by
 unfold mI;rw[yx (by omega:i<E.L.length),show k2-i=(k2-(i+1))+1 by omega,List.take_succ_cons,List.foldr_cons,E.at_lt (by omega:i<E.L.length)]
structure Sgn(E:Env)(w:World)(k1 op c pl er q q6:Nat)(l:List Value)(t:Tree)(W:World):Prop where
 st:Fs E w k1 op c pl er [(q6,41,l.toArray),(q,41,aA.toArray)] W
 nv:NV W (q6::List.range (q+1)) c t l.toArray
theorem Sgn.len{E:Env}{w:World}{k1 op c pl er q q6:Nat}{l:List Value}{t:Tree}{W:World}(h:Sgn E w k1 op c pl er q q6 l t W):l.length=22:=by
 have:=h.nv.1
 rwa [yd]at this
theorem Sgn.next{E:Env}{w:World}{k1 op c pl er q q6:Nat}{l:List Value}{t:Tree}{W W':World}(h:Sgn E w k1 op c pl er q q6 l t W)(hb:Below W.heap.size W W'):Sgn E w k1 op c pl er q q6 l t W':=⟨h.st.next hb,h.nv.kp (Kp.of_below hb)⟩
theorem Sgn.step{E:Env}(hE:E.ok){w:World}{k1 op c pl er q q6:Nat}{l:List Value}{t:Tree}{W w9:World}(h:Sgn E w k1 op c pl er q q6 l t W)(hwq:w.heap.size<=q)(hq:q<q6){s:Bs}{C:List Value}(fz:C.length=22)(h1:C.toArray.all (·.oneCell')=true)(hC:c+1<=256->C=unL s (some ⟨W.heap.size,0,none⟩) 1 1)
  (hi:InE E k1 op (c+1) pl er w9) (gy:Kp [E.r] (W.alloc (.cells l.toArray 41)) w9):Sgn E w k1 op (c+1) pl er q q6 C (tUn s t) (w9.setCells q6 0 C):=by
 have hb:Below W.heap.size W (W.alloc (.cells l.toArray 41)):=(zp _);have hr:Kp [E.r] W w9:=(Kp.of_below hb).trans gy;have hs9:Fs E w k1 op (c+1) pl er [(q6,41,l.toArray),(q,41,aA.toArray)] w9:=(h.st.next hb).step hi gy.X;have hk6:Kp [q6] w9 (w9.setCells q6 0 C):=aT (.inl (.head _)) C 0 (Kp.refl _ _);have hlen:=h.len;have bg:=hs9.fill hE 0 rfl C (by rw[fz];exact hlen.symm);have hrq:E.r<q:=by obtain⟨k0,op0,nd0,pl0,er0,ct⟩:=h.st.base;have:=ct.rd.lt;omega
 have h6:=h.st.lt 0 rfl;have km:Lies w9 W.heap.size 41 l.toArray:=gy.lies (Lies.new W 41 l.toArray) (fun hm=>by rw[yf.1 hm]at h6;omega);have hgl2:Lies (w9.setCells q6 0 C) W.heap.size 41 l.toArray:=hk6.lies km (fun hm=>by have:=yf.1 hm;omega);have hnv:NV (w9.setCells q6 0 C) (q6::List.range (q+1)) c t l.toArray:=(h.nv.kpX hr (fun y hy=>by rw[yf.1 hy];exact zg _ (yg.2 (by omega)))).kpX hk6 (fun y hy=>by rw[yf.1 hy];exact .head _);refine⟨bg,by rw[yd,fz],h1,fun hn=>?_⟩;refine⟨some ⟨W.heap.size,0,none⟩,1,by rw[hC hn];rfl,KidsAt.one hgl2 hnv (by omega) (fun hm=>?_) _ rfl⟩;rcases ym.1 hm with hm|hm
 ·omega
 have:=yg.1 hm;have:=h.st.lt 1 rfl;omega
def intM(v:Value):Nat:=match v with
 | .int _ i=>(i+1).toNat
 |_=>0
set_option maxRecDepth 100000 in
theorem uEX(E:Env)(hE:E.ok)(he:E.ends)(hL:E.L.length<=1000000)(percent:List Tok->Nat->Out)(op:Nat)(hp:dP E 111 percent op):dP E 107 (iS percent) op:=by
 intro k nd pl er w hI hk hn;have CT:=zh (fun k nd pl er W h hk=>bX E k op nd pl er W h hk);have CN:=zh (fun k nd pl er cs fz h1 W h hn=>gI E hE k op nd pl er cs fz h1 W h hn);have CP:=zh hp;have qd:Hid (∀ k,k<E.L.length->(E.at k).kind≠0->k+1<E.L.length):=zh (fun k hk h=>E.more he hk h);have bo:=zh ((Fs.start hI).alloc 41 aA.toArray (by decide));generalize hO:iS percent (E.L.drop k) nd=O;have HO:Hid ((match percent (E.L.drop (k+bF (E.L.drop k))) nd with
  | .bad e p=>.bad e p
  | .ok t av c1=>.ok (((E.L.drop k).take (bF (E.L.drop k))).foldr (fun s n=>tUn s.text n) t) av (c1+bF (E.L.drop k)))=O):=zh (by
  rw[<- hO];unfold iS;rw[List.drop_drop];rfl)
 have HF:Hid (k<E.L.length/\nd<=k):=zh ⟨hk,hn⟩;clear hI hO hn hp;simp only[aA]at bo
 go_enter Tryz.func107,Tryz.ntmps107
 go_upto_region 1 with fail
 generalize World.alloc _ _=W1 at bo ⊢;generalize hq:w.heap.size=q at bo ⊢;have HQ:=zh hq;clear hq;have r1:=bo.out.ine.rd.cell 1;simp only[za,zb,zf]at r1;have HM:Hid (∃ k',Fs E w k' op nd pl er [(q,41,aA.toArray)] W1/\k<=k'/\k'<E.L.length/\bF (E.L.drop k)+k=k'+bF (E.L.drop k')):=zh ⟨k,bo.out,zr,hk,by omega⟩
 go_wp2_with fail
 clear r1 hk
 go_loopw [13] (fun _ wr=>Hid (∃ k',Fs E w k' op nd pl er [(q,41,aA.toArray)] wr/\k<=k'/\k'<E.L.length/\bF (E.L.drop k)+k=k'+bF (E.L.drop k'))) (fun _ wr=>E.L.length-rdAt wr E.r)
 case atStart=>exact HM
 case round=>
  obtain⟨k2,h1,h2,h3,h4⟩:=hrel.out;have ed:=zh h1;have HB:Hid (k<=k2/\k2<E.L.length/\bF (E.L.drop k)+k=k2+bF (E.L.drop k2)):=zh ⟨h2,h3,h4⟩;have HRD:=zh h1.ine.rdAt;clear h1 h2 h3 h4 hrel HM bo;have i9:=zh (uGL HB.out.2.1);have CT1:=zh (fun W h=>CT.out k2 nd pl er W h HB.out.2.1);have HEN1:=zh (qd.out k2 HB.out.2.1);obtain⟨tt,ec⟩:∃ tt,E.at k2=tt:=⟨_,rfl⟩
  rw[ec]at CT1 i9 HEN1;clear ec;obtain⟨tk,tx,tp⟩:=tt;dsimp only[tkV]at CT1
  go_upto_region 2 with fail
  go_cut [27] (fun v wx=>v=.bool (dV ⟨tk,tx,tp⟩)/\Hid (Fs E w k2 op nd pl er [(q,41,aA.toArray)] wx))
  case first=>
   have xz:=lK;have hf1:=mK;by_cases h5:tk=5
   ·subst h5;obtain⟨P0,j4⟩:∃ R:World->Prop,∀ w',R w'↔(Fs E w k2 op nd pl er [(q,41,aA.toArray)] w'):=⟨_,fun _=>Iff.rfl⟩
    have ev:=zh j4;clear j4;obtain⟨P1,nh⟩:∃ R:World->Prop,∀ w',R w'↔(Fs E w k2 op nd pl er [(q,41,aA.toArray)] w'):=⟨_,fun _=>Iff.rfl⟩
    have j5:=zh nh;clear nh;obtain⟨P2,hP2⟩:∃ R:World->Prop,∀ w',R w'↔(Fs E w k2 op nd pl er [(q,41,aA.toArray)] w'):=⟨_,fun _=>Iff.rfl⟩
    have wk:=zh hP2;clear hP2;obtain⟨TT,ae⟩:∃ TT:List (Nat×Nat×Value),TT=[(0,13,.pointer (some ⟨E.r,0,none⟩)),(1,14,.agg #[.int .i64 5,.string ⟨tx.toArray⟩,.int .i64 (tp:Int)]),(2,15,.int .i64 5),(3,16,.bool true),(4,17,.bool true),(5,18,.pointer (some ⟨E.r,0,none⟩)),(6,19,.pointer (some ⟨E.r,0,none⟩)),(7,20,.pointer (some ⟨E.r,6,none⟩)),(8,21,.map (some E.sg)),(9,22,.map (some (E.sg+1+5))),(10,23,.pointer (some ⟨E.r,0,none⟩)),(11,24,.agg #[.int .i64 5,.string ⟨tx.toArray⟩,.int .i64 (tp:Int)]),(12,25,.string ⟨tx.toArray⟩),(13,26,.bool (gM.contains tx)),(14,27,.bool (gM.contains tx))]:=⟨_,rfl⟩
    have am:=zh ae;clear ae;refine bC (fun a0=>69<=a0.tmps.size/\a0.eval (.tmp 0)=.pointer (some ⟨E.r,0,none⟩)) [13,14,15,16,17,18,19,20,21,22,23,24,25,26,27] TT [(1,P1),(11,P2)] P0 (by kernel_rfl) (by kernel_rfl) ⟨by simp,rfl⟩ ((ev.out _).2 (ed.out.next (Below.refl _ _).drew)) ?_ ?_
    ·rintro a0 ⟨hs,dh⟩ zl a1 w1 zj o bg hI aa ho zd;have ae:=am.out;subst ae;have hk:okU (([(0,13,.pointer (some ⟨E.r,0,none⟩)),(1,14,.agg #[.int .i64 5,.string ⟨tx.toArray⟩,.int .i64 (tp:Int)]),(2,15,.int .i64 5),(3,16,.bool true),(4,17,.bool true),(5,18,.pointer (some ⟨E.r,0,none⟩)),(6,19,.pointer (some ⟨E.r,0,none⟩)),(7,20,.pointer (some ⟨E.r,6,none⟩)),(8,21,.map (some E.sg)),(9,22,.map (some (E.sg+1+5))),(10,23,.pointer (some ⟨E.r,0,none⟩)),(11,24,.agg #[.int .i64 5,.string ⟨tx.toArray⟩,.int .i64 (tp:Int)]),(12,25,.string ⟨tx.toArray⟩),(13,26,.bool (gM.contains tx)),(14,27,.bool (gM.contains tx))]:List (Nat×Nat×Value)).map fun e=>(e.1,e.2.1)) [13,14,15,16,17,18,19,20,21,22,23,24,25,26,27] 69=true:=by rfl
     have hj:=Up.of_false aa;have hj12:zj<15:=by rw[bg]at hj;exact hj
     have e0x:a1.eval (.tmp 0)=.pointer (some ⟨E.r,0,none⟩):=(hI.off.eval (by decide)).trans dh;(iterate 14 rcases zq hj12 with hj12|rfl);obtain rfl:=cz hj12;all_goals obtain rfl:=oi ho
     ·exact aQ hk hI hs (.head _) (by simp) aa ho zd (aC rfl) rfl (by simp[execOp,go_sem,aE e0x])
     ·have d0:=ud zd 0;have p0:=pk hI.pt 0 rfl d0;refine iQ hk hI hs (.tail _ (.head _)) (by kernel_rfl) [] [(11,P2)] P1 rfl aa ho zd (aC rfl) rfl (fun hP=>?_);have hP:P0 w1:=hP;refine iG (v:=.agg #[.int .i64 5,.string ⟨tx.toArray⟩,.int .i64 (tp:Int)]) 25 #[.pointer (some ⟨E.r,0,none⟩)] (by simp[go_sem,aE p0]) ?_;have h:=(ev.out _).1 hP;refine(CT1.out w1 h.ine).mono ?_;rintro e w2 ⟨rfl,hb⟩;exact⟨rfl,rfl,(j5.out _).2 (h.next hb)⟩
     ·have d1:=ud zd 1;have p1:=pk hI.pt 1 rfl d1;exact aQ hk hI hs (mm 2 rfl) (by simp) aa ho zd (aC rfl) rfl (by simp[execOp,go_sem,aE p1,xz])
     ·have d2:=ud zd 2;have p2:=pk hI.pt 2 rfl d2;exact aQ hk hI hs (mm 3 rfl) (by simp) aa ho zd (aC rfl) rfl (by simp[execOp,go_sem,aE p2])
     ·have d3:=ud zd 3;have p3:=pk hI.pt 3 rfl d3;exact aQ hk hI hs (mm 4 rfl) (by simp) aa ho zd (aC rfl) rfl (by simp[execOp,go_sem,aE p3])
     ·have d4:Up zl 4:=zd ⟨4,.guard⟩ (by simp) rfl;have p4:=pk hI.pt 4 rfl d4;exact aQ hk hI hs (mm 5 rfl) (by simp) aa ho zd (Eq.trans (aH rfl rfl rfl p4) rfl) rfl (by simp[execOp,go_sem,aE e0x])
     ·have d5:=ud zd 5;have p5:=pk hI.pt 5 rfl d5;have d4:Up zl 4:=zd ⟨4,.guard⟩ (by simp) rfl;have p4:=pk hI.pt 4 rfl d4;exact aQ hk hI hs (mm 6 rfl) (by simp) aa ho zd (Eq.trans (aH rfl rfl rfl p4) rfl) rfl (by simp[execOp,go_sem,aE p5])
     ·have d6:=ud zd 6;have p6:=pk hI.pt 6 rfl d6;have d4:Up zl 4:=zd ⟨4,.guard⟩ (by simp) rfl;have p4:=pk hI.pt 4 rfl d4;exact aQ hk hI hs (mm 7 rfl) (by simp) aa ho zd (Eq.trans (aH rfl rfl rfl p4) rfl) rfl (by simp[execOp,go_sem,aE p6])
     ·have d7:=ud zd 7;have p7:=pk hI.pt 7 rfl d7;have d4:Up zl 4:=zd ⟨4,.guard⟩ (by simp) rfl;have p4:=pk hI.pt 4 rfl d4;have hq:w1.cell? ⟨E.r,6,none⟩=some (.map (some E.sg)):=by
       obtain⟨jj,oo,hP⟩:=hI.low 2 (by simp) (fun m hm=>by cases hm) aa;rcases(by omega:jj=0\/jj=1\/jj=2) with rfl|rfl|rfl
       ·have hP:P0 w1:=hP;have h:=((ev.out _).1 hP).ine.rd.cell 6;simpa using h
       ·have hP:P1 w1:=hP;have h:=((j5.out _).1 hP).ine.rd.cell 6;simpa using h
       have hP:P2 w1:=hP;have h:=((wk.out _).1 hP).ine.rd.cell 6;simpa using h
      exact aQ hk hI hs (mm 8 rfl) (by simp) aa ho zd (Eq.trans (aH rfl rfl rfl p4) rfl) rfl (by simp[execOp,go_sem,aE p7,hq])
     ·have d8:=ud zd 8;have p8:=pk hI.pt 8 rfl d8;have d4:Up zl 4:=zd ⟨4,.guard⟩ (by simp) rfl;have p4:=pk hI.pt 4 rfl d4;have hq:(Instr.lookup 63 (.map (some E.sg)) (.int .i64 5) false).run Tryz.prog w1=.ok (.map (some (E.sg+1+5))) w1:=by
       obtain⟨jj,oo,hP⟩:=hI.low 2 (by simp) (fun m hm=>by cases hm) aa;rcases(by omega:jj=0\/jj=1\/jj=2) with rfl|rfl|rfl
       ·have hP:P0 w1:=hP;exact iF E.sg 5 (E.sg+1+5) w1 ((ev.out _).1 hP).ine.sg.out rfl
       ·have hP:P1 w1:=hP;exact iF E.sg 5 (E.sg+1+5) w1 ((j5.out _).1 hP).ine.sg.out rfl
       have hP:P2 w1:=hP;exact iF E.sg 5 (E.sg+1+5) w1 ((wk.out _).1 hP).ine.sg.out rfl
      exact aQ hk hI hs (mm 9 rfl) (by simp) aa ho zd (Eq.trans (aH rfl rfl rfl p4) rfl) rfl (by simp[execOp,go_sem,aE p8,hq])
     ·have d4:Up zl 4:=zd ⟨4,.guard⟩ (by simp) rfl;have p4:=pk hI.pt 4 rfl d4;exact aQ hk hI hs (mm 10 rfl) (by simp) aa ho zd (Eq.trans (aH rfl rfl rfl p4) rfl) rfl (by simp[execOp,go_sem,aE e0x])
     ·have d10:=ud zd 10;have p10:=pk hI.pt 10 rfl d10;have d4:Up zl 4:=zd ⟨4,.guard⟩ (by simp) rfl;have p4:=pk hI.pt 4 rfl d4;refine iQ hk hI hs (mm 11 rfl) (by kernel_rfl) [(1,P1)] [] P2 rfl aa ho zd (Eq.trans (aH rfl rfl rfl p4) rfl) rfl (fun hP=>?_);have hP:P1 w1:=hP;refine iG (v:=.agg #[.int .i64 5,.string ⟨tx.toArray⟩,.int .i64 (tp:Int)]) 25 #[.pointer (some ⟨E.r,0,none⟩)] (by simp[go_sem,aE p10]) ?_;have h:=(j5.out _).1 hP;refine(CT1.out w1 h.ine).mono ?_;rintro e w2 ⟨rfl,hb⟩;exact⟨rfl,rfl,(wk.out _).2 (h.next hb)⟩
     ·have d11:=ud zd 11;have p11:=pk hI.pt 11 rfl d11;have d4:Up zl 4:=zd ⟨4,.guard⟩ (by simp) rfl;have p4:=pk hI.pt 4 rfl d4;exact aQ hk hI hs (mm 12 rfl) (by simp) aa ho zd (Eq.trans (aH rfl rfl rfl p4) rfl) rfl (by simp[execOp,go_sem,aE p11,hf1])
     ·have d9:=ud zd 9;have p9:=pk hI.pt 9 rfl d9;have d12:=ud zd 12;have p12:=pk hI.pt 12 rfl d12;have d4:Up zl 4:=zd ⟨4,.guard⟩ (by simp) rfl;have p4:=pk hI.pt 4 rfl d4;have hq:(Instr.lookup 89 (.map (some (E.sg+1+5))) (.string ⟨tx.toArray⟩) false).run Tryz.prog w1=.ok (.bool (gM.contains tx)) w1:=by
       obtain⟨jj,oo,hP⟩:=hI.low 2 (by simp) (fun m hm=>by cases hm) aa;rcases(by omega:jj=0\/jj=1\/jj=2) with rfl|rfl|rfl
       ·have hP:P0 w1:=hP;obtain⟨cm,mz⟩:=((ev.out _).1 hP).ine.sg.ins 5 (by decide);exact oU gM (E.sg+1+5) cm w1 mz tx
       ·have hP:P1 w1:=hP;obtain⟨cm,mz⟩:=((j5.out _).1 hP).ine.sg.ins 5 (by decide);exact oU gM (E.sg+1+5) cm w1 mz tx
       have hP:P2 w1:=hP;obtain⟨cm,mz⟩:=((wk.out _).1 hP).ine.sg.ins 5 (by decide);exact oU gM (E.sg+1+5) cm w1 mz tx
      exact aQ hk hI hs (mm 13 rfl) (by simp) aa ho zd (Eq.trans (aH rfl rfl rfl p4) rfl) rfl (by simp[execOp,go_sem,aE p9,aE p12,hq])
     have d4:=ud zd 4;have p4:=pk hI.pt 4 rfl d4;have d13:=ud zd 13;have p13:=pk hI.pt 13 rfl d13;exact aQ hk hI hs (mm 14 rfl) (by simp) aa ho zd (aC rfl) rfl (by simp[execOp,go_sem,aE p4,aE p13])
    intro zl a1 w1 hI ap;have ae:=am.out;subst ae;have hF:P2 w1:=hI.st.last (fun m hm=>ap m.1 (by simp only[ym,List.not_mem_nil,or_false]at hm;rcases hm with rfl|rfl;all_goals simp));have z27:a1.eval (.tmp 27)=.bool (gM.contains tx):=hI.pt (14,27,.bool (gM.contains tx)) (mm 14 rfl) (ap 14 (by decide));obtain⟨ff,rfl,hf⟩:=hI.off.forms;rw[<- hf 27]at z27;clear hI;simp only[List.foldl,Act.put,yz,List.set];rw[z27];have ml:=(wk.out _).1 hF;simp only[Exit.then]
    go_step
    go_meet
    exact⟨by rw[uHO],zh ml⟩
   have n5:((tk:Int)==5)=false:=by simp;omega
   obtain⟨P0,j4⟩:∃ R:World->Prop,∀ w',R w'↔(Fs E w k2 op nd pl er [(q,41,aA.toArray)] w'):=⟨_,fun _=>Iff.rfl⟩
   have ev:=zh j4;clear j4;obtain⟨P1,nh⟩:∃ R:World->Prop,∀ w',R w'↔(Fs E w k2 op nd pl er [(q,41,aA.toArray)] w'):=⟨_,fun _=>Iff.rfl⟩
   have j5:=zh nh;clear nh;obtain⟨TT,ae⟩:∃ TT:List (Nat×Nat×Value),TT=[(0,13,.pointer (some ⟨E.r,0,none⟩)),(1,14,.agg #[.int .i64 (tk:Int),.string ⟨tx.toArray⟩,.int .i64 (tp:Int)]),(2,15,.int .i64 (tk:Int)),(3,16,.bool false),(4,17,.bool false),(5,18,undef),(6,19,undef),(7,20,undef),(8,21,undef),(9,22,undef),(10,23,undef),(11,24,undef),(12,25,undef),(13,26,undef),(14,27,.bool false)]:=⟨_,rfl⟩
   have am:=zh ae;clear ae;refine bC (fun a0=>69<=a0.tmps.size/\a0.eval (.tmp 0)=.pointer (some ⟨E.r,0,none⟩)) [13,14,15,16,17,18,19,20,21,22,23,24,25,26,27] TT [(1,P1)] P0 (by kernel_rfl) (by kernel_rfl) ⟨by simp,rfl⟩ ((ev.out _).2 (ed.out.next (Below.refl _ _).drew)) ?_ ?_
   ·rintro a0 ⟨hs,dh⟩ zl a1 w1 zj o bg hI aa ho zd;have ae:=am.out;subst ae;have hk:okU (([(0,13,.pointer (some ⟨E.r,0,none⟩)),(1,14,.agg #[.int .i64 (tk:Int),.string ⟨tx.toArray⟩,.int .i64 (tp:Int)]),(2,15,.int .i64 (tk:Int)),(3,16,.bool false),(4,17,.bool false),(5,18,undef),(6,19,undef),(7,20,undef),(8,21,undef),(9,22,undef),(10,23,undef),(11,24,undef),(12,25,undef),(13,26,undef),(14,27,.bool false)]:List (Nat×Nat×Value)).map fun e=>(e.1,e.2.1)) [13,14,15,16,17,18,19,20,21,22,23,24,25,26,27] 69=true:=by rfl
    have hj:=Up.of_false aa;have hj12:zj<15:=by rw[bg]at hj;exact hj
    have e0x:a1.eval (.tmp 0)=.pointer (some ⟨E.r,0,none⟩):=(hI.off.eval (by decide)).trans dh;(iterate 14 rcases zq hj12 with hj12|rfl);obtain rfl:=cz hj12;all_goals obtain rfl:=oi ho
    ·exact aQ hk hI hs (.head _) (by simp) aa ho zd (aC rfl) rfl (by simp[execOp,go_sem,aE e0x])
    ·have d0:=ud zd 0;have p0:=pk hI.pt 0 rfl d0;refine iQ hk hI hs (.tail _ (.head _)) (by kernel_rfl) [] [] P1 rfl aa ho zd (aC rfl) rfl (fun hP=>?_);have hP:P0 w1:=hP;refine iG (v:=.agg #[.int .i64 (tk:Int),.string ⟨tx.toArray⟩,.int .i64 (tp:Int)]) 25 #[.pointer (some ⟨E.r,0,none⟩)] (by simp[go_sem,aE p0]) ?_;have h:=(ev.out _).1 hP;refine(CT1.out w1 h.ine).mono ?_;rintro e w2 ⟨rfl,hb⟩;exact⟨rfl,rfl,(j5.out _).2 (h.next hb)⟩
    ·have d1:=ud zd 1;have p1:=pk hI.pt 1 rfl d1;exact aQ hk hI hs (mm 2 rfl) (by simp) aa ho zd (aC rfl) rfl (by simp[execOp,go_sem,aE p1,xz])
    ·have d2:=ud zd 2;have p2:=pk hI.pt 2 rfl d2;exact aQ hk hI hs (mm 3 rfl) (by simp) aa ho zd (aC rfl) rfl (by simp[execOp,go_sem,aE p2,n5])
    ·have d3:=ud zd 3;have p3:=pk hI.pt 3 rfl d3;exact aQ hk hI hs (mm 4 rfl) (by simp) aa ho zd (aC rfl) rfl (by simp[execOp,go_sem,aE p3])
    ·have d4:Up zl 4:=zd ⟨4,.guard⟩ (by simp) rfl;have p4:=pk hI.pt 4 rfl d4;exact aZ hk hI hs (mm 5 rfl) (by simp) aa ho zd (Eq.trans (aH rfl rfl rfl p4) rfl) rfl
    ·have d4:Up zl 4:=zd ⟨4,.guard⟩ (by simp) rfl;have p4:=pk hI.pt 4 rfl d4;exact aZ hk hI hs (mm 6 rfl) (by simp) aa ho zd (Eq.trans (aH rfl rfl rfl p4) rfl) rfl
    ·have d4:Up zl 4:=zd ⟨4,.guard⟩ (by simp) rfl;have p4:=pk hI.pt 4 rfl d4;exact aZ hk hI hs (mm 7 rfl) (by simp) aa ho zd (Eq.trans (aH rfl rfl rfl p4) rfl) rfl
    ·have d4:Up zl 4:=zd ⟨4,.guard⟩ (by simp) rfl;have p4:=pk hI.pt 4 rfl d4;exact aZ hk hI hs (mm 8 rfl) (by simp) aa ho zd (Eq.trans (aH rfl rfl rfl p4) rfl) rfl
    ·have d4:Up zl 4:=zd ⟨4,.guard⟩ (by simp) rfl;have p4:=pk hI.pt 4 rfl d4;exact aZ hk hI hs (mm 9 rfl) (by simp) aa ho zd (Eq.trans (aH rfl rfl rfl p4) rfl) rfl
    ·have d4:Up zl 4:=zd ⟨4,.guard⟩ (by simp) rfl;have p4:=pk hI.pt 4 rfl d4;exact aZ hk hI hs (mm 10 rfl) (by simp) aa ho zd (Eq.trans (aH rfl rfl rfl p4) rfl) rfl
    ·have d4:Up zl 4:=zd ⟨4,.guard⟩ (by simp) rfl;have p4:=pk hI.pt 4 rfl d4;exact aZ hk hI hs (mm 11 rfl) (by simp) aa ho zd (Eq.trans (aH rfl rfl rfl p4) rfl) rfl
    ·have d4:Up zl 4:=zd ⟨4,.guard⟩ (by simp) rfl;have p4:=pk hI.pt 4 rfl d4;exact aZ hk hI hs (mm 12 rfl) (by simp) aa ho zd (Eq.trans (aH rfl rfl rfl p4) rfl) rfl
    ·have d4:Up zl 4:=zd ⟨4,.guard⟩ (by simp) rfl;have p4:=pk hI.pt 4 rfl d4;exact aZ hk hI hs (mm 13 rfl) (by simp) aa ho zd (Eq.trans (aH rfl rfl rfl p4) rfl) rfl
    have d4:=ud zd 4;have p4:=pk hI.pt 4 rfl d4;have d13:=ud zd 13;have p13:=pk hI.pt 13 rfl d13;exact aQ hk hI hs (mm 14 rfl) (by simp) aa ho zd (aC rfl) rfl (by simp[execOp,go_sem,aE p4,aE p13])
   intro zl a1 w1 hI ap;have ae:=am.out;subst ae;have hF:P1 w1:=hI.st.last (fun m hm=>ap m.1 (by simp only[ym,List.not_mem_nil,or_false]at hm;rcases hm with rfl;all_goals simp));have z27:a1.eval (.tmp 27)=.bool false:=hI.pt (14,27,.bool false) (mm 14 rfl) (ap 14 (by decide));obtain⟨ff,rfl,hf⟩:=hI.off.forms;rw[<- hf 27]at z27;clear hI;simp only[List.foldl,Act.put,yz,List.set];rw[z27];have ml:=(j5.out _).1 hF;simp only[Exit.then]
   go_step
   go_meet
   exact⟨by rw[uDD (by exact h5)],zh ml⟩
  case rest=>
   obtain⟨rfl,bw⟩:=hcut;clear ed CT1;cases hah:dV ⟨tk,tx,tp⟩ with
   |true=>
    rw[hah,if_pos rfl]at i9;have t9:=HEN1.out (by intro h;have h0:tk=0:=h;subst h0;cases hah);have r1:=bw.out.ine.rd.cell 1;have rf1:=bw.out.ine.rd.frozen 1;simp only[za,zb,zf]at r1;have ll:(k2:Int)<=1000000:=by have:=HB.out;omega
    have ak:Hid (Fs E w (k2+1) op nd pl er [(q,41,aA.toArray)] (wc.setCell ⟨E.r,1,none⟩ (.int .i64 ((k2:Int)+1)))):=zh (bw.out.rd hE 1 _ rfl);clear bw hah HEN1
    go_wp2_with fail
    go_roundw
    case rel=>exact zh ⟨k2+1,ak.out,by have:=HB.out;omega,t9,by have:=HB.out;have:=i9.out;omega⟩
    case measure=>rw[HRD.out,ak.out.ine.rdAt];have:=HB.out;omega
   |false=>
    rw[hah,if_neg (by decide)]at i9;have HN:Hid (bF (E.L.drop k)+k=k2):=zh (by have:=HB.out;have:=i9.out;omega);have hkk:k+bF (E.L.drop k)=k2:=by have:=HN.out;omega
    rw[hkk]at HO;clear hkk hah i9 HEN1 HRD CT qd;have r1:=bw.out.ine.rd.cell 1;simp only[za,zb,zf]at r1;have CP1:=zh (CP.out k2 nd pl er _ bw.out.ine HB.out.2.1 (by have:=HB.out;have:=HF.out;omega));clear CP
    go_wp2_with fail
    refine CP1.out.mono ?_;clear CP1 r1;cases hpr:percent (E.L.drop k2) nd with
    |bad e1 p1=>
     have dc:Hid (O=.bad e1 p1):=zh (by rw[<- HO.out,hpr]);clear HO hpr;rintro e w8 ⟨cs,k1,op1,nd1,rfl,g1,g2,g3,g4,g5,g6,g7⟩;obtain⟨C,rfl⟩:∃ C:List Value,cs=C.toArray:=⟨cs.toList,by simp⟩
     have yC:Hid (C.length=22):=zh (by rwa [yd]at g1);have yo:=zh g2;have HX:=zh (⟨by have:=HB.out;omega,g4,by have:=HB.out;omega⟩:k<=k1/\k1<E.L.length/\nd1+k<=nd+k1);have bj:=zh ((bw.out.step g6 g7).alloc 41 aA.toArray (by decide));clear g1 g2 g3 g4 g5 g6 g7 bw;have HT:=zh (bj.out.there 0 rfl C.toArray.size (by rw[yd,yC.out];rfl));have bl:=zh (bj.out.fill hE 0 rfl C (by rw[yC.out];rfl));have zi:=fo yC.out;have gb:(Tryz.prog.info? 41).map (·.size)=some C.length:=by rw[yC.out];exact aF
     simp only[aA,List.set_cons_zero]at bl HT
     go_upto_region 6 with(first |(refine yq rfl 41 (.tmp 6) (.tmp 42) rfl w8.heap.size 0 C.toArray rfl rfl HT.out zi yo.out ?_;change wpList _ _ _ _ _ (World.setCells _ w8.heap.size 0 C);generalize World.setCells _ _ _ _=W9 at bl ⊢;generalize w8.heap.size=q6 at bl ⊢))
     clear HT bj
     go_wp2_with fail
     go_loopw [8] (fun _ wr=>Hid (wr=W9)) (fun _ _=>0)
     case atStart=>exact zh rfl
     case round=>
      have hwr:=hrel.out;subst hwr;clear hrel;have ee:=zh (bl.out.range 0 (l:=C) rfl);have HT:=zh (bl.out.there 1 rfl C.toArray.size (by rw[yd,yC.out];rfl));have ag:=zh (bl.out.fill hE 1 rfl C (by rw[yC.out];rfl));clear bl
      go_wp2_with (first |(refine yr rfl 41 (.tmp 6) rfl q6 0 rfl C _ ee.out Tryz.underlying41 rfl gb ?_) |(refine yq rfl 41 (.tmp 2) (.tmp 67) rfl q 0 C.toArray rfl rfl HT.out zi yo.out ?_;change wpList _ _ _ _ _ (World.setCells _ q 0 C);generalize World.setCells _ _ _ _=wz at ag ⊢))
      have HA:=zh (ag.out.li 1 rfl);refine yt (aM rfl rfl HA.out (by rw[yd,yC.out])) rfl ?_;rw[dc.out];exact cE ag.out yC.out yo.out (by have:=HX.out;omega) HX.out.2.1 (by have:=HX.out;omega)
    |ok t av c1=>
     rintro e w8 ⟨k1,cs,rfl,g1,g2,rfl,g4,g5,g6,g7,g8⟩;have dc:Hid (O=.ok (mI E k2 k t) (E.L.drop k1) (c1+(k2-k))):=zh (by have h:=HN.out;rw[<- HO.out,hpr];unfold mI;rw[show bF (E.L.drop k)=k2-k by omega]);clear HO hpr;obtain⟨C,rfl⟩:∃ C:List Value,cs=C.toArray:=⟨cs.toList,by simp⟩
     have yC:Hid (C.length=22):=zh (by have:=g8.1;rwa [yd]at this);have yo:=zh g8.2.1;have HX:=zh (⟨g1,g2,g4,g5⟩:k2<=k1/\k1<E.L.length/\c1+k2<=nd+k1/\nd<=c1);have bj:=zh ((bw.out.step g6 g7).alloc 41 aA.toArray (by decide));have HQ6:Hid (q<w8.heap.size):=zh ((bw.out.step g6 g7).lt 0 rfl);have HV8:Hid (NV w8 (w8.heap.size::List.range (q+1)) c1 t C.toArray):=zh ((g8.anti (fun y hy _=>by have:=bw.out.lt 0 rfl;exact yg.2 (by have:=yg.1 hy;omega))).fresh zr);have om:=zh (HV8.out.kp ((aT (Y:=w8.heap.size::List.range (q+1)) (.inl (.head _)) C 0 ((Kp.refl _ _).alloc (.cells aA.toArray 41)))));clear g1 g2 g4 g5 g6 g7 g8 bw HV8;have HT:=zh (bj.out.there 0 rfl C.toArray.size (by rw[yd,yC.out];rfl));have bl:=zh (bj.out.fill hE 0 rfl C (by rw[yC.out];rfl));have zi:=fo yC.out
     simp only[aA,List.set_cons_zero]at bl HT om
     go_upto_region 6 with(first |(refine yq rfl 41 (.tmp 6) (.tmp 42) rfl w8.heap.size 0 C.toArray rfl rfl HT.out zi yo.out ?_;change wpList _ _ _ _ _ (World.setCells _ w8.heap.size 0 C);generalize World.setCells _ _ _ _=W9 at bl om ⊢;generalize w8.heap.size=q6 at bl om HQ6 ⊢))
     clear HT bj;have HM:Hid (∃ c l,c=c1+(k2-k2)/\Sgn E w k1 op c pl er q q6 l (mI E k2 k2 t) W9):=zh ⟨c1,C,by omega,bl.out,by unfold mI;rw[Nat.sub_self];exact om.out⟩;clear bl om zi yC yo;have hkb2:(k2:Int)<=1000000:=by have:=HB.out;omega
     go_wp2_with fail
     go_loopw [8] (fun v wr=>∃ i:Nat,k<=i/\i<=k2/\v=.int .i64 ((i:Int)-1)/\Hid (∃ c l,c=c1+(k2-i)/\Sgn E w k1 op c pl er q q6 l (mI E k2 i t) wr)) (fun v _=>intM v)
     case atStart=>exact⟨k2,HB.out.1,zr,rfl,HM⟩
     case round=>
      clear HM;obtain⟨i,ja,hik,rfl,hrel⟩:=hrel;obtain⟨c,l,hc,hS⟩:=hrel.out;have HSg:=zh hS;have HC:=zh hc;clear hrel hS hc;rcases Nat.lt_or_ge k i with hlt|hge
      ·obtain⟨j,rfl⟩:∃ j,i=j+1:=⟨i-1,by omega⟩
       have ej:(((j+1:Nat):Int)-1)=(j:Int):=by omega
       rw[ej];have hkj:(k:Int)<=(j:Int):=by omega
       have HJ:Hid (k<=j/\j<k2/\j<E.L.length):=zh ⟨by omega,by omega,by have:=HB.out;omega⟩;have hjb:(j:Int)<(E.L.length:Int):=by have:=HJ.out;omega
       have hjb2:(j:Int)<=1000000:=by have:=HJ.out;omega
       have ig:=zh (uEV (E:=E) (t:=t) HJ.out.2.1 (by have:=HB.out;omega));clear ej hlt ja hik
       go_upto_block 3 with fail
       go_cut [] (fun wx=>Hid (∃ l',Sgn E w k1 op (c+1) pl er q q6 l' (mI E k2 j t) wx))
       case first=>
        go_upto_region 9 with fail
        have ec:E.L[j]'HJ.out.2.2=E.at j:=(E.at_lt HJ.out.2.2).symm;have ur:=zh ec;clear ec;obtain⟨s,hs⟩:∃ s,(E.at j).text=s:=⟨_,rfl⟩
        have HS_:=zh hs;clear hs;obtain⟨Wd,hWd⟩:∃ Wd,wr.drew=Wd:=⟨_,rfl⟩
        have HWD:=zh hWd;clear hWd;have di:Hid (Sgn E w k1 op c pl er q q6 l (mI E k2 (j+1) t) Wd):=zh (by rw[<- HWD.out];exact HSg.out.next (Below.refl _ _).drew);have cy:=zh (di.out.next (W':=Wd.alloc (.cells l.toArray 41)) (zp _));have ai:=zh di.out.len;obtain⟨gd,s5⟩:∃ gd,Wd.heap.size=gd:=⟨_,rfl⟩
        have HGD:=zh s5;clear s5;have CN1:=zh (CN.out k1 c pl er (unL s (some ⟨gd,0,none⟩) 1 1) rfl (rP _ _ _ _) _ cy.out.st.ine (by have:=HC.out;have:=HX.out;have:=HB.out;have:=HF.out;omega));obtain⟨D,hC,ah,fd,gq⟩:=eO (c+1) (unL s (some ⟨gd,0,none⟩) 1 1) rfl (rP _ _ _ _);rw[hC]at CN1;have HD22:=zh ah;have oq:=zh fd;have HDk:=zh gq;clear hC ah fd gq;have zi:(Tryz.prog.info? 41).map (·.size)=some D.toArray.size:=by rw[yd,HD22.out];exact aF
        have gb:(Tryz.prog.info? 41).map (·.size)=some l.length:=by rw[ai.out];exact aF
        have HTX:Hid (∀ W,InE E k1 op c pl er W->W.cell? ⟨E.g,j*3+1,none⟩=some (.string ⟨s.toArray⟩)):=zh (fun W h=>by have:=(h.tk.2 j HJ.out.2.2).2.1;rwa [ur.out,HS_.out]at this);obtain⟨P0,j4⟩:∃ R:World->Prop,∀ w',R w'↔(w'=Wd):=⟨_,fun _=>Iff.rfl⟩
        have ev:=zh j4;clear j4;obtain⟨P1,nh⟩:∃ R:World->Prop,∀ w',R w'↔(w'=Wd.alloc (.cells l.toArray 41)):=⟨_,fun _=>Iff.rfl⟩
        have j5:=zh nh;clear nh;obtain⟨P2,hP2⟩:∃ R:World->Prop,∀ w',R w'↔(InE E k1 op (c+1) pl er w'/\Kp [E.r] (Wd.alloc (.cells l.toArray 41)) w'):=⟨_,fun _=>Iff.rfl⟩
        have wk:=zh hP2;clear hP2;obtain⟨P3,hP3⟩:∃ R:World->Prop,∀ w',R w'↔(Sgn E w k1 op (c+1) pl er q q6 D (tUn s (mI E k2 (j+1) t)) w'):=⟨_,fun _=>Iff.rfl⟩
        have HP3:=zh hP3;clear hP3;obtain⟨TT,ae⟩:∃ TT:List (Nat×Nat×Value),TT=[(0,54,.pointer (some ⟨E.r,0,none⟩)),(1,55,.pointer (some ⟨E.r,0,none⟩)),(2,56,.pointer (some ⟨E.r,0,none⟩)),(3,57,.pointer (some ⟨E.r,0,none⟩)),(4,58,.slice (some ⟨E.g,0,none⟩) E.L.length E.cap),(5,59,.int .i64 (j:Int)),(6,60,.pointer (some ⟨E.g,j*3,none⟩)),(7,61,.pointer (some ⟨E.g,j*3+1,none⟩)),(8,62,.string ⟨s.toArray⟩),(9,63,.agg l.toArray),(10,64,.slice (some ⟨gd,0,none⟩) 1 1),(11,65,.agg #[.int .i64 5,.int .i64 0,.int .i64 0,.int .i64 0,.string ⟨#[]⟩,.bool false,.int .i64 0,.string ⟨s.toArray⟩,.int .i64 0,.int .i64 0,.int .i64 0,.int .i64 0,.bool false,.bool false,.int .i64 0,.int .i64 0,.int .i64 0,.int .i64 0,.bool false,.bool false,.int .i64 0,.slice (some ⟨gd,0,none⟩) 1 1]),(12,66,.agg D.toArray)]:=⟨_,rfl⟩
        have am:=zh ae;clear ae;refine bC (fun a0=>69<=a0.tmps.size/\a0.eval (.tmp 0)=.pointer (some ⟨E.r,0,none⟩)/\a0.eval (.tmp 6)=.pointer (some ⟨q6,0,none⟩)/\a0.eval (.tmp 8)=.int .i64 (j:Int)) [54,55,56,57,58,59,60,61,62,63,64,65,66] TT [(10,P1),(12,P2),(13,P3)] P0 (by kernel_rfl) (by kernel_rfl) ⟨by simp,rfl,rfl,rfl⟩ ((ev.out _).2 HWD.out) ?_ ?_
        ·rintro a0 ⟨hs,dh,mu,vt⟩ zl a1 w1 zj o bg hI aa ho zd;have ae:=am.out;subst ae
         have hk:okU (([(0,54,.pointer (some ⟨E.r,0,none⟩)),(1,55,.pointer (some ⟨E.r,0,none⟩)),(2,56,.pointer (some ⟨E.r,0,none⟩)),(3,57,.pointer (some ⟨E.r,0,none⟩)),(4,58,.slice (some ⟨E.g,0,none⟩) E.L.length E.cap),(5,59,.int .i64 (j:Int)),(6,60,.pointer (some ⟨E.g,j*3,none⟩)),(7,61,.pointer (some ⟨E.g,j*3+1,none⟩)),(8,62,.string ⟨s.toArray⟩),(9,63,.agg l.toArray),(10,64,.slice (some ⟨gd,0,none⟩) 1 1),(11,65,.agg #[.int .i64 5,.int .i64 0,.int .i64 0,.int .i64 0,.string ⟨#[]⟩,.bool false,.int .i64 0,.string ⟨s.toArray⟩,.int .i64 0,.int .i64 0,.int .i64 0,.int .i64 0,.bool false,.bool false,.int .i64 0,.int .i64 0,.int .i64 0,.int .i64 0,.bool false,.bool false,.int .i64 0,.slice (some ⟨gd,0,none⟩) 1 1]),(12,66,.agg D.toArray)]:List (Nat×Nat×Value)).map fun e=>(e.1,e.2.1)) [54,55,56,57,58,59,60,61,62,63,64,65,66] 69=true:=by rfl
         have hj:=Up.of_false aa;have hj12:zj<14:=by rw[bg]at hj;exact hj
         have e0x:a1.eval (.tmp 0)=.pointer (some ⟨E.r,0,none⟩):=(hI.off.eval (by decide)).trans dh;have e6x:a1.eval (.tmp 6)=.pointer (some ⟨q6,0,none⟩):=(hI.off.eval (by decide)).trans mu;have e8x:a1.eval (.tmp 8)=.int .i64 (j:Int):=(hI.off.eval (by decide)).trans vt;(iterate 13 rcases zq hj12 with hj12|rfl);obtain rfl:=cz hj12;all_goals obtain rfl:=oi ho
         ·exact aQ hk hI hs (.head _) (by simp) aa ho zd (aC rfl) rfl (by simp[execOp,go_sem,aE e0x])
         ·exact aQ hk hI hs (.tail _ (.head _)) (by simp) aa ho zd (aC rfl) rfl (by simp[execOp,go_sem,aE e0x])
         ·have d1:=ud zd 1;have p1:=pk hI.pt 1 rfl d1;exact aQ hk hI hs (mm 2 rfl) (by simp) aa ho zd (aC rfl) rfl (by simp[execOp,go_sem,aE p1])
         ·have d2:=ud zd 2;have p2:=pk hI.pt 2 rfl d2;exact aQ hk hI hs (mm 3 rfl) (by simp) aa ho zd (aC rfl) rfl (by simp[execOp,go_sem,aE p2])
         ·have d3:=ud zd 3;have p3:=pk hI.pt 3 rfl d3;have hq:w1.cell? ⟨E.r,0,none⟩=some (.slice (some ⟨E.g,0,none⟩) E.L.length E.cap):=by
           obtain⟨jj,oo,hP⟩:=hI.low 1 (by simp) (fun m hm=>by obtain rfl:=Option.some.inj hm;kernel_rfl) aa;rcases(by omega:jj=0\/jj=1) with rfl|rfl
           ·have hP:P0 w1:=hP;have hW:=(ev.out _).1 hP;subst hW;have h:=di.out.st.ine.rd.cell 0;simpa using h
           have hP:P1 w1:=hP;have hW:=(j5.out _).1 hP;subst hW;have h:=cy.out.st.ine.rd.cell 0;simpa using h
          exact aQ hk hI hs (mm 4 rfl) (by simp) aa ho zd (aC rfl) rfl (by simp[execOp,go_sem,aE p3,hq])
         ·exact aQ hk hI hs (mm 5 rfl) (by simp) aa ho zd (aC rfl) rfl (by simp[execOp,go_sem,aE e8x])
         ·have d4:=ud zd 4;have p4:=pk hI.pt 4 rfl d4;have d5:=ud zd 5;have p5:=pk hI.pt 5 rfl d5;exact aQ hk hI hs (mm 6 rfl) (by simp) aa ho zd (aC rfl) rfl (by simp[execOp,go_sem,aE p4,aE p5,hjb])
         ·have d6:=ud zd 6;have p6:=pk hI.pt 6 rfl d6;exact aQ hk hI hs (mm 7 rfl) (by simp) aa ho zd (aC rfl) rfl (by simp[execOp,go_sem,aE p6])
         ·have d7:=ud zd 7;have p7:=pk hI.pt 7 rfl d7;have hq:w1.cell? ⟨E.g,j*3+1,none⟩=some (.string ⟨s.toArray⟩):=by
           obtain⟨jj,oo,hP⟩:=hI.low 1 (by simp) (fun m hm=>by obtain rfl:=Option.some.inj hm;kernel_rfl) aa;rcases(by omega:jj=0\/jj=1) with rfl|rfl
           ·have hP:P0 w1:=hP;have hW:=(ev.out _).1 hP;subst hW;exact HTX.out _ di.out.st.ine
           have hP:P1 w1:=hP;have hW:=(j5.out _).1 hP;subst hW;exact HTX.out _ cy.out.st.ine
          exact aQ hk hI hs (mm 8 rfl) (by simp) aa ho zd (aC rfl) rfl (by simp[execOp,go_sem,aE p7,hq])
         ·have hq:w1.rangeAt q6 0 l:=by
           obtain⟨jj,oo,hP⟩:=hI.low 0 (by simp) (fun m hm=>by obtain rfl:=Option.some.inj hm;kernel_rfl) aa;rcases(by omega:jj=0) with rfl;have hP:P0 w1:=hP;have hW:=(ev.out _).1 hP;subst hW;exact di.out.st.range 0 (l:=l) rfl
          exact aQ hk hI hs (mm 9 rfl) (by simp) aa ho zd (aC rfl) rfl (aL 41 (.tmp 6) rfl q6 0 e6x l _ hq Tryz.underlying41 rfl gb)
         ·have d9:=ud zd 9;have p9:=pk hI.pt 9 rfl d9;refine iQ hk hI hs (mm 10 rfl) (by kernel_rfl) [] [(12,P2),(13,P3)] P1 rfl aa ho zd (aC rfl) rfl (fun hP=>?_);have hP:P0 w1:=hP;have hW:=(ev.out _).1 hP;subst hW;refine wp_bs1 (.tmp 63) rfl l p9 ai.out ?_;exact⟨by rw[HGD.out],(j5.out _).2 rfl⟩
         ·have d8:=ud zd 8;have p8:=pk hI.pt 8 rfl d8;have d10:=ud zd 10;have p10:=pk hI.pt 10 rfl d10;exact aQ hk hI hs (mm 11 rfl) (by simp) aa ho zd (aC rfl) rfl (by simp[execOp,go_sem,aE p8,aE p10])
         ·have d0:=ud zd 0;have p0:=pk hI.pt 0 rfl d0;have d11:=ud zd 11;have p11:=pk hI.pt 11 rfl d11;refine iQ hk hI hs (mm 12 rfl) (by kernel_rfl) [(10,P1)] [(13,P3)] P2 rfl aa ho zd (aC rfl) rfl (fun hP=>?_);have hP:P1 w1:=hP;refine iG (v:=.agg D.toArray) 48 #[.pointer (some ⟨E.r,0,none⟩),.agg #[.int .i64 5,.int .i64 0,.int .i64 0,.int .i64 0,.string ⟨#[]⟩,.bool false,.int .i64 0,.string ⟨s.toArray⟩,.int .i64 0,.int .i64 0,.int .i64 0,.int .i64 0,.bool false,.bool false,.int .i64 0,.int .i64 0,.int .i64 0,.int .i64 0,.bool false,.bool false,.int .i64 0,.slice (some ⟨gd,0,none⟩) 1 1]] (by simp[go_sem,aE p0,aE p11]) ?_;have hW:=(j5.out _).1 hP;subst hW;refine CN1.out.mono ?_;rintro e w2 ⟨rfl,h1,h2⟩;exact⟨rfl,rfl,(wk.out _).2 ⟨h1,h2⟩⟩
         have d12:=ud zd 12;have p12:=pk hI.pt 12 rfl d12;refine kI hI (by simp) (by kernel_rfl) [(10,P1),(12,P2)] [] P3 rfl aa ho zd (aC rfl) rfl (fun hP=>?_);have hP:P2 w1:=hP;have h:=(wk.out _).1 hP;have ht:=(cy.out.st.step h.1 h.2.X).there 0 (cs:=l.toArray) rfl D.toArray.size (by rw[yd,yd,HD22.out,ai.out]);refine⟨w1.setCells q6 0 D,eI 41 (.tmp 6) (.tmp 66) rfl q6 0 D.toArray e6x p12 ht zi oq.out,(HP3.out _).2 ?_⟩;exact di.out.step hE (by have:=HQ.out;omega) HQ6.out HD22.out oq.out (fun hn=>by have h:=HDk.out hn;rw[HGD.out];exact h) h.1 h.2
        intro zl a1 w1 hI ap;have ae:=am.out;subst ae;have hF:P3 w1:=hI.st.last (fun m hm=>ap m.1 (by simp only[ym,List.not_mem_nil,or_false]at hm;rcases hm with rfl|rfl|rfl;all_goals simp));obtain⟨ff,rfl,hf⟩:=hI.off.forms;clear hI;simp only[List.foldl,Act.put,yz,List.set];have ml:=(HP3.out _).1 hF;rw[<- HS_.out,<- ig.out]at ml;simp only[Exit.then,Exit.inBlock]
        go_step
        go_meet
        exact zh ⟨D,ml⟩
       case rest=>
        obtain⟨l',hS'⟩:=hcut.out;have ju:=zh hS';clear hcut hS' HSg
        go_wp2_with fail
        go_roundw
        case rel=>exact⟨j,HJ.out.1,Nat.le_of_lt HJ.out.2.1,rfl,zh ⟨c+1,l',by have:=HC.out;have:=HJ.out;omega,ju.out⟩⟩
        case measure=>show intM _<intM _;unfold intM;simp only;omega
      have uw:i=k:=by omega
      subst uw;have zz:¬ ((i:Int)<=(i:Int)-1):=by omega
      have hgt:((i:Int)-1)<(i:Int):=by omega
      clear ja hik hge;have ee:=zh (HSg.out.st.range 0 (l:=l) rfl);have ai:=zh HSg.out.len;have kj:=zh HSg.out.nv.2.1;have zi:(Tryz.prog.info? 41).map (·.size)=some l.toArray.size:=by rw[yd,ai.out];exact aF
      have gb:(Tryz.prog.info? 41).map (·.size)=some l.length:=by rw[ai.out];exact aF
      have HT:=zh (HSg.out.st.there 1 (cs:=aA.toArray) rfl l.toArray.size (by rw[yd,ai.out];rfl));have ag:=zh (HSg.out.st.fill hE 1 rfl l (by rw[ai.out];rfl));have HVz:=zh (HSg.out.nv.kpX (aT (Y:=[q]) (.inl (.head _)) l 0 (Kp.refl _ _)) (fun y hy=>by rw[yf.1 hy];exact zg _ (yg.2 (by omega))));clear HSg
      go_wp2_with (first |(refine yr rfl 41 (.tmp 6) rfl q6 0 rfl l _ ee.out Tryz.underlying41 rfl gb ?_) |(refine yq rfl 41 (.tmp 2) (.tmp 67) rfl q 0 l.toArray rfl rfl HT.out zi kj.out ?_;change wpList _ _ _ _ _ (World.setCells _ q 0 l);generalize World.setCells _ _ _ _=wz at ag HVz ⊢))
      have HA:=zh (ag.out.li 1 rfl);refine yt (aM rfl rfl HA.out (by rw[yd,ai.out])) rfl ?_;rw[dc.out,<- HC.out];exact⟨k1,l.toArray,rfl,by have:=HX.out;have:=HB.out;omega,HX.out.2.1,rfl,by have:=HX.out;have:=HB.out;have:=HC.out;omega,by have:=HX.out;have:=HC.out;omega,ag.out.ine,ag.out.kp,HVz.out.anti (fun y hy _=>zg _ (yg.2 (by have:=yg.1 hy;have:=HQ.out;omega)))⟩
theorem uBT(E:Env)(hE:E.ok)(he:E.ends)(hL:E.L.length<=1000000)(hT:E.short)(hC:oD):∀ (f op:Nat),op+(f+1)=65->dP E 24 (gB (f+1) E.ax op) op:=by
 have step:∀ (f op:Nat),op<=64->(op<64->dP E 24 (gB f E.ax (op+1)) (op+1))->dP E 24 (gB (f+1) E.ax op) op:=fun f op ho hp=>
  uJE E hE he hL _ op (uDF E hE he hL _ op (sum_any E hE he hL _ op (uAX E hE he hL _ op (Go.Proofs.YtmgjidnalpgegaaGreatDoor.power_any E hE he hL _ op (uEX E hE he hL _ op (uAP E hE he hL _ op (part_any E hE he hL hT hC (gB f E.ax) op ho hp)))))))
 intro f
 induction f with
 |zero=>exact fun op h=>step 0 op (by omega) (fun h'=>absurd h' (by omega))
 |succ f ih=>exact fun op h=>step (f+1) op (by omega) (fun _=>ih (op+1) (by omega))
theorem eM(c:UInt8)(w:World) :
  Calls Tryz.prog 79 #[.int .u8 (c.toNat:Int)] w fun e w'=>e=.returned (.bool (bW c))/\w=w':=by
 go_enter Tryz.func79,Tryz.ntmps79
 go_wp2
 all_goals go_ret
 all_goals exact⟨aI (by unfold bW;rw[ze];simp;try omega),rfl⟩
theorem fG(c:UInt8)(w:World) :
  Calls Tryz.prog 80 #[.int .u8 (c.toNat:Int)] w fun e w'=>e=.returned (.bool (aB c))/\w=w':=by
 go_enter Tryz.func80,Tryz.ntmps80
 go_wp2
 all_goals go_ret
 all_goals exact⟨aI (by unfold aB;rw[ze];simp;try omega),rfl⟩
theorem rC(l:Bs)(w:World)(hs:l.length<=maxLen) :
  Calls Tryz.prog 100 #[.string ⟨l.toArray⟩] w fun e w'=>e=.returned (.int .i64 (aS l))/\w=w':=by
 unfold maxLen at hs;unfold aS
 go_enter Tryz.func100,Tryz.ntmps100
 go_wp2
 go_loop [3] (fun i=>∃ k:Nat,k<=l.length/\i=.int .i64 k/\k<=aN aB l) (fun i=>l.length-(intOf i).toNat)
 case atStart=>exact⟨0,zm _,rfl,zm _⟩
 case round=>
  obtain⟨k,hk,rfl,hr⟩:=hrel;by_cases hlt:k<l.length
  ·cases hd:aB l[k]
   ·have HQ:=zh (jY _ _ _ hr hlt hd)
    go_wp2_with (go_at_call 80;refine(fG _ _).mono ?_;rintro e w' ⟨rfl,rfl⟩)
    go_ret
    exact⟨cI (by rw[HQ.out]),rfl⟩
   have hq:=fM _ _ _ hr hlt hd
   go_wp2_with (go_at_call 80;refine(fG _ _).mono ?_;rintro e w' ⟨rfl,rfl⟩)
   go_round
   case rel=>exact⟨k+1,by omega,by go_num,hq⟩
   case measure=>simp[intOf];omega
  have hq:aN aB l=k:=by have:=bS aB l;omega
  have HQ:=zh hq;clear hq
  go_wp2
  go_ret
  exact⟨cI (by rw[HQ.out]),rfl⟩
theorem uE(l:Bs)(w:World)(hs:l.length<=1000000) :
  Calls Tryz.prog 81 #[.string ⟨l.toArray⟩] w fun e w'=>e=.returned (.tuple #[.int .i64 (aP l:Nat),.int .i64 (aS (l.drop (aP l)):Nat),.bool (decide (aP l+aS (l.drop (aP l))=l.length))])/\w=w':=by
 have hd:=fun k=>rC (l.drop k) w (by rw[yk];unfold maxLen;omega)
 have HD:=zh hd;have HDL:Hid (∀ k,aS (l.drop k)<=l.length):=zh (fun k=>by have:=bS aB (l.drop k);rw[yk]at this;unfold aS;omega);clear hd;unfold aP
 go_enter Tryz.func81,Tryz.ntmps81
 go_wp2
 go_loop [2] (fun i=>∃ k:Nat,k<=l.length/\i=.int .i64 k/\k<=aN bW l) (fun i=>l.length-(intOf i).toNat)
 case atStart=>exact⟨0,zm _,rfl,zm _⟩
 case round=>
  obtain⟨k,hk,rfl,hr⟩:=hrel;by_cases hlt:k<l.length
  ·cases hd:bW l[k]
   ·have HQ:=zh (jY _ _ _ hr hlt hd);have oq:=zh (HD.out k);have hdl:=HDL.out k;clear hr
    go_upto_region 3 with(go_at_call 79;refine(eM _ _).mono ?_;rintro e w' ⟨rfl,rfl⟩)
    clear hd;generalize hdd:aS (l.drop k)=m at *
    go_wp2_with fail
    refine oq.out.mono ?_;rintro e w' ⟨rfl,rfl⟩
    go_wp2_with fail
    go_ret3
    rw[HQ.out,hdd];refine⟨?_,rfl⟩;have e1:((k:Int)+(m:Int)-(k:Int))=(m:Int):=by omega
    have e2:(((k:Int)+(m:Int))==(l.length:Int))=decide (k+m=l.length):=by rw[ze];simp;omega
    show Ending.returned (.tuple #[.int .i64 (k:Int),.int .i64 ((k:Int)+(m:Int)-(k:Int)),.bool (((k:Int)+(m:Int))==(l.length:Int))])=_;rw[e1,e2]
   have hq:=fM _ _ _ hr hlt hd
   go_wp2_with (go_at_call 79;refine(eM _ _).mono ?_;rintro e w' ⟨rfl,rfl⟩)
   go_round
   case rel=>exact⟨k+1,by omega,by go_num,hq⟩
   case measure=>simp[intOf];omega
  have hq:aN bW l=k:=by have:=bS bW l;omega
  have HQ:=zh hq;have oq:=zh (HD.out k);have hdl:=HDL.out k;clear hq hr;generalize hdd:aS (l.drop k)=m at *
  go_wp2_with fail
  refine oq.out.mono ?_;rintro e w' ⟨rfl,rfl⟩
  go_wp2_with fail
  go_ret3
  rw[HQ.out,hdd];refine⟨?_,rfl⟩;have e1:((k:Int)+(m:Int)-(k:Int))=(m:Int):=by omega
  have e2:(((k:Int)+(m:Int))==(l.length:Int))=decide (k+m=l.length):=by rw[ze];simp;omega
  show Ending.returned (.tuple #[.int .i64 (k:Int),.int .i64 ((k:Int)+(m:Int)-(k:Int)),.bool (((k:Int)+(m:Int))==(l.length:Int))])=_;rw[e1,e2]
end Go.Proofs.YtmgjidnalpgegaaGreatDoor
