/-
  Lemmas, part 19: PaJ PaM.
-/
import Derived.Test.YtmgjidnalpgegaaGreatDoorPg18
namespace Go.Proofs.YtmgjidnalpgegaaGreatDoor
open Go.RowKit
theorem inT{α:Type}{l:List α}{x:α}(n:Nat)(h:l[n]?=some x):x∈l:=List.mem_of_getElem? h
theorem GU.ptk{ops:Array Oper}{S:List Nat}{T:List (Nat×Nat×Value)}{ms:List (Nat×(World→Prop))}{P:World→Prop}{a0 a:Act}{zl:Array Bool}{w:World}(hI:GU ops S T ms P a0 zl a w)(n:Nat){i s:Nat}{v:Value}(h:T[n]?=some (i,s,v))(hu:Up zl i):a.eval (.tmp s)=v:=hI.pt (i,s,v) (inT n h) hu
theorem fG{i:Nat}:∀ m∈([]:List (Nat×(World→Prop))),m.1≠i:=fun m hm=>by cases hm
set_option maxRecDepth 10000000 in
set_option maxHeartbeats 6400000 in
theorem uGC(h h':NodeH)(A A':Option Addr)(n n' cp cp' g1 o1 g2 o2:Nat)(w:World)(h1:NodeIn w g1 o1 h A n cp)(h2:NodeIn w g2 o2 h' A' n' cp') :
  Calls Tryz.prog 78 #[.pointer (some ⟨g1,o1,none⟩),.pointer (some ⟨g2,o2,none⟩)] w fun e w'=>e=.returned (.bool (NodeH.same h h'&&decide (n=n')))∧Below w.heap.size w w':=by
 have HB:Hid (Below w.heap.size w w.drew):=zh (Below.refl _ _).drew;have k0:w.drew.cell? ⟨g1,o1,none⟩=some (.int .i64 h.kind):=h1.2 0 (by decide);have m0:w.drew.cell? ⟨g2,o2,none⟩=some (.int .i64 h'.kind):=h2.2 0 (by decide);have k7:w.drew.cell? ⟨g1,o1+7,none⟩=some (.string ⟨h.name.toArray⟩):=h1.2 7 (by decide);have m7:w.drew.cell? ⟨g2,o2+7,none⟩=some (.string ⟨h'.name.toArray⟩):=h2.2 7 (by decide);have k20:w.drew.cell? ⟨g1,o1+20,none⟩=some (.int .i64 h.rows):=h1.2 20 (by decide);have m20:w.drew.cell? ⟨g2,o2+20,none⟩=some (.int .i64 h'.rows):=h2.2 20 (by decide);have k21:w.drew.cell? ⟨g1,o1+21,none⟩=some (.slice A n cp):=h1.2 21 (by decide);have m21:w.drew.cell? ⟨g2,o2+21,none⟩=some (.slice A' n' cp'):=h2.2 21 (by decide);obtain⟨VA,hVA⟩:∃ VA:List Value,VA=[.int .i64 h.v.kind,.int .i64 h.v.mant,.int .i64 h.v.exp,.string ⟨h.v.text.toArray⟩,.bool h.v.truth,.int .i64 h.v.fault]:=⟨_,rfl⟩
 obtain⟨VB,hVB⟩:∃ VA:List Value,VA=[.int .i64 h'.v.kind,.int .i64 h'.v.mant,.int .i64 h'.v.exp,.string ⟨h'.v.text.toArray⟩,.bool h'.v.truth,.int .i64 h'.v.fault]:=⟨_,rfl⟩
 obtain⟨RA,hRA⟩:∃ VA:List Value,VA=[.int .i64 h.a.row.a,.int .i64 h.a.row.n,.int .i64 h.a.col.a,.int .i64 h.a.col.n,.bool h.a.fr,.bool h.a.fc,.int .i64 h.b.row.a,.int .i64 h.b.row.n,.int .i64 h.b.col.a,.int .i64 h.b.col.n,.bool h.b.fr,.bool h.b.fc]:=⟨_,rfl⟩
 obtain⟨RB,hRB⟩:∃ VA:List Value,VA=[.int .i64 h'.a.row.a,.int .i64 h'.a.row.n,.int .i64 h'.a.col.a,.int .i64 h'.a.col.n,.bool h'.a.fr,.bool h'.a.fc,.int .i64 h'.b.row.a,.int .i64 h'.b.row.n,.int .i64 h'.b.col.a,.int .i64 h'.b.col.n,.bool h'.b.fr,.bool h'.b.fc]:=⟨_,rfl⟩
 have l1:Hid (w.drew.rangeAt g1 (o1+1) VA):=zh (by rw[hVA];exact NodeIn.sub (W:=w.drew) h1 1 _ (by simp) rfl);have l2:Hid (w.drew.rangeAt g2 (o2+1) VB):=zh (by rw[hVB];exact NodeIn.sub (W:=w.drew) h2 1 _ (by simp) rfl);have l3:Hid (w.drew.rangeAt g1 (o1+8) RA):=zh (by rw[hRA];exact NodeIn.sub (W:=w.drew) h1 8 _ (by simp) rfl);have l4:Hid (w.drew.rangeAt g2 (o2+8) RB):=zh (by rw[hRB];exact NodeIn.sub (W:=w.drew) h2 8 _ (by simp) rfl);have i1:(Tryz.prog.info? 32).map (·.size)=some VA.length:=by rw[hVA];exact jA
 have i2:(Tryz.prog.info? 32).map (·.size)=some VB.length:=by rw[hVB];exact jA
 have i3:(Tryz.prog.info? 38).map (·.size)=some RA.length:=by rw[hRA];exact kM
 have i4:(Tryz.prog.info? 38).map (·.size)=some RB.length:=by rw[hRB];exact kM
 have hev:∀ w:World,(binOp .eql 32 (.agg VA.toArray) (.agg VB.toArray)).run Tryz.prog w=.ok (.bool (cW h.v h'.v)) w:=by intro w;rw[hVA,hVB];exact pN _ _ _ _ _ _ _ _ _ _ _ _ w
 have hea:∀ w:World,(binOp .eql 38 (.agg RA.toArray) (.agg RB.toArray)).run Tryz.prog w=.ok (.bool (decide (h.a=h'.a)&&decide (h.b=h'.b))) w:=by intro w;rw[hRA,hRB];exact eql_area h.a h.b h'.a h'.b w
 clear hVA hVB hRA hRB h1 h2;obtain⟨bb,hbb⟩:∃ bb,(NodeH.same h h'&&decide (n=n'))=bb:=⟨_,rfl⟩
 have HBB:Hid (bb=(decide (h.kind=h'.kind)&&cW h.v h'.v&&decide (h.name=h'.name)&&(decide (h.a=h'.a)&&decide (h.b=h'.b))&&decide (h.rows=h'.rows)&&decide (n=n'))):=zh (by rw[← hbb];unfold NodeH.same;rw[show (h.name==h'.name)=decide (h.name=h'.name) from by rw[Bool.eq_iff_iff];simp];cases cW h.v h'.v <;> cases decide (h.a=h'.a) <;> cases decide (h.b=h'.b) <;> cases decide (h.kind=h'.kind) <;> cases decide (h.name=h'.name) <;> cases decide (h.rows=h'.rows) <;> cases decide (n=n') <;> rfl);rw[hbb];clear hbb;generalize hc1:cW h.v h'.v=b1 at *;generalize hc3:(decide (h.a=h'.a)&&decide (h.b=h'.b))=b3 at *;clear hc1 hc3;generalize h.kind=x0 at *;generalize h'.kind=y0 at *;generalize h.name=x7 at *;generalize h'.name=y7 at *;generalize h.rows=x20 at *;generalize h'.rows=y20 at *;obtain⟨b0,e0⟩:∃ b0,decide (x0=y0)=b0:=⟨_,rfl⟩
 obtain⟨b2,e2⟩:∃ b2,decide (x7=y7)=b2:=⟨_,rfl⟩
 obtain⟨b4,e4⟩:∃ b4,decide (x20=y20)=b4:=⟨_,rfl⟩
 obtain⟨b5,e5⟩:∃ b5,decide (n=n')=b5:=⟨_,rfl⟩
 rw[e0,e2,e4,e5]at HBB;have e0':(x0==y0)=b0:=by rw[← e0,Bool.eq_iff_iff];simp
 have e2':(x7==y7)=b2:=by rw[← e2,Bool.eq_iff_iff];simp
 have e4':(x20==y20)=b4:=by rw[← e4,Bool.eq_iff_iff];simp
 have e5':(n==n')=b5:=by rw[← e5,Bool.eq_iff_iff];simp
 have e5z:((n:Int)==(n':Int))=b5:=by rw[← e5,Bool.eq_iff_iff];simp;omega
 obtain⟨c1,h1⟩:∃ c1,c1=(b0&&b1):=⟨_,rfl⟩
 obtain⟨c2,h2⟩:∃ c2,c2=(c1&&b2):=⟨_,rfl⟩
 obtain⟨c3,h3⟩:∃ c3,c3=(c2&&b3):=⟨_,rfl⟩
 obtain⟨c4,h4⟩:∃ c4,c4=(c3&&b4):=⟨_,rfl⟩
 obtain⟨c5,h5⟩:∃ c5,c5=(c4&&b5):=⟨_,rfl⟩
 rw[← h1,← h2,← h3,← h4,← h5]at HBB;have HH:=zh (And.intro h1 (And.intro h2 (And.intro h3 (And.intro h4 (And.intro h5 (And.intro e0 (And.intro e2 (And.intro e4 (And.intro e5 (And.intro e0' (And.intro e2' (And.intro e4' (And.intro e5' e5z)))))))))))));clear h1 h2 h3 h4 h5 e0 e2 e4 e5 e0' e2' e4' e5' e5z
 go_enter Tryz.func78,Tryz.ntmps78
 go_upto_region 1 with fail
 dsimp only[List.append];obtain⟨h1,h2,h3,h4,h5,e0,e2,e4,e5,e0',e2',e4',e5',e5z⟩:=HH.out
 obtain⟨TT,hTT⟩:∃ TT:List (Nat×Nat×Value),TT=((0,5,.pointer (some ⟨g1,o1,none⟩))::(1,6,.pointer (some ⟨g1,o1,none⟩))::(2,7,.pointer (some ⟨g1,o1,none⟩))::(3,8,.int .i64 x0)::(4,9,.pointer (some ⟨g2,o2,none⟩))::(5,10,.pointer (some ⟨g2,o2,none⟩))::(6,11,.pointer (some ⟨g2,o2,none⟩))::(7,12,.int .i64 y0)::(8,13,.bool b0)::(9,14,.bool b0)::(10,15,(bif b0 then .pointer (some ⟨g1,o1,none⟩) else undef))::(11,16,(bif b0 then .pointer (some ⟨g1,o1,none⟩) else undef))::(12,17,(bif b0 then .pointer (some ⟨g1,o1+1,none⟩) else undef))::(13,18,(bif b0 then .agg VA.toArray else undef))::(14,19,(bif b0 then .pointer (some ⟨g2,o2,none⟩) else undef))::(15,20,(bif b0 then .pointer (some ⟨g2,o2,none⟩) else undef))::(16,21,(bif b0 then .pointer (some ⟨g2,o2+1,none⟩) else undef))::(17,22,(bif b0 then .agg VB.toArray else undef))::(18,23,(bif b0 then .bool b1 else undef))::(19,24,.bool c1)::(20,25,.bool c1)::(21,26,(bif c1 then .pointer (some ⟨g1,o1,none⟩) else undef))::(22,27,(bif c1 then .pointer (some ⟨g1,o1,none⟩) else undef))::(23,28,(bif c1 then .pointer (some ⟨g1,o1+7,none⟩) else undef))::(24,29,(bif c1 then .string ⟨x7.toArray⟩ else undef))::(25,30,(bif c1 then .pointer (some ⟨g2,o2,none⟩) else undef))::(26,31,(bif c1 then .pointer (some ⟨g2,o2,none⟩) else undef))::(27,32,(bif c1 then .pointer (some ⟨g2,o2+7,none⟩) else undef))::(28,33,(bif c1 then .string ⟨y7.toArray⟩ else undef))::(29,34,(bif c1 then .bool b2 else undef))::(30,35,.bool c2)::(31,36,.bool c2)::(32,37,(bif c2 then .pointer (some ⟨g1,o1,none⟩) else undef))::(33,38,(bif c2 then .pointer (some ⟨g1,o1,none⟩) else undef))::(34,39,(bif c2 then .pointer (some ⟨g1,o1+8,none⟩) else undef))::(35,40,(bif c2 then .agg RA.toArray else undef))::(36,41,(bif c2 then .pointer (some ⟨g2,o2,none⟩) else undef))::(37,42,(bif c2 then .pointer (some ⟨g2,o2,none⟩) else undef))::(38,43,(bif c2 then .pointer (some ⟨g2,o2+8,none⟩) else undef))::(39,44,(bif c2 then .agg RB.toArray else undef))::(40,45,(bif c2 then .bool b3 else undef))::(41,46,.bool c3)::(42,47,.bool c3)::(43,48,(bif c3 then .pointer (some ⟨g1,o1,none⟩) else undef))::(44,49,(bif c3 then .pointer (some ⟨g1,o1,none⟩) else undef))::(45,50,(bif c3 then .pointer (some ⟨g1,o1+20,none⟩) else undef))::(46,51,(bif c3 then .int .i64 x20 else undef))::(47,52,(bif c3 then .pointer (some ⟨g2,o2,none⟩) else undef))::(48,53,(bif c3 then .pointer (some ⟨g2,o2,none⟩) else undef))::(49,54,(bif c3 then .pointer (some ⟨g2,o2+20,none⟩) else undef))::(50,55,(bif c3 then .int .i64 y20 else undef))::(51,56,(bif c3 then .bool b4 else undef))::(52,57,.bool c4)::(53,58,.bool c4)::(54,59,(bif c4 then .pointer (some ⟨g1,o1,none⟩) else undef))::(55,60,(bif c4 then .pointer (some ⟨g1,o1,none⟩) else undef))::(56,61,(bif c4 then .pointer (some ⟨g1,o1+21,none⟩) else undef))::(57,62,(bif c4 then .slice A n cp else undef))::(58,63,(bif c4 then .int .i64 (n:Nat) else undef))::(59,64,(bif c4 then .pointer (some ⟨g2,o2,none⟩) else undef))::(60,65,(bif c4 then .pointer (some ⟨g2,o2,none⟩) else undef))::(61,66,(bif c4 then .pointer (some ⟨g2,o2+21,none⟩) else undef))::(62,67,(bif c4 then .slice A' n' cp' else undef))::(63,68,(bif c4 then .int .i64 (n':Nat) else undef))::(64,69,(bif c4 then .bool b5 else undef))::(65,70,.bool c5)::(66,4,.bool c5)::[]):=⟨_,rfl⟩
 have HTT:=zh hTT;clear hTT;refine bJ (fun a0=>71≤a0.tmps.size∧a0.eval (.tmp 0)=.pointer (some ⟨g1,o1,none⟩)∧a0.eval (.tmp 1)=.pointer (some ⟨g2,o2,none⟩)) (5::6::7::8::9::10::11::12::13::14::15::16::17::18::19::20::21::22::23::24::25::26::27::28::29::30::31::32::33::34::35::36::37::38::39::40::41::42::43::44::45::46::47::48::49::50::51::52::53::54::55::56::57::58::59::60::61::62::63::64::65::66::67::68::69::70::4::[]) TT [] (fun w'=>w'=w.drew) (by kernel_rfl) (by kernel_rfl) ⟨by simp,rfl,rfl⟩ rfl ?_ ?_
 ·rintro a0 ⟨hs,hq0,hq1⟩ zl a1 w1 zj o hsz hI hun ho zd;obtain rfl:w1=w.drew:=hI.st;have hTT:=HTT.out;have hk:okU (TT.map fun e=>(e.1,e.2.1)) (5::6::7::8::9::10::11::12::13::14::15::16::17::18::19::20::21::22::23::24::25::26::27::28::29::30::31::32::33::34::35::36::37::38::39::40::41::42::43::44::45::46::47::48::49::50::51::52::53::54::55::56::57::58::59::60::61::62::63::64::65::66::67::68::69::70::4::[]) 71=true:=by rw[hTT];rfl
  subst hTT;have e0x:=aA ((hI.off.eval (by decide)).trans hq0);have e1x:=aA ((hI.off.eval (by decide)).trans hq1);have hj:=Up.of_false hun;have hj12:zj<67:=by rw[hsz]at hj;exact hj
  have G:RG _ _ _ _ _ _ _ _ _ _ _:=⟨hk,hI,hs,hun,ho,zd⟩
  rcases(by omega:zj=0∨zj=1∨zj=2∨zj=3∨zj=4∨zj=5∨zj=6∨zj=7∨zj=8∨zj=9∨zj=10∨zj=11∨zj=12∨zj=13∨zj=14∨zj=15∨zj=16∨zj=17∨zj=18∨zj=19∨zj=20∨zj=21∨zj=22∨zj=23∨zj=24∨zj=25∨zj=26∨zj=27∨zj=28∨zj=29∨zj=30∨zj=31∨zj=32∨zj=33∨zj=34∨zj=35∨zj=36∨zj=37∨zj=38∨zj=39∨zj=40∨zj=41∨zj=42∨zj=43∨zj=44∨zj=45∨zj=46∨zj=47∨zj=48∨zj=49∨zj=50∨zj=51∨zj=52∨zj=53∨zj=54∨zj=55∨zj=56∨zj=57∨zj=58∨zj=59∨zj=60∨zj=61∨zj=62∨zj=63∨zj=64∨zj=65∨zj=66) with rfl | rfl | rfl | rfl | rfl | rfl | rfl | rfl | rfl | rfl | rfl | rfl | rfl | rfl | rfl | rfl | rfl | rfl | rfl | rfl | rfl | rfl | rfl | rfl | rfl | rfl | rfl | rfl | rfl | rfl | rfl | rfl | rfl | rfl | rfl | rfl | rfl | rfl | rfl | rfl | rfl | rfl | rfl | rfl | rfl | rfl | rfl | rfl | rfl | rfl | rfl | rfl | rfl | rfl | rfl | rfl | rfl | rfl | rfl | rfl | rfl | rfl | rfl | rfl | rfl | rfl | rfl
  ·obtain rfl:=oi ho;exact G.nl 0 rfl (by simp[execOp,go_sem,e0x])
  ·obtain rfl:=oi ho;have p0:=G.d 0 rfl;exact G.nl 1 rfl (by simp[execOp,go_sem,aA p0])
  ·obtain rfl:=oi ho;have p1:=G.d 1 rfl;exact G.nl 2 rfl (by simp[execOp,go_sem,aA p1])
  ·obtain rfl:=oi ho;have p2:=G.d 2 rfl;exact G.nl 3 rfl (by simp[execOp,go_sem,aA p2,k0])
  ·obtain rfl:=oi ho;exact G.nl 4 rfl (by simp[execOp,go_sem,e1x])
  ·obtain rfl:=oi ho;have p4:=G.d 4 rfl;exact G.nl 5 rfl (by simp[execOp,go_sem,aA p4])
  ·obtain rfl:=oi ho;have p5:=G.d 5 rfl;exact G.nl 6 rfl (by simp[execOp,go_sem,aA p5])
  ·obtain rfl:=oi ho;have p6:=G.d 6 rfl;exact G.nl 7 rfl (by simp[execOp,go_sem,aA p6,m0])
  ·obtain rfl:=oi ho;have p3:=G.d 3 rfl;have p7:=G.d 7 rfl;exact G.nl 8 rfl (by simp[execOp,go_sem,aA p3,aA p7,e0'])
  ·obtain rfl:=oi ho;have p8:=G.d 8 rfl;exact G.nl 9 rfl (by simp[execOp,go_sem,aA p8])
  ·obtain rfl:=oi ho;have pg:=G.g 9 rfl;cases b0 with
   | false=>exact G.sk 10 rfl pg rfl
   | true=>
    exact G.vl 10 rfl pg rfl (by simp[execOp,go_sem,e0x])
  ·obtain rfl:=oi ho;have pg:=G.g 9 rfl;cases b0 with
   | false=>exact G.sk 11 rfl pg rfl
   | true=>
    have p10:=G.d 10 rfl;exact G.vl 11 rfl pg rfl (by simp[execOp,go_sem,aA p10])
  ·obtain rfl:=oi ho;have pg:=G.g 9 rfl;cases b0 with
   | false=>exact G.sk 12 rfl pg rfl
   | true=>
    have p11:=G.d 11 rfl;exact G.vl 12 rfl pg rfl (by simp[execOp,go_sem,aA p11])
  ·obtain rfl:=oi ho;have pg:=G.g 9 rfl;cases b0 with
   | false=>exact G.sk 13 rfl pg rfl
   | true=>
    have p12:=G.d 12 rfl;exact G.vl 13 rfl pg rfl (aL 32 (.tmp 17) rfl g1 (o1+1) p12 VA _ l1.out Tryz.underlying32 rfl i1)
  ·obtain rfl:=oi ho;have pg:=G.g 9 rfl;cases b0 with
   | false=>exact G.sk 14 rfl pg rfl
   | true=>
    exact G.vl 14 rfl pg rfl (by simp[execOp,go_sem,e1x])
  ·obtain rfl:=oi ho;have pg:=G.g 9 rfl;cases b0 with
   | false=>exact G.sk 15 rfl pg rfl
   | true=>
    have p14:=G.d 14 rfl;exact G.vl 15 rfl pg rfl (by simp[execOp,go_sem,aA p14])
  ·obtain rfl:=oi ho;have pg:=G.g 9 rfl;cases b0 with
   | false=>exact G.sk 16 rfl pg rfl
   | true=>
    have p15:=G.d 15 rfl;exact G.vl 16 rfl pg rfl (by simp[execOp,go_sem,aA p15])
  ·obtain rfl:=oi ho;have pg:=G.g 9 rfl;cases b0 with
   | false=>exact G.sk 17 rfl pg rfl
   | true=>
    have p16:=G.d 16 rfl;exact G.vl 17 rfl pg rfl (aL 32 (.tmp 21) rfl g2 (o2+1) p16 VB _ l2.out Tryz.underlying32 rfl i2)
  ·obtain rfl:=oi ho;have pg:=G.g 9 rfl;cases b0 with
   | false=>exact G.sk 18 rfl pg rfl
   | true=>
    have p13:=G.d 13 rfl;have p17:=G.d 17 rfl;exact G.vl 18 rfl pg rfl (by simp[execOp,go_sem,aA p13,aA p17,hev])
  ·obtain rfl:=oi ho;cases b0
   all_goals have p9:=G.d 9 rfl
   all_goals have p18:=G.d 18 rfl
   all_goals exact G.nl 19 rfl (by simp[execOp,go_sem,aA p9,aA p18,h1])
  ·obtain rfl:=oi ho;have p19:=G.d 19 rfl;exact G.nl 20 rfl (by simp[execOp,go_sem,aA p19])
  ·obtain rfl:=oi ho;have pg:=G.g 20 rfl;cases c1 with
   | false=>exact G.sk 21 rfl pg rfl
   | true=>
    exact G.vl 21 rfl pg rfl (by simp[execOp,go_sem,e0x])
  ·obtain rfl:=oi ho;have pg:=G.g 20 rfl;cases c1 with
   | false=>exact G.sk 22 rfl pg rfl
   | true=>
    have p21:=G.d 21 rfl;exact G.vl 22 rfl pg rfl (by simp[execOp,go_sem,aA p21])
  ·obtain rfl:=oi ho;have pg:=G.g 20 rfl;cases c1 with
   | false=>exact G.sk 23 rfl pg rfl
   | true=>
    have p22:=G.d 22 rfl;exact G.vl 23 rfl pg rfl (by simp[execOp,go_sem,aA p22])
  ·obtain rfl:=oi ho;have pg:=G.g 20 rfl;cases c1 with
   | false=>exact G.sk 24 rfl pg rfl
   | true=>
    have p23:=G.d 23 rfl;exact G.vl 24 rfl pg rfl (by simp[execOp,go_sem,aA p23,k7])
  ·obtain rfl:=oi ho;have pg:=G.g 20 rfl;cases c1 with
   | false=>exact G.sk 25 rfl pg rfl
   | true=>
    exact G.vl 25 rfl pg rfl (by simp[execOp,go_sem,e1x])
  ·obtain rfl:=oi ho;have pg:=G.g 20 rfl;cases c1 with
   | false=>exact G.sk 26 rfl pg rfl
   | true=>
    have p25:=G.d 25 rfl;exact G.vl 26 rfl pg rfl (by simp[execOp,go_sem,aA p25])
  ·obtain rfl:=oi ho;have pg:=G.g 20 rfl;cases c1 with
   | false=>exact G.sk 27 rfl pg rfl
   | true=>
    have p26:=G.d 26 rfl;exact G.vl 27 rfl pg rfl (by simp[execOp,go_sem,aA p26])
  ·obtain rfl:=oi ho;have pg:=G.g 20 rfl;cases c1 with
   | false=>exact G.sk 28 rfl pg rfl
   | true=>
    have p27:=G.d 27 rfl;exact G.vl 28 rfl pg rfl (by simp[execOp,go_sem,aA p27,m7])
  ·obtain rfl:=oi ho;have pg:=G.g 20 rfl;cases c1 with
   | false=>exact G.sk 29 rfl pg rfl
   | true=>
    have p24:=G.d 24 rfl;have p28:=G.d 28 rfl;exact G.vl 29 rfl pg rfl (by simp[execOp,go_sem,aA p24,aA p28,e2'])
  ·obtain rfl:=oi ho;cases c1
   all_goals have p20:=G.d 20 rfl
   all_goals have p29:=G.d 29 rfl
   all_goals exact G.nl 30 rfl (by simp[execOp,go_sem,aA p20,aA p29,h2])
  ·obtain rfl:=oi ho;have p30:=G.d 30 rfl;exact G.nl 31 rfl (by simp[execOp,go_sem,aA p30])
  ·obtain rfl:=oi ho;have pg:=G.g 31 rfl;cases c2 with
   | false=>exact G.sk 32 rfl pg rfl
   | true=>
    exact G.vl 32 rfl pg rfl (by simp[execOp,go_sem,e0x])
  ·obtain rfl:=oi ho;have pg:=G.g 31 rfl;cases c2 with
   | false=>exact G.sk 33 rfl pg rfl
   | true=>
    have p32:=G.d 32 rfl;exact G.vl 33 rfl pg rfl (by simp[execOp,go_sem,aA p32])
  ·obtain rfl:=oi ho;have pg:=G.g 31 rfl;cases c2 with
   | false=>exact G.sk 34 rfl pg rfl
   | true=>
    have p33:=G.d 33 rfl;exact G.vl 34 rfl pg rfl (by simp[execOp,go_sem,aA p33])
  ·obtain rfl:=oi ho;have pg:=G.g 31 rfl;cases c2 with
   | false=>exact G.sk 35 rfl pg rfl
   | true=>
    have p34:=G.d 34 rfl;exact G.vl 35 rfl pg rfl (aL 38 (.tmp 39) rfl g1 (o1+8) p34 RA _ l3.out Tryz.underlying38 rfl i3)
  ·obtain rfl:=oi ho;have pg:=G.g 31 rfl;cases c2 with
   | false=>exact G.sk 36 rfl pg rfl
   | true=>
    exact G.vl 36 rfl pg rfl (by simp[execOp,go_sem,e1x])
  ·obtain rfl:=oi ho;have pg:=G.g 31 rfl;cases c2 with
   | false=>exact G.sk 37 rfl pg rfl
   | true=>
    have p36:=G.d 36 rfl;exact G.vl 37 rfl pg rfl (by simp[execOp,go_sem,aA p36])
  ·obtain rfl:=oi ho;have pg:=G.g 31 rfl;cases c2 with
   | false=>exact G.sk 38 rfl pg rfl
   | true=>
    have p37:=G.d 37 rfl;exact G.vl 38 rfl pg rfl (by simp[execOp,go_sem,aA p37])
  ·obtain rfl:=oi ho;have pg:=G.g 31 rfl;cases c2 with
   | false=>exact G.sk 39 rfl pg rfl
   | true=>
    have p38:=G.d 38 rfl;exact G.vl 39 rfl pg rfl (aL 38 (.tmp 43) rfl g2 (o2+8) p38 RB _ l4.out Tryz.underlying38 rfl i4)
  ·obtain rfl:=oi ho;have pg:=G.g 31 rfl;cases c2 with
   | false=>exact G.sk 40 rfl pg rfl
   | true=>
    have p35:=G.d 35 rfl;have p39:=G.d 39 rfl;exact G.vl 40 rfl pg rfl (by simp[execOp,go_sem,aA p35,aA p39,hea])
  ·obtain rfl:=oi ho;cases c2
   all_goals have p31:=G.d 31 rfl
   all_goals have p40:=G.d 40 rfl
   all_goals exact G.nl 41 rfl (by simp[execOp,go_sem,aA p31,aA p40,h3])
  ·obtain rfl:=oi ho;have p41:=G.d 41 rfl;exact G.nl 42 rfl (by simp[execOp,go_sem,aA p41])
  ·obtain rfl:=oi ho;have pg:=G.g 42 rfl;cases c3 with
   | false=>exact G.sk 43 rfl pg rfl
   | true=>
    exact G.vl 43 rfl pg rfl (by simp[execOp,go_sem,e0x])
  ·obtain rfl:=oi ho;have pg:=G.g 42 rfl;cases c3 with
   | false=>exact G.sk 44 rfl pg rfl
   | true=>
    have p43:=G.d 43 rfl;exact G.vl 44 rfl pg rfl (by simp[execOp,go_sem,aA p43])
  ·obtain rfl:=oi ho;have pg:=G.g 42 rfl;cases c3 with
   | false=>exact G.sk 45 rfl pg rfl
   | true=>
    have p44:=G.d 44 rfl;exact G.vl 45 rfl pg rfl (by simp[execOp,go_sem,aA p44])
  ·obtain rfl:=oi ho;have pg:=G.g 42 rfl;cases c3 with
   | false=>exact G.sk 46 rfl pg rfl
   | true=>
    have p45:=G.d 45 rfl;exact G.vl 46 rfl pg rfl (by simp[execOp,go_sem,aA p45,k20])
  ·obtain rfl:=oi ho;have pg:=G.g 42 rfl;cases c3 with
   | false=>exact G.sk 47 rfl pg rfl
   | true=>
    exact G.vl 47 rfl pg rfl (by simp[execOp,go_sem,e1x])
  ·obtain rfl:=oi ho;have pg:=G.g 42 rfl;cases c3 with
   | false=>exact G.sk 48 rfl pg rfl
   | true=>
    have p47:=G.d 47 rfl;exact G.vl 48 rfl pg rfl (by simp[execOp,go_sem,aA p47])
  ·obtain rfl:=oi ho;have pg:=G.g 42 rfl;cases c3 with
   | false=>exact G.sk 49 rfl pg rfl
   | true=>
    have p48:=G.d 48 rfl;exact G.vl 49 rfl pg rfl (by simp[execOp,go_sem,aA p48])
  ·obtain rfl:=oi ho;have pg:=G.g 42 rfl;cases c3 with
   | false=>exact G.sk 50 rfl pg rfl
   | true=>
    have p49:=G.d 49 rfl;exact G.vl 50 rfl pg rfl (by simp[execOp,go_sem,aA p49,m20])
  ·obtain rfl:=oi ho;have pg:=G.g 42 rfl;cases c3 with
   | false=>exact G.sk 51 rfl pg rfl
   | true=>
    have p46:=G.d 46 rfl;have p50:=G.d 50 rfl;exact G.vl 51 rfl pg rfl (by simp[execOp,go_sem,aA p46,aA p50,e4'])
  ·obtain rfl:=oi ho;cases c3
   all_goals have p42:=G.d 42 rfl
   all_goals have p51:=G.d 51 rfl
   all_goals exact G.nl 52 rfl (by simp[execOp,go_sem,aA p42,aA p51,h4])
  ·obtain rfl:=oi ho;have p52:=G.d 52 rfl;exact G.nl 53 rfl (by simp[execOp,go_sem,aA p52])
  ·obtain rfl:=oi ho;have pg:=G.g 53 rfl;cases c4 with
   | false=>exact G.sk 54 rfl pg rfl
   | true=>
    exact G.vl 54 rfl pg rfl (by simp[execOp,go_sem,e0x])
  ·obtain rfl:=oi ho;have pg:=G.g 53 rfl;cases c4 with
   | false=>exact G.sk 55 rfl pg rfl
   | true=>
    have p54:=G.d 54 rfl;exact G.vl 55 rfl pg rfl (by simp[execOp,go_sem,aA p54])
  ·obtain rfl:=oi ho;have pg:=G.g 53 rfl;cases c4 with
   | false=>exact G.sk 56 rfl pg rfl
   | true=>
    have p55:=G.d 55 rfl;exact G.vl 56 rfl pg rfl (by simp[execOp,go_sem,aA p55])
  ·obtain rfl:=oi ho;have pg:=G.g 53 rfl;cases c4 with
   | false=>exact G.sk 57 rfl pg rfl
   | true=>
    have p56:=G.d 56 rfl;exact G.vl 57 rfl pg rfl (by simp[execOp,go_sem,aA p56,k21])
  ·obtain rfl:=oi ho;have pg:=G.g 53 rfl;cases c4 with
   | false=>exact G.sk 58 rfl pg rfl
   | true=>
    have p57:=G.d 57 rfl;exact G.vl 58 rfl pg rfl (by simp[go_sem,aA p57])
  ·obtain rfl:=oi ho;have pg:=G.g 53 rfl;cases c4 with
   | false=>exact G.sk 59 rfl pg rfl
   | true=>
    exact G.vl 59 rfl pg rfl (by simp[execOp,go_sem,e1x])
  ·obtain rfl:=oi ho;have pg:=G.g 53 rfl;cases c4 with
   | false=>exact G.sk 60 rfl pg rfl
   | true=>
    have p59:=G.d 59 rfl;exact G.vl 60 rfl pg rfl (by simp[execOp,go_sem,aA p59])
  ·obtain rfl:=oi ho;have pg:=G.g 53 rfl;cases c4 with
   | false=>exact G.sk 61 rfl pg rfl
   | true=>
    have p60:=G.d 60 rfl;exact G.vl 61 rfl pg rfl (by simp[execOp,go_sem,aA p60])
  ·obtain rfl:=oi ho;have pg:=G.g 53 rfl;cases c4 with
   | false=>exact G.sk 62 rfl pg rfl
   | true=>
    have p61:=G.d 61 rfl;exact G.vl 62 rfl pg rfl (by simp[execOp,go_sem,aA p61,m21])
  ·obtain rfl:=oi ho;have pg:=G.g 53 rfl;cases c4 with
   | false=>exact G.sk 63 rfl pg rfl
   | true=>
    have p62:=G.d 62 rfl;exact G.vl 63 rfl pg rfl (by simp[go_sem,aA p62])
  ·obtain rfl:=oi ho;have pg:=G.g 53 rfl;cases c4 with
   | false=>exact G.sk 64 rfl pg rfl
   | true=>
    have p58:=G.d 58 rfl;have p63:=G.d 63 rfl;exact G.vl 64 rfl pg rfl (by simp[execOp,go_sem,aA p58,aA p63,e5z])
  ·obtain rfl:=oi ho;cases c4
   all_goals have p53:=G.d 53 rfl
   all_goals have p64:=G.d 64 rfl
   all_goals exact G.nl 65 rfl (by simp[execOp,go_sem,aA p53,aA p64,h5])
  ·obtain rfl:=oi ho;have p65:=G.d 65 rfl;exact G.nl 66 rfl (by simp[execOp,go_sem,aA p65])
 ·intro zl a1 w1 hI hup;have hTT:=HTT.out;subst hTT;obtain rfl:w1=w.drew:=hI.st;have z4:=hI.ptk 66 rfl (hup 66 (by decide));obtain⟨ff,rfl,hf⟩:=hI.off.forms;rw[← hf 4]at z4;clear hI;simp only[List.foldl,Act.put,List.setIfInBounds_toArray,List.set];rw[z4]
  go_wp2_with fail
  go_ret
  exact⟨by rw[HBB.out];rfl,HB.out⟩
theorem Lies.node{W:World}{q:Nat}{h:NodeH}{A:Option Addr}{n c:Nat}(hl:Lies W q 41 (bX h A n c)):NodeIn W q 0 h A n c:=⟨hl.lt,fun j _=>by rw[Nat.zero_add];exact hl.cell j⟩
set_option maxRecDepth 100000 in
set_option maxHeartbeats 3200000 in
theorem fQ(h hw:NodeH)(A Aw:Option Addr)(n nw c cw g o:Nat)(w:World)(hn:NodeIn w g o h A n c) :
  Calls Tryz.prog 52 #[.pointer (some ⟨g,o,none⟩),dS hw Aw nw cw] w fun e w'=>e=.returned (.bool (NodeH.same h { hw with kind:=h.kind }&&decide (n=nw)))∧Below w.heap.size w w':=by
 obtain⟨W1,hW1⟩:∃ W1,W1=w.alloc (.cells (bX hw Aw nw cw) 41):=⟨_,rfl⟩
 have HW1:=zh hW1;have HL:Hid (Lies W1 w.heap.size 41 (bX hw Aw nw cw)):=zh (by rw[hW1];exact Lies.new _ _ _);have HB:Hid (Below w.heap.size w W1):=zh (by rw[hW1];exact(Below.refl _ _).alloc (Nat.le_refl _) _);have HN:=zh (NodeIn.kp hn (Kp.of_below HB.out));have k0:W1.cell? ⟨g,o,none⟩=some (.int .i64 h.kind):=HN.out.2 0 (by decide);have hgl:=hn.1;clear hW1 hn;obtain⟨bb,hbb⟩:∃ bb,(NodeH.same h { hw with kind:=h.kind }&&decide (n=nw))=bb:=⟨_,rfl⟩
 have HBB:=zh hbb;rw[hbb];clear hbb
 go_enter Tryz.func52,Tryz.ntmps52
 go_upto_region 1 with fail
 rw[← HW1.out];generalize hq:w.heap.size=q at *;have hgq:g≠q:=by omega
 have x0:=HL.out.cell 0;have xf0:=HL.out.frozen 0;simp only[List.getElem?_toArray,List.getElem?_cons_zero]at x0;have HL2:=zh (HL.out.put 0 (.int .i64 h.kind));have HN2:Hid (NodeIn (W1.setCell ⟨q,0,none⟩ (.int .i64 h.kind)) g o h A n c):=zh ⟨by have:=HN.out.1;simpa using this,fun j hj=>by
  rw[← HN.out.2 j hj];apply World.cell?_setCell_other;intro e;injection e with e;exact hgq e.symm⟩
 have HB2:Hid (Below q w (W1.setCell ⟨q,0,none⟩ (.int .i64 h.kind))):=zh (HB.out.setCell (p:=⟨q,0,none⟩) (Nat.le_refl q) _);clear HL HN HB HW1
 go_upto_region 2 with fail
 generalize World.setCell _ _ _=W2 at *;clear k0 x0 xf0;have HC:=zh (uGC h { hw with kind:=h.kind } A Aw n nw c cw g o q 0 W2 HN2.out (Lies.node HL2.out));rw[HBB.out]at HC;clear HBB
 go_wp2_with fail
 refine HC.out.mono ?_;rintro e w3 ⟨rfl,hb⟩;have HB3:=zh (HB2.out.trans (hb.mono (by have:=HB2.out.size;omega)));clear hb HC
 go_wp2_with fail
 go_ret
 exact⟨rfl,by first | exact HB3.out |(rw[hq];exact HB3.out)⟩
end Go.Proofs.YtmgjidnalpgegaaGreatDoor
