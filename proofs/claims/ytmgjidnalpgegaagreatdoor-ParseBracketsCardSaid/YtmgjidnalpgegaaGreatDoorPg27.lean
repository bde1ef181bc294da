/-
  Lemmas, part 27: PaG PaY PaZ LaidP OpenI.
-/
import Derived.ProofKit
import Derived.OpenShut
import Derived.Lib.LaidTab
import Derived.Deep.DeepHandedRow
import Derived.Test.YtmgjidnalpgegaaGreatDoorCards
import Derived.ShutString
import Derived.Deep.Slices
import Derived.SizedLaws
import Derived.Test.YtmgjidnalpgegaaGreatDoorPg26
namespace Go.Proofs.YtmgjidnalpgegaaGreatDoor
open Go.RowKit
set_option maxRecDepth 1000000 in
set_option maxHeartbeats 6400000 in
theorem uK:∀ (n:Nat),n≤1000000→∀ (t t':Tree) (cs cs':Array Value) (w:World),t.size≤n→TreeIn w t cs→TreeIn w t' cs'→Calls Tryz.prog 12 #[.agg cs,.agg cs'] w fun e w'=>e=.returned (.bool (t.same t'))∧Below w.heap.size w w':=by
 intro n
 induction n with
 | zero=>intro _ t _ _ _ _ hs;cases t;simp[Tree.size]at hs
 | succ n ih=>
 intro hn1;rintro⟨h,l⟩ ⟨h',l'⟩ cs cs' w hs ⟨A,cp,rfl,hk⟩ ⟨A',cp',rfl,hk'⟩;have IH:=zh (fun(i:Nat) (hi:i<l.length) t' cs cs' W h1 h2=>ih (by omega) (l[i]'hi) t' cs cs' W (by have h9:(l[i]'hi).size<(Tree.mk h l).size:=pQ (t:=.mk h l) (i:=i) hi;omega) h1 h2);have HLB:Hid (l.length≤1000000):=zh (by have h1:=tF l;have h2:dN l+1≤n+1:=hs;omega);clear ih;dsimp only[Tree.h,Tree.l]at hk hk' ⊢;have HK:=zh hk;have HK':=zh hk';clear hk hk' hs;have hS:Tree.same (.mk h l) (.mk h' l')=(NodeH.same h h'&&iJ l l'):=rfl;rw[hS];clear hS;generalize hL1:(w.alloc (.cells (bX h A l.length cp) 41))=W1;have HLa:Hid (Lies W1 w.heap.size 41 (bX h A l.length cp)):=zh (by rw[← hL1];exact Lies.new _ _ _);have HBa:Hid (Below w.heap.size w W1):=zh (by rw[← hL1];exact(Below.refl _ _).alloc (Nat.le_refl _) _);have hsz1:W1.heap.size=w.heap.size+1:=by rw[← hL1];simp
 generalize hL2:(W1.alloc (.cells (bX h' A' l'.length cp') 41))=W2;have HLb:Hid (Lies W2 (w.heap.size+1) 41 (bX h' A' l'.length cp')):=zh (by rw[← hL2,← hsz1];exact Lies.new _ _ _);have HBb:Hid (Below W1.heap.size W1 W2):=zh (by rw[← hL2];exact(Below.refl _ _).alloc (Nat.le_refl _) _);have HL2:=zh (HLa.out.next HBb.out);have HB2:Hid (Below w.heap.size w W2):=zh (HBa.out.trans (HBb.out.mono HBa.out.size));have HEA:=zh neq_area;have HEV:=zh neq_val;clear HLa HBa HBb;have HW1:=zh hL1;have HW2:=zh hL2;have HSZ:=zh hsz1;clear hL1 hL2 hsz1
 go_enter Tryz.func12,Tryz.ntmps12
 go_upto_region 1 with fail
 rw[HW1.out,HW2.out];clear HW1 HW2;generalize hQ:w.heap.size=q at *;obtain⟨bb,hbb⟩:∃ bb,(NodeH.same h h'&&decide (l.length=l'.length))=bb:=⟨_,rfl⟩
 have HBB:=zh hbb;clear hbb
 go_cut [47] (fun v wx=>v=.bool (!bb)∧Hid (wx=W2))
 case first=>
  have hea:=HEA.out h.a h.b h'.a h'.b;have hev:=HEV.out h.v h'.v;dsimp only[arV]at hea;obtain⟨d0,hd0⟩:∃ x,(h.kind != h'.kind)=x:=⟨_,rfl⟩
  obtain⟨d1,hd1⟩:∃ x,(!cW h.v h'.v)=x:=⟨_,rfl⟩
  obtain⟨d2,hd2⟩:∃ x,decide (h.name≠h'.name)=x:=⟨_,rfl⟩
  obtain⟨d3,hd3⟩:∃ x,(!(decide (h.a=h'.a)&&decide (h.b=h'.b)))=x:=⟨_,rfl⟩
  obtain⟨d4,hd4⟩:∃ x,(h.rows != h'.rows)=x:=⟨_,rfl⟩
  obtain⟨d5,hd5⟩:∃ x,((l.length:Int) != (l'.length:Int))=x:=⟨_,rfl⟩
  rw[hd1]at hev;rw[hd3]at hea;have hd2':(h.name==h'.name)=!d2:=by rw[← hd2,Bool.eq_iff_iff];simp
  obtain⟨c1,hc1⟩:∃ x,x=(d0||d1):=⟨_,rfl⟩
  obtain⟨c2,hc2⟩:∃ x,x=(c1||d2):=⟨_,rfl⟩
  obtain⟨c3,hc3⟩:∃ x,x=(c2||d3):=⟨_,rfl⟩
  obtain⟨c4,hc4⟩:∃ x,x=(c3||d4):=⟨_,rfl⟩
  obtain⟨c5,hc5⟩:∃ x,x=(c4||d5):=⟨_,rfl⟩
  have HD:Hid (bb=!c5):=zh (by
   rw[hc5,hc4,hc3,hc2,hc1,← hd0,← hd1,← hd2,← hd3,← hd4,← hd5,← HBB.out];unfold NodeH.same;rw[show (h.kind != h'.kind)=!decide (h.kind=h'.kind) from by rw[Bool.eq_iff_iff];simp,show decide (h.name≠h'.name)=!(h.name==h'.name) from by rw[Bool.eq_iff_iff];simp,show (h.rows != h'.rows)=!decide (h.rows=h'.rows) from by rw[Bool.eq_iff_iff];simp,show ((l.length:Int) != (l'.length:Int))=!decide (l.length=l'.length) from by rw[Bool.eq_iff_iff];simp;omega];cases decide (h.kind=h'.kind) <;> cases cW h.v h'.v <;> cases (h.name==h'.name) <;> cases decide (h.a=h'.a) <;> cases decide (h.b=h'.b) <;> cases decide (h.rows=h'.rows) <;> cases decide (l.length=l'.length) <;> rfl)
  obtain⟨TT,hTT⟩:∃ TT:List (Nat×Nat×Value),TT=((0,6,.pointer (some ⟨q,0,none⟩))::(1,7,.int .i64 h.kind)::(2,8,.pointer (some ⟨(q+1),0,none⟩))::(3,9,.int .i64 h'.kind)::(4,10,.bool d0)::(5,11,.bool d0)::(6,12,(bif d0 then undef else .pointer (some ⟨q,1,none⟩)))::(7,13,(bif d0 then undef else .agg ([.int .i64 h.v.kind,.int .i64 h.v.mant,.int .i64 h.v.exp,.string ⟨h.v.text.toArray⟩,.bool h.v.truth,.int .i64 h.v.fault]:List Value).toArray))::(8,14,(bif d0 then undef else .pointer (some ⟨(q+1),1,none⟩)))::(9,15,(bif d0 then undef else .agg ([.int .i64 h'.v.kind,.int .i64 h'.v.mant,.int .i64 h'.v.exp,.string ⟨h'.v.text.toArray⟩,.bool h'.v.truth,.int .i64 h'.v.fault]:List Value).toArray))::(10,16,(bif d0 then undef else .bool d1))::(11,17,.bool c1)::(12,18,.bool c1)::(13,19,(bif c1 then undef else .pointer (some ⟨q,7,none⟩)))::(14,20,(bif c1 then undef else .string ⟨h.name.toArray⟩))::(15,21,(bif c1 then undef else .pointer (some ⟨(q+1),7,none⟩)))::(16,22,(bif c1 then undef else .string ⟨h'.name.toArray⟩))::(17,23,(bif c1 then undef else .bool d2))::(18,24,.bool c2)::(19,25,.bool c2)::(20,26,(bif c2 then undef else .pointer (some ⟨q,8,none⟩)))::(21,27,(bif c2 then undef else .agg ([.int .i64 h.a.row.a,.int .i64 h.a.row.n,.int .i64 h.a.col.a,.int .i64 h.a.col.n,.bool h.a.fr,.bool h.a.fc,.int .i64 h.b.row.a,.int .i64 h.b.row.n,.int .i64 h.b.col.a,.int .i64 h.b.col.n,.bool h.b.fr,.bool h.b.fc]:List Value).toArray))::(22,28,(bif c2 then undef else .pointer (some ⟨(q+1),8,none⟩)))::(23,29,(bif c2 then undef else .agg ([.int .i64 h'.a.row.a,.int .i64 h'.a.row.n,.int .i64 h'.a.col.a,.int .i64 h'.a.col.n,.bool h'.a.fr,.bool h'.a.fc,.int .i64 h'.b.row.a,.int .i64 h'.b.row.n,.int .i64 h'.b.col.a,.int .i64 h'.b.col.n,.bool h'.b.fr,.bool h'.b.fc]:List Value).toArray))::(24,30,(bif c2 then undef else .bool d3))::(25,31,.bool c3)::(26,32,.bool c3)::(27,33,(bif c3 then undef else .pointer (some ⟨q,20,none⟩)))::(28,34,(bif c3 then undef else .int .i64 h.rows))::(29,35,(bif c3 then undef else .pointer (some ⟨(q+1),20,none⟩)))::(30,36,(bif c3 then undef else .int .i64 h'.rows))::(31,37,(bif c3 then undef else .bool d4))::(32,38,.bool c4)::(33,39,.bool c4)::(34,40,(bif c4 then undef else .pointer (some ⟨q,21,none⟩)))::(35,41,(bif c4 then undef else .slice A l.length cp))::(36,42,(bif c4 then undef else .int .i64 (l.length:Nat)))::(37,43,(bif c4 then undef else .pointer (some ⟨(q+1),21,none⟩)))::(38,44,(bif c4 then undef else .slice A' l'.length cp'))::(39,45,(bif c4 then undef else .int .i64 (l'.length:Nat)))::(40,46,(bif c4 then undef else .bool d5))::(41,47,.bool c5)::[]):=⟨_,rfl⟩
  have HTT:=zh hTT;clear hTT;refine bA (fun a0=>67≤a0.tmps.size∧a0.eval (.tmp 2)=.pointer (some ⟨q,0,none⟩)∧a0.eval (.tmp 3)=.pointer (some ⟨q+1,0,none⟩)) (6::7::8::9::10::11::12::13::14::15::16::17::18::19::20::21::22::23::24::25::26::27::28::29::30::31::32::33::34::35::36::37::38::39::40::41::42::43::44::45::46::47::[]) TT [] (fun w'=>w'=W2) (by kernel_rfl) ⟨by simp,rfl,rfl⟩ rfl ?_ ?_
  ·rintro a0 ⟨hs,hq2,hq3⟩ zl a1 w1 zj o hsz hI hun ho zd;obtain rfl:w1=W2:=hI.st;have hTT:=HTT.out;have hk:okU (TT.map fun e=>(e.1,e.2.1)) (6::7::8::9::10::11::12::13::14::15::16::17::18::19::20::21::22::23::24::25::26::27::28::29::30::31::32::33::34::35::36::37::38::39::40::41::42::43::44::45::46::47::[]) 67=true:=by rw[hTT];rfl
   subst hTT;have e2x:=aA ((hI.off.eval (by decide)).trans hq2);have e3x:=aA ((hI.off.eval (by decide)).trans hq3);have hj:=Up.of_false hun;have hj12:zj<42:=by rw[hsz]at hj;exact hj
   have G:RG _ _ _ _ _ _ _ _ _ _ _:=⟨hk,hI,hs,hun,ho,zd⟩
   rcases(by omega:zj=0∨zj=1∨zj=2∨zj=3∨zj=4∨zj=5∨zj=6∨zj=7∨zj=8∨zj=9∨zj=10∨zj=11∨zj=12∨zj=13∨zj=14∨zj=15∨zj=16∨zj=17∨zj=18∨zj=19∨zj=20∨zj=21∨zj=22∨zj=23∨zj=24∨zj=25∨zj=26∨zj=27∨zj=28∨zj=29∨zj=30∨zj=31∨zj=32∨zj=33∨zj=34∨zj=35∨zj=36∨zj=37∨zj=38∨zj=39∨zj=40∨zj=41) with rfl | rfl | rfl | rfl | rfl | rfl | rfl | rfl | rfl | rfl | rfl | rfl | rfl | rfl | rfl | rfl | rfl | rfl | rfl | rfl | rfl | rfl | rfl | rfl | rfl | rfl | rfl | rfl | rfl | rfl | rfl | rfl | rfl | rfl | rfl | rfl | rfl | rfl | rfl | rfl | rfl | rfl
   ·obtain rfl:=oi ho;exact G.nl 0 rfl (by simp[execOp,go_sem,e2x])
   ·obtain rfl:=oi ho;have xq:w1.cell? ⟨q,0,none⟩=some (.int .i64 h.kind):=HL2.out.cell 0;have p0:=G.d 0 rfl;exact G.nl 1 rfl (by simp[execOp,go_sem,aA p0,xq])
   ·obtain rfl:=oi ho;exact G.nl 2 rfl (by simp[execOp,go_sem,e3x])
   ·obtain rfl:=oi ho;have xq:w1.cell? ⟨(q+1),0,none⟩=some (.int .i64 h'.kind):=HLb.out.cell 0;have p2:=G.d 2 rfl;exact G.nl 3 rfl (by simp[execOp,go_sem,aA p2,xq])
   ·obtain rfl:=oi ho;have p1:=G.d 1 rfl;have p3:=G.d 3 rfl;exact G.nl 4 rfl (by simp[execOp,go_sem,aA p1,aA p3,hd0])
   ·obtain rfl:=oi ho;have p4:=G.d 4 rfl;exact G.nl 5 rfl (by simp[execOp,go_sem,aA p4])
   ·obtain rfl:=oi ho;have pg:=G.g 5 rfl;cases d0 with
    | true=>exact G.sk 6 rfl pg rfl
    | false=>
     exact G.vl 6 rfl pg rfl (by simp[execOp,go_sem,e2x])
   ·obtain rfl:=oi ho;have pg:=G.g 5 rfl;cases d0 with
    | true=>exact G.sk 7 rfl pg rfl
    | false=>
     have p6:=G.d 6 rfl;exact G.vl 7 rfl pg rfl (aL 32 (.tmp 12) rfl q 1 p6 _ _ (HL2.out.sub 1 [.int .i64 h.v.kind,.int .i64 h.v.mant,.int .i64 h.v.exp,.string ⟨h.v.text.toArray⟩,.bool h.v.truth,.int .i64 h.v.fault] rfl) Tryz.underlying32 rfl jA)
   ·obtain rfl:=oi ho;have pg:=G.g 5 rfl;cases d0 with
    | true=>exact G.sk 8 rfl pg rfl
    | false=>
     exact G.vl 8 rfl pg rfl (by simp[execOp,go_sem,e3x])
   ·obtain rfl:=oi ho;have pg:=G.g 5 rfl;cases d0 with
    | true=>exact G.sk 9 rfl pg rfl
    | false=>
     have p8:=G.d 8 rfl;exact G.vl 9 rfl pg rfl (aL 32 (.tmp 14) rfl (q+1) 1 p8 _ _ (HLb.out.sub 1 [.int .i64 h'.v.kind,.int .i64 h'.v.mant,.int .i64 h'.v.exp,.string ⟨h'.v.text.toArray⟩,.bool h'.v.truth,.int .i64 h'.v.fault] rfl) Tryz.underlying32 rfl jA)
   ·obtain rfl:=oi ho;have pg:=G.g 5 rfl;cases d0 with
    | true=>exact G.sk 10 rfl pg rfl
    | false=>
     have p7:=G.d 7 rfl;have p9:=G.d 9 rfl;exact G.vl 10 rfl pg rfl (by simp[execOp,go_sem,aA p7,aA p9,hev])
   ·obtain rfl:=oi ho;cases d0
    all_goals have p5:=G.d 5 rfl
    all_goals have p10:=G.d 10 rfl
    all_goals exact G.nl 11 rfl (by simp[execOp,go_sem,aA p5,aA p10,hc1])
   ·obtain rfl:=oi ho;have p11:=G.d 11 rfl;exact G.nl 12 rfl (by simp[execOp,go_sem,aA p11])
   ·obtain rfl:=oi ho;have pg:=G.g 12 rfl;cases c1 with
    | true=>exact G.sk 13 rfl pg rfl
    | false=>
     exact G.vl 13 rfl pg rfl (by simp[execOp,go_sem,e2x])
   ·obtain rfl:=oi ho;have pg:=G.g 12 rfl;cases c1 with
    | true=>exact G.sk 14 rfl pg rfl
    | false=>
     have xq:w1.cell? ⟨q,7,none⟩=some (.string ⟨h.name.toArray⟩):=HL2.out.cell 7;have p13:=G.d 13 rfl;exact G.vl 14 rfl pg rfl (by simp[execOp,go_sem,aA p13,xq])
   ·obtain rfl:=oi ho;have pg:=G.g 12 rfl;cases c1 with
    | true=>exact G.sk 15 rfl pg rfl
    | false=>
     exact G.vl 15 rfl pg rfl (by simp[execOp,go_sem,e3x])
   ·obtain rfl:=oi ho;have pg:=G.g 12 rfl;cases c1 with
    | true=>exact G.sk 16 rfl pg rfl
    | false=>
     have xq:w1.cell? ⟨(q+1),7,none⟩=some (.string ⟨h'.name.toArray⟩):=HLb.out.cell 7;have p15:=G.d 15 rfl;exact G.vl 16 rfl pg rfl (by simp[execOp,go_sem,aA p15,xq])
   ·obtain rfl:=oi ho;have pg:=G.g 12 rfl;cases c1 with
    | true=>exact G.sk 17 rfl pg rfl
    | false=>
     have p14:=G.d 14 rfl;have p16:=G.d 16 rfl;exact G.vl 17 rfl pg rfl (by simp[execOp,go_sem,aA p14,aA p16,hd2'])
   ·obtain rfl:=oi ho;cases c1
    all_goals have p12:=G.d 12 rfl
    all_goals have p17:=G.d 17 rfl
    all_goals exact G.nl 18 rfl (by simp[execOp,go_sem,aA p12,aA p17,hc2])
   ·obtain rfl:=oi ho;have p18:=G.d 18 rfl;exact G.nl 19 rfl (by simp[execOp,go_sem,aA p18])
   ·obtain rfl:=oi ho;have pg:=G.g 19 rfl;cases c2 with
    | true=>exact G.sk 20 rfl pg rfl
    | false=>
     exact G.vl 20 rfl pg rfl (by simp[execOp,go_sem,e2x])
   ·obtain rfl:=oi ho;have pg:=G.g 19 rfl;cases c2 with
    | true=>exact G.sk 21 rfl pg rfl
    | false=>
     have p20:=G.d 20 rfl;exact G.vl 21 rfl pg rfl (aL 38 (.tmp 26) rfl q 8 p20 _ _ (HL2.out.sub 8 [.int .i64 h.a.row.a,.int .i64 h.a.row.n,.int .i64 h.a.col.a,.int .i64 h.a.col.n,.bool h.a.fr,.bool h.a.fc,.int .i64 h.b.row.a,.int .i64 h.b.row.n,.int .i64 h.b.col.a,.int .i64 h.b.col.n,.bool h.b.fr,.bool h.b.fc] rfl) Tryz.underlying38 rfl kM)
   ·obtain rfl:=oi ho;have pg:=G.g 19 rfl;cases c2 with
    | true=>exact G.sk 22 rfl pg rfl
    | false=>
     exact G.vl 22 rfl pg rfl (by simp[execOp,go_sem,e3x])
   ·obtain rfl:=oi ho;have pg:=G.g 19 rfl;cases c2 with
    | true=>exact G.sk 23 rfl pg rfl
    | false=>
     have p22:=G.d 22 rfl;exact G.vl 23 rfl pg rfl (aL 38 (.tmp 28) rfl (q+1) 8 p22 _ _ (HLb.out.sub 8 [.int .i64 h'.a.row.a,.int .i64 h'.a.row.n,.int .i64 h'.a.col.a,.int .i64 h'.a.col.n,.bool h'.a.fr,.bool h'.a.fc,.int .i64 h'.b.row.a,.int .i64 h'.b.row.n,.int .i64 h'.b.col.a,.int .i64 h'.b.col.n,.bool h'.b.fr,.bool h'.b.fc] rfl) Tryz.underlying38 rfl kM)
   ·obtain rfl:=oi ho;have pg:=G.g 19 rfl;cases c2 with
    | true=>exact G.sk 24 rfl pg rfl
    | false=>
     have p21:=G.d 21 rfl;have p23:=G.d 23 rfl;exact G.vl 24 rfl pg rfl (by simp[execOp,go_sem,aA p21,aA p23,hea])
   ·obtain rfl:=oi ho;cases c2
    all_goals have p19:=G.d 19 rfl
    all_goals have p24:=G.d 24 rfl
    all_goals exact G.nl 25 rfl (by simp[execOp,go_sem,aA p19,aA p24,hc3])
   ·obtain rfl:=oi ho;have p25:=G.d 25 rfl;exact G.nl 26 rfl (by simp[execOp,go_sem,aA p25])
   ·obtain rfl:=oi ho;have pg:=G.g 26 rfl;cases c3 with
    | true=>exact G.sk 27 rfl pg rfl
    | false=>
     exact G.vl 27 rfl pg rfl (by simp[execOp,go_sem,e2x])
   ·obtain rfl:=oi ho;have pg:=G.g 26 rfl;cases c3 with
    | true=>exact G.sk 28 rfl pg rfl
    | false=>
     have xq:w1.cell? ⟨q,20,none⟩=some (.int .i64 h.rows):=HL2.out.cell 20;have p27:=G.d 27 rfl;exact G.vl 28 rfl pg rfl (by simp[execOp,go_sem,aA p27,xq])
   ·obtain rfl:=oi ho;have pg:=G.g 26 rfl;cases c3 with
    | true=>exact G.sk 29 rfl pg rfl
    | false=>
     exact G.vl 29 rfl pg rfl (by simp[execOp,go_sem,e3x])
   ·obtain rfl:=oi ho;have pg:=G.g 26 rfl;cases c3 with
    | true=>exact G.sk 30 rfl pg rfl
    | false=>
     have xq:w1.cell? ⟨(q+1),20,none⟩=some (.int .i64 h'.rows):=HLb.out.cell 20;have p29:=G.d 29 rfl;exact G.vl 30 rfl pg rfl (by simp[execOp,go_sem,aA p29,xq])
   ·obtain rfl:=oi ho;have pg:=G.g 26 rfl;cases c3 with
    | true=>exact G.sk 31 rfl pg rfl
    | false=>
     have p28:=G.d 28 rfl;have p30:=G.d 30 rfl;exact G.vl 31 rfl pg rfl (by simp[execOp,go_sem,aA p28,aA p30,hd4])
   ·obtain rfl:=oi ho;cases c3
    all_goals have p26:=G.d 26 rfl
    all_goals have p31:=G.d 31 rfl
    all_goals exact G.nl 32 rfl (by simp[execOp,go_sem,aA p26,aA p31,hc4])
   ·obtain rfl:=oi ho;have p32:=G.d 32 rfl;exact G.nl 33 rfl (by simp[execOp,go_sem,aA p32])
   ·obtain rfl:=oi ho;have pg:=G.g 33 rfl;cases c4 with
    | true=>exact G.sk 34 rfl pg rfl
    | false=>
     exact G.vl 34 rfl pg rfl (by simp[execOp,go_sem,e2x])
   ·obtain rfl:=oi ho;have pg:=G.g 33 rfl;cases c4 with
    | true=>exact G.sk 35 rfl pg rfl
    | false=>
     have xq:w1.cell? ⟨q,21,none⟩=some (.slice A l.length cp):=HL2.out.cell 21;have p34:=G.d 34 rfl;exact G.vl 35 rfl pg rfl (by simp[execOp,go_sem,aA p34,xq])
   ·obtain rfl:=oi ho;have pg:=G.g 33 rfl;cases c4 with
    | true=>exact G.sk 36 rfl pg rfl
    | false=>
     have p35:=G.d 35 rfl;exact G.vl 36 rfl pg rfl (by simp[go_sem,aA p35])
   ·obtain rfl:=oi ho;have pg:=G.g 33 rfl;cases c4 with
    | true=>exact G.sk 37 rfl pg rfl
    | false=>
     exact G.vl 37 rfl pg rfl (by simp[execOp,go_sem,e3x])
   ·obtain rfl:=oi ho;have pg:=G.g 33 rfl;cases c4 with
    | true=>exact G.sk 38 rfl pg rfl
    | false=>
     have xq:w1.cell? ⟨(q+1),21,none⟩=some (.slice A' l'.length cp'):=HLb.out.cell 21;have p37:=G.d 37 rfl;exact G.vl 38 rfl pg rfl (by simp[execOp,go_sem,aA p37,xq])
   ·obtain rfl:=oi ho;have pg:=G.g 33 rfl;cases c4 with
    | true=>exact G.sk 39 rfl pg rfl
    | false=>
     have p38:=G.d 38 rfl;exact G.vl 39 rfl pg rfl (by simp[go_sem,aA p38])
   ·obtain rfl:=oi ho;have pg:=G.g 33 rfl;cases c4 with
    | true=>exact G.sk 40 rfl pg rfl
    | false=>
     have p36:=G.d 36 rfl;have p39:=G.d 39 rfl;exact G.vl 40 rfl pg rfl (by simp[execOp,go_sem,aA p36,aA p39,hd5])
   ·obtain rfl:=oi ho;cases c4
    all_goals have p33:=G.d 33 rfl
    all_goals have p40:=G.d 40 rfl
    all_goals exact G.nl 41 rfl (by simp[execOp,go_sem,aA p33,aA p40,hc5])
  ·intro zl a1 w1 hI hup;obtain rfl:w1=W2:=hI.st;have hTT:=HTT.out;subst hTT;have z47:=hI.ptk 41 rfl (hup 41 (by decide));obtain⟨ff,rfl,hf⟩:=hI.off.forms;rw[← hf 47]at z47;clear hI;simp only[List.foldl,Act.put,List.setIfInBounds_toArray,List.set];rw[z47];simp only[Exit.then]
   go_step
   go_meet
   exact⟨by rw[HD.out,Bool.not_not],zh rfl⟩
 case rest=>
  obtain⟨rfl,hcut⟩:=hcut;have hwc:=hcut.out;subst hwc;have HB3:Hid (Below w.heap.size w wc):=zh (by rw[hQ];exact HB2.out);cases bb with
  | false=>
   have HR:Hid ((NodeH.same h h'&&iJ l l')=false):=zh (by have h1:=HBB.out;rw[Bool.and_eq_false_iff]at h1;exact h1.elim (fun h1=>by rw[h1];rfl) (fun h1=>by rw[wS (of_decide_eq_false h1),Bool.and_false]))
   go_wp2_with fail
   go_ret
   exact⟨by first | exact aJ HR.out.symm | exact aJ rfl,HB2.out⟩
  | true=>
   have HH:=HBB.out;rw[Bool.and_eq_true]at HH;have HLL:=zh (of_decide_eq_true HH.2);have HR:Hid ((NodeH.same h h'&&iJ l l')=iJ l l'):=zh (by rw[HH.1,Bool.true_and]);clear HH HBB HEA HEV
   go_wp2_with fail
   go_loopw [5] (fun v wr=>∃ i:Nat,i≤l.length∧v=.int .i64 (i:Int)∧Hid (Below wc.heap.size wc wr∧∀ j (hj:j<i) (h1:j<l.length) (h2:j<l'.length),l[j].same l'[j]=true)) (fun v _=>l.length-(intOf v).toNat)
   case atStart=>exact⟨0,Nat.zero_le _,rfl,zh ⟨Below.refl _ _,fun j hj=>absurd hj (by omega)⟩⟩
   case round=>
    obtain⟨i,hi,rfl,hrel⟩:=hrel;have HBr:=zh hrel.out.1;have HPr:=zh hrel.out.2;clear hrel;have hx:=(HL2.out.next HBr.out).cell 21;have hy:=(HLb.out.next HBr.out).cell 21;simp only[List.getElem?_toArray,List.getElem?_cons_zero,List.getElem?_cons_succ]at hx hy;by_cases hlt:i<l.length
    ·have hlt':i<l'.length:=by have:=HLL.out;omega
     obtain⟨g,ci,rfl,hc22,hci⟩:=vW HK.out i hlt;obtain⟨g',ci',rfl,hc22',hci'⟩:=vW HK'.out i hlt';have HLT:=zh hlt;have HCI:Hid (∀ W',Below wc.heap.size wc W'→W'.rangeAt g (i*22) ci∧W'.rangeAt g' (i*22) ci'∧TreeIn W' l[i] ci.toArray∧TreeIn W' l'[i] ci'.toArray):=zh (fun W' hb=>by have hkp:Kp [] w W':=(Kp.of_below HB3.out).trans (Kp.of_below hb);exact⟨(hci W' hkp).1,(hci' W' hkp).1,(hci W' hkp).2,(hci' W' hkp).2⟩);clear hci hci';have zi:(Tryz.prog.info? 41).map (·.size)=some ci.length:=by rw[hc22];exact aE
     have hinf':(Tryz.prog.info? 41).map (·.size)=some ci'.length:=by rw[hc22'];exact aE
     have hib:(i:Int)≤1000000:=by have:=HLB.out;omega
     have hli:(i:Int)<(l.length:Int):=by omega
     have hli':(i:Int)<(l'.length:Int):=by omega
     have CI:=zh (fun W' (hb:Below wc.heap.size wc W')=>IH.out i hlt (l'[i]'hlt') ci.toArray ci'.toArray W' (HCI.out W' hb).2.2.1 (HCI.out W' hb).2.2.2);obtain⟨b,hb⟩:∃ b,(l[i]'hlt).same (l'[i]'hlt')=b:=⟨_,rfl⟩
     rw[hb]at CI;have HBv:=zh hb;clear hb
     go_upto_region 6 with fail
     clear hx hy
     go_cut [66] (fun v wx=>v=.bool (!b)∧Hid (Below wc.heap.size wc wx))
     case first=>
      obtain⟨P0,hP0⟩:∃ R:World→Prop,∀ w',R w'↔(Below wc.heap.size wc w'):=⟨_,fun _=>Iff.rfl⟩
      have HP0:=zh hP0;clear hP0;obtain⟨P1,hP1⟩:∃ R:World→Prop,∀ w',R w'↔(Below wc.heap.size wc w'):=⟨_,fun _=>Iff.rfl⟩
      have HP1:=zh hP1;clear hP1;obtain⟨TT,hTT⟩:∃ TT:List (Nat×Nat×Value),TT=[(0,55,.pointer (some ⟨q,21,none⟩)),(1,56,.slice (some ⟨g,0,none⟩) l.length cp),(2,57,.int .i64 (i:Int)),(3,58,.pointer (some ⟨g,i*22,none⟩)),(4,59,.agg ci.toArray),(5,60,.pointer (some ⟨q+1,21,none⟩)),(6,61,.slice (some ⟨g',0,none⟩) l'.length cp'),(7,62,.int .i64 (i:Int)),(8,63,.pointer (some ⟨g',i*22,none⟩)),(9,64,.agg ci'.toArray),(10,65,.bool b),(11,66,.bool (!b))]:=⟨_,rfl⟩
      have HTT:=zh hTT;clear hTT;refine bJ (fun a0=>67≤a0.tmps.size∧a0.eval (.tmp 2)=.pointer (some ⟨q,0,none⟩)∧a0.eval (.tmp 3)=.pointer (some ⟨q+1,0,none⟩)∧a0.eval (.tmp 5)=.int .i64 (i:Int)) [55,56,57,58,59,60,61,62,63,64,65,66] TT [(10,P1)] P0 (by kernel_rfl) (by kernel_rfl) ⟨by simp,rfl,rfl,rfl⟩ ((HP0.out _).2 (HBr.out.trans ((Below.refl _ _).drew.mono HBr.out.size))) ?_ ?_
      ·rintro a0 ⟨hs,hq2,hq3,hq5⟩ zl a1 w1 zj o hsz hI hun ho zd;have hTT:=HTT.out;subst hTT;have hk:okU (([(0,55,.pointer (some ⟨q,21,none⟩)),(1,56,.slice (some ⟨g,0,none⟩) l.length cp),(2,57,.int .i64 (i:Int)),(3,58,.pointer (some ⟨g,i*22,none⟩)),(4,59,.agg ci.toArray),(5,60,.pointer (some ⟨q+1,21,none⟩)),(6,61,.slice (some ⟨g',0,none⟩) l'.length cp'),(7,62,.int .i64 (i:Int)),(8,63,.pointer (some ⟨g',i*22,none⟩)),(9,64,.agg ci'.toArray),(10,65,.bool b),(11,66,.bool (!b))]:List (Nat×Nat×Value)).map fun e=>(e.1,e.2.1)) [55,56,57,58,59,60,61,62,63,64,65,66] 67=true:=by rfl
       have hj:=Up.of_false hun;have hj12:zj<12:=by rw[hsz]at hj;exact hj
       have e2x:a1.eval (.tmp 2)=.pointer (some ⟨q,0,none⟩):=(hI.off.eval (by decide)).trans hq2;have e3x:a1.eval (.tmp 3)=.pointer (some ⟨q+1,0,none⟩):=(hI.off.eval (by decide)).trans hq3;have e5x:a1.eval (.tmp 5)=.int .i64 (i:Int):=(hI.off.eval (by decide)).trans hq5;rcases(by omega:zj=0∨zj=1∨zj=2∨zj=3∨zj=4∨zj=5∨zj=6∨zj=7∨zj=8∨zj=9∨zj=10∨zj=11) with rfl | rfl | rfl | rfl | rfl | rfl | rfl | rfl | rfl | rfl | rfl | rfl
       ·obtain rfl:=oi ho;exact aQ hk hI hs (.head _) (by simp) hun ho zd (aD rfl) rfl (by simp[execOp,go_sem,aA e2x])
       ·obtain rfl:=oi ho;have d0:=ud zd 0;have p0:=pk hI.pt 0 rfl d0;have hq:w1.cell? ⟨q,21,none⟩=some (.slice (some ⟨g,0,none⟩) l.length cp):=by
         obtain⟨jj,hjj,hP⟩:=hI.low 0 (by simp) (fun m hm=>by obtain rfl:=Option.some.inj hm;kernel_rfl) hun;rcases(by omega:jj=0) with rfl
         ·have hP:P0 w1:=hP;have hW:=(HP0.out _).1 hP;exact(HL2.out.next hW).cell 21
        exact aQ hk hI hs (.tail _ (.head _)) (by simp) hun ho zd (aD rfl) rfl (by simp[execOp,go_sem,aA p0,hq])
       ·obtain rfl:=oi ho;exact aQ hk hI hs (mm 2 rfl) (by simp) hun ho zd (aD rfl) rfl (by simp[execOp,go_sem,aA e5x])
       ·obtain rfl:=oi ho;have d1:=ud zd 1;have p1:=pk hI.pt 1 rfl d1;have d2:=ud zd 2;have p2:=pk hI.pt 2 rfl d2;exact aQ hk hI hs (mm 3 rfl) (by simp) hun ho zd (aD rfl) rfl (by simp[execOp,go_sem,aA p1,aA p2,hli])
       ·obtain rfl:=oi ho;have d3:=ud zd 3;have p3:=pk hI.pt 3 rfl d3;have hq:w1.rangeAt g (i*22) ci:=by
         obtain⟨jj,hjj,hP⟩:=hI.low 0 (by simp) (fun m hm=>by obtain rfl:=Option.some.inj hm;kernel_rfl) hun;rcases(by omega:jj=0) with rfl
         ·have hP:P0 w1:=hP;exact(HCI.out _ ((HP0.out _).1 hP)).1
        exact aQ hk hI hs (mm 4 rfl) (by simp) hun ho zd (aD rfl) rfl (aL 41 (.tmp 58) rfl _ _ p3 _ _ hq Tryz.underlying41 rfl zi)
       ·obtain rfl:=oi ho;exact aQ hk hI hs (mm 5 rfl) (by simp) hun ho zd (aD rfl) rfl (by simp[execOp,go_sem,aA e3x])
       ·obtain rfl:=oi ho;have d5:=ud zd 5;have p5:=pk hI.pt 5 rfl d5;have hq:w1.cell? ⟨(q+1),21,none⟩=some (.slice (some ⟨g',0,none⟩) l'.length cp'):=by
         obtain⟨jj,hjj,hP⟩:=hI.low 0 (by simp) (fun m hm=>by obtain rfl:=Option.some.inj hm;kernel_rfl) hun;rcases(by omega:jj=0) with rfl
         ·have hP:P0 w1:=hP;have hW:=(HP0.out _).1 hP;exact(HLb.out.next hW).cell 21
        exact aQ hk hI hs (mm 6 rfl) (by simp) hun ho zd (aD rfl) rfl (by simp[execOp,go_sem,aA p5,hq])
       ·obtain rfl:=oi ho;exact aQ hk hI hs (mm 7 rfl) (by simp) hun ho zd (aD rfl) rfl (by simp[execOp,go_sem,aA e5x])
       ·obtain rfl:=oi ho;have d6:=ud zd 6;have p6:=pk hI.pt 6 rfl d6;have d7:=ud zd 7;have p7:=pk hI.pt 7 rfl d7;exact aQ hk hI hs (mm 8 rfl) (by simp) hun ho zd (aD rfl) rfl (by simp[execOp,go_sem,aA p6,aA p7,hli'])
       ·obtain rfl:=oi ho;have d8:=ud zd 8;have p8:=pk hI.pt 8 rfl d8;have hq:w1.rangeAt g' (i*22) ci':=by
         obtain⟨jj,hjj,hP⟩:=hI.low 0 (by simp) (fun m hm=>by obtain rfl:=Option.some.inj hm;kernel_rfl) hun;rcases(by omega:jj=0) with rfl
         ·have hP:P0 w1:=hP;exact(HCI.out _ ((HP0.out _).1 hP)).2.1
        exact aQ hk hI hs (mm 9 rfl) (by simp) hun ho zd (aD rfl) rfl (aL 41 (.tmp 63) rfl _ _ p8 _ _ hq Tryz.underlying41 rfl hinf')
       ·obtain rfl:=oi ho;have d4:=ud zd 4;have p4:=pk hI.pt 4 rfl d4;have d9:=ud zd 9;have p9:=pk hI.pt 9 rfl d9;refine jS hk hI hs (mm 10 rfl) (by kernel_rfl) [] [] P1 rfl hun ho zd (aD rfl) rfl (fun hP=>?_);have hP:P0 w1:=hP;refine iB (v:=.bool b) 12 #[.agg ci.toArray,.agg ci'.toArray] (by simp[go_sem,aA p4,aA p9]) ?_;have hW:=(HP0.out _).1 hP;refine(CI.out w1 hW).mono ?_;rintro e w2 ⟨rfl,hb⟩;exact⟨rfl,rfl,(HP1.out _).2 (hW.trans (hb.mono hW.size))⟩
       ·obtain rfl:=oi ho;have d10:=ud zd 10;have p10:=pk hI.pt 10 rfl d10;exact aQ hk hI hs (mm 11 rfl) (by simp) hun ho zd (aD rfl) rfl (by simp[execOp,go_sem,aA p10])
      ·intro zl a1 w1 hI hup;have hTT:=HTT.out;subst hTT;have hF:P1 w1:=hI.st.last (fun m hm=>hup m.1 (by simp only[List.mem_cons,List.not_mem_nil,or_false]at hm;rcases hm with rfl;all_goals simp));have z66:a1.eval (.tmp 66)=.bool (!b):=hI.pt (11,66,.bool (!b)) (mm 11 rfl) (hup 11 (by decide));obtain⟨ff,rfl,hf⟩:=hI.off.forms;rw[← hf 66]at z66;clear hI;simp only[List.foldl,Act.put,List.setIfInBounds_toArray,List.set];rw[z66];have hF2:=(HP1.out _).1 hF;simp only[Exit.then]
       go_step
       go_meet
       exact⟨rfl,zh hF2⟩
     case rest=>
      obtain⟨rfl,hcut⟩:=hcut;have HBn:=zh hcut.out;clear hcut CI HCI;cases b with
      | false=>
       have HRR:Hid ((NodeH.same h h'&&iJ l l')=false):=zh (by rw[HR.out];cases hs:iJ l l' with | false=>rfl | true=>have:=(nD HLL.out).1 hs i hlt hlt';rw[HBv.out]at this;cases this)
       go_wp2_with fail
       go_ret
       exact⟨by first | exact aJ HRR.out.symm | exact aJ rfl,HB3.out.trans (HBn.out.mono HB3.out.size)⟩
      | true=>
       go_wp2_with fail
       go_roundw
       case rel=>exact⟨i+1,by have:=HLT.out;omega,by go_num,zh ⟨HBn.out,fun j hj h1 h2=>(Nat.lt_or_ge j i).elim (fun hji=>HPr.out j hji h1 h2) (fun hji=>by have e:j=i:=(by omega);subst e;exact HBv.out)⟩⟩
       case measure=>have:=HLT.out;simp[intOf];omega
    ·have hie:i=l.length:=by omega
     have hnl:¬ ((i:Int)<(l.length:Int)):=by omega
     have HRR:Hid ((NodeH.same h h'&&iJ l l')=true):=zh (by rw[HR.out];exact(nD HLL.out).2 (fun j h1 h2=>HPr.out j (by omega) h1 h2))
     go_wp2_with fail
     go_ret
     exact⟨by first | exact aJ HRR.out.symm | exact aJ rfl,by first | exact HB3.out.trans (HBr.out.mono HB3.out.size) |(rw[← hQ];exact HB3.out.trans (HBr.out.mono HB3.out.size))⟩
def awakeB:Bool:=match aY ⟨[],[]⟩ [45,50,94,50] with
 | .ok t=>decide (t.h.kind=6)&&decide (t.h.name=[94])&&decide (t.l.length=2)&&(match t.l with
  | x::_=>decide (x.h.kind=5)
  | []=>false)
 | .error _=>false
theorem yP:awakeB=true:=by decide +kernel
theorem uBY:∃ t x y,aY ⟨[],[]⟩ [45,50,94,50]=.ok t∧t.h.kind=6∧t.h.name=[94]∧t.l=[x,y]∧x.h.kind=5:=by
 have h:=yP;unfold awakeB at h;cases hp:aY ⟨[],[]⟩ [45,50,94,50] with
 | error e=>rw[hp]at h;cases h
 | ok t=>
  rw[hp]at h;simp only[Bool.and_eq_true,decide_eq_true_eq]at h;obtain⟨⟨⟨h1,h2⟩,h3⟩,h4⟩:=h
  match hl:t.l,h3,h4 with
  | [x,y],_,h4=>exact⟨t,x,y,rfl,h1,h2,hl,of_decide_eq_true h4⟩
theorem wT:∀ (t:Tree),t.same t=true:=by
 have key:∀ n (t:Tree),t.size≤n→t.same t=true:=by
  intro n
  induction n with
  | zero=>intro t h;have:=uL t;omega
  | succ n ih=>
   rintro⟨h,l⟩ hs;unfold Tree.same;rw[fF,Bool.true_and];refine(nD rfl).2 (fun i h1 _=>ih _ ?_);have:=pQ (t:=.mk h l) (i:=i) h1;show l[i].size≤n;have h9:(l[i]'h1).size<(Tree.mk h l).size:=this;omega
 exact fun t=>key _ t (Nat.le_refl _)
theorem tab_lo{w:World}(h:Tab w):0+1≤w.heap.size:=h.lt
theorem wC(h:NodeH)(A:Option Addr)(n c:Nat):(bX h A n c).all (·.oneCell')=true:=by simp[bX,Value.oneCell']
set_option maxRecDepth 100000 in
set_option maxHeartbeats 3200000 in
theorem sD(w:World)(hT:Tab w) :
  Calls Tryz.prog 8 #[] w fun e w'=>e=.returned (.bool true)∧Below w.heap.size w w':=by
 obtain⟨t,x,y,hp,hk,hn,hl,hx⟩:=uBY;have CF:=qQ ⟨[],[]⟩ (xA [] []) none none (0+1) [45,50,94,50] w (by decide) hT rfl rfl (tab_lo hT) ⟨Nat.lt_succ_self _,fun b e=>(by cases e),fun b e=>(by cases e),fun b e=>(by cases e)⟩;rw[hp]at CF;have HCF:=zh CF;have HH:=zh (And.intro hk (And.intro hn (And.intro hl hx)));clear CF hp hk hn hl hx hT
 go_enter Tryz.func8,Tryz.ntmps8
 go_wp2_with fail
 refine HCF.out.mono ?_;rintro e W1 ⟨-,-,hkp,-,A,cp,rfl,hks⟩;have hks2:KidsOk W1 (List.range w.heap.size) A t.l:=hks;rw[show (nH (.ok t:Except (Nat×Nat) Tree))=t from rfl]at *;rw[HH.out.2.2.1]at hks2 ⊢;obtain⟨g',hA,hgx,hg',hka⟩:∃ g',A=some ⟨g',0,none⟩∧g'∉List.range w.heap.size∧g'<W1.heap.size∧KidsAt W1 (List.range w.heap.size) g' 0 [x,y]:=by
  rcases hks2 with h | h
  ·cases h
  ·exact h
 subst hA;have hkid:W1.cell? ⟨g',0,none⟩=some (.int .i64 5):=by
  have h1:=hka.1;obtain⟨xh,xl⟩:=x;obtain⟨A2,c2,h2,_⟩:=h1;have:=h2 0 (by decide);rw[Nat.zero_mul]at this;rw[this];show some (Value.int .i64 xh.kind)=_;rw[show xh.kind=5 from HH.out.2.2.2]
 have HK:=zh hkid;have HB1:Hid (Below w.heap.size w W1):=zh (mI hkp);obtain⟨C,hC⟩:∃ C:List Value,C=(bX t.h (some ⟨g',0,none⟩) 2 cp).toList:=⟨_,rfl⟩
 have hCa:dS t.h (some ⟨g',0,none⟩) [x,y].length cp=.agg C.toArray:=by rw[hC];rfl
 rw[hCa];have HC:Hid (C.length=22∧C.toArray.all (·.oneCell')=true∧C.toArray=bX t.h (some ⟨g',0,none⟩) 2 cp):=zh (by rw[hC];exact⟨rfl,wC _ _ _ _,rfl⟩);have zi:(Tryz.prog.info? 41).map (·.size)=some C.toArray.size:=by rw[List.size_toArray,HC.out.1];exact aE
 have HT:Hid (World.there (W1.alloc (.cells aB.toArray 41)) W1.heap.size 0 C.toArray.size):=zh (by have:=(Lies.new W1 41 aB.toArray).thereA;have h0:C.toArray.size=22:=(by rw[List.size_toArray,HC.out.1]);rw[h0];exact this);have HZ:Hid (Below W1.heap.size W1 (World.setCells (W1.alloc (.cells aB.toArray 41)) W1.heap.size 0 C)∧Lies (World.setCells (W1.alloc (.cells aB.toArray 41)) W1.heap.size 0 C) W1.heap.size 41 C.toArray):=zh ⟨mI (aU (.inr (Nat.le_refl _)) C 0 ((Kp.refl _ _).alloc _)),(Lies.new W1 41 aB.toArray).putAll (by rw[HC.out.1];rfl)⟩;simp only[aB]at HZ;clear hC hCa hks hks2 hka hgx hkp hkid HCF
 go_upto_region 2 with(first |(refine wpList_store_mid rfl 41 (.tmp 1) (.tmp 6) rfl W1.heap.size 0 C.toArray rfl rfl HT.out zi HC.out.2.1 ?_;change wpList _ _ _ _ _ (World.setCells _ W1.heap.size 0 C);generalize World.setCells _ _ _ _=wz at HZ ⊢))
 have hl2:=HZ.out.2;rw[HC.out.2.2]at hl2;have k0:wz.cell? ⟨W1.heap.size,0,none⟩=some (.int .i64 6):=by rw[hl2.cell 0,← HH.out.1];rfl
 have k7:wz.cell? ⟨W1.heap.size,7,none⟩=some (.string ⟨#[94]⟩):=by rw[hl2.cell 7];show some (Value.string ⟨t.h.name.toArray⟩)=_;rw[HH.out.2.1]
 have k21:wz.cell? ⟨W1.heap.size,21,none⟩=some (.slice (some ⟨g',0,none⟩) 2 cp):=by rw[hl2.cell 21];rfl
 have kk:wz.cell? ⟨g',0,none⟩=some (.int .i64 5):=(HZ.out.1.cell (p:=⟨g',0,none⟩) hg').trans HK.out;clear hl2
 go_wp2_with fail
 go_ret
 exact⟨rfl,HB1.out.trans (HZ.out.1.mono HB1.out.size)⟩
set_option maxRecDepth 100000 in
theorem uCV(s:Bs)(A B C:Option Addr)(n1 n2 n3 c1 c2 c3:Nat)(w:World) :
  Calls Tryz.prog 9 #[.string ⟨s.toArray⟩,.slice A n1 c1,.slice B n2 c2,.slice C n3 c3] w fun e w'=>e=.returned (.bool (decide (1500<s.length)||decide (200<n1)||decide (200<n2)||decide (200<n3)))∧w'=w:=by
 by_cases h0:1500<s.length
 all_goals by_cases h1:200<n1
 all_goals by_cases h2:200<n2
 all_goals by_cases h3:200<n3
 all_goals have i0:(decide ((1500:Int)<(s.length:Int)))=decide (1500<s.length):=by rw[decide_eq_decide];omega
 all_goals have i1:(decide ((200:Int)<(n1:Int)))=decide (200<n1):=by rw[decide_eq_decide];omega
 all_goals have i2:(decide ((200:Int)<(n2:Int)))=decide (200<n2):=by rw[decide_eq_decide];omega
 all_goals have i3:(decide ((200:Int)<(n3:Int)))=decide (200<n3):=by rw[decide_eq_decide];omega
 all_goals simp only[h0,h1,h2,h3,decide_true,decide_false]at i0 i1 i2 i3 ⊢
 all_goals go_enter Tryz.func9,Tryz.ntmps9
 all_goals go_wp2_with fail
 all_goals go_ret
 all_goals exact⟨rfl,rfl⟩
structure LSt(ax:Ax)(qa qb:Nat)(w W:World):Prop where
 a:AxIn W (some qa) ax.rows
 b:AxIn W (some qb) ax.cols
 tb:Tab W
 tl:0<w.heap.size
 ba:w.heap.size≤qa
 lt:qa<qb
 qs:qb<W.heap.size
 bel:Below w.heap.size w W
theorem LSt.next{ax:Ax}{qa qb:Nat}{w W W':World}(h:LSt ax qa qb w W)(hb:Below W.heap.size W W'):LSt ax qa qb w W' :=
 ⟨dE h.a hb,dE h.b hb,h.tb.next hb,h.tl,h.ba,h.lt,Nat.lt_of_lt_of_le h.qs hb.size,h.bel.trans (hb.mono h.bel.size)⟩
def NSt(qb:Nat)(q:Nat)(t:Tree)(x:Nat)(W:World):Prop:=qb<x∧x≤q∧∃ C:List Value,C.length=22∧Lies W q 41 C.toArray∧∃ A cp,C.toArray=bX t.h A t.l.length cp∧KidsOk W (List.range x) A t.l
theorem NSt.next{qb q x:Nat}{t:Tree}{W W':World}(h:NSt qb q t x W)(hb:Below W.heap.size W W'):NSt qb q t x W':=by
 obtain⟨h1,h2,C,h3,h4,A,cp,h5,h6⟩:=h;exact⟨h1,h2,C,h3,h4.next hb,A,cp,h5,h6.kp (Kp.of_below hb)⟩
theorem NSt.kp{qa qb q x:Nat}{t:Tree}{W W':World}(h:NSt qb q t x W)(hk:Kp [qa,qb] W W')(hlt:qa<qb):NSt qb q t x W':=by
 obtain⟨h1,h2,C,h3,h4,A,cp,h5,h6⟩:=h;refine⟨h1,h2,C,h3,hk.lies h4 (by simp;omega),A,cp,h5,h6.kp (hk.mono (fun k hk _=>?_))⟩;simp at hk;exact List.mem_range.2 (by omega)
theorem NSt.tree{qb q x:Nat}{t:Tree}{W:World}(h:NSt qb q t x W):∃ C:List Value,C.length=22∧Lies W q 41 C.toArray∧∀ W',Below W.heap.size W W'→TreeIn W' t C.toArray:=by
 obtain⟨h1,h2,C,h3,h4,A,cp,h5,h6⟩:=h;exact⟨C,h3,h4,fun W' hb=>⟨A,cp,h5,KidsOk.anti (fun y hy _=>by cases hy) (h6.kp (Kp.of_below hb))⟩⟩
def FRes(qa qb:Nat)(ax:Ax)(w W:World)(r:Except (Nat×Nat) Tree)(e:Ending)(W':World):Prop :=
 LSt ax qa qb w W'∧(∀ q t x,NSt qb q t x W→NSt qb q t x W')∧W.heap.size≤W'.heap.size∧(nH r).size≤256 ∧
  ∃ C:List Value,e=.returned (.tuple #[.agg C.toArray,.int .i64 (uDY r:Nat),.int .i64 (uDX r:Nat)])∧C.length=22∧C.toArray.all (·.oneCell')=true ∧
   (∃ A cp,C.toArray=bX (nH r).h A (nH r).l.length cp∧KidsOk W' (List.range W.heap.size) A (nH r).l)
theorem zV(ax:Ax)(ha:lD ax)(qa qb:Nat)(w W:World)(s:Bs)(h:LSt ax qa qb w W)(hs:s.length≤50000) :
  Calls Tryz.prog 11 #[.string ⟨s.toArray⟩,.pointer (some ⟨qa,0,none⟩),.pointer (some ⟨qb,0,none⟩)] W (FRes qa qb ax w W (aY ax s)):=by
 have hlo:w.heap.size≤W.heap.size:=h.bel.size;have hB:AxB (some qa) (some qb) w.heap.size:=⟨h.tl,fun b e=>(by cases e;exact h.ba),fun b e=>(by cases e;have:=h.ba;have:=h.lt;omega),fun b e e2=>(by cases e;cases e2;exact absurd h.lt (Nat.lt_irrefl _))⟩
 refine(qQ ax ha (some qa) (some qb) w.heap.size s W hs h.tb h.a h.b hlo hB).mono ?_;rintro e W' ⟨f1,f2,f3,f5,A,cp,rfl,f4⟩;have f6:(nH (aY ax s)).size≤256:=by
  cases hr:aY ax s with
  | ok t=>exact(f5 t hr).2
  | error x=>show lX.size≤256;decide
 have hk:Kp [qa,qb] W W':=f3;have hbw:Below w.heap.size W W':=hk.below (fun k hm=>by simp at hm;have:=h.ba;have:=h.lt;omega) hlo;refine⟨⟨f1,f2,h.tb.below hbw h.tl,h.tl,h.ba,h.lt,Nat.lt_of_lt_of_le h.qs hk.size,h.bel.trans hbw⟩,fun q t x hn=>hn.kp hk h.lt,hk.size,f6,(bX (nH (aY ax s)).h A (nH (aY ax s)).l.length cp).toList,rfl,rfl,wC _ _ _ _,A,cp,rfl,f4⟩
theorem fU(ax:Ax)(ha:lD ax)(s:Bs)(e p:Nat)(h:aY ax s=.error (e,p)):p≤s.length:=by
 unfold aY at h;cases hl:iG s with
 | error k=>
  rw[hl]at h;cases h;exact Nat.le_of_lt (pLex_err s _ hl)
 | ok ts=>
  rw[hl]at h;obtain⟨f1,f2,_⟩:=mL s ts hl;have hE:=iX (ρ:=fun x y=>x.place≤s.length∧y.place≤s.length) (e:=aW s.length) (e':=aW s.length) id rfl (lL _ _ rfl rfl rfl ⟨Nat.le_refl _,Nat.le_refl _⟩) ts (fun t ht=>by
   have hp:t.place≤s.length:=by have:=(f1 t ht).hi;omega
   exact⟨(f1 t ht).k0,rW (f1 t ht) _ rfl rfl ⟨hp,hp⟩,hp⟩) f2
  have h:dT ax (ts++[aW s.length])=.error (e,p):=h;rcases jK ha hE with⟨t,h1,_⟩ | ⟨k,_,h1,_⟩ | ⟨k,x,y,h1,_,h3,_⟩
  ·rw[h]at h1;cases h1
  ·rw[h]at h1;cases h1;exact Nat.zero_le _
  ·rw[h]at h1;cases h1;exact h3.1
theorem oX{qa qb:Nat}{ax:Ax}{w W W':World}{t:Tree}{C:List Value}(h:LSt ax qa qb w W')(hq:qb<W.heap.size)(hs:W.heap.size≤W'.heap.size)(hC:C.length=22)(hk:∃ A cp,C.toArray=bX t.h A t.l.length cp∧KidsOk W' (List.range W.heap.size) A t.l) :
  Below W'.heap.size W' (World.setCells (W'.alloc (.cells aB.toArray 41)) W'.heap.size 0 C)∧NSt qb W'.heap.size t W.heap.size (World.setCells (W'.alloc (.cells aB.toArray 41)) W'.heap.size 0 C)∧LSt ax qa qb w (World.setCells (W'.alloc (.cells aB.toArray 41)) W'.heap.size 0 C)∧(∀ q t x,NSt qb q t x W'→NSt qb q t x (World.setCells (W'.alloc (.cells aB.toArray 41)) W'.heap.size 0 C)):=by
 have hb:Below W'.heap.size W' (World.setCells (W'.alloc (.cells aB.toArray 41)) W'.heap.size 0 C):=mI (aU (.inr (Nat.le_refl _)) C 0 ((Kp.refl _ _).alloc _));obtain⟨A,cp,h5,h6⟩:=hk;exact⟨hb,⟨hq,hs,C,hC,(Lies.new W' 41 aB.toArray).putAll (by rw[hC];rfl),A,cp,h5,h6.kp (Kp.of_below hb)⟩,h.next hb,fun q t x hn=>hn.next hb⟩
theorem kN{W':World}{C:List Value}(hC:C.length=22):World.there (W'.alloc (.cells aB.toArray 41)) W'.heap.size 0 C.toArray.size:=by
 have:=(Lies.new W' 41 aB.toArray).thereA;have h0:C.toArray.size=22:=by rw[List.size_toArray,hC]
 rw[h0];exact this
theorem lP{w w':World}{A:Option Addr}{ids:List IdR}(h:lW w A ids)(hb:Below w.heap.size w w'):lW w' A ids:=fun h0=>by
 obtain⟨g,o,e,hr⟩:=h h0;exact⟨g,o,e,hr.at hb.size (hb.block g hr.1)⟩
theorem yU(A B:Option Addr)(ca cb:Nat)(ids jds:List IdR)(w:World)(hT:Tab w)(hA:lW w A ids)(hB:lW w B jds)(hn:ids.length≤300)(hm:jds.length≤300)(hf:∀ y∈ids,y.fits)(hg:∀ y∈jds,y.fits)(w0:World)(hb0:Below w0.heap.size w0 w)(hT0:0<w0.heap.size) :
  Calls Tryz.prog 10 #[.slice A ids.length ca,.slice none 0 0] w fun e w1=>(∃ u,e=.returned (.tuple #[.pointer (some ⟨w.heap.size,0,none⟩),u]))∧Below w.heap.size w w1 ∧
   Calls Tryz.prog 10 #[.slice B jds.length cb,.slice none 0 0] w1 fun e w2=>(∃ u,e=.returned (.tuple #[.pointer (some ⟨w1.heap.size,0,none⟩),u]))∧LSt ⟨cO ids,cO jds⟩ w.heap.size w1.heap.size w0 w2:=by
 refine(yT A ca ids w hA hn hf).mono ?_;rintro e w1 ⟨u,rfl,h1,hb1⟩;refine⟨⟨u,rfl⟩,hb1,?_⟩;refine(yT B cb jds w1 (fun h0=>by obtain⟨g,o,e,hr⟩:=hB h0;exact⟨g,o,e,hr.at hb1.size (hb1.block g hr.1)⟩) hm hg).mono ?_;rintro e w2 ⟨u2,rfl,h2,hb2⟩;obtain⟨cs,hc⟩:=h1.box _ rfl;obtain⟨cs2,hc2⟩:=h2.box _ rfl;exact⟨⟨u2,rfl⟩,dE h1 hb2,h2,(hT.next hb1).next hb2,hT0,hb0.size,hc.lt,hc2.lt,(hb0.trans (hb1.mono hb0.size)).trans (hb2.mono (Nat.le_trans hb0.size hb1.size))⟩
theorem jR(s:Bs)(A B C:Option Addr)(n1 n2 n3 c1 c2 c3:Nat)(w:World)(b:Bool)(hb:(decide (1500<s.length)||decide (200<n1)||decide (200<n2)||decide (200<n3))=b) :
  Calls Tryz.prog 9 #[.string ⟨s.toArray⟩,.slice A n1 c1,.slice B n2 c2,.slice C n3 c3] w fun e w'=>e=.returned (.bool b)∧w'=w:=by
 subst hb;exact uCV s A B C n1 n2 n3 c1 c2 c3 w
open Go.ChangeShapes Go.WideShapes Go.ChangeAt Go.RowKit
theorem own:ownKnob Tryz.prog.godebug=none:=by kernel_rfl
theorem laidOut:laidOutB Tryz.prog=true:=by kernel_rfl
theorem uW{H:Type}{enc:TypeId×Value→H}{P:Program}{w:World}{base:Nat}{sp:Nat→Bool}{held:Bool}{fuel:Nat}{t e:TypeId}{n:Nat}{cs:List Value}{ss:List Bs}{p:List MemPlace}
  (ht:P.underlying t=some (.array n e)) (he:P.underlying e=some .string) (hce:P.cellsOf e=1) (hct:P.cellsOf t=n)
  (h:DataW.trod enc P w base sp held fuel t cs=some (.agg (ss.map fun s=>.lit (.string s)),p)):cs=ss.map fun s=>Value.string ⟨s.toArray⟩:=by
 cases fuel with
 | zero=>simp[DataW.trod]at h
 | succ fuel=>
  simp only[DataW.trod,ht,hce,hct,Nat.mul_one]at h
  split at h
  ·rename_i hl
   obtain⟨xs,hm,hx⟩:=Option.map_eq_some_iff.1 h;have hxs:xs.map (·.1)=ss.map fun s=>(DataW.lit (.string s):DataW H):=by
    have:=congrArg Prod.fst hx;simpa using this
   have hxl:xs.length=n:=by simpa using Lib.mapM_length hm
   have hzl:ss.length=n:=by
    have:=congrArg List.length hxs;simp at this;omega
   apply List.ext_getElem?;intro i;by_cases hi:i<n
   ·obtain⟨b,hb,hf⟩:=Lib.mapM_at hm i i (by simp[hi]);obtain⟨z,hc,rfl,_⟩:=DataW.trod_string he hf;have h1:cs[i]?=some (.string z):=by
     have:=congrArg (·[0]?) hc;simpa [List.getElem?_take,List.getElem?_drop] using this
    have h2:(xs.map (·.1))[i]?=some (DataW.lit (.string z.data.toList):DataW H):=by simp[hb]
    rw[hxs]at h2;simp only[List.getElem?_map,Option.map_eq_some_iff,DataW.lit.injEq,Lit.string.injEq]at h2;obtain⟨z',hz',hz2⟩:=h2;simp[h1,hz',hz2]
   ·rw[List.getElem?_eq_none (by omega),List.getElem?_eq_none (by simp;omega)]
  ·cases h
theorem zU{P:Program}{w:World}:∀ {laid:List (String×DataW Unit)} {ps:List MemPlace},DataW.LaidVars P w laid ps→∀ {n:String} {d:DataW Unit},(n,d)∈laid →
  ∃ g t cs fuel p,P.globalNamed n=some g∧(P.globals[g]?).map (·.type)=some t∧w.var? P n=some cs∧DataW.trod (fun _=>()) P w 0 (fun _=>true) false fuel t cs.toList=some (d,p)
 | [],_,_,_,_,hm=>by simp at hm
 |(n',d')::r,ps,h,n,d,hm=>by
  obtain⟨g,t,cs,fuel,p,q,h1,h2,h3,h4,h5,_⟩:=h;rcases List.mem_cons.1 hm with e | e
  ·injection e with e1 e2;subst e1 e2;exact⟨g,t,cs,fuel,p,h1,h2,h3,h4⟩
  ·exact zU h5 e
def faultName:String:= "counterpane/value.faultTexts"
theorem gFault:Tryz.prog.globalNamed faultName=some 0:=by kernel_rfl
theorem uCT:(Tryz.prog.globals[0]?).map (·.type)=some 134:=by kernel_rfl
theorem tab_of_laid{laid:List (String×DataW Unit)}{W:World}(h:laidMet Tryz.prog laid W)(hm:(faultName,Rows.laid_counterpane_value_faultTexts)∈laid):Tab W:=by
 obtain⟨ps,hl,_⟩:=h;obtain⟨g,t,cs,fuel,p,h1,h2,h3,h4⟩:=zU hl hm;obtain rfl:=Option.some.inj (gFault.symm.trans h1);obtain rfl:=Option.some.inj (uCT.symm.trans h2);have hcs:=uW (ss:=(List.range 10).map cX) Tryz.underlying134 Tryz.underlying9 (by kernel_rfl) (by kernel_rfl) h4;intro i hi;have h5:=World.var?_cell gFault h3 i;rw[h5];have h6:cs[i]?=cs.toList[i]?:=by simp
 rw[h6,hcs];simp[hi]
noncomputable def laidWorld (os:Os):World :=
 { World.holding Tryz.prog os ⟨#[],#[],[]⟩ with heap:=(World.holding Tryz.prog os ⟨#[],#[],[]⟩).heap.modify 0 fun
   | .cells _ t frozen=>.cells #[.string ⟨#[]⟩,.string ⟨#[35,68,73,86,47,48,33]⟩,.string ⟨#[35,86,65,76,85,69,33]⟩,.string ⟨#[35,82,69,70,33]⟩,.string ⟨#[35,78,65,77,69,63]⟩,.string ⟨#[35,78,85,77,33]⟩,.string ⟨#[35,78,47,65]⟩,.string ⟨#[35,83,80,73,76,76,33]⟩,.string ⟨#[35,67,73,82,67,33]⟩,.string ⟨#[35,67,65,76,67,33]⟩] t frozen
   | o=>o }
end Go.Proofs.YtmgjidnalpgegaaGreatDoor
namespace Go.Proofs.YtmgjidnalpgegaaGreatDoor
open Go.ChangeShapes Go.WideShapes Go.ChangeAt Go.RowKit
section
variable {H:Type} {enc:TypeId×Value→H} {W:World}
set_option maxRecDepth 100000 in
theorem trod_idR{n:Nat}{c0 c1:Value}{x:DataW H×List MemPlace}(h:DataW.trod enc Tryz.prog W 0 (fun _=>true) true n 34 [c0,c1]=some x) :
  ∃ t:IdR,c0=.int .i64 t.a∧c1=.int .i64 t.n∧t.fits:=by
 obtain⟨xs,k,_,hx,_,hlen,hg⟩:=DataW.trod_struct Tryz.underlying34 h
 match xs,hlen with
 | [y0,y1],_=>
  have g0:DataW.trod enc Tryz.prog W 0 (fun _=>true) true k 3 [c0]=some y0:=by have:=hg 0 _ rfl;simpa [tC] using this
  have g1:DataW.trod enc Tryz.prog W 0 (fun _=>true) true k 3 [c1]=some y1:=by have:=hg 1 _ rfl;simpa [tC] using this
  obtain⟨m,e0,rfl,w0⟩:=DataW.trod_int Tryz.underlying3 g0;obtain⟨p,e2,rfl,w2⟩:=DataW.trod_int Tryz.underlying3 g1;injection e0 with e0;injection e2 with e2;subst e0 e2;exact⟨⟨m,p⟩,rfl,rfl,w0,w2⟩
set_option maxRecDepth 100000 in
theorem in_ids{a:Option Addr}{len cap:Nat}{d:DataW H}{p:List MemPlace}(h:DataW.Trod enc Tryz.prog W 0 (fun _=>true) true 22 (.slice a len cap) d p) :
  ∃ ts:List IdR,ts.length=len∧lW W a ts∧∀ t∈ts,t.fits:=by
 obtain⟨fuel,hf⟩:=h;rcases Go.Deep.open_slice Tryz.underlying22 hf with⟨hcs,_⟩ | ⟨x,l,c,m,n,D,Pl,hcs,hb,hl,hm,hmm,hx,hi⟩
 ·simp[Value.cells]at hcs;obtain⟨rfl,rfl,rfl⟩:=hcs;exact⟨[],rfl,fun h0=>by simp at h0,fun t ht=>by simp at ht⟩
 ·simp[Value.cells]at hcs;obtain⟨rfl,rfl,rfl⟩:=hcs;rw[if_pos rfl]at hmm;subst hmm;rw[xL]at hi;obtain⟨g,o,spot⟩:=x;have key:∀ i,i<len→∃ t:IdR,(W.cell? ((⟨g,o,spot⟩:Addr).add (i*2))=some (.int .i64 t.a)∧W.cell? (((⟨g,o,spot⟩:Addr).add (i*2)).add 1)=some (.int .i64 t.n))∧t.fits:=by
   intro i hil;obtain⟨cs',hc,ht'⟩:=hi i (by omega);obtain⟨_,hcl,hat⟩:=World.cells?_some hc
   match cs',hcl with
   | [c0,c1],_=>
    obtain⟨t,e0,e1,ef⟩:=trod_idR ht';have h0:=hat 0 (by omega);have h1:=hat 1 (by omega);simp only[List.getElem?_cons_zero,List.getElem?_cons_succ]at h0 h1;refine⟨t,⟨?_,?_⟩,ef⟩
    ·rw[← e0,← h0];simp[Addr.add]
    ·rw[← e1,← h1]
  have hch:∃ f:Nat→IdR,∀ i (hil:i<len),(W.cell? ((⟨g,o,spot⟩:Addr).add (i*2))=some (.int .i64 (f i).a)∧W.cell? (((⟨g,o,spot⟩:Addr).add (i*2)).add 1)=some (.int .i64 (f i).n))∧(f i).fits :=
   ⟨fun i=>if h:i<len then Classical.choose (key i h) else ⟨0,0⟩,fun i hil=>by
    have:=Classical.choose_spec (key i hil);simp only[dif_pos hil];exact this⟩
  obtain⟨f,hf2⟩:=hch;refine⟨(List.range len).map f,by simp,fun h0=>?_,fun t ht=>?_⟩
  ·have h0':0<len:=by simpa using h0
   have hsp:spot=none:=by
    have:=(hf2 0 h0').1.1;simpa [Addr.add] using World.cell?_spot this
   subst hsp;have hadd:∀ k j:Nat,(⟨g,k,none⟩:Addr).add j=⟨g,k+j,none⟩:=fun k j=>by
    unfold Addr.add;by_cases e:j=0
    ·simp[e]
    ·simp[e]
   refine⟨g,o,rfl,?_,fun j hj=>?_⟩
   ·have:=(hf2 0 h0').1.1;rw[hadd]at this;exact tK this
   ·have hj':j<len:=by simpa using hj
    obtain⟨h1,h2⟩:=(hf2 j hj').1;rw[hadd,hadd]at h2;rw[hadd]at h1;simp only[List.getElem_map,List.getElem_range];exact⟨h1,h2⟩
  ·obtain⟨i,hi,rfl⟩:=List.mem_map.1 ht;exact(hf2 i (List.mem_range.1 hi)).2
end
end Go.Proofs.YtmgjidnalpgegaaGreatDoor
