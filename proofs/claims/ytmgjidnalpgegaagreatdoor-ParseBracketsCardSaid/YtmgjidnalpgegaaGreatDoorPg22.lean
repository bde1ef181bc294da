/-
  Lemmas, part 22: PaO PaP.
-/
import Derived.Test.YtmgjidnalpgegaaGreatDoorPg21
namespace Go.Proofs.YtmgjidnalpgegaaGreatDoor
open Go.RowKit
abbrev rP(c:Cor):Array Value:=#[.int .i64 c.row.a,.int .i64 c.row.n,.int .i64 c.col.a,.int .i64 c.col.n,.bool c.fr,.bool c.fc]
set_option maxRecDepth 1000000 in
set_option maxHeartbeats 3200000 in
theorem uEN(a b:Cor)(w:World) :
  Calls Tryz.prog 53 #[arV a b] w fun e w'=>e=.returned (.bool (eR a b))∧Below w.heap.size w w':=by
 obtain⟨W1,hW1⟩:∃ W1,W1=w.alloc (.cells #[.int .i64 a.row.a,.int .i64 a.row.n,.int .i64 a.col.a,.int .i64 a.col.n,.bool a.fr,.bool a.fc,.int .i64 b.row.a,.int .i64 b.row.n,.int .i64 b.col.a,.int .i64 b.col.n,.bool b.fr,.bool b.fc] 38):=⟨_,rfl⟩
 have HW1:=zh hW1;have HL:Hid (Lies W1 w.heap.size 38 #[.int .i64 a.row.a,.int .i64 a.row.n,.int .i64 a.col.a,.int .i64 a.col.n,.bool a.fr,.bool a.fc,.int .i64 b.row.a,.int .i64 b.row.n,.int .i64 b.col.a,.int .i64 b.col.n,.bool b.fr,.bool b.fc]):=zh (by rw[hW1];exact Lies.new _ _ _);have HB:Hid (Below w.heap.size w W1):=zh (by rw[hW1];exact(Below.refl _ _).alloc (Nat.le_refl _) _);clear hW1;obtain⟨rb,hrb⟩:∃ rb,eR a b=rb:=⟨_,rfl⟩
 have HR:=zh hrb;rw[hrb];clear hrb;have x0:=HL.out.cell 0;have x1:=HL.out.cell 1;have x2:=HL.out.cell 2;have x3:=HL.out.cell 3;have x4:=HL.out.cell 4;have x5:=HL.out.cell 5;have x6:=HL.out.cell 6;have x7:=HL.out.cell 7;have x8:=HL.out.cell 8;have x9:=HL.out.cell 9;have x10:=HL.out.cell 10;have x11:=HL.out.cell 11;simp only[List.getElem?_toArray,List.getElem?_cons_zero,List.getElem?_cons_succ]at x0 x1 x2 x3 x4 x5 x6 x7 x8 x9 x10 x11;have hlt:=HL.out.lt
 go_enter Tryz.func53,Tryz.ntmps53
 go_upto_region 1 with fail
 rw[← HW1.out];generalize hq:w.heap.size=q at *
 go_cut [3,4] (fun va vb wx=>∃ qa qb,va=.pointer (some ⟨qa,0,none⟩)∧vb=.pointer (some ⟨qb,0,none⟩)∧Hid (Lies wx qa 36 (rP a)∧Lies wx qb 36 (rP b)∧Below q w wx))
 case first=>
  have HA1:=zh (Lies.new W1 36 (rP a));have HA2:=zh (Lies.new (W1.alloc (.cells (rP a) 36)) 36 (rP b));have HC1:=zh (Lies.new W1 36 (rP b));have HC2:=zh (Lies.new (W1.alloc (.cells (rP b) 36)) 36 (rP a));have HBa:Hid (Below q w (((W1.alloc (.cells (rP a) 36)).alloc (.cells (rP b) 36)).drew)):=zh ((HB.out.alloc (by have:=HB.out.size;omega) _).alloc (by have:=HB.out.size;simp;omega) _).drew;have HBc:Hid (Below q w (((W1.alloc (.cells (rP b) 36)).alloc (.cells (rP a) 36)).drew)):=zh ((HB.out.alloc (by have:=HB.out.size;omega) _).alloc (by have:=HB.out.size;simp;omega) _).drew
  go_region
  all_goals go_wp2_with fail
  all_goals go_meet
  all_goals first
   | exact⟨_,_,rfl,rfl,zh ⟨HA1.out.alloc _,by have:=HA2.out;rwa [World.size_alloc]at this,HBa.out⟩⟩
   | exact⟨_,_,rfl,rfl,zh ⟨by have:=HC2.out;rwa [World.size_alloc]at this,HC1.out.alloc _,HBc.out⟩⟩
 case rest=>
  obtain⟨qa,qb,rfl,rfl,hc⟩:=hcut;clear x0 x1 x2 x3 x4 x5 x6 x7 x8 x9 x10 x11 HL HB HW1 hlt;obtain⟨W3,hW3⟩:∃ W3,W3=wc.alloc (.cells #[.int .i64 0,.int .i64 0] 34):=⟨_,rfl⟩
  have hb3:Below wc.heap.size wc W3:=by rw[hW3];exact(Below.refl _ _).alloc (Nat.le_refl _) _
  have HA:=zh (hc.out.1.next hb3);have HBb:=zh (hc.out.2.1.next hb3);have hsz:=hc.out.2.2.size;have HZ:Hid (Lies W3 wc.heap.size 34 #[.int .i64 0,.int .i64 0]):=zh (by rw[hW3];exact Lies.new _ _ _);have HB:Hid (Below q w W3):=zh (hc.out.2.2.trans (hb3.mono (by omega)));have HW3:=zh hW3;obtain⟨r1,hr1⟩:∃ x,decide (a.row≠id0)=x:=⟨_,rfl⟩
  obtain⟨k1,hk1⟩:∃ x,decide (a.col≠id0)=x:=⟨_,rfl⟩
  obtain⟨r2,hr2⟩:∃ x,decide (b.row≠id0)=x:=⟨_,rfl⟩
  obtain⟨k2,hk2⟩:∃ x,decide (b.col≠id0)=x:=⟨_,rfl⟩
  obtain⟨f1,hf1⟩:∃ x,a.fr=x:=⟨_,rfl⟩
  obtain⟨f2,hf2⟩:∃ x,b.fr=x:=⟨_,rfl⟩
  obtain⟨g1,hg1⟩:∃ x,a.fc=x:=⟨_,rfl⟩
  obtain⟨g2,hg2⟩:∃ x,b.fc=x:=⟨_,rfl⟩
  have HR2:Hid (rb=((r1==r2)&&(k1==k2)&&(r1||k1)&&(r1||(!f1&&!f2))&&(k1||(!g1&&!g2)))):=zh (by rw[← HR.out];unfold eR;dsimp only;rw[hr1,hk1,hr2,hk2,hf1,hf2,hg1,hg2]);have N1:∀ w:World,(binOp .neq 34 (idV a.row) (idV id0)).run Tryz.prog w=.ok (.bool r1) w:=fun w=>by rw[mP,hr1]
  have N2:∀ w:World,(binOp .neq 34 (idV a.col) (idV id0)).run Tryz.prog w=.ok (.bool k1) w:=fun w=>by rw[mP,hk1]
  have N3:∀ w:World,(binOp .neq 34 (idV b.row) (idV id0)).run Tryz.prog w=.ok (.bool r2) w:=fun w=>by rw[mP,hr2]
  have N4:∀ w:World,(binOp .neq 34 (idV b.col) (idV id0)).run Tryz.prog w=.ok (.bool k2) w:=fun w=>by rw[mP,hk2]
  have HN:=zh (And.intro N1 (And.intro N2 (And.intro N3 N4)));have HF:=zh (And.intro hf1 (And.intro hf2 (And.intro hg1 hg2)));clear N1 N2 N3 N4 hr1 hk1 hr2 hk2 hf1 hf2 hg1 hg2 hc hb3 hW3 HR
  go_upto_region 3 with fail
  rw[← HW3.out];generalize wc.heap.size=qz at *;clear HW3
  go_cut [6,7] (fun va vb wx=>va=.bool r1∧vb=.bool k1∧Hid (Below W3.heap.size W3 wx))
  case first=>
   obtain⟨TT,hTT⟩:∃ TT:List (Nat×Nat×Value),TT=((0,13,.pointer (some ⟨qa,0,none⟩))::(1,14,idV a.row)::(2,15,idV id0)::(3,16,.bool r1)::(4,17,.pointer (some ⟨qa,2,none⟩))::(5,18,idV a.col)::(6,19,idV id0)::(7,20,.bool k1)::(8,6,.bool r1)::(9,7,.bool k1)::[]):=⟨_,rfl⟩
   have HTT:=zh hTT;clear hTT;refine bJ (fun a0=>65≤a0.tmps.size∧a0.eval (.tmp 3)=.pointer (some ⟨qa,0,none⟩)∧a0.eval (.tmp 4)=.pointer (some ⟨qb,0,none⟩)∧a0.eval (.tmp 5)=.pointer (some ⟨qz,0,none⟩)) (13::14::15::16::17::18::19::20::6::7::[]) TT [] (fun w'=>Below W3.heap.size W3 w') (by kernel_rfl) (by kernel_rfl) ⟨by simp,rfl,rfl,rfl⟩ (Below.refl _ _).drew ?_ ?_
   ·rintro a0 ⟨hs,hq3,hq4,hq5⟩ zl a1 w1 zj o hsz hI hun ho zd;have hb1:Below W3.heap.size W3 w1:=hI.st;have hTT:=HTT.out;have hk:okU (TT.map fun e=>(e.1,e.2.1)) (13::14::15::16::17::18::19::20::6::7::[]) 65=true:=by rw[hTT];rfl
    subst hTT;have e3x:=aA ((hI.off.eval (by decide)).trans hq3);have e4x:=aA ((hI.off.eval (by decide)).trans hq4);have e5x:=aA ((hI.off.eval (by decide)).trans hq5);have hj:=Up.of_false hun;have hj12:zj<10:=by rw[hsz]at hj;exact hj
    have G:RG _ _ _ _ _ _ _ _ _ _ _:=⟨hk,hI,hs,hun,ho,zd⟩
    rcases(by omega:zj=0∨zj=1∨zj=2∨zj=3∨zj=4∨zj=5∨zj=6∨zj=7∨zj=8∨zj=9) with rfl | rfl | rfl | rfl | rfl | rfl | rfl | rfl | rfl | rfl
    ·obtain rfl:=oi ho;exact G.nl 0 rfl (by simp[execOp,go_sem,e3x])
    ·obtain rfl:=oi ho;have Lx:=HA.out.next hb1;have x0:=Lx.cell 0;have x1:=Lx.cell 1;simp only[List.getElem?_toArray,List.getElem?_cons_zero,List.getElem?_cons_succ]at x0 x1;have p0:=G.d 0 rfl;exact G.nl 1 rfl (by simp[execOp,go_sem,aA p0,x0,x1])
    ·obtain rfl:=oi ho;have Lx:=HZ.out.next hb1;have x0:=Lx.cell 0;have x1:=Lx.cell 1;simp only[List.getElem?_toArray,List.getElem?_cons_zero,List.getElem?_cons_succ]at x0 x1;exact G.nl 2 rfl (by simp[execOp,go_sem,e5x,x0,x1])
    ·obtain rfl:=oi ho;have N1:=HN.out.1;have p1:=G.d 1 rfl;have p2:=G.d 2 rfl;exact G.nl 3 rfl (by simp[execOp,go_sem,aA p1,aA p2,N1])
    ·obtain rfl:=oi ho;exact G.nl 4 rfl (by simp[execOp,go_sem,e3x])
    ·obtain rfl:=oi ho;have Lx:=HA.out.next hb1;have x2:=Lx.cell 2;have x3:=Lx.cell 3;simp only[List.getElem?_toArray,List.getElem?_cons_zero,List.getElem?_cons_succ]at x2 x3;have p4:=G.d 4 rfl;exact G.nl 5 rfl (by simp[execOp,go_sem,aA p4,x2,x3])
    ·obtain rfl:=oi ho;have Lx:=HZ.out.next hb1;have x0:=Lx.cell 0;have x1:=Lx.cell 1;simp only[List.getElem?_toArray,List.getElem?_cons_zero,List.getElem?_cons_succ]at x0 x1;exact G.nl 6 rfl (by simp[execOp,go_sem,e5x,x0,x1])
    ·obtain rfl:=oi ho;have N1:=HN.out.2.1;have p5:=G.d 5 rfl;have p6:=G.d 6 rfl;exact G.nl 7 rfl (by simp[execOp,go_sem,aA p5,aA p6,N1])
    ·obtain rfl:=oi ho;have p3:=G.d 3 rfl;exact G.nl 8 rfl (by simp[execOp,go_sem,aA p3])
    ·obtain rfl:=oi ho;have p7:=G.d 7 rfl;exact G.nl 9 rfl (by simp[execOp,go_sem,aA p7])
   ·intro zl a1 w1 hI hup;have hb1:Below W3.heap.size W3 w1:=hI.st;have hTT:=HTT.out;subst hTT;have z6:=hI.ptk 8 rfl (hup 8 (by decide));have z7:=hI.ptk 9 rfl (hup 9 (by decide));obtain⟨ff,rfl,hf⟩:=hI.off.forms;rw[← hf 6]at z6;rw[← hf 7]at z7;clear hI;simp only[List.foldl,Act.put,List.setIfInBounds_toArray,List.set];rw[z6,z7]
    go_wp2_with fail
    go_meet
    exact⟨rfl,rfl,zh hb1⟩
  case rest=>
   obtain⟨rfl,rfl,hb4⟩:=hcut;have HA4:=zh (HA.out.next hb4.out);have HBb4:=zh (HBb.out.next hb4.out);have HZ4:=zh (HZ.out.next hb4.out);have HB4:=zh (HB.out.trans (hb4.out.mono (by have:=HB.out.size;omega)));clear HA HBb HZ HB hb4;obtain⟨y1,hy1⟩:∃ x,x=!(r1==r2):=⟨_,rfl⟩
   obtain⟨y2,hy2⟩:∃ x,x=!(k1==k2):=⟨_,rfl⟩
   obtain⟨y,hy⟩:∃ x,x=(y1||y2):=⟨_,rfl⟩
   have HY:=zh (And.intro hy1 (And.intro hy2 hy));clear hy1 hy2 hy;obtain⟨W4,hW4⟩:∃ W4,W4=wc:=⟨_,rfl⟩
   subst hW4
   go_upto_region 4 with fail
   go_cut [34] (fun v wx=>v=.bool y∧Hid (Below W4.heap.size W4 wx))
   case first=>
    obtain⟨hy1,hy2,hy⟩:=HY.out;obtain⟨TT,hTT⟩:∃ TT:List (Nat×Nat×Value),TT=((0,21,.bool r1)::(1,22,.pointer (some ⟨qb,0,none⟩))::(2,23,idV b.row)::(3,24,idV id0)::(4,25,.bool r2)::(5,26,.bool y1)::(6,27,.bool y1)::(7,28,(bif y1 then undef else .bool k1))::(8,29,(bif y1 then undef else .pointer (some ⟨qb,2,none⟩)))::(9,30,(bif y1 then undef else idV b.col))::(10,31,(bif y1 then undef else idV id0))::(11,32,(bif y1 then undef else .bool k2))::(12,33,(bif y1 then undef else .bool y2))::(13,34,.bool y)::[]):=⟨_,rfl⟩
    have HTT:=zh hTT;clear hTT;refine bA (fun a0=>65≤a0.tmps.size∧a0.eval (.tmp 3)=.pointer (some ⟨qa,0,none⟩)∧a0.eval (.tmp 4)=.pointer (some ⟨qb,0,none⟩)∧a0.eval (.tmp 5)=.pointer (some ⟨qz,0,none⟩)∧a0.eval (.tmp 6)=.bool r1∧a0.eval (.tmp 7)=.bool k1) (21::22::23::24::25::26::27::28::29::30::31::32::33::34::[]) TT [] (fun w'=>Below W4.heap.size W4 w') (by kernel_rfl) ⟨by simp,rfl,rfl,rfl,rfl,rfl⟩ (Below.refl _ _) ?_ ?_
    ·rintro a0 ⟨hs,hq3,hq4,hq5,hq6,hq7⟩ zl a1 w1 zj o hsz hI hun ho zd;have hb1:Below W4.heap.size W4 w1:=hI.st;have hTT:=HTT.out;have hk:okU (TT.map fun e=>(e.1,e.2.1)) (21::22::23::24::25::26::27::28::29::30::31::32::33::34::[]) 65=true:=by rw[hTT];rfl
     subst hTT;have e3x:=aA ((hI.off.eval (by decide)).trans hq3);have e4x:=aA ((hI.off.eval (by decide)).trans hq4);have e5x:=aA ((hI.off.eval (by decide)).trans hq5);have e6x:=aA ((hI.off.eval (by decide)).trans hq6);have e7x:=aA ((hI.off.eval (by decide)).trans hq7);have hj:=Up.of_false hun;have hj12:zj<14:=by rw[hsz]at hj;exact hj
     have G:RG _ _ _ _ _ _ _ _ _ _ _:=⟨hk,hI,hs,hun,ho,zd⟩
     rcases(by omega:zj=0∨zj=1∨zj=2∨zj=3∨zj=4∨zj=5∨zj=6∨zj=7∨zj=8∨zj=9∨zj=10∨zj=11∨zj=12∨zj=13) with rfl | rfl | rfl | rfl | rfl | rfl | rfl | rfl | rfl | rfl | rfl | rfl | rfl | rfl
     ·obtain rfl:=oi ho;exact G.nl 0 rfl (by simp[execOp,go_sem,e6x])
     ·obtain rfl:=oi ho;exact G.nl 1 rfl (by simp[execOp,go_sem,e4x])
     ·obtain rfl:=oi ho;have Lx:=HBb4.out.next hb1;have x0:=Lx.cell 0;have x1:=Lx.cell 1;simp only[List.getElem?_toArray,List.getElem?_cons_zero,List.getElem?_cons_succ]at x0 x1;have p1:=G.d 1 rfl;exact G.nl 2 rfl (by simp[execOp,go_sem,aA p1,x0,x1])
     ·obtain rfl:=oi ho;have Lx:=HZ4.out.next hb1;have x0:=Lx.cell 0;have x1:=Lx.cell 1;simp only[List.getElem?_toArray,List.getElem?_cons_zero,List.getElem?_cons_succ]at x0 x1;exact G.nl 3 rfl (by simp[execOp,go_sem,e5x,x0,x1])
     ·obtain rfl:=oi ho;have N1:=HN.out.2.2.1;have p2:=G.d 2 rfl;have p3:=G.d 3 rfl;exact G.nl 4 rfl (by simp[execOp,go_sem,aA p2,aA p3,N1])
     ·obtain rfl:=oi ho;have p0:=G.d 0 rfl;have p4:=G.d 4 rfl;exact G.nl 5 rfl (by simp[execOp,go_sem,aA p0,aA p4,hy1])
     ·obtain rfl:=oi ho;have p5:=G.d 5 rfl;exact G.nl 6 rfl (by simp[execOp,go_sem,aA p5])
     ·obtain rfl:=oi ho;have pg:=G.g 6 rfl;cases y1 with
      | true=>exact G.sk 7 rfl pg rfl
      | false=>
       exact G.vl 7 rfl pg rfl (by simp[execOp,go_sem,e7x])
     ·obtain rfl:=oi ho;have pg:=G.g 6 rfl;cases y1 with
      | true=>exact G.sk 8 rfl pg rfl
      | false=>
       exact G.vl 8 rfl pg rfl (by simp[execOp,go_sem,e4x])
     ·obtain rfl:=oi ho;have pg:=G.g 6 rfl;cases y1 with
      | true=>exact G.sk 9 rfl pg rfl
      | false=>
       have Lx:=HBb4.out.next hb1;have x2:=Lx.cell 2;have x3:=Lx.cell 3;simp only[List.getElem?_toArray,List.getElem?_cons_zero,List.getElem?_cons_succ]at x2 x3;have p8:=G.d 8 rfl;exact G.vl 9 rfl pg rfl (by simp[execOp,go_sem,aA p8,x2,x3])
     ·obtain rfl:=oi ho;have pg:=G.g 6 rfl;cases y1 with
      | true=>exact G.sk 10 rfl pg rfl
      | false=>
       have Lx:=HZ4.out.next hb1;have x0:=Lx.cell 0;have x1:=Lx.cell 1;simp only[List.getElem?_toArray,List.getElem?_cons_zero,List.getElem?_cons_succ]at x0 x1;exact G.vl 10 rfl pg rfl (by simp[execOp,go_sem,e5x,x0,x1])
     ·obtain rfl:=oi ho;have pg:=G.g 6 rfl;cases y1 with
      | true=>exact G.sk 11 rfl pg rfl
      | false=>
       have N1:=HN.out.2.2.2;have p9:=G.d 9 rfl;have p10:=G.d 10 rfl;exact G.vl 11 rfl pg rfl (by simp[execOp,go_sem,aA p9,aA p10,N1])
     ·obtain rfl:=oi ho;have pg:=G.g 6 rfl;cases y1 with
      | true=>exact G.sk 12 rfl pg rfl
      | false=>
       have p7:=G.d 7 rfl;have p11:=G.d 11 rfl;exact G.vl 12 rfl pg rfl (by simp[execOp,go_sem,aA p7,aA p11,hy2])
     ·obtain rfl:=oi ho;cases y1
      all_goals have p6:=G.d 6 rfl
      all_goals have p12:=G.d 12 rfl
      all_goals exact G.nl 13 rfl (by simp[execOp,go_sem,aA p6,aA p12,hy])
    ·intro zl a1 w1 hI hup;have hb1:Below W4.heap.size W4 w1:=hI.st;have hTT:=HTT.out;subst hTT;have z34:=hI.ptk 13 rfl (hup 13 (by decide));obtain⟨ff,rfl,hf⟩:=hI.off.forms;rw[← hf 34]at z34;clear hI;simp only[List.foldl,Act.put,List.setIfInBounds_toArray,List.set];rw[z34]
     go_wp2_with fail
     go_meet
     exact⟨rfl,zh hb1⟩
   case rest=>
    obtain⟨rfl,hb5⟩:=hcut;have HA5:=zh (HA4.out.next hb5.out);have HBb5:=zh (HBb4.out.next hb5.out);have HB5:=zh (HB4.out.trans (hb5.out.mono (by have:=HB4.out.size;omega)));clear HA4 HBb4 HZ4 HB4 hb5 HN;cases y with
    | true=>
     have hrf:Hid (rb=false):=zh (by rw[HR2.out];have:=HY.out.2.2;rw[HY.out.1,HY.out.2.1]at this;revert this;cases r1 <;> cases r2 <;> cases k1 <;> cases k2 <;> simp)
     go_wp2_with fail
     go_ret
     exact⟨by first | exact aJ hrf.out.symm |(rw[hrf.out];rfl),by first | exact HB5.out |(rw[hq];exact HB5.out)⟩
    | false=>
     obtain⟨z,hz⟩:∃ x,x=(r1||k1):=⟨_,rfl⟩
     obtain⟨nf1,hnf1⟩:∃ x,x=(!f1):=⟨_,rfl⟩
     obtain⟨ng1,hng1⟩:∃ x,x=(!g1):=⟨_,rfl⟩
     obtain⟨m1,hm1⟩:∃ x,x=(nf1&&!f2):=⟨_,rfl⟩
     obtain⟨m2,hm2⟩:∃ x,x=(ng1&&!g2):=⟨_,rfl⟩
     obtain⟨s1,hs1⟩:∃ x,x=(r1||m1):=⟨_,rfl⟩
     obtain⟨s2,hs2⟩:∃ x,x=(k1||m2):=⟨_,rfl⟩
     obtain⟨u,hu⟩:∃ x,x=(z&&s1):=⟨_,rfl⟩
     obtain⟨v,hv⟩:∃ x,x=(u&&s2):=⟨_,rfl⟩
     have HV:Hid (rb=v):=zh (by rw[HR2.out,hv,hu,hs1,hs2,hm1,hm2,hnf1,hng1,hz];have:=HY.out.2.2;rw[HY.out.1,HY.out.2.1]at this;revert this;cases r1 <;> cases r2 <;> cases k1 <;> cases k2 <;> simp);have HVV:=zh (And.intro hz (And.intro hnf1 (And.intro hng1 (And.intro hm1 (And.intro hm2 (And.intro hs1 (And.intro hs2 (And.intro hu hv))))))));clear hz hnf1 hng1 hm1 hm2 hs1 hs2 hu hv;obtain⟨W5,hW5⟩:∃ W5,W5=wc:=⟨_,rfl⟩
     subst hW5
     go_upto_region 6 with fail
     obtain⟨hz,hnf1,hng1,hm1,hm2,hs1,hs2,hu,hv⟩:=HVV.out;obtain⟨hf1,hf2,hg1,hg2⟩:=HF.out
     obtain⟨TT,hTT⟩:∃ TT:List (Nat×Nat×Value),TT=((0,35,.bool r1)::(1,36,.bool r1)::(2,37,(bif r1 then undef else .bool k1))::(3,38,.bool z)::(4,39,.bool z)::(5,40,(bif z then .bool r1 else undef))::(6,41,(bif z then .bool r1 else undef))::(7,42,(bif z then (bif r1 then undef else .pointer (some ⟨qa,4,none⟩)) else undef))::(8,43,(bif z then (bif r1 then undef else .bool f1) else undef))::(9,44,(bif z then (bif r1 then undef else .bool nf1) else undef))::(10,45,(bif z then (bif r1 then undef else .bool nf1) else undef))::(11,46,(bif z then (bif r1 then undef else (bif nf1 then .pointer (some ⟨qb,4,none⟩) else undef)) else undef))::(12,47,(bif z then (bif r1 then undef else (bif nf1 then .bool f2 else undef)) else undef))::(13,48,(bif z then (bif r1 then undef else (bif nf1 then .bool (!f2) else undef)) else undef))::(14,49,(bif z then (bif r1 then undef else .bool m1) else undef))::(15,50,(bif z then .bool s1 else undef))::(16,51,.bool u)::(17,52,.bool u)::(18,53,(bif u then .bool k1 else undef))::(19,54,(bif u then .bool k1 else undef))::(20,55,(bif u then (bif k1 then undef else .pointer (some ⟨qa,5,none⟩)) else undef))::(21,56,(bif u then (bif k1 then undef else .bool g1) else undef))::(22,57,(bif u then (bif k1 then undef else .bool ng1) else undef))::(23,58,(bif u then (bif k1 then undef else .bool ng1) else undef))::(24,59,(bif u then (bif k1 then undef else (bif ng1 then .pointer (some ⟨qb,5,none⟩) else undef)) else undef))::(25,60,(bif u then (bif k1 then undef else (bif ng1 then .bool g2 else undef)) else undef))::(26,61,(bif u then (bif k1 then undef else (bif ng1 then .bool (!g2) else undef)) else undef))::(27,62,(bif u then (bif k1 then undef else .bool m2) else undef))::(28,63,(bif u then .bool s2 else undef))::(29,64,.bool v)::(30,2,.bool v)::[]):=⟨_,rfl⟩
     have HTT:=zh hTT;clear hTT;refine bA (fun a0=>65≤a0.tmps.size∧a0.eval (.tmp 3)=.pointer (some ⟨qa,0,none⟩)∧a0.eval (.tmp 4)=.pointer (some ⟨qb,0,none⟩)∧a0.eval (.tmp 6)=.bool r1∧a0.eval (.tmp 7)=.bool k1) (35::36::37::38::39::40::41::42::43::44::45::46::47::48::49::50::51::52::53::54::55::56::57::58::59::60::61::62::63::64::2::[]) TT [] (fun w'=>Below W5.heap.size W5 w') (by kernel_rfl) ⟨by simp,rfl,rfl,rfl,rfl⟩ (Below.refl _ _) ?_ ?_
     ·rintro a0 ⟨hs,hq3,hq4,hq6,hq7⟩ zl a1 w1 zj o hsz hI hun ho zd;have hb1:Below W5.heap.size W5 w1:=hI.st;have hTT:=HTT.out;have hk:okU (TT.map fun e=>(e.1,e.2.1)) (35::36::37::38::39::40::41::42::43::44::45::46::47::48::49::50::51::52::53::54::55::56::57::58::59::60::61::62::63::64::2::[]) 65=true:=by rw[hTT];rfl
      subst hTT;have e3x:=aA ((hI.off.eval (by decide)).trans hq3);have e4x:=aA ((hI.off.eval (by decide)).trans hq4);have e6x:=aA ((hI.off.eval (by decide)).trans hq6);have e7x:=aA ((hI.off.eval (by decide)).trans hq7);have hj:=Up.of_false hun;have hj12:zj<31:=by rw[hsz]at hj;exact hj
      have G:RG _ _ _ _ _ _ _ _ _ _ _:=⟨hk,hI,hs,hun,ho,zd⟩
      rcases(by omega:zj=0∨zj=1∨zj=2∨zj=3∨zj=4∨zj=5∨zj=6∨zj=7∨zj=8∨zj=9∨zj=10∨zj=11∨zj=12∨zj=13∨zj=14∨zj=15∨zj=16∨zj=17∨zj=18∨zj=19∨zj=20∨zj=21∨zj=22∨zj=23∨zj=24∨zj=25∨zj=26∨zj=27∨zj=28∨zj=29∨zj=30) with rfl | rfl | rfl | rfl | rfl | rfl | rfl | rfl | rfl | rfl | rfl | rfl | rfl | rfl | rfl | rfl | rfl | rfl | rfl | rfl | rfl | rfl | rfl | rfl | rfl | rfl | rfl | rfl | rfl | rfl | rfl
      ·obtain rfl:=oi ho;exact G.nl 0 rfl (by simp[execOp,go_sem,e6x])
      ·obtain rfl:=oi ho;have p0:=G.d 0 rfl;exact G.nl 1 rfl (by simp[execOp,go_sem,aA p0])
      ·obtain rfl:=oi ho;have pg:=G.g 1 rfl;cases r1 with
       | true=>exact G.sk 2 rfl pg rfl
       | false=>
        exact G.vl 2 rfl pg rfl (by simp[execOp,go_sem,e7x])
      ·obtain rfl:=oi ho;cases r1
       all_goals have p1:=G.d 1 rfl
       all_goals have p2:=G.d 2 rfl
       all_goals exact G.nl 3 rfl (by simp[execOp,go_sem,aA p1,aA p2,hz])
      ·obtain rfl:=oi ho;have p3:=G.d 3 rfl;exact G.nl 4 rfl (by simp[execOp,go_sem,aA p3])
      ·obtain rfl:=oi ho;have pg:=G.g 4 rfl;cases z with
       | false=>exact G.sk 5 rfl pg rfl
       | true=>
        exact G.vl 5 rfl pg rfl (by simp[execOp,go_sem,e6x])
      ·obtain rfl:=oi ho;have pg:=G.g 4 rfl;cases z with
       | false=>exact G.sk 6 rfl pg rfl
       | true=>
        have p5:=G.d 5 rfl;exact G.vl 6 rfl pg rfl (by simp[execOp,go_sem,aA p5])
      ·obtain rfl:=oi ho;have pg:=G.g 6 rfl;cases z with
       | false=>exact bB hk hI hs (inT 7 rfl) fG hun ho zd (aO rfl rfl rfl pg) rfl
       | true=>
        cases r1 with
        | true=>exact G.sk 7 rfl pg rfl
        | false=>
         exact G.vl 7 rfl pg rfl (by simp[execOp,go_sem,e3x])
      ·obtain rfl:=oi ho;have pg:=G.g 6 rfl;cases z with
       | false=>exact bB hk hI hs (inT 8 rfl) fG hun ho zd (aO rfl rfl rfl pg) rfl
       | true=>
        cases r1 with
        | true=>exact G.sk 8 rfl pg rfl
        | false=>
         have Lx:=HA5.out.next hb1;have x4:=Lx.cell 4;simp only[List.getElem?_toArray,List.getElem?_cons_zero,List.getElem?_cons_succ]at x4;have p7:=G.d 7 rfl;exact G.vl 8 rfl pg rfl (by simp[execOp,go_sem,aA p7,x4,hf1])
      ·obtain rfl:=oi ho;have pg:=G.g 6 rfl;cases z with
       | false=>exact bB hk hI hs (inT 9 rfl) fG hun ho zd (aO rfl rfl rfl pg) rfl
       | true=>
        cases r1 with
        | true=>exact G.sk 9 rfl pg rfl
        | false=>
         have p8:=G.d 8 rfl;exact G.vl 9 rfl pg rfl (by simp[execOp,go_sem,aA p8,hnf1])
      ·obtain rfl:=oi ho;have pg:=G.g 6 rfl;cases z with
       | false=>exact bB hk hI hs (inT 10 rfl) fG hun ho zd (aO rfl rfl rfl pg) rfl
       | true=>
        cases r1 with
        | true=>exact G.sk 10 rfl pg rfl
        | false=>
         have p9:=G.d 9 rfl;exact G.vl 10 rfl pg rfl (by simp[execOp,go_sem,aA p9])
      ·obtain rfl:=oi ho;have pg:=G.g 10 rfl;cases z with
       | false=>exact bB hk hI hs (inT 11 rfl) fG hun ho zd (aO rfl rfl rfl pg) rfl
       | true=>
        cases r1 with
        | true=>exact bB hk hI hs (inT 11 rfl) fG hun ho zd (aO rfl rfl rfl pg) rfl
        | false=>
         cases nf1 with
         | false=>exact G.sk 11 rfl pg rfl
         | true=>
          exact G.vl 11 rfl pg rfl (by simp[execOp,go_sem,e4x])
      ·obtain rfl:=oi ho;have pg:=G.g 10 rfl;cases z with
       | false=>exact bB hk hI hs (inT 12 rfl) fG hun ho zd (aO rfl rfl rfl pg) rfl
       | true=>
        cases r1 with
        | true=>exact bB hk hI hs (inT 12 rfl) fG hun ho zd (aO rfl rfl rfl pg) rfl
        | false=>
         cases nf1 with
         | false=>exact G.sk 12 rfl pg rfl
         | true=>
          have Lx:=HBb5.out.next hb1;have x4:=Lx.cell 4;simp only[List.getElem?_toArray,List.getElem?_cons_zero,List.getElem?_cons_succ]at x4;have p11:=G.d 11 rfl;exact G.vl 12 rfl pg rfl (by simp[execOp,go_sem,aA p11,x4,hf2])
      ·obtain rfl:=oi ho;have pg:=G.g 10 rfl;cases z with
       | false=>exact bB hk hI hs (inT 13 rfl) fG hun ho zd (aO rfl rfl rfl pg) rfl
       | true=>
        cases r1 with
        | true=>exact bB hk hI hs (inT 13 rfl) fG hun ho zd (aO rfl rfl rfl pg) rfl
        | false=>
         cases nf1 with
         | false=>exact G.sk 13 rfl pg rfl
         | true=>
          have p12:=G.d 12 rfl;exact G.vl 13 rfl pg rfl (by simp[execOp,go_sem,aA p12])
      ·obtain rfl:=oi ho;have pg:=G.g 6 rfl;cases z with
       | false=>exact bB hk hI hs (inT 14 rfl) fG hun ho zd (aO rfl rfl rfl pg) rfl
       | true=>
        cases r1 with
        | true=>exact G.sk 14 rfl pg rfl
        | false=>
         cases nf1
         all_goals have p10:=G.d 10 rfl
         all_goals have p13:=G.d 13 rfl
         all_goals exact G.vl 14 rfl pg rfl (by simp[execOp,go_sem,aA p10,aA p13,hm1])
      ·obtain rfl:=oi ho;have pg:=G.g 4 rfl;cases z with
       | false=>exact G.sk 15 rfl pg rfl
       | true=>
        cases r1
        all_goals have p6:=G.d 6 rfl
        all_goals have p14:=G.d 14 rfl
        all_goals exact G.vl 15 rfl pg rfl (by simp[execOp,go_sem,aA p6,aA p14,hs1])
      ·obtain rfl:=oi ho;cases z
       all_goals have p4:=G.d 4 rfl
       all_goals have p15:=G.d 15 rfl
       all_goals exact G.nl 16 rfl (by simp[execOp,go_sem,aA p4,aA p15,hu])
      ·obtain rfl:=oi ho;have p16:=G.d 16 rfl;exact G.nl 17 rfl (by simp[execOp,go_sem,aA p16])
      ·obtain rfl:=oi ho;have pg:=G.g 17 rfl;cases u with
       | false=>exact G.sk 18 rfl pg rfl
       | true=>
        exact G.vl 18 rfl pg rfl (by simp[execOp,go_sem,e7x])
      ·obtain rfl:=oi ho;have pg:=G.g 17 rfl;cases u with
       | false=>exact G.sk 19 rfl pg rfl
       | true=>
        have p18:=G.d 18 rfl;exact G.vl 19 rfl pg rfl (by simp[execOp,go_sem,aA p18])
      ·obtain rfl:=oi ho;have pg:=G.g 19 rfl;cases u with
       | false=>exact bB hk hI hs (inT 20 rfl) fG hun ho zd (aO rfl rfl rfl pg) rfl
       | true=>
        cases k1 with
        | true=>exact G.sk 20 rfl pg rfl
        | false=>
         exact G.vl 20 rfl pg rfl (by simp[execOp,go_sem,e3x])
      ·obtain rfl:=oi ho;have pg:=G.g 19 rfl;cases u with
       | false=>exact bB hk hI hs (inT 21 rfl) fG hun ho zd (aO rfl rfl rfl pg) rfl
       | true=>
        cases k1 with
        | true=>exact G.sk 21 rfl pg rfl
        | false=>
         have Lx:=HA5.out.next hb1;have x5:=Lx.cell 5;simp only[List.getElem?_toArray,List.getElem?_cons_zero,List.getElem?_cons_succ]at x5;have p20:=G.d 20 rfl;exact G.vl 21 rfl pg rfl (by simp[execOp,go_sem,aA p20,x5,hg1])
      ·obtain rfl:=oi ho;have pg:=G.g 19 rfl;cases u with
       | false=>exact bB hk hI hs (inT 22 rfl) fG hun ho zd (aO rfl rfl rfl pg) rfl
       | true=>
        cases k1 with
        | true=>exact G.sk 22 rfl pg rfl
        | false=>
         have p21:=G.d 21 rfl;exact G.vl 22 rfl pg rfl (by simp[execOp,go_sem,aA p21,hng1])
      ·obtain rfl:=oi ho;have pg:=G.g 19 rfl;cases u with
       | false=>exact bB hk hI hs (inT 23 rfl) fG hun ho zd (aO rfl rfl rfl pg) rfl
       | true=>
        cases k1 with
        | true=>exact G.sk 23 rfl pg rfl
        | false=>
         have p22:=G.d 22 rfl;exact G.vl 23 rfl pg rfl (by simp[execOp,go_sem,aA p22])
      ·obtain rfl:=oi ho;have pg:=G.g 23 rfl;cases u with
       | false=>exact bB hk hI hs (inT 24 rfl) fG hun ho zd (aO rfl rfl rfl pg) rfl
       | true=>
        cases k1 with
        | true=>exact bB hk hI hs (inT 24 rfl) fG hun ho zd (aO rfl rfl rfl pg) rfl
        | false=>
         cases ng1 with
         | false=>exact G.sk 24 rfl pg rfl
         | true=>
          exact G.vl 24 rfl pg rfl (by simp[execOp,go_sem,e4x])
      ·obtain rfl:=oi ho;have pg:=G.g 23 rfl;cases u with
       | false=>exact bB hk hI hs (inT 25 rfl) fG hun ho zd (aO rfl rfl rfl pg) rfl
       | true=>
        cases k1 with
        | true=>exact bB hk hI hs (inT 25 rfl) fG hun ho zd (aO rfl rfl rfl pg) rfl
        | false=>
         cases ng1 with
         | false=>exact G.sk 25 rfl pg rfl
         | true=>
          have Lx:=HBb5.out.next hb1;have x5:=Lx.cell 5;simp only[List.getElem?_toArray,List.getElem?_cons_zero,List.getElem?_cons_succ]at x5;have p24:=G.d 24 rfl;exact G.vl 25 rfl pg rfl (by simp[execOp,go_sem,aA p24,x5,hg2])
      ·obtain rfl:=oi ho;have pg:=G.g 23 rfl;cases u with
       | false=>exact bB hk hI hs (inT 26 rfl) fG hun ho zd (aO rfl rfl rfl pg) rfl
       | true=>
        cases k1 with
        | true=>exact bB hk hI hs (inT 26 rfl) fG hun ho zd (aO rfl rfl rfl pg) rfl
        | false=>
         cases ng1 with
         | false=>exact G.sk 26 rfl pg rfl
         | true=>
          have p25:=G.d 25 rfl;exact G.vl 26 rfl pg rfl (by simp[execOp,go_sem,aA p25])
      ·obtain rfl:=oi ho;have pg:=G.g 19 rfl;cases u with
       | false=>exact bB hk hI hs (inT 27 rfl) fG hun ho zd (aO rfl rfl rfl pg) rfl
       | true=>
        cases k1 with
        | true=>exact G.sk 27 rfl pg rfl
        | false=>
         cases ng1
         all_goals have p23:=G.d 23 rfl
         all_goals have p26:=G.d 26 rfl
         all_goals exact G.vl 27 rfl pg rfl (by simp[execOp,go_sem,aA p23,aA p26,hm2])
      ·obtain rfl:=oi ho;have pg:=G.g 17 rfl;cases u with
       | false=>exact G.sk 28 rfl pg rfl
       | true=>
        cases k1
        all_goals have p19:=G.d 19 rfl
        all_goals have p27:=G.d 27 rfl
        all_goals exact G.vl 28 rfl pg rfl (by simp[execOp,go_sem,aA p19,aA p27,hs2])
      ·obtain rfl:=oi ho;cases u
       all_goals have p17:=G.d 17 rfl
       all_goals have p28:=G.d 28 rfl
       all_goals exact G.nl 29 rfl (by simp[execOp,go_sem,aA p17,aA p28,hv])
      ·obtain rfl:=oi ho;have p29:=G.d 29 rfl;exact G.nl 30 rfl (by simp[execOp,go_sem,aA p29])
     ·intro zl a1 w1 hI hup;have hb1:Below W5.heap.size W5 w1:=hI.st;have hTT:=HTT.out;subst hTT;have z2:=hI.ptk 30 rfl (hup 30 (by decide));obtain⟨ff,rfl,hf⟩:=hI.off.forms;rw[← hf 2]at z2;clear hI;simp only[List.foldl,Act.put,List.setIfInBounds_toArray,List.set];rw[z2]
      go_wp2_with fail
      go_ret
      exact⟨by first | exact aJ HV.out.symm |(rw[HV.out];rfl),by first | exact HB5.out.trans (hb1.mono (by have:=HB5.out.size;omega)) |(rw[hq];exact HB5.out.trans (hb1.mono (by have:=HB5.out.size;omega)))⟩
def NodeH.fine(h:NodeH):Prop:=-9223372036854775808≤h.v.mant∧h.v.mant≤9223372036854775807∧h.v.text.length≤1000000∧h.name.length≤100000
mutual
def Tree.fine:Tree→Prop
 | .mk h l=>h.fine∧uEZ l
def uEZ:List Tree→Prop
 | []=>True
 | t::r=>t.fine∧uEZ r
end
theorem vS:∀ {l:List Tree} (i:Nat) (hi:i<l.length),uEZ l→l[i].fine
 | [],_,hi,_=>absurd hi (by simp)
 | t::r,0,_,h=>h.1
 | t::r,i+1,hi,h=>vS (l:=r) i (by simpa using hi) h.2
theorem uBC{l:List Tree}{k:Int}(i:Nat)(h:bN (l.take i) k=false):bN l k=false:=by
 induction l generalizing i with
 | nil=>simp[bN]at h
 | cons t r ih=>
  cases i with
  | zero=>simp[bN]at h
  | succ i=>
   rw[List.take_succ_cons]at h;unfold bN at h ⊢;cases h1:(decide (k≠8)||decide (t.h.kind=0)) <;> cases h2:t.right k <;> rw[h1,h2]at h <;> try simp
   simp at h;exact ih i h
structure RF(a:Act)(g o:Nat)(above:Int):Prop where
 sz:287≤a.tmps.size
 s0:a.eval (.tmp 0)=.pointer (some ⟨g,o,none⟩)
 s1:a.eval (.tmp 1)=.int .i64 above
 df:a.defers=[]
theorem RF.off{a a':Act}{S:List Nat}{g o:Nat}{above:Int}(h:RF a g o above)(hO:Off S a a')(h0:0∉S)(h1:1∉S):RF a' g o above :=
 ⟨by rw[hO.size];exact h.sz,(hO.eval h0).trans h.s0,(hO.eval h1).trans h.s1,hO.defers.trans h.df⟩
theorem uFP{fn:Func}{t:Tmp}{a:Act}{w:World}{R:Ending→World→Prop}{v:Value}(h:fn.results=#[.tmp t])(hd:a.defers=[])(hv:a.eval (.tmp t)=v)(hR:R (.returned v) w):bodyPost Tryz.prog fn R .ret a w:=by
 refine bodyPost_ret (results_tmp h a.tmps _ _) hd ?_;have:a.tmps.getD t undef=v:=by rw[← aA hv,Array.getD_eq_getD_getElem?]
 rw[this];exact hR
theorem eV{Q:Exit→Act→World→Prop}{a:Act}{w:World}{id:Nat}{x y s:Nat}{k c:Int}{ty:TypeId}{p1 p2:String}{t1 t2:TypeId}(b:Bool)(h:a.eval (.tmp s)=.int .i64 k)(hb:(k==c)=b)(hx:x<a.tmps.size)(hy:y<a.tmps.size)
  (hn:∀ a',Off [x,y] a a'→a'.eval (.tmp y)=.bool b→Q .normal a' w) :
  (Code.region id #[{ dst:=some x,op:=.binOp .eql ty (.tmp s) (.const (.int .i64 c)) ty,type:=t1,pos:=p1,after:=#[],guard:=none },{ dst:=some y,op:=.assign (.tmp x),type:=t2,pos:=p2,after:=#[⟨0,.data⟩],guard:=none }] false).wp Tryz.prog Q a w:=by
 subst hb;refine wp_region_lit ?_;refine wpList_plain rfl fun K hK=>?_
 unfold Oper.wp;have h1:(execOp a.eval { dst:=some x,op:=.binOp .eql ty (.tmp s) (.const (.int .i64 c)) ty,type:=t1,pos:=p1,after:=#[],guard:=none }).run Tryz.prog w=.ok (.value (.bool (k==c))) w:=by
  have h':=aA h;simp[execOp,go_sem,h']
 rw[h1];refine hK _ _ ?_;refine wpList_plain rfl fun K2 hK2=>?_
 unfold Oper.wp;have h2:(execOp (a.put (some x) (.bool (k==c))).eval { dst:=some y,op:=.assign (.tmp x),type:=t2,pos:=p2,after:=#[⟨0,.data⟩],guard:=none }).run Tryz.prog w=.ok (.value (.bool (k==c))) w:=by
  simp[execOp,go_sem];intro hh;omega
 rw[h2];refine hK2 _ _ ?_;exact hn _ (((Off.refl _ _).put (.head _) _).put (.tail _ (.head _)) _) (hG _ _ (by rw[pR];exact hy))
theorem wp_inc{Q:Exit→Act→World→Prop}{a:Act}{w:World}{id:Nat}{x s:Nat}{k:Int}{ty t1 t2:TypeId}{p1 p2:String}(h:a.eval (.tmp s)=.int .i64 k)(hk:IntKind.i64.wrap (k+1)=k+1)(hx:x<a.tmps.size)(hs:s<a.tmps.size)
  (hn:∀ a',Off [x,s] a a'→a'.eval (.tmp s)=.int .i64 (k+1)→Q .normal a' w) :
  (Code.region id #[{ dst:=some x,op:=.binOp .add ty (.tmp s) (.const (.int .i64 1)) ty,type:=t1,pos:=p1,after:=#[],guard:=none },{ dst:=some s,op:=.move (.tmp x),type:=t2,pos:=p2,after:=#[⟨0,.data⟩],guard:=none }] false).wp Tryz.prog Q a w:=by
 refine wp_region_lit ?_;refine wpList_plain rfl fun K hK=>?_
 unfold Oper.wp;have h1:(execOp a.eval { dst:=some x,op:=.binOp .add ty (.tmp s) (.const (.int .i64 1)) ty,type:=t1,pos:=p1,after:=#[],guard:=none }).run Tryz.prog w=.ok (.value (.int .i64 (k+1))) w:=by
  have h':=aA h;simp[execOp,go_sem,h',hk]
 rw[h1];refine hK _ _ ?_;refine wpList_plain rfl fun K2 hK2=>?_
 unfold Oper.wp;have h2:(execOp (a.put (some x) (.int .i64 (k+1))).eval { dst:=some s,op:=.move (.tmp x),type:=t2,pos:=p2,after:=#[⟨0,.data⟩],guard:=none }).run Tryz.prog w=.ok (.value (.int .i64 (k+1))) w:=by
  simp[execOp,go_sem];intro hh;omega
 rw[h2];refine hK2 _ _ ?_;exact hn _ (((Off.refl _ _).put (.head _) _).put (.tail _ (.head _)) _) (hG _ _ (by rw[pR];exact hs))
end Go.Proofs.YtmgjidnalpgegaaGreatDoor
