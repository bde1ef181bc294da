/-
  Lemmas, part 20: RrA RrB TokM RrC RrD RrE.
-/
import Derived.Test.YtjfihpaeglpblaaGreatDoorRv19
set_option maxHeartbeats 100000000
set_option maxRecDepth 1000000
namespace Go.Proofs.YtjfihpaeglpblaaGreatDoor
open Go.RowKit
theorem kV(o:Option (Int×Int)):∃ x y:Int,uDU o=.tuple #[vI x,vI y]:=by
 cases o with
 |none=>exact⟨-1,-1,rfl⟩
 |some p=>exact⟨p.1,p.2,rfl⟩
def SpCells(w:World)(P Q:Option Addr)(v:Say)(a b:Cor)(W:World):Prop:=W.cell? ⟨w.heap.size,0,none⟩=some (.pointer P)/\W.cell? ⟨w.heap.size,1,none⟩=some (.pointer Q)/\W.cell? ⟨w.heap.size,2,none⟩=some (vI v.r)/\W.cell? ⟨w.heap.size,3,none⟩=some (vI v.c)/\W.cell? ⟨w.heap.size+1,0,none⟩=some (vI a.row.a)/\W.cell? ⟨w.heap.size+1,1,none⟩=some (vI a.row.n)/\W.cell? ⟨w.heap.size+1,2,none⟩=some (vI a.col.a)/\W.cell? ⟨w.heap.size+1,3,none⟩=some (vI a.col.n)/\W.cell? ⟨w.heap.size+1,4,none⟩=some (.bool a.fr)/\W.cell? ⟨w.heap.size+1,5,none⟩=some (.bool a.fc)/\W.cell? ⟨w.heap.size+2,0,none⟩=some (vI b.row.a)/\W.cell? ⟨w.heap.size+2,1,none⟩=some (vI b.row.n)/\W.cell? ⟨w.heap.size+2,2,none⟩=some (vI b.col.a)/\W.cell? ⟨w.heap.size+2,3,none⟩=some (vI b.col.n)/\W.cell? ⟨w.heap.size+2,4,none⟩=some (.bool b.fr)/\W.cell? ⟨w.heap.size+2,5,none⟩=some (.bool b.fc)
abbrev SpE(P:Option Addr)(x y:IdR)(i j:Int)(w:World):Prop:=∀ W,Below w.heap.size w W->Calls Tryz.prog 145 #[.pointer P,.agg #[vI x.a,vI x.n],.agg #[vI y.a,vI y.n]] W fun e w'=>e=.returned (.tuple #[vI i,vI j])/\Below W.heap.size W w'
abbrev SpN(x:IdR)(b:Bool):Prop:=∀ W,Calls Tryz.prog 47 #[.agg #[vI x.a,vI x.n]] W fun e w'=>e=.returned (.bool b)/\Below W.heap.size W w'
theorem iJ(P Q:Option Addr)(v:Say)(a b:Cor)(w:World):∃ W0,Hid (W0=((w.alloc (.cells #[.pointer P,.pointer Q,vI v.r,vI v.c] 84)).alloc (.cells #[vI a.row.a,vI a.row.n,vI a.col.a,vI a.col.n,.bool a.fr,.bool a.fc] 29)).alloc (.cells #[vI b.row.a,vI b.row.n,vI b.col.a,vI b.col.n,.bool b.fr,.bool b.fc] 29))/\Hid (Below w.heap.size w W0)/\Hid (∀ W,Below W0.heap.size W0 W->SpCells w P Q v a b W):=by
 obtain⟨W0,ak⟩:∃ W0,W0=((w.alloc (.cells #[.pointer P,.pointer Q,vI v.r,vI v.c] 84)).alloc (.cells #[vI a.row.a,vI a.row.n,vI a.col.a,vI a.col.n,.bool a.fr,.bool a.fc] 29)).alloc (.cells #[vI b.row.a,vI b.row.n,vI b.col.a,vI b.col.n,.bool b.fr,.bool b.fc] 29):=⟨_,rfl⟩
 have aj:=zh ak;have af:Hid (Below w.heap.size w W0):=zh (by rw[ak];exact(((Below.refl _ w).alloc zr _).alloc (by rw[World.size_alloc];omega) _).alloc (by rw[World.size_alloc,World.size_alloc];omega) _);have L0:Hid (Lies W0 w.heap.size 84 #[.pointer P,.pointer Q,vI v.r,vI v.c]):=zh (by rw[ak];exact((Lies.new w _ _).alloc _).alloc _);have L1:Hid (Lies W0 (w.heap.size+1) 29 #[vI a.row.a,vI a.row.n,vI a.col.a,vI a.col.n,.bool a.fr,.bool a.fc]):=zh (by
  rw[ak];have h:=Lies.new (w.alloc (.cells #[.pointer P,.pointer Q,vI v.r,vI v.c] 84)) 29 #[vI a.row.a,vI a.row.n,vI a.col.a,vI a.col.n,.bool a.fr,.bool a.fc];rw[World.size_alloc]at h;exact h.alloc _)
 have L2:Hid (Lies W0 (w.heap.size+2) 29 #[vI b.row.a,vI b.row.n,vI b.col.a,vI b.col.n,.bool b.fr,.bool b.fc]):=zh (by
  rw[ak];have h:=Lies.new ((w.alloc (.cells #[.pointer P,.pointer Q,vI v.r,vI v.c] 84)).alloc (.cells #[vI a.row.a,vI a.row.n,vI a.col.a,vI a.col.n,.bool a.fr,.bool a.fc] 29)) 29 #[vI b.row.a,vI b.row.n,vI b.col.a,vI b.col.n,.bool b.fr,.bool b.fc];rw[World.size_alloc,World.size_alloc]at h;exact h)
 exact⟨W0,aj,af,zh (fun W h=>⟨((L0.out.next h).cell 0),((L0.out.next h).cell 1),((L0.out.next h).cell 2),((L0.out.next h).cell 3),((L1.out.next h).cell 0),((L1.out.next h).cell 1),((L1.out.next h).cell 2),((L1.out.next h).cell 3),((L1.out.next h).cell 4),((L1.out.next h).cell 5),((L2.out.next h).cell 0),((L2.out.next h).cell 1),((L2.out.next h).cell 2),((L2.out.next h).cell 3),((L2.out.next h).cell 4),((L2.out.next h).cell 5)⟩)⟩
theorem uGH(P Q:Option Addr)(v:Say)(a b:Cor)(g:List RTok)(w:World)(x y:Int)(hg:g=dC)
  (kl:SpE P a.row b.row x y w) (np:SpE Q a.col b.col (-1) (-1) w) (nr:SpN a.row true) (la:SpN a.col false) :
  Calls Tryz.prog 83 #[.agg #[.pointer P,.pointer Q,vI v.r,vI v.c],.agg #[vI a.row.a,vI a.row.n,vI a.col.a,vI a.col.n,.bool a.fr,.bool a.fc],.agg #[vI b.row.a,vI b.row.n,vI b.col.a,vI b.col.n,.bool b.fr,.bool b.fc]] w fun e w'=>TkO w w' e g:=by
 obtain⟨W0,aj,af,ap⟩:=iJ P Q v a b w;have CE1:=zh kl;have CE2:=zh np;have CNr:=zh nr;have CNc:=zh la;have HB:Hid (Below W0.heap.size W0 W0):=zh zB;clear kl np nr la;have CG:Hid (∀ W,Calls Tryz.prog 80 #[] W fun e w'=>TkO W w' e g):=zh (fun W=>by rw[hg];exact gE W);clear hg
 go_in
 go_upto_region 1 with fail
 rw[<- aj.out];clear aj;obtain⟨c0,c1,c2,c3,c4,c5,c6,c7,c8,c9,lc,ld,lf,c13,lg,lh⟩:=ap.out _ HB.out
 go_wp2_with ((first
  |((with_reducible refine(CE1.out _ (zU af.out HB.out)).mono ?_);rintro e wx ⟨rfl,hb⟩;replace HB:=zT HB hb)
  |((with_reducible refine(CE2.out _ (zU af.out HB.out)).mono ?_);rintro e wx ⟨rfl,hb⟩;replace HB:=zT HB hb)
  |((with_reducible refine(CNr.out _).mono ?_);rintro e wx ⟨rfl,hb⟩;replace HB:=zT HB hb)
  |((with_reducible refine(CNc.out _).mono ?_);rintro e wx ⟨rfl,hb⟩;replace HB:=zT HB hb)
  |((with_reducible refine(CG.out _).mono ?_);rintro e wx ⟨A5,gx,rfl,ho,hb⟩;have dg:=zh (aM ho HB.out.size);clear ho;replace HB:=zT HB hb));clear hb c0 c1 c2 c3 c4 c5 c6 c7 c8 c9 lc ld lf c13 lg lh;obtain⟨c0,c1,c2,c3,c4,c5,c6,c7,c8,c9,lc,ld,lf,c13,lg,lh⟩:=ap.out _ HB.out)
 go_ret
 exact⟨A5,gx,rfl,aM dg.out af.out.size,zU af.out HB.out⟩
theorem uGG(P Q:Option Addr)(v:Say)(a b:Cor)(g:List RTok)(w:World)(x y:Int)(hg:g=dC)
  (kl:SpE P a.row b.row (-1) (-1) w) (np:SpE Q a.col b.col x y w) (nr:SpN a.row false) (la:SpN a.col true) :
  Calls Tryz.prog 83 #[.agg #[.pointer P,.pointer Q,vI v.r,vI v.c],.agg #[vI a.row.a,vI a.row.n,vI a.col.a,vI a.col.n,.bool a.fr,.bool a.fc],.agg #[vI b.row.a,vI b.row.n,vI b.col.a,vI b.col.n,.bool b.fr,.bool b.fc]] w fun e w'=>TkO w w' e g:=by
 obtain⟨W0,aj,af,ap⟩:=iJ P Q v a b w;have CE1:=zh kl;have CE2:=zh np;have CNr:=zh nr;have CNc:=zh la;have HB:Hid (Below W0.heap.size W0 W0):=zh zB;clear kl np nr la;have CG:Hid (∀ W,Calls Tryz.prog 80 #[] W fun e w'=>TkO W w' e g):=zh (fun W=>by rw[hg];exact gE W);clear hg
 go_in
 go_upto_region 1 with fail
 rw[<- aj.out];clear aj;obtain⟨c0,c1,c2,c3,c4,c5,c6,c7,c8,c9,lc,ld,lf,c13,lg,lh⟩:=ap.out _ HB.out
 go_wp2_with ((first
  |((with_reducible refine(CE1.out _ (zU af.out HB.out)).mono ?_);rintro e wx ⟨rfl,hb⟩;replace HB:=zT HB hb)
  |((with_reducible refine(CE2.out _ (zU af.out HB.out)).mono ?_);rintro e wx ⟨rfl,hb⟩;replace HB:=zT HB hb)
  |((with_reducible refine(CNr.out _).mono ?_);rintro e wx ⟨rfl,hb⟩;replace HB:=zT HB hb)
  |((with_reducible refine(CNc.out _).mono ?_);rintro e wx ⟨rfl,hb⟩;replace HB:=zT HB hb)
  |((with_reducible refine(CG.out _).mono ?_);rintro e wx ⟨A5,gx,rfl,ho,hb⟩;have dg:=zh (aM ho HB.out.size);clear ho;replace HB:=zT HB hb));clear hb c0 c1 c2 c3 c4 c5 c6 c7 c8 c9 lc ld lf c13 lg lh;obtain⟨c0,c1,c2,c3,c4,c5,c6,c7,c8,c9,lc,ld,lf,c13,lg,lh⟩:=ap.out _ HB.out)
 go_ret
 exact⟨A5,gx,rfl,aM dg.out af.out.size,zU af.out HB.out⟩
theorem uGE(P Q:Option Addr)(v:Say)(a b:Cor)(g:List RTok)(w:World)(x y:Int)(hg:g=dC)
  (kl:SpE P a.row b.row (-1) (-1) w) (np:SpE Q a.col b.col x y w) (nr:SpN a.row false) (la:SpN a.col false) :
  Calls Tryz.prog 83 #[.agg #[.pointer P,.pointer Q,vI v.r,vI v.c],.agg #[vI a.row.a,vI a.row.n,vI a.col.a,vI a.col.n,.bool a.fr,.bool a.fc],.agg #[vI b.row.a,vI b.row.n,vI b.col.a,vI b.col.n,.bool b.fr,.bool b.fc]] w fun e w'=>TkO w w' e g:=by
 obtain⟨W0,aj,af,ap⟩:=iJ P Q v a b w;have CE1:=zh kl;have CE2:=zh np;have CNr:=zh nr;have CNc:=zh la;have HB:Hid (Below W0.heap.size W0 W0):=zh zB;clear kl np nr la;have CG:Hid (∀ W,Calls Tryz.prog 80 #[] W fun e w'=>TkO W w' e g):=zh (fun W=>by rw[hg];exact gE W);clear hg
 go_in
 go_upto_region 1 with fail
 rw[<- aj.out];clear aj;obtain⟨c0,c1,c2,c3,c4,c5,c6,c7,c8,c9,lc,ld,lf,c13,lg,lh⟩:=ap.out _ HB.out
 go_wp2_with ((first
  |((with_reducible refine(CE1.out _ (zU af.out HB.out)).mono ?_);rintro e wx ⟨rfl,hb⟩;replace HB:=zT HB hb)
  |((with_reducible refine(CE2.out _ (zU af.out HB.out)).mono ?_);rintro e wx ⟨rfl,hb⟩;replace HB:=zT HB hb)
  |((with_reducible refine(CNr.out _).mono ?_);rintro e wx ⟨rfl,hb⟩;replace HB:=zT HB hb)
  |((with_reducible refine(CNc.out _).mono ?_);rintro e wx ⟨rfl,hb⟩;replace HB:=zT HB hb)
  |((with_reducible refine(CG.out _).mono ?_);rintro e wx ⟨A5,gx,rfl,ho,hb⟩;have dg:=zh (aM ho HB.out.size);clear ho;replace HB:=zT HB hb));clear hb c0 c1 c2 c3 c4 c5 c6 c7 c8 c9 lc ld lf c13 lg lh;obtain⟨c0,c1,c2,c3,c4,c5,c6,c7,c8,c9,lc,ld,lf,c13,lg,lh⟩:=ap.out _ HB.out)
 go_ret
 exact⟨A5,gx,rfl,aM dg.out af.out.size,zU af.out HB.out⟩
theorem uGF(P Q:Option Addr)(v:Say)(a b:Cor)(g:List RTok)(w:World)(n m:Nat)(hg:g=dC)
  (kl:SpE P a.row b.row (n:Int) (m:Int) w) (np:SpE Q a.col b.col (-1) (-1) w) (nr:SpN a.row false) (la:SpN a.col false) :
  Calls Tryz.prog 83 #[.agg #[.pointer P,.pointer Q,vI v.r,vI v.c],.agg #[vI a.row.a,vI a.row.n,vI a.col.a,vI a.col.n,.bool a.fr,.bool a.fc],.agg #[vI b.row.a,vI b.row.n,vI b.col.a,vI b.col.n,.bool b.fr,.bool b.fc]] w fun e w'=>TkO w w' e g:=by
 obtain⟨W0,aj,af,ap⟩:=iJ P Q v a b w;have CE1:=zh kl;have CE2:=zh np;have CNr:=zh nr;have CNc:=zh la;have HB:Hid (Below W0.heap.size W0 W0):=zh zB;clear kl np nr la;have CG:Hid (∀ W,Calls Tryz.prog 80 #[] W fun e w'=>TkO W w' e g):=zh (fun W=>by rw[hg];exact gE W);clear hg;have ol:¬ (n:Int)<0:=by omega
 go_in
 go_upto_region 1 with fail
 rw[<- aj.out];clear aj;obtain⟨c0,c1,c2,c3,c4,c5,c6,c7,c8,c9,lc,ld,lf,c13,lg,lh⟩:=ap.out _ HB.out
 go_wp2_with ((first
  |((with_reducible refine(CE1.out _ (zU af.out HB.out)).mono ?_);rintro e wx ⟨rfl,hb⟩;replace HB:=zT HB hb)
  |((with_reducible refine(CE2.out _ (zU af.out HB.out)).mono ?_);rintro e wx ⟨rfl,hb⟩;replace HB:=zT HB hb)
  |((with_reducible refine(CNr.out _).mono ?_);rintro e wx ⟨rfl,hb⟩;replace HB:=zT HB hb)
  |((with_reducible refine(CNc.out _).mono ?_);rintro e wx ⟨rfl,hb⟩;replace HB:=zT HB hb)
  |((with_reducible refine(CG.out _).mono ?_);rintro e wx ⟨A5,gx,rfl,ho,hb⟩;have dg:=zh (aM ho HB.out.size);clear ho;replace HB:=zT HB hb));clear hb c0 c1 c2 c3 c4 c5 c6 c7 c8 c9 lc ld lf c13 lg lh;obtain⟨c0,c1,c2,c3,c4,c5,c6,c7,c8,c9,lc,ld,lf,c13,lg,lh⟩:=ap.out _ HB.out)
 go_ret
 exact⟨A5,gx,rfl,aM dg.out af.out.size,zU af.out HB.out⟩
theorem rspan_r0(P Q:Option Addr)(v:Say)(a b:Cor)(g:List RTok)(w:World)(x y:Int)(n m:Nat)(t1 t2 tc:RTok)(hg:g=[t1]++[tc]++[t2])(f8:tc=tk 5 [58])(hK1:∀ W,Calls Tryz.prog 146 #[.agg #[.pointer P,.pointer Q,vI v.r,vI v.c],vI (n:Int),.bool a.fc] W fun e w'=>TkO W w' e [t1])(tu:∀ W,Calls Tryz.prog 146 #[.agg #[.pointer P,.pointer Q,vI v.r,vI v.c],vI (m:Int),.bool b.fc] W fun e w'=>TkO W w' e [t2])
  (kl:SpE P a.row b.row x y w) (np:SpE Q a.col b.col (n:Int) (m:Int) w) (nr:SpN a.row true) (la:SpN a.col false) :
  Calls Tryz.prog 83 #[.agg #[.pointer P,.pointer Q,vI v.r,vI v.c],.agg #[vI a.row.a,vI a.row.n,vI a.col.a,vI a.col.n,.bool a.fr,.bool a.fc],.agg #[vI b.row.a,vI b.row.n,vI b.col.a,vI b.col.n,.bool b.fr,.bool b.fc]] w fun e w'=>TkO w w' e g:=by
 obtain⟨W0,aj,af,ap⟩:=iJ P Q v a b w;have CE1:=zh kl;have CE2:=zh np;have CNr:=zh nr;have CNc:=zh la;have HB:Hid (Below W0.heap.size W0 W0):=zh zB;clear kl np nr la;have CKc:Hid (∀ W,Calls Tryz.prog 82 #[vI 5,vS #[58]] W fun e w'=>TkO W w' e [tc]):=zh (fun W=>by rw[f8];exact aS 5 [58] W);have CK1:=zh hK1;have CK2:=zh tu;subst hg;clear hK1 tu f8;have ol:¬ (n:Int)<0:=by omega
 go_in
 go_upto_region 1 with fail
 rw[<- aj.out];clear aj;obtain⟨c0,c1,c2,c3,c4,c5,c6,c7,c8,c9,lc,ld,lf,c13,lg,lh⟩:=ap.out _ HB.out
 go_wp2_with ((first
  |((with_reducible refine(CE1.out _ (zU af.out HB.out)).mono ?_);rintro e wx ⟨rfl,hb⟩;replace HB:=zT HB hb)
  |((with_reducible refine(CE2.out _ (zU af.out HB.out)).mono ?_);rintro e wx ⟨rfl,hb⟩;replace HB:=zT HB hb)
  |((with_reducible refine(CNr.out _).mono ?_);rintro e wx ⟨rfl,hb⟩;replace HB:=zT HB hb)
  |((with_reducible refine(CNc.out _).mono ?_);rintro e wx ⟨rfl,hb⟩;replace HB:=zT HB hb)
  |((with_reducible refine(CK1.out _).mono ?_);rintro e wx ⟨A1,ly,rfl,ho,hb⟩;have b7:=zh (aM ho HB.out.size);clear ho;replace HB:=zT HB hb)
  |((with_reducible refine(CK2.out _).mono ?_);rintro e wx ⟨A2,ot,rfl,ho,hb⟩;have HD:=zh (fun g (h2:(Value.slice A2 ([t2]:List RTok).length ot).ownBlock=some g) (h1:(Value.slice A1 ([t1]:List RTok).length ly).ownBlock=some g)=>(absurd (b7.out.lt g h1).2 (Nat.not_lt.2 (ho.lt g h2).1):False));have ej:=zh (aM ho HB.out.size);replace b7:=zh (aD hb b7.out);clear ho;replace HB:=zT HB hb)
  |((with_reducible refine(CKc.out _).mono ?_);rintro e wx ⟨A3,cc3,rfl,ho,hb⟩;have jf:=zh (aM ho HB.out.size);replace b7:=zh (aD hb b7.out);replace ej:=zh (aD hb ej.out);clear ho;replace HB:=zT HB hb)
  |(at_builtin;refine aU rfl _ _ rfl W0.heap.size W0.heap.size _ _ [t1] [tc] rfl b7.out rfl jf.out (by simp) HB.out.size ?_;intro A4 ql w4 k4 g4;have jh:=zh k4;replace ej:=zh (pD ej.out g4 HD.out);have hb:=aO b7.out g4 HB.out.size;clear k4 g4;replace HB:=zh (HB.out.trans hb))
  |(at_builtin;refine aU rfl _ _ rfl W0.heap.size W0.heap.size _ _ ([t1]++[tc]) [t2] rfl jh.out rfl ej.out (by simp) HB.out.size ?_;intro A5 gx w5 k5 g5;have dg:=zh k5;have hb:=aO jh.out g5 HB.out.size;clear k5 g5;replace HB:=zh (HB.out.trans hb)));clear hb c0 c1 c2 c3 c4 c5 c6 c7 c8 c9 lc ld lf c13 lg lh;obtain⟨c0,c1,c2,c3,c4,c5,c6,c7,c8,c9,lc,ld,lf,c13,lg,lh⟩:=ap.out _ HB.out)
 go_ret
 exact⟨A5,gx,rfl,aM dg.out af.out.size,zU af.out HB.out⟩
theorem rspan_c0(P Q:Option Addr)(v:Say)(a b:Cor)(g:List RTok)(w:World)(x y:Int)(n m:Nat)(t1 t2 tc:RTok)(hg:g=[t1]++[tc]++[t2])(f8:tc=tk 5 [58])(hK1:∀ W,Calls Tryz.prog 147 #[.agg #[.pointer P,.pointer Q,vI v.r,vI v.c],vI (n:Int),.bool a.fr] W fun e w'=>TkO W w' e [t1])(tu:∀ W,Calls Tryz.prog 147 #[.agg #[.pointer P,.pointer Q,vI v.r,vI v.c],vI (m:Int),.bool b.fr] W fun e w'=>TkO W w' e [t2])
  (kl:SpE P a.row b.row (n:Int) (m:Int) w) (np:SpE Q a.col b.col x y w) (nr:SpN a.row false) (la:SpN a.col true) :
  Calls Tryz.prog 83 #[.agg #[.pointer P,.pointer Q,vI v.r,vI v.c],.agg #[vI a.row.a,vI a.row.n,vI a.col.a,vI a.col.n,.bool a.fr,.bool a.fc],.agg #[vI b.row.a,vI b.row.n,vI b.col.a,vI b.col.n,.bool b.fr,.bool b.fc]] w fun e w'=>TkO w w' e g:=by
 obtain⟨W0,aj,af,ap⟩:=iJ P Q v a b w;have CE1:=zh kl;have CE2:=zh np;have CNr:=zh nr;have CNc:=zh la;have HB:Hid (Below W0.heap.size W0 W0):=zh zB;clear kl np nr la;have CKc:Hid (∀ W,Calls Tryz.prog 82 #[vI 5,vS #[58]] W fun e w'=>TkO W w' e [tc]):=zh (fun W=>by rw[f8];exact aS 5 [58] W);have CK1:=zh hK1;have CK2:=zh tu;subst hg;clear hK1 tu f8;have ol:¬ (n:Int)<0:=by omega
 go_in
 go_upto_region 1 with fail
 rw[<- aj.out];clear aj;obtain⟨c0,c1,c2,c3,c4,c5,c6,c7,c8,c9,lc,ld,lf,c13,lg,lh⟩:=ap.out _ HB.out
 go_wp2_with ((first
  |((with_reducible refine(CE1.out _ (zU af.out HB.out)).mono ?_);rintro e wx ⟨rfl,hb⟩;replace HB:=zT HB hb)
  |((with_reducible refine(CE2.out _ (zU af.out HB.out)).mono ?_);rintro e wx ⟨rfl,hb⟩;replace HB:=zT HB hb)
  |((with_reducible refine(CNr.out _).mono ?_);rintro e wx ⟨rfl,hb⟩;replace HB:=zT HB hb)
  |((with_reducible refine(CNc.out _).mono ?_);rintro e wx ⟨rfl,hb⟩;replace HB:=zT HB hb)
  |((with_reducible refine(CK1.out _).mono ?_);rintro e wx ⟨A1,ly,rfl,ho,hb⟩;have b7:=zh (aM ho HB.out.size);clear ho;replace HB:=zT HB hb)
  |((with_reducible refine(CK2.out _).mono ?_);rintro e wx ⟨A2,ot,rfl,ho,hb⟩;have HD:=zh (fun g (h2:(Value.slice A2 ([t2]:List RTok).length ot).ownBlock=some g) (h1:(Value.slice A1 ([t1]:List RTok).length ly).ownBlock=some g)=>(absurd (b7.out.lt g h1).2 (Nat.not_lt.2 (ho.lt g h2).1):False));have ej:=zh (aM ho HB.out.size);replace b7:=zh (aD hb b7.out);clear ho;replace HB:=zT HB hb)
  |((with_reducible refine(CKc.out _).mono ?_);rintro e wx ⟨A3,cc3,rfl,ho,hb⟩;have jf:=zh (aM ho HB.out.size);replace b7:=zh (aD hb b7.out);replace ej:=zh (aD hb ej.out);clear ho;replace HB:=zT HB hb)
  |(at_builtin;refine aU rfl _ _ rfl W0.heap.size W0.heap.size _ _ [t1] [tc] rfl b7.out rfl jf.out (by simp) HB.out.size ?_;intro A4 ql w4 k4 g4;have jh:=zh k4;replace ej:=zh (pD ej.out g4 HD.out);have hb:=aO b7.out g4 HB.out.size;clear k4 g4;replace HB:=zh (HB.out.trans hb))
  |(at_builtin;refine aU rfl _ _ rfl W0.heap.size W0.heap.size _ _ ([t1]++[tc]) [t2] rfl jh.out rfl ej.out (by simp) HB.out.size ?_;intro A5 gx w5 k5 g5;have dg:=zh k5;have hb:=aO jh.out g5 HB.out.size;clear k5 g5;replace HB:=zh (HB.out.trans hb)));clear hb c0 c1 c2 c3 c4 c5 c6 c7 c8 c9 lc ld lf c13 lg lh;obtain⟨c0,c1,c2,c3,c4,c5,c6,c7,c8,c9,lc,ld,lf,c13,lg,lh⟩:=ap.out _ HB.out)
 go_ret
 exact⟨A5,gx,rfl,aM dg.out af.out.size,zU af.out HB.out⟩
theorem rspan_b(P Q:Option Addr)(v:Say)(a b:Cor)(g:List RTok)(w:World)(n m k l:Nat)(t1 t2 tc:RTok)(hg:g=[t1]++[tc]++[t2])(f8:tc=tk 5 [58])(hK1:∀ W,Calls Tryz.prog 81 #[.agg #[.pointer P,.pointer Q,vI v.r,vI v.c],.agg #[vI (n:Int),vI (k:Int),.bool a.fr,.bool a.fc]] W fun e w'=>TkO W w' e [t1])(tu:∀ W,Calls Tryz.prog 81 #[.agg #[.pointer P,.pointer Q,vI v.r,vI v.c],.agg #[vI (m:Int),vI (l:Int),.bool b.fr,.bool b.fc]] W fun e w'=>TkO W w' e [t2])
  (kl:SpE P a.row b.row (n:Int) (m:Int) w) (np:SpE Q a.col b.col (k:Int) (l:Int) w) (nr:SpN a.row false) (la:SpN a.col false) :
  Calls Tryz.prog 83 #[.agg #[.pointer P,.pointer Q,vI v.r,vI v.c],.agg #[vI a.row.a,vI a.row.n,vI a.col.a,vI a.col.n,.bool a.fr,.bool a.fc],.agg #[vI b.row.a,vI b.row.n,vI b.col.a,vI b.col.n,.bool b.fr,.bool b.fc]] w fun e w'=>TkO w w' e g:=by
 obtain⟨W0,aj,af,ap⟩:=iJ P Q v a b w;have CE1:=zh kl;have CE2:=zh np;have CNr:=zh nr;have CNc:=zh la;have HB:Hid (Below W0.heap.size W0 W0):=zh zB;clear kl np nr la;have CKc:Hid (∀ W,Calls Tryz.prog 82 #[vI 5,vS #[58]] W fun e w'=>TkO W w' e [tc]):=zh (fun W=>by rw[f8];exact aS 5 [58] W);have CK1:=zh hK1;have CK2:=zh tu;subst hg;clear hK1 tu f8;have ol:¬ (n:Int)<0:=by omega
 have gy:¬ (k:Int)<0:=by omega
 go_in
 go_upto_region 1 with fail
 rw[<- aj.out];clear aj;obtain⟨c0,c1,c2,c3,c4,c5,c6,c7,c8,c9,lc,ld,lf,c13,lg,lh⟩:=ap.out _ HB.out
 go_wp2_with ((first
  |((with_reducible refine(CE1.out _ (zU af.out HB.out)).mono ?_);rintro e wx ⟨rfl,hb⟩;replace HB:=zT HB hb)
  |((with_reducible refine(CE2.out _ (zU af.out HB.out)).mono ?_);rintro e wx ⟨rfl,hb⟩;replace HB:=zT HB hb)
  |((with_reducible refine(CNr.out _).mono ?_);rintro e wx ⟨rfl,hb⟩;replace HB:=zT HB hb)
  |((with_reducible refine(CNc.out _).mono ?_);rintro e wx ⟨rfl,hb⟩;replace HB:=zT HB hb)
  |((with_reducible refine(CK1.out _).mono ?_);rintro e wx ⟨A1,ly,rfl,ho,hb⟩;have b7:=zh (aM ho HB.out.size);clear ho;replace HB:=zT HB hb)
  |((with_reducible refine(CK2.out _).mono ?_);rintro e wx ⟨A2,ot,rfl,ho,hb⟩;have HD:=zh (fun g (h2:(Value.slice A2 ([t2]:List RTok).length ot).ownBlock=some g) (h1:(Value.slice A1 ([t1]:List RTok).length ly).ownBlock=some g)=>(absurd (b7.out.lt g h1).2 (Nat.not_lt.2 (ho.lt g h2).1):False));have ej:=zh (aM ho HB.out.size);replace b7:=zh (aD hb b7.out);clear ho;replace HB:=zT HB hb)
  |((with_reducible refine(CKc.out _).mono ?_);rintro e wx ⟨A3,cc3,rfl,ho,hb⟩;have jf:=zh (aM ho HB.out.size);replace b7:=zh (aD hb b7.out);replace ej:=zh (aD hb ej.out);clear ho;replace HB:=zT HB hb)
  |(at_builtin;refine aU rfl _ _ rfl W0.heap.size W0.heap.size _ _ [t1] [tc] rfl b7.out rfl jf.out (by simp) HB.out.size ?_;intro A4 ql w4 k4 g4;have jh:=zh k4;replace ej:=zh (pD ej.out g4 HD.out);have hb:=aO b7.out g4 HB.out.size;clear k4 g4;replace HB:=zh (HB.out.trans hb))
  |(at_builtin;refine aU rfl _ _ rfl W0.heap.size W0.heap.size _ _ ([t1]++[tc]) [t2] rfl jh.out rfl ej.out (by simp) HB.out.size ?_;intro A5 gx w5 k5 g5;have dg:=zh k5;have hb:=aO jh.out g5 HB.out.size;clear k5 g5;replace HB:=zh (HB.out.trans hb)));clear hb c0 c1 c2 c3 c4 c5 c6 c7 c8 c9 lc ld lf c13 lg lh;obtain⟨c0,c1,c2,c3,c4,c5,c6,c7,c8,c9,lc,ld,lf,c13,lg,lh⟩:=ap.out _ HB.out)
 go_ret
 exact⟨A5,gx,rfl,aM dg.out af.out.size,zU af.out HB.out⟩
theorem uGD(p q:Option Nat)(R C:AxV)(v:Say)(a b:Cor)(w:World)(hR:AxQ w p R)(hC:AxQ w q C)(hv:v.ok)(hab:¬ (a.row=id0/\a.col=id0)) :
  Calls Tryz.prog 83 #[tT p q v,.agg (kL a),.agg (kL b)] w fun e w'=>TkO w w' e (gF v R C a b):=by
 have E1:=fun W h=>vN p R a.row b.row W (hR.next h)
 have E2:=fun W h=>vN q C a.col b.col W (hC.next h)
 have N1:=fun W=>vW a.row W
 have N2:=fun W=>vW a.col W
 by_cases hr:a.row=id0
 ·have hc:a.col≠id0:=fun h=>hab ⟨hr,h⟩
  rw[decide_eq_true hr]at N1;rw[decide_eq_false hc]at N2;obtain⟨x,y,exy⟩:=kV (cO R a.row b.row);rw[exy]at E1;rcases cI hC.av a.col b.col with h|⟨n,m,hn,hm,h⟩
  ·rw[h]at E2;refine uGH (ptr p) (ptr q) v a b _ w x y ?_ E1 E2 N1 N2;unfold gF;rw[if_pos hr,h]
  rw[h]at E2;refine rspan_r0 (ptr p) (ptr q) v a b _ w x y n m (cW v n a.fc) (cW v m b.fc) (tk 5 [58]) ?_ rfl (fun W=>qM p q v n a.fc W (by omega) hv) (fun W=>qM p q v m b.fc W (by omega) hv) E1 E2 N1 N2;unfold gF;rw[if_pos hr,h];rfl
 rw[decide_eq_false hr]at N1;by_cases hc:a.col=id0
 ·rw[decide_eq_true hc]at N2;obtain⟨x,y,exy⟩:=kV (cO C a.col b.col);rw[exy]at E2;rcases cI hR.av a.row b.row with h|⟨n,m,hn,hm,h⟩
  ·rw[h]at E1;refine uGG (ptr p) (ptr q) v a b _ w x y ?_ E1 E2 N1 N2;unfold gF;rw[if_neg hr,if_pos hc,h]
  rw[h]at E1;refine rspan_c0 (ptr p) (ptr q) v a b _ w x y n m (cX v n a.fr) (cX v m b.fr) (tk 5 [58]) ?_ rfl (fun W=>zH p q v n a.fr W (by omega) hv) (fun W=>zH p q v m b.fr W (by omega) hv) E1 E2 N1 N2;unfold gF;rw[if_neg hr,if_pos hc,h];rfl
 rw[decide_eq_false hc]at N2;rcases cI hR.av a.row b.row with h|⟨n,m,hn,hm,h⟩
 ·rw[h]at E1;obtain⟨x,y,exy⟩:=kV (cO C a.col b.col);rw[exy]at E2;refine uGE (ptr p) (ptr q) v a b _ w x y ?_ E1 E2 N1 N2;unfold gF;rw[if_neg hr,if_neg hc,h]
 rw[h]at E1;rcases cI hC.av a.col b.col with h'|⟨k,l,hk,hl,h'⟩
 ·rw[h']at E2;refine uGF (ptr p) (ptr q) v a b _ w n m ?_ E1 E2 N1 N2;unfold gF;rw[if_neg hr,if_neg hc,h,h']
 rw[h']at E2;refine rspan_b (ptr p) (ptr q) v a b _ w n m k l (cE v n k a.fr a.fc) (cE v m l b.fr b.fc) (tk 5 [58]) ?_ rfl (fun W=>pL p q v n k a.fr a.fc W (by omega) (by omega) hv) (fun W=>pL p q v m l b.fr b.fc W (by omega) (by omega) hv) E1 E2 N1 N2;unfold gF;rw[if_neg hr,if_neg hc,h,h'];rfl
theorem dJ{ops:Array Oper}{o:Oper}{a:Act}{w:World}{K:Act->World->Prop}{Q:Exit->Act->World->Prop}{E:Prop}(pr:o.guard=none)(s x:Operand)(ho:o.op=.call { callee:=.builtin .append,args:=#[s,x],argTypes:=#[81,81] })
  (base b2:Nat) (v1 v2:Value) (lk fd:List RTok) (hs:a.eval s=v1) (ct:w.ownsRow base 85 3 v1 lk.length (cN lk)) (hx:a.eval x=v2) (ik:w.ownsRow b2 85 3 v2 fd.length (cN fd)) (hn:lk.length+fd.length<=1000000) (du:base<=w.heap.size)
  (h:∀ A' c' w',w'.ownsRow base 85 3 (.slice A' (lk++fd).length c') (lk++fd).length (cN (lk++fd))->w.grownBy w' v1.ownBlock->K (a.put o.dst (.slice A' (lk++fd).length c')) w') :
  if Region.wanted o (yielded ops a.tmps)=true then Oper.wp Tryz.prog o a w K Q else E:=by
 have hw:Region.wanted o (yielded ops a.tmps)=true:=by simp[Region.wanted,pr]
 rw[if_pos hw];obtain⟨i1,gi,gz0,gz1,gz2⟩:=info_parts yC;have e1:=qR lk fd;have e2:(lk++fd).length=lk.length+fd.length:=yl;rcases ik.2 with⟨rfl,h0⟩|⟨g,cap,cur,rfl,hb,hh,dv,im,rv,hc4⟩
 ·have pz:fd=[]:=List.eq_nil_of_length_eq_zero h0;subst pz;rw[List.append_nil]at h;obtain⟨A',c',rfl⟩:=aV ct;have o4:=run_append_owned_none (P:=Tryz.prog) (w:=w) base 81 o.type 85 i1 3 Tryz.underlying81 gi _ _ _ ct;unfold Oper.wp;simp[execOp,ho,resolve,invoke,builtin,hs,hx,o4,Result.andThen];exact h A' c' w ct ⟨rfl,rfl,rfl,zr,fun _ _ _=>rfl⟩
 refine wp_append_own (P:=Tryz.prog) w s x 81 ho base 85 i1 (.agg #[vI 0,vS #[],vI 0]) 3 32 Tryz.underlying81 gi gz0 gz1 gz2 rfl (by decide) v1 lk.length (cN lk) hs ct ⟨g,0,none⟩ fd.length cap (cN fd) hx (zC fd) (fun j u hj=>ik.cells (g:=g) rfl j u hj) (zG fd) (by unfold maxLen;omega) (by omega) du (fun v' w' k1 k2 _=>?_);rw[<- e1,<- e2]at k1;obtain⟨A',c',rfl⟩:=aV k1;exact h A' c' w' k1 k2
theorem rlit_pos(m e:Int)(w:World)(hR:bI m e=true)(h0:0<=m) :
  Calls Tryz.prog 79 #[.agg #[vI 1,vI m,vI e,vS #[],.bool false,vI 0]] w fun x w'=>TkO w w' x [tk 1 (bL m e)]:=by
 obtain⟨h1,h2⟩:=fR hR;have af:Hid (Below w.heap.size w (w.alloc (.cells #[vI 1,vI m,vI e,vS #[],.bool false,vI 0] 25))):=zh ((Below.refl _ w).alloc zr _);have CT:=zh (fun W=>kA m e W h1 h2 hR);have CK:Hid (∀ W,Calls Tryz.prog 82 #[vI 1,vT (bL m e)] W fun x w'=>TkO W w' x [tk 1 (bL m e)]):=zh (fun W=>aS 1 _ W);have hn:¬ m<0:=by omega
 generalize [tk 1 (bL m e)]=g at *;generalize bL m e=T at *;clear hR h1 h2
 go_in
 go_wp2_with fail
 refine(CT.out _).mono ?_;rintro x W2 ⟨rfl,hb2⟩;have aw:=zT af hb2;clear hb2
 go_wp2_with fail
 refine(CK.out _).mono ?_;rintro x W3 ⟨A,c,rfl,ho,bv⟩;have HO:=zh (aM ho aw.out.size);have bf:=zT aw bv;clear ho bv
 go_wp2_with fail
 go_ret
 exact⟨A,c,rfl,HO.out,bf.out⟩
theorem uGB(t:Bs)(w:World) :
  Calls Tryz.prog 79 #[.agg #[vI 2,vI 0,vI 0,vT t,.bool false,vI 0]] w fun x w'=>TkO w w' x [tk 2 t]:=by
 have aw:Hid (Below w.heap.size w (w.alloc (.cells #[vI 2,vI 0,vI 0,vT t,.bool false,vI 0] 25))):=zh ((Below.refl _ w).alloc zr _);have CK:Hid (∀ W,Calls Tryz.prog 82 #[vI 2,vT t] W fun x w'=>TkO W w' x [tk 2 t]):=zh (fun W=>aS 2 _ W);generalize [tk 2 t]=g at *
 go_in
 go_wp2_with fail
 refine(CK.out _).mono ?_;rintro x W3 ⟨A,c,rfl,ho,bv⟩;have HO:=zh (aM ho aw.out.size);have bf:=zT aw bv;clear ho bv
 go_wp2_with fail
 go_ret
 exact⟨A,c,rfl,HO.out,bf.out⟩
theorem uCH(f:Int)(w:World) :
  Calls Tryz.prog 79 #[.agg #[vI 4,vI 0,vI 0,vS #[],.bool false,vI f]] w fun x w'=>TkO w w' x [tk 6 (aY f)]:=by
 have af:Hid (Below w.heap.size w (w.alloc (.cells #[vI 4,vI 0,vI 0,vS #[],.bool false,vI f] 25))):=zh ((Below.refl _ w).alloc zr _);have CT:=zh (fun W=>tH f W);have CK:Hid (∀ W,Calls Tryz.prog 82 #[vI 6,vT (aY f)] W fun x w'=>TkO W w' x [tk 6 (aY f)]):=zh (fun W=>aS 6 _ W);generalize [tk 6 (aY f)]=g at *;generalize aY f=T at *
 go_in
 go_wp2_with fail
 refine(CT.out _).mono ?_;rintro x W2 ⟨rfl,hb2⟩;have aw:=zT af hb2;clear hb2
 go_wp2_with fail
 refine(CK.out _).mono ?_;rintro x W3 ⟨A,c,rfl,ho,bv⟩;have HO:=zh (aM ho aw.out.size);have bf:=zT aw bv;clear ho bv
 go_wp2_with fail
 go_ret
 exact⟨A,c,rfl,HO.out,bf.out⟩
theorem uCI(b:Bool)(w:World) :
  Calls Tryz.prog 79 #[.agg #[vI 3,vI 0,vI 0,vS #[],.bool b,vI 0]] w fun x w'=>TkO w w' x [tk 3 (if b then lP else noB)]:=by
 have af:Hid (Below w.heap.size w (w.alloc (.cells #[vI 3,vI 0,vI 0,vS #[],.bool b,vI 0] 25))):=zh ((Below.refl _ w).alloc zr _);have CT:Hid (∀ W,Calls Tryz.prog 116 #[.agg #[vI 3,vI 0,vI 0,vS #[],.bool b,vI 0]] W fun x w'=>x=.returned (.tuple #[vT (if b then lP else noB),vI 0])/\Below W.heap.size W w'):=zh (fun W=>by
  have h:=uI ⟨3,0,0,[],b,0⟩ W (by cases b <;> decide);exact h)
 have CK:Hid (∀ W,Calls Tryz.prog 82 #[vI 3,vT (if b then lP else noB)] W fun x w'=>TkO W w' x [tk 3 (if b then lP else noB)]):=zh (fun W=>aS 3 _ W);generalize [tk 3 (if b then lP else noB)]=g at *;generalize (if b then lP else noB)=T at *
 go_in
 go_wp2_with fail
 refine(CT.out _).mono ?_;rintro x W2 ⟨rfl,hb2⟩;have aw:=zT af hb2;clear hb2
 go_wp2_with fail
 refine(CK.out _).mono ?_;rintro x W3 ⟨A,c,rfl,ho,bv⟩;have HO:=zh (aM ho aw.out.size);have bf:=zT aw bv;clear ho bv
 go_wp2_with fail
 go_ret
 exact⟨A,c,rfl,HO.out,bf.out⟩
theorem rlit_neg(m e:Int)(w:World)(hR:bI m e=true)(h0:m<0) :
  Calls Tryz.prog 79 #[.agg #[vI 1,vI m,vI e,vS #[],.bool false,vI 0]] w fun x w'=>TkO w w' x [tk 5 [45],tk 1 (bL (-m) e)]:=by
 have vn:=vV m e hR;obtain⟨h1,h2⟩:=fR vn;have hm:=(gQ hR (by omega)).1;obtain⟨W0,ak⟩:∃ W0,W0=(w.alloc (.cells #[vI 1,vI m,vI e,vS #[],.bool false,vI 0] 25)).alloc (.cells #[vI (-m),vI e] 23):=⟨_,rfl⟩
 have aj:=zh ak;have af:Hid (Below w.heap.size w W0):=zh (by rw[ak];exact((Below.refl _ w).alloc zr _).alloc (by rw[World.size_alloc];omega) _);have oj:Hid (Lies W0 (w.heap.size+1) 23 #[vI (-m),vI e]):=zh (by
  rw[ak];have h:=Lies.new (w.alloc (.cells #[vI 1,vI m,vI e,vS #[],.bool false,vI 0] 25)) 23 #[vI (-m),vI e];rw[World.size_alloc]at h;exact h)
 have ap:Hid (∀ W,Below W0.heap.size W0 W->W.cell? ⟨w.heap.size+1,0,none⟩=some (vI (-m))/\W.cell? ⟨w.heap.size+1,1,none⟩=some (vI e)/\Below W0.heap.size W0 W):=zh (fun W h=>⟨(oj.out.next h).cell 0,(oj.out.next h).cell 1,h⟩);have CT:Hid (∀ W,Calls Tryz.prog 142 #[.agg #[vI (-m),vI e]] W fun x w'=>x=.returned (vT (bL (-m) e))/\Below W.heap.size W w'):=zh (fun W=>kA (-m) e W h1 h2 vn);obtain⟨t1,l9⟩:=zD (tk 5 [45])
 obtain⟨t2,oy⟩:=zD (tk 1 (bL (-m) e))
 have C1:Hid (∀ W,Calls Tryz.prog 82 #[vI 5,vS #[45]] W fun x w'=>TkO W w' x [t1]):=zh (fun W=>by rw[l9];exact aS 5 [45] W);have C2:Hid (∀ W,Calls Tryz.prog 82 #[vI 1,vT (bL (-m) e)] W fun x w'=>TkO W w' x [t2]):=zh (fun W=>by rw[oy];exact aS 1 _ W);rw[<- l9,<- oy];have vr:IntKind.i64.wrap (0-m)=-m:=by rw[IntWalk.i64_in _ (by omega)];omega
 have hw2:IntKind.i64.wrap (-m)=-m:=IntWalk.i64_in _ (by omega);generalize bL (-m) e=T at *;clear hR vn h1 h2 hm ak l9 oy
 go_in
 go_upto_region 4 with fail
 rw[<- aj.out];clear vr hw2 aj;obtain⟨c0,c1,hB⟩:=ap.out _ zB
 go_cut [2] (fun v wx=>∃ A c,v=.slice A 2 c/\Hid (wx.ownsRow w.heap.size 85 3 (.slice A 2 c) 2 (cN [t1,t2]))/\Hid (Below w.heap.size w wx))
 case first=>
  go_region_held3 (fun w'=>w'.cell? ⟨w.heap.size+1,0,none⟩=some (vI (-m))/\w'.cell? ⟨w.heap.size+1,1,none⟩=some (vI e)/\Below W0.heap.size W0 w')
   (first|exact ap.out _ zB|exact ap.out _ zB.drew |(go_split_ands;exact ap.out _ (Below.trans (by assumption) (Below.mono hb (Below.size (by assumption))))) |(go_split_ands;exact ap.out _ (Below.trans (by assumption) hbA))|assumption)
   (first
    |(go_at_call 142;(with_reducible refine(CT.out _).mono ?_);rintro x wx ⟨rfl,hb⟩;have b7:=zh (aD hb b7.out))
    |(go_at_call 82;(with_reducible refine(C1.out _).mono ?_);rintro x wx ⟨A1,ly,rfl,ho,hb⟩;have b7:Hid (World.ownsRow _ W0.heap.size _ _ _ _ _):=zh (aM ho (by first|exact Below.size (by assumption) |(go_split_ands;exact Below.size (by assumption)))))
    |(go_at_call 82;(with_reducible refine(C2.out _).mono ?_);rintro x wx ⟨A2,ot,rfl,ho,hb⟩;have ej:Hid (World.ownsRow _ W0.heap.size _ _ _ _ _):=zh (aM ho (by first|exact Below.size (by assumption) |(go_split_ands;exact Below.size (by assumption))));have b7:=zh (aD hb b7.out))
    |(refine dJ rfl _ _ rfl W0.heap.size W0.heap.size _ _ [t1] [t2] rfl b7.out rfl ej.out (by simp) (by first|exact Below.size (by assumption) |(go_split_ands;exact Below.size (by assumption))) ?_;intro A5 gx w5 k5 g5;have dg:=zh k5;have hbA:=aO b7.out g5 (by first|exact Below.size (by assumption) |(go_split_ands;exact Below.size (by assumption)))))
  all_goals go_wp2_with fail
  all_goals go_meet
  all_goals refine⟨_,_,rfl,zh (aM dg.out af.out.size),zh ?_⟩
  all_goals (go_split_ands;exact af.out.trans (Below.mono (by assumption) af.out.size))
 case rest=>
 obtain⟨A,c,rfl,ho,hb⟩:=hcut
 go_wp2_with fail
 go_ret
 exact⟨A,c,rfl,ho.out,hb.out⟩
theorem xD(v:Val)(w:World)(hR:aW v=true)(h0:v.kind≠0) :
  Calls Tryz.prog 79 #[iK v] w fun x w'=>TkO w w' x (jT v):=by
 rcases lI v hR with rfl|⟨m,e,rfl,h⟩|⟨t,rfl,h⟩|⟨b,rfl⟩|⟨f,rfl,h1,h2⟩
 ·exact absurd rfl h0
 ·by_cases hm:m<0
  ·have e1:jT ⟨1,m,e,[],false,0⟩=[tk 5 [45],tk 1 (bL (-m) e)]:=by unfold jT;rw[if_pos rfl,if_pos hm]
   rw[e1];exact rlit_neg m e w h hm
  have e1:jT ⟨1,m,e,[],false,0⟩=[tk 1 (bL m e)]:=by unfold jT;rw[if_pos rfl,if_neg hm]
  rw[e1];exact rlit_pos m e w h (by omega)
 ·exact uGB t w
 ·exact uCI b w
 exact uCH f w
def pB(h:NodeH):Int:=if h.kind=6 then bE h.name else if h.kind=5 then if h.name=[37] then 7 else 6 else 8
theorem mX(t:Tree):bP t=pB t.h:=rfl
theorem kB(h:NodeH)(A:Option Addr)(n c:Nat)(Cn:List Value)(w:World)(ah:Hid (Cn.toArray=aK h A n c)) :
  Calls Tryz.prog 86 #[.agg Cn.toArray] w fun e w'=>e=.returned (vI (pB h))/\Below w.heap.size w w':=by
 obtain⟨W1,an⟩:=zD (w.alloc (.cells Cn.toArray 34))
 have am:=zh an;have HL:=zL an;have HB:=zA an;have c0:=HL.out.cell 0;have c7:=HL.out.cell 7;rw[ah.out]at c0 c7;obtain⟨k,v,s,a,b,r⟩:=h;simp only[aK,za,zb,zf]at c0 c7;obtain⟨x,hx⟩:=zD (pB ⟨k,v,s,a,b,r⟩)
 have HX:=zh hx;rw[<- hx];clear an hx ah;by_cases h6:k=6
 ·subst h6;have e6:pB ⟨6,v,s,a,b,r⟩=bE s:=rfl;rw[e6]at HX;by_cases s1:s=[38]
  ·subst s1;have HE:Hid (x=2):=zh (HX.out.trans rfl);clear HX
   go_in
   go_upto_region 1 with fail
   rw[<- am.out];clear am
   go_wp2_with fail
   go_ret
   exact⟨by(rw[HE.out]) <;> rfl,HB.out⟩
  by_cases s2:s=[43]
  ·subst s2;have HE:Hid (x=3):=zh (HX.out.trans rfl);clear HX
   go_in
   go_upto_region 1 with fail
   rw[<- am.out];clear am
   go_wp2_with fail
   go_ret
   exact⟨by(rw[HE.out]) <;> rfl,HB.out⟩
  by_cases s3:s=[45]
  ·subst s3;have HE:Hid (x=3):=zh (HX.out.trans rfl);clear HX
   go_in
   go_upto_region 1 with fail
   rw[<- am.out];clear am
   go_wp2_with fail
   go_ret
   exact⟨by(rw[HE.out]) <;> rfl,HB.out⟩
  by_cases s4:s=[42]
  ·subst s4;have HE:Hid (x=4):=zh (HX.out.trans rfl);clear HX
   go_in
   go_upto_region 1 with fail
   rw[<- am.out];clear am
   go_wp2_with fail
   go_ret
   exact⟨by(rw[HE.out]) <;> rfl,HB.out⟩
  by_cases s5:s=[47]
  ·subst s5;have HE:Hid (x=4):=zh (HX.out.trans rfl);clear HX
   go_in
   go_upto_region 1 with fail
   rw[<- am.out];clear am
   go_wp2_with fail
   go_ret
   exact⟨by(rw[HE.out]) <;> rfl,HB.out⟩
  by_cases s6:s=[94]
  ·subst s6;have HE:Hid (x=5):=zh (HX.out.trans rfl);clear HX
   go_in
   go_upto_region 1 with fail
   rw[<- am.out];clear am
   go_wp2_with fail
   go_ret
   exact⟨by(rw[HE.out]) <;> rfl,HB.out⟩
  have HE:Hid (x=1):=zh (HX.out.trans (by unfold bE;rw[if_neg s1,if_neg (by simp[s2,s3]),if_neg (by simp[s4,s5]),if_neg s6]));have b1:(s==[38])=false:=by simp[s1]
  have b2:(s==[43])=false:=by simp[s2]
  have b3:(s==[45])=false:=by simp[s3]
  have b4:(s==[42])=false:=by simp[s4]
  have b5:(s==[47])=false:=by simp[s5]
  have b6:(s==[94])=false:=by simp[s6]
  clear HX
  go_in
  go_upto_region 1 with fail
  rw[<- am.out];clear am
  go_wp2_with fail
  go_ret
  exact⟨by(rw[HE.out]) <;> rfl,HB.out⟩
 by_cases h5:k=5
 ·subst h5;by_cases s1:s=[37]
  ·subst s1;have HE:Hid (x=7):=zh (HX.out.trans rfl);clear HX
   go_in
   go_upto_region 1 with fail
   rw[<- am.out];clear am
   go_wp2_with fail
   go_ret
   exact⟨by(rw[HE.out]) <;> rfl,HB.out⟩
  have HE:Hid (x=6):=zh (HX.out.trans (by unfold pB;rw[if_neg (by show ¬ (5:Int)=6;omega),if_pos rfl,if_neg s1]));have b1:(s==[37])=false:=by simp[s1]
  clear HX
  go_in
  go_upto_region 1 with fail
  rw[<- am.out];clear am
  go_wp2_with fail
  go_ret
  exact⟨by(rw[HE.out]) <;> rfl,HB.out⟩
 have HE:Hid (x=8):=zh (HX.out.trans (by unfold pB;rw[if_neg h6,if_neg h5]));have k6:(k==6)=false:=by simp[h6]
 have k5:(k==5)=false:=by simp[h5]
 clear HX
 go_in
 go_upto_region 1 with fail
 rw[<- am.out];clear am
 go_wp2_with fail
 go_ret
 exact⟨by(rw[HE.out]) <;> rfl,HB.out⟩
theorem Lies.rangeN{w:World}{b:Nat}{t:TypeId}{C:List Value}(h:Lies w b t C.toArray):w.rangeAt b 0 C:=by
 have:=h.range
 rwa [List.toList_toArray]at this
theorem uEC{C:List Value}{h:NodeH}{A:Option Addr}{n cp:Nat}(e:C.toArray=aK h A n cp):(Tryz.prog.info? 34).map (·.size)=some C.length:=by
 have h2:C.length=22:=by rw[<- yd,e];rfl
 rw[h2];exact bZ
theorem xF(P Q:Option Addr)(v:Say)(h:NodeH)(A:Option Addr)(n c:Nat)(Cn:List Value)(ah:Hid (Cn.toArray=aK h A n c))(ts:List RTok)(pz:ts.length<=900000)(f:Bool)(w:World)
  (hT:∀ W,Below w.heap.size w W->Calls Tryz.prog 36 #[.agg #[.pointer P,.pointer Q,vI v.r,vI v.c],.agg Cn.toArray] W fun e w'=>TkO W w' e ts) :
  Calls Tryz.prog 85 #[.agg #[.pointer P,.pointer Q,vI v.r,vI v.c],.agg Cn.toArray,.bool f] w fun e w'=>TkO w w' e (if f then tk 5 [40]::(ts++[tk 5 [41]]) else ts):=by
 obtain⟨W0,ak⟩:∃ W0,W0=(w.alloc (.cells #[.pointer P,.pointer Q,vI v.r,vI v.c] 84)).alloc (.cells Cn.toArray 34):=⟨_,rfl⟩
 have aj:=zh ak;have af:Hid (Below w.heap.size w W0):=zh (by rw[ak];exact((Below.refl _ w).alloc zr _).alloc (by rw[World.size_alloc];omega) _);have L0:Hid (Lies W0 w.heap.size 84 #[.pointer P,.pointer Q,vI v.r,vI v.c]):=zh (by rw[ak];exact(Lies.new w _ _).alloc _);have HL:Hid (Lies W0 (w.heap.size+1) 34 Cn.toArray):=zh (by
  rw[ak];have h:=Lies.new (w.alloc (.cells #[.pointer P,.pointer Q,vI v.r,vI v.c] 84)) 34 Cn.toArray;rw[World.size_alloc]at h;exact h)
 have HI:=zh (uEC ah.out);have ap:Hid (∀ W,Below W0.heap.size W0 W->W.cell? ⟨w.heap.size,0,none⟩=some (.pointer P)/\W.cell? ⟨w.heap.size,1,none⟩=some (.pointer Q)/\W.cell? ⟨w.heap.size,2,none⟩=some (vI v.r)/\W.cell? ⟨w.heap.size,3,none⟩=some (vI v.c)):=zh (fun W h=>⟨(L0.out.next h).cell 0,(L0.out.next h).cell 1,(L0.out.next h).cell 2,(L0.out.next h).cell 3⟩);have CT:Hid (∀ W,Below W0.heap.size W0 W->Calls Tryz.prog 36 #[.agg #[.pointer P,.pointer Q,vI v.r,vI v.c],.agg Cn.toArray] W fun e w'=>TkO W w' e ts):=zh (fun W h=>hT W (zU af.out h));have HB:Hid (Below W0.heap.size W0 W0):=zh zB;obtain⟨tp,htp⟩:∃ t1,t1=tk 5 [40]:=⟨_,rfl⟩
 obtain⟨tc,f8⟩:∃ t2,t2=tk 5 [41]:=⟨_,rfl⟩
 have C1:Hid (∀ W,Calls Tryz.prog 82 #[vI 5,vS #[40]] W fun x w'=>TkO W w' x [tp]):=zh (fun W=>by rw[htp];exact aS 5 [40] W);have C2:Hid (∀ W,Calls Tryz.prog 82 #[vI 5,vS #[41]] W fun x w'=>TkO W w' x [tc]):=zh (fun W=>by rw[f8];exact aS 5 [41] W);rw[<- htp,<- f8];have rx:=zh pz;clear ak ah hT htp f8 pz;cases f
 ·rw[if_neg (by decide)]
  go_in
  go_upto_region 1 with fail
  rw[<- aj.out];clear aj;obtain⟨c0,c1,c2,c3⟩:=ap.out _ HB.out
  go_wp2_with (first
   |(refine yr rfl 34 (.tmp 4) rfl (w.heap.size+1) 0 rfl Cn _ (HL.out.next HB.out).rangeN Tryz.underlying34 rfl HI.out ?_)
   |((with_reducible refine(CT.out _ HB.out).mono ?_);rintro e wx ⟨A1,ly,rfl,ho,hb⟩;have b7:=zh (aM ho HB.out.size);clear ho;replace HB:=zT HB hb;clear hb c0 c1 c2 c3;obtain⟨c0,c1,c2,c3⟩:=ap.out _ HB.out))
  go_ret
  exact⟨A1,ly,rfl,aM b7.out af.out.size,zU af.out HB.out⟩
 rw[if_pos rfl,show tp::(ts++[tc])=([tp]++ts)++[tc] by simp]
 go_in
 go_upto_region 1 with fail
 rw[<- aj.out];clear aj;obtain⟨c0,c1,c2,c3⟩:=ap.out _ HB.out
 go_wp2_with (first
  |(refine yr rfl 34 (.tmp 4) rfl (w.heap.size+1) 0 rfl Cn _ (HL.out.next HB.out).rangeN Tryz.underlying34 rfl HI.out ?_)
  |((with_reducible refine(C1.out _).mono ?_);rintro e wx ⟨A1,ly,rfl,ho,hb⟩;have b7:=zh (aM ho HB.out.size);clear ho;replace HB:=zT HB hb;clear hb c0 c1 c2 c3;obtain⟨c0,c1,c2,c3⟩:=ap.out _ HB.out)
  |((with_reducible refine(CT.out _ HB.out).mono ?_);rintro e wx ⟨A2,ot,rfl,ho,hb⟩;have ej:=zh (aM ho HB.out.size);replace b7:=zh (aD hb b7.out);clear ho;replace HB:=zT HB hb;clear hb c0 c1 c2 c3;obtain⟨c0,c1,c2,c3⟩:=ap.out _ HB.out)
  |(at_builtin;refine aU rfl _ _ rfl W0.heap.size W0.heap.size _ _ [tp] ts rfl b7.out rfl ej.out (by have:=rx.out;simp;omega) HB.out.size ?_;intro A4 ql w4 k4 g4;have jh:=zh k4;have hb:=aO b7.out g4 HB.out.size;clear k4 g4;replace HB:=zh (HB.out.trans hb);clear hb c0 c1 c2 c3;obtain⟨c0,c1,c2,c3⟩:=ap.out _ HB.out)
  |((with_reducible refine(C2.out _).mono ?_);rintro e wx ⟨A3,cc3,rfl,ho,hb⟩;have jf:=zh (aM ho HB.out.size);replace jh:=zh (aD hb jh.out);clear ho;replace HB:=zT HB hb;clear hb c0 c1 c2 c3;obtain⟨c0,c1,c2,c3⟩:=ap.out _ HB.out)
  |(at_builtin;refine aU rfl _ _ rfl W0.heap.size W0.heap.size _ _ ([tp]++ts) [tc] rfl jh.out rfl jf.out (by have:=rx.out;simp;omega) HB.out.size ?_;intro A5 gx w5 k5 g5;have dg:=zh k5;have hb:=aO jh.out g5 HB.out.size;clear k5 g5;replace HB:=zh (HB.out.trans hb);clear hb c0 c1 c2 c3;obtain⟨c0,c1,c2,c3⟩:=ap.out _ HB.out))
 go_ret
 exact⟨A5,gx,congrArg (fun k=>Ending.returned (.slice A5 k gx)) (by simp:ts.length+1+1=([tp]++ts++[tc]).length),aM dg.out af.out.size,zU af.out HB.out⟩
end Go.Proofs.YtjfihpaeglpblaaGreatDoor
