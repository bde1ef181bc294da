/-
  Lemmas, part 19: RrA RrB TokM RrC RrD RrE RrF RrG.
-/
import Derived.Test.YtjfihpaeglpblaaGreatDoorRs15
set_option maxHeartbeats 100000000
set_option maxRecDepth 1000000
namespace Go.Proofs.YtjfihpaeglpblaaGreatDoor
open Go.RowKit
theorem kT(o:Option (Int×Int)):∃ x y:Int,uDP o=.tuple #[vI x,vI y]:=by
 cases o with
 |none=>exact⟨-1,-1,rfl⟩
 |some p=>exact⟨p.1,p.2,rfl⟩
def SpCells(w:World)(P Q:Option Addr)(v:Say)(a b:Cor)(W:World):Prop:=W.cell? ⟨w.heap.size,0,none⟩=some (.pointer P)/\W.cell? ⟨w.heap.size,1,none⟩=some (.pointer Q)/\W.cell? ⟨w.heap.size,2,none⟩=some (vI v.r)/\W.cell? ⟨w.heap.size,3,none⟩=some (vI v.c)/\W.cell? ⟨w.heap.size+1,0,none⟩=some (vI a.row.a)/\W.cell? ⟨w.heap.size+1,1,none⟩=some (vI a.row.n)/\W.cell? ⟨w.heap.size+1,2,none⟩=some (vI a.col.a)/\W.cell? ⟨w.heap.size+1,3,none⟩=some (vI a.col.n)/\W.cell? ⟨w.heap.size+1,4,none⟩=some (.bool a.fr)/\W.cell? ⟨w.heap.size+1,5,none⟩=some (.bool a.fc)/\W.cell? ⟨w.heap.size+2,0,none⟩=some (vI b.row.a)/\W.cell? ⟨w.heap.size+2,1,none⟩=some (vI b.row.n)/\W.cell? ⟨w.heap.size+2,2,none⟩=some (vI b.col.a)/\W.cell? ⟨w.heap.size+2,3,none⟩=some (vI b.col.n)/\W.cell? ⟨w.heap.size+2,4,none⟩=some (.bool b.fr)/\W.cell? ⟨w.heap.size+2,5,none⟩=some (.bool b.fc)
abbrev SpE(P:Option Addr)(x y:IdR)(i j:Int)(w:World):Prop:=∀ W,Below w.heap.size w W->Calls Tryz.prog 145 #[.pointer P,.agg #[vI x.a,vI x.n],.agg #[vI y.a,vI y.n]] W fun e w'=>e=.returned (.tuple #[vI i,vI j])/\Below W.heap.size W w'
abbrev SpN(x:IdR)(b:Bool):Prop:=∀ W,Calls Tryz.prog 47 #[.agg #[vI x.a,vI x.n]] W fun e w'=>e=.returned (.bool b)/\Below W.heap.size W w'
theorem iG(P Q:Option Addr)(v:Say)(a b:Cor)(w:World):∃ W0,Hid (W0=((w.alloc (.cells #[.pointer P,.pointer Q,vI v.r,vI v.c] 84)).alloc (.cells #[vI a.row.a,vI a.row.n,vI a.col.a,vI a.col.n,.bool a.fr,.bool a.fc] 29)).alloc (.cells #[vI b.row.a,vI b.row.n,vI b.col.a,vI b.col.n,.bool b.fr,.bool b.fc] 29))/\Hid (Below w.heap.size w W0)/\Hid (∀ W,Below W0.heap.size W0 W->SpCells w P Q v a b W):=by
 obtain⟨W0,ak⟩:∃ W0,W0=((w.alloc (.cells #[.pointer P,.pointer Q,vI v.r,vI v.c] 84)).alloc (.cells #[vI a.row.a,vI a.row.n,vI a.col.a,vI a.col.n,.bool a.fr,.bool a.fc] 29)).alloc (.cells #[vI b.row.a,vI b.row.n,vI b.col.a,vI b.col.n,.bool b.fr,.bool b.fc] 29):=⟨_,rfl⟩
 have ai:=zh ak;have ag:Hid (Below w.heap.size w W0):=zh (by rw[ak];exact(((Below.refl _ w).alloc zr _).alloc (by rw[World.size_alloc];omega) _).alloc (by rw[World.size_alloc,World.size_alloc];omega) _);have L0:Hid (Lies W0 w.heap.size 84 #[.pointer P,.pointer Q,vI v.r,vI v.c]):=zh (by rw[ak];exact((Lies.new w _ _).alloc _).alloc _);have L1:Hid (Lies W0 (w.heap.size+1) 29 #[vI a.row.a,vI a.row.n,vI a.col.a,vI a.col.n,.bool a.fr,.bool a.fc]):=zh (by
  rw[ak];have h:=Lies.new (w.alloc (.cells #[.pointer P,.pointer Q,vI v.r,vI v.c] 84)) 29 #[vI a.row.a,vI a.row.n,vI a.col.a,vI a.col.n,.bool a.fr,.bool a.fc];rw[World.size_alloc]at h;exact h.alloc _)
 have L2:Hid (Lies W0 (w.heap.size+2) 29 #[vI b.row.a,vI b.row.n,vI b.col.a,vI b.col.n,.bool b.fr,.bool b.fc]):=zh (by
  rw[ak];have h:=Lies.new ((w.alloc (.cells #[.pointer P,.pointer Q,vI v.r,vI v.c] 84)).alloc (.cells #[vI a.row.a,vI a.row.n,vI a.col.a,vI a.col.n,.bool a.fr,.bool a.fc] 29)) 29 #[vI b.row.a,vI b.row.n,vI b.col.a,vI b.col.n,.bool b.fr,.bool b.fc];rw[World.size_alloc,World.size_alloc]at h;exact h)
 exact⟨W0,ai,ag,zh (fun W h=>⟨((L0.out.next h).cell 0),((L0.out.next h).cell 1),((L0.out.next h).cell 2),((L0.out.next h).cell 3),((L1.out.next h).cell 0),((L1.out.next h).cell 1),((L1.out.next h).cell 2),((L1.out.next h).cell 3),((L1.out.next h).cell 4),((L1.out.next h).cell 5),((L2.out.next h).cell 0),((L2.out.next h).cell 1),((L2.out.next h).cell 2),((L2.out.next h).cell 3),((L2.out.next h).cell 4),((L2.out.next h).cell 5)⟩)⟩
theorem uGC(P Q:Option Addr)(v:Say)(a b:Cor)(g:List RTok)(w:World)(x y:Int)(hg:g=dB)
  (j9:SpE P a.row b.row x y w) (nd:SpE Q a.col b.col (-1) (-1) w) (nf:SpN a.row true) (kr:SpN a.col false) :
  Calls Tryz.prog 83 #[.agg #[.pointer P,.pointer Q,vI v.r,vI v.c],.agg #[vI a.row.a,vI a.row.n,vI a.col.a,vI a.col.n,.bool a.fr,.bool a.fc],.agg #[vI b.row.a,vI b.row.n,vI b.col.a,vI b.col.n,.bool b.fr,.bool b.fc]] w fun e w'=>TkO w w' e g:=by
 obtain⟨W0,ai,ag,ap⟩:=iG P Q v a b w;have CE1:=zh j9;have CE2:=zh nd;have CNr:=zh nf;have CNc:=zh kr;have HB:Hid (Below W0.heap.size W0 W0):=zh zB;clear j9 nd nf kr;have CG:Hid (∀ W,Calls Tryz.prog 80 #[] W fun e w'=>TkO W w' e g):=zh (fun W=>by rw[hg];exact gA W);clear hg
 go_in
 go_upto_region 1 with fail
 rw[<- ai.out];clear ai;obtain⟨c0,c1,c2,c3,c4,c5,c6,c7,c8,c9,ku,kv,kw,c13,kz,la⟩:=ap.out _ HB.out
 go_wp2_with ((first
  |((with_reducible refine(CE1.out _ (zU ag.out HB.out)).mono ?_);rintro e wx ⟨rfl,hb⟩;replace HB:=zT HB hb)
  |((with_reducible refine(CE2.out _ (zU ag.out HB.out)).mono ?_);rintro e wx ⟨rfl,hb⟩;replace HB:=zT HB hb)
  |((with_reducible refine(CNr.out _).mono ?_);rintro e wx ⟨rfl,hb⟩;replace HB:=zT HB hb)
  |((with_reducible refine(CNc.out _).mono ?_);rintro e wx ⟨rfl,hb⟩;replace HB:=zT HB hb)
  |((with_reducible refine(CG.out _).mono ?_);rintro e wx ⟨A5,gm,rfl,ho,hb⟩;have de:=zh (aL ho HB.out.size);clear ho;replace HB:=zT HB hb));clear hb c0 c1 c2 c3 c4 c5 c6 c7 c8 c9 ku kv kw c13 kz la;obtain⟨c0,c1,c2,c3,c4,c5,c6,c7,c8,c9,ku,kv,kw,c13,kz,la⟩:=ap.out _ HB.out)
 go_ret
 exact⟨A5,gm,rfl,aL de.out ag.out.size,zU ag.out HB.out⟩
theorem uGB(P Q:Option Addr)(v:Say)(a b:Cor)(g:List RTok)(w:World)(x y:Int)(hg:g=dB)
  (j9:SpE P a.row b.row (-1) (-1) w) (nd:SpE Q a.col b.col x y w) (nf:SpN a.row false) (kr:SpN a.col true) :
  Calls Tryz.prog 83 #[.agg #[.pointer P,.pointer Q,vI v.r,vI v.c],.agg #[vI a.row.a,vI a.row.n,vI a.col.a,vI a.col.n,.bool a.fr,.bool a.fc],.agg #[vI b.row.a,vI b.row.n,vI b.col.a,vI b.col.n,.bool b.fr,.bool b.fc]] w fun e w'=>TkO w w' e g:=by
 obtain⟨W0,ai,ag,ap⟩:=iG P Q v a b w;have CE1:=zh j9;have CE2:=zh nd;have CNr:=zh nf;have CNc:=zh kr;have HB:Hid (Below W0.heap.size W0 W0):=zh zB;clear j9 nd nf kr;have CG:Hid (∀ W,Calls Tryz.prog 80 #[] W fun e w'=>TkO W w' e g):=zh (fun W=>by rw[hg];exact gA W);clear hg
 go_in
 go_upto_region 1 with fail
 rw[<- ai.out];clear ai;obtain⟨c0,c1,c2,c3,c4,c5,c6,c7,c8,c9,ku,kv,kw,c13,kz,la⟩:=ap.out _ HB.out
 go_wp2_with ((first
  |((with_reducible refine(CE1.out _ (zU ag.out HB.out)).mono ?_);rintro e wx ⟨rfl,hb⟩;replace HB:=zT HB hb)
  |((with_reducible refine(CE2.out _ (zU ag.out HB.out)).mono ?_);rintro e wx ⟨rfl,hb⟩;replace HB:=zT HB hb)
  |((with_reducible refine(CNr.out _).mono ?_);rintro e wx ⟨rfl,hb⟩;replace HB:=zT HB hb)
  |((with_reducible refine(CNc.out _).mono ?_);rintro e wx ⟨rfl,hb⟩;replace HB:=zT HB hb)
  |((with_reducible refine(CG.out _).mono ?_);rintro e wx ⟨A5,gm,rfl,ho,hb⟩;have de:=zh (aL ho HB.out.size);clear ho;replace HB:=zT HB hb));clear hb c0 c1 c2 c3 c4 c5 c6 c7 c8 c9 ku kv kw c13 kz la;obtain⟨c0,c1,c2,c3,c4,c5,c6,c7,c8,c9,ku,kv,kw,c13,kz,la⟩:=ap.out _ HB.out)
 go_ret
 exact⟨A5,gm,rfl,aL de.out ag.out.size,zU ag.out HB.out⟩
theorem uFZ(P Q:Option Addr)(v:Say)(a b:Cor)(g:List RTok)(w:World)(x y:Int)(hg:g=dB)
  (j9:SpE P a.row b.row (-1) (-1) w) (nd:SpE Q a.col b.col x y w) (nf:SpN a.row false) (kr:SpN a.col false) :
  Calls Tryz.prog 83 #[.agg #[.pointer P,.pointer Q,vI v.r,vI v.c],.agg #[vI a.row.a,vI a.row.n,vI a.col.a,vI a.col.n,.bool a.fr,.bool a.fc],.agg #[vI b.row.a,vI b.row.n,vI b.col.a,vI b.col.n,.bool b.fr,.bool b.fc]] w fun e w'=>TkO w w' e g:=by
 obtain⟨W0,ai,ag,ap⟩:=iG P Q v a b w;have CE1:=zh j9;have CE2:=zh nd;have CNr:=zh nf;have CNc:=zh kr;have HB:Hid (Below W0.heap.size W0 W0):=zh zB;clear j9 nd nf kr;have CG:Hid (∀ W,Calls Tryz.prog 80 #[] W fun e w'=>TkO W w' e g):=zh (fun W=>by rw[hg];exact gA W);clear hg
 go_in
 go_upto_region 1 with fail
 rw[<- ai.out];clear ai;obtain⟨c0,c1,c2,c3,c4,c5,c6,c7,c8,c9,ku,kv,kw,c13,kz,la⟩:=ap.out _ HB.out
 go_wp2_with ((first
  |((with_reducible refine(CE1.out _ (zU ag.out HB.out)).mono ?_);rintro e wx ⟨rfl,hb⟩;replace HB:=zT HB hb)
  |((with_reducible refine(CE2.out _ (zU ag.out HB.out)).mono ?_);rintro e wx ⟨rfl,hb⟩;replace HB:=zT HB hb)
  |((with_reducible refine(CNr.out _).mono ?_);rintro e wx ⟨rfl,hb⟩;replace HB:=zT HB hb)
  |((with_reducible refine(CNc.out _).mono ?_);rintro e wx ⟨rfl,hb⟩;replace HB:=zT HB hb)
  |((with_reducible refine(CG.out _).mono ?_);rintro e wx ⟨A5,gm,rfl,ho,hb⟩;have de:=zh (aL ho HB.out.size);clear ho;replace HB:=zT HB hb));clear hb c0 c1 c2 c3 c4 c5 c6 c7 c8 c9 ku kv kw c13 kz la;obtain⟨c0,c1,c2,c3,c4,c5,c6,c7,c8,c9,ku,kv,kw,c13,kz,la⟩:=ap.out _ HB.out)
 go_ret
 exact⟨A5,gm,rfl,aL de.out ag.out.size,zU ag.out HB.out⟩
theorem uGA(P Q:Option Addr)(v:Say)(a b:Cor)(g:List RTok)(w:World)(n m:Nat)(hg:g=dB)
  (j9:SpE P a.row b.row (n:Int) (m:Int) w) (nd:SpE Q a.col b.col (-1) (-1) w) (nf:SpN a.row false) (kr:SpN a.col false) :
  Calls Tryz.prog 83 #[.agg #[.pointer P,.pointer Q,vI v.r,vI v.c],.agg #[vI a.row.a,vI a.row.n,vI a.col.a,vI a.col.n,.bool a.fr,.bool a.fc],.agg #[vI b.row.a,vI b.row.n,vI b.col.a,vI b.col.n,.bool b.fr,.bool b.fc]] w fun e w'=>TkO w w' e g:=by
 obtain⟨W0,ai,ag,ap⟩:=iG P Q v a b w;have CE1:=zh j9;have CE2:=zh nd;have CNr:=zh nf;have CNc:=zh kr;have HB:Hid (Below W0.heap.size W0 W0):=zh zB;clear j9 nd nf kr;have CG:Hid (∀ W,Calls Tryz.prog 80 #[] W fun e w'=>TkO W w' e g):=zh (fun W=>by rw[hg];exact gA W);clear hg;have ny:¬ (n:Int)<0:=by omega
 go_in
 go_upto_region 1 with fail
 rw[<- ai.out];clear ai;obtain⟨c0,c1,c2,c3,c4,c5,c6,c7,c8,c9,ku,kv,kw,c13,kz,la⟩:=ap.out _ HB.out
 go_wp2_with ((first
  |((with_reducible refine(CE1.out _ (zU ag.out HB.out)).mono ?_);rintro e wx ⟨rfl,hb⟩;replace HB:=zT HB hb)
  |((with_reducible refine(CE2.out _ (zU ag.out HB.out)).mono ?_);rintro e wx ⟨rfl,hb⟩;replace HB:=zT HB hb)
  |((with_reducible refine(CNr.out _).mono ?_);rintro e wx ⟨rfl,hb⟩;replace HB:=zT HB hb)
  |((with_reducible refine(CNc.out _).mono ?_);rintro e wx ⟨rfl,hb⟩;replace HB:=zT HB hb)
  |((with_reducible refine(CG.out _).mono ?_);rintro e wx ⟨A5,gm,rfl,ho,hb⟩;have de:=zh (aL ho HB.out.size);clear ho;replace HB:=zT HB hb));clear hb c0 c1 c2 c3 c4 c5 c6 c7 c8 c9 ku kv kw c13 kz la;obtain⟨c0,c1,c2,c3,c4,c5,c6,c7,c8,c9,ku,kv,kw,c13,kz,la⟩:=ap.out _ HB.out)
 go_ret
 exact⟨A5,gm,rfl,aL de.out ag.out.size,zU ag.out HB.out⟩
theorem rspan_r0(P Q:Option Addr)(v:Say)(a b:Cor)(g:List RTok)(w:World)(x y:Int)(n m:Nat)(t1 t2 tc:RTok)(hg:g=[t1]++[tc]++[t2])(f6:tc=tk 5 [58])(zx:∀ W,Calls Tryz.prog 146 #[.agg #[.pointer P,.pointer Q,vI v.r,vI v.c],vI (n:Int),.bool a.fc] W fun e w'=>TkO W w' e [t1])(s7:∀ W,Calls Tryz.prog 146 #[.agg #[.pointer P,.pointer Q,vI v.r,vI v.c],vI (m:Int),.bool b.fc] W fun e w'=>TkO W w' e [t2])
  (j9:SpE P a.row b.row x y w) (nd:SpE Q a.col b.col (n:Int) (m:Int) w) (nf:SpN a.row true) (kr:SpN a.col false) :
  Calls Tryz.prog 83 #[.agg #[.pointer P,.pointer Q,vI v.r,vI v.c],.agg #[vI a.row.a,vI a.row.n,vI a.col.a,vI a.col.n,.bool a.fr,.bool a.fc],.agg #[vI b.row.a,vI b.row.n,vI b.col.a,vI b.col.n,.bool b.fr,.bool b.fc]] w fun e w'=>TkO w w' e g:=by
 obtain⟨W0,ai,ag,ap⟩:=iG P Q v a b w;have CE1:=zh j9;have CE2:=zh nd;have CNr:=zh nf;have CNc:=zh kr;have HB:Hid (Below W0.heap.size W0 W0):=zh zB;clear j9 nd nf kr;have CKc:Hid (∀ W,Calls Tryz.prog 82 #[vI 5,vS #[58]] W fun e w'=>TkO W w' e [tc]):=zh (fun W=>by rw[f6];exact aR 5 [58] W);have CK1:=zh zx;have CK2:=zh s7;subst hg;clear zx s7 f6;have ny:¬ (n:Int)<0:=by omega
 go_in
 go_upto_region 1 with fail
 rw[<- ai.out];clear ai;obtain⟨c0,c1,c2,c3,c4,c5,c6,c7,c8,c9,ku,kv,kw,c13,kz,la⟩:=ap.out _ HB.out
 go_wp2_with ((first
  |((with_reducible refine(CE1.out _ (zU ag.out HB.out)).mono ?_);rintro e wx ⟨rfl,hb⟩;replace HB:=zT HB hb)
  |((with_reducible refine(CE2.out _ (zU ag.out HB.out)).mono ?_);rintro e wx ⟨rfl,hb⟩;replace HB:=zT HB hb)
  |((with_reducible refine(CNr.out _).mono ?_);rintro e wx ⟨rfl,hb⟩;replace HB:=zT HB hb)
  |((with_reducible refine(CNc.out _).mono ?_);rintro e wx ⟨rfl,hb⟩;replace HB:=zT HB hb)
  |((with_reducible refine(CK1.out _).mono ?_);rintro e wx ⟨A1,ls,rfl,ho,hb⟩;have b7:=zh (aL ho HB.out.size);clear ho;replace HB:=zT HB hb)
  |((with_reducible refine(CK2.out _).mono ?_);rintro e wx ⟨A2,oh,rfl,ho,hb⟩;have HD:=zh (fun g (h2:(Value.slice A2 ([t2]:List RTok).length oh).ownBlock=some g) (h1:(Value.slice A1 ([t1]:List RTok).length ls).ownBlock=some g)=>(absurd (b7.out.lt g h1).2 (Nat.not_lt.2 (ho.lt g h2).1):False));have ee:=zh (aL ho HB.out.size);replace b7:=zh (aD hb b7.out);clear ho;replace HB:=zT HB hb)
  |((with_reducible refine(CKc.out _).mono ?_);rintro e wx ⟨A3,cc3,rfl,ho,hb⟩;have jb:=zh (aL ho HB.out.size);replace b7:=zh (aD hb b7.out);replace ee:=zh (aD hb ee.out);clear ho;replace HB:=zT HB hb)
  |(at_builtin;refine aT rfl _ _ rfl W0.heap.size W0.heap.size _ _ [t1] [tc] rfl b7.out rfl jb.out (by simp) HB.out.size ?_;intro A4 qc w4 k4 g4;have jc:=zh k4;replace ee:=zh (oY ee.out g4 HD.out);have hb:=aN b7.out g4 HB.out.size;clear k4 g4;replace HB:=zh (HB.out.trans hb))
  |(at_builtin;refine aT rfl _ _ rfl W0.heap.size W0.heap.size _ _ ([t1]++[tc]) [t2] rfl jc.out rfl ee.out (by simp) HB.out.size ?_;intro A5 gm w5 k5 g5;have de:=zh k5;have hb:=aN jc.out g5 HB.out.size;clear k5 g5;replace HB:=zh (HB.out.trans hb)));clear hb c0 c1 c2 c3 c4 c5 c6 c7 c8 c9 ku kv kw c13 kz la;obtain⟨c0,c1,c2,c3,c4,c5,c6,c7,c8,c9,ku,kv,kw,c13,kz,la⟩:=ap.out _ HB.out)
 go_ret
 exact⟨A5,gm,rfl,aL de.out ag.out.size,zU ag.out HB.out⟩
theorem rspan_c0(P Q:Option Addr)(v:Say)(a b:Cor)(g:List RTok)(w:World)(x y:Int)(n m:Nat)(t1 t2 tc:RTok)(hg:g=[t1]++[tc]++[t2])(f6:tc=tk 5 [58])(zx:∀ W,Calls Tryz.prog 147 #[.agg #[.pointer P,.pointer Q,vI v.r,vI v.c],vI (n:Int),.bool a.fr] W fun e w'=>TkO W w' e [t1])(s7:∀ W,Calls Tryz.prog 147 #[.agg #[.pointer P,.pointer Q,vI v.r,vI v.c],vI (m:Int),.bool b.fr] W fun e w'=>TkO W w' e [t2])
  (j9:SpE P a.row b.row (n:Int) (m:Int) w) (nd:SpE Q a.col b.col x y w) (nf:SpN a.row false) (kr:SpN a.col true) :
  Calls Tryz.prog 83 #[.agg #[.pointer P,.pointer Q,vI v.r,vI v.c],.agg #[vI a.row.a,vI a.row.n,vI a.col.a,vI a.col.n,.bool a.fr,.bool a.fc],.agg #[vI b.row.a,vI b.row.n,vI b.col.a,vI b.col.n,.bool b.fr,.bool b.fc]] w fun e w'=>TkO w w' e g:=by
 obtain⟨W0,ai,ag,ap⟩:=iG P Q v a b w;have CE1:=zh j9;have CE2:=zh nd;have CNr:=zh nf;have CNc:=zh kr;have HB:Hid (Below W0.heap.size W0 W0):=zh zB;clear j9 nd nf kr;have CKc:Hid (∀ W,Calls Tryz.prog 82 #[vI 5,vS #[58]] W fun e w'=>TkO W w' e [tc]):=zh (fun W=>by rw[f6];exact aR 5 [58] W);have CK1:=zh zx;have CK2:=zh s7;subst hg;clear zx s7 f6;have ny:¬ (n:Int)<0:=by omega
 go_in
 go_upto_region 1 with fail
 rw[<- ai.out];clear ai;obtain⟨c0,c1,c2,c3,c4,c5,c6,c7,c8,c9,ku,kv,kw,c13,kz,la⟩:=ap.out _ HB.out
 go_wp2_with ((first
  |((with_reducible refine(CE1.out _ (zU ag.out HB.out)).mono ?_);rintro e wx ⟨rfl,hb⟩;replace HB:=zT HB hb)
  |((with_reducible refine(CE2.out _ (zU ag.out HB.out)).mono ?_);rintro e wx ⟨rfl,hb⟩;replace HB:=zT HB hb)
  |((with_reducible refine(CNr.out _).mono ?_);rintro e wx ⟨rfl,hb⟩;replace HB:=zT HB hb)
  |((with_reducible refine(CNc.out _).mono ?_);rintro e wx ⟨rfl,hb⟩;replace HB:=zT HB hb)
  |((with_reducible refine(CK1.out _).mono ?_);rintro e wx ⟨A1,ls,rfl,ho,hb⟩;have b7:=zh (aL ho HB.out.size);clear ho;replace HB:=zT HB hb)
  |((with_reducible refine(CK2.out _).mono ?_);rintro e wx ⟨A2,oh,rfl,ho,hb⟩;have HD:=zh (fun g (h2:(Value.slice A2 ([t2]:List RTok).length oh).ownBlock=some g) (h1:(Value.slice A1 ([t1]:List RTok).length ls).ownBlock=some g)=>(absurd (b7.out.lt g h1).2 (Nat.not_lt.2 (ho.lt g h2).1):False));have ee:=zh (aL ho HB.out.size);replace b7:=zh (aD hb b7.out);clear ho;replace HB:=zT HB hb)
  |((with_reducible refine(CKc.out _).mono ?_);rintro e wx ⟨A3,cc3,rfl,ho,hb⟩;have jb:=zh (aL ho HB.out.size);replace b7:=zh (aD hb b7.out);replace ee:=zh (aD hb ee.out);clear ho;replace HB:=zT HB hb)
  |(at_builtin;refine aT rfl _ _ rfl W0.heap.size W0.heap.size _ _ [t1] [tc] rfl b7.out rfl jb.out (by simp) HB.out.size ?_;intro A4 qc w4 k4 g4;have jc:=zh k4;replace ee:=zh (oY ee.out g4 HD.out);have hb:=aN b7.out g4 HB.out.size;clear k4 g4;replace HB:=zh (HB.out.trans hb))
  |(at_builtin;refine aT rfl _ _ rfl W0.heap.size W0.heap.size _ _ ([t1]++[tc]) [t2] rfl jc.out rfl ee.out (by simp) HB.out.size ?_;intro A5 gm w5 k5 g5;have de:=zh k5;have hb:=aN jc.out g5 HB.out.size;clear k5 g5;replace HB:=zh (HB.out.trans hb)));clear hb c0 c1 c2 c3 c4 c5 c6 c7 c8 c9 ku kv kw c13 kz la;obtain⟨c0,c1,c2,c3,c4,c5,c6,c7,c8,c9,ku,kv,kw,c13,kz,la⟩:=ap.out _ HB.out)
 go_ret
 exact⟨A5,gm,rfl,aL de.out ag.out.size,zU ag.out HB.out⟩
theorem rspan_b(P Q:Option Addr)(v:Say)(a b:Cor)(g:List RTok)(w:World)(n m k l:Nat)(t1 t2 tc:RTok)(hg:g=[t1]++[tc]++[t2])(f6:tc=tk 5 [58])(zx:∀ W,Calls Tryz.prog 81 #[.agg #[.pointer P,.pointer Q,vI v.r,vI v.c],.agg #[vI (n:Int),vI (k:Int),.bool a.fr,.bool a.fc]] W fun e w'=>TkO W w' e [t1])(s7:∀ W,Calls Tryz.prog 81 #[.agg #[.pointer P,.pointer Q,vI v.r,vI v.c],.agg #[vI (m:Int),vI (l:Int),.bool b.fr,.bool b.fc]] W fun e w'=>TkO W w' e [t2])
  (j9:SpE P a.row b.row (n:Int) (m:Int) w) (nd:SpE Q a.col b.col (k:Int) (l:Int) w) (nf:SpN a.row false) (kr:SpN a.col false) :
  Calls Tryz.prog 83 #[.agg #[.pointer P,.pointer Q,vI v.r,vI v.c],.agg #[vI a.row.a,vI a.row.n,vI a.col.a,vI a.col.n,.bool a.fr,.bool a.fc],.agg #[vI b.row.a,vI b.row.n,vI b.col.a,vI b.col.n,.bool b.fr,.bool b.fc]] w fun e w'=>TkO w w' e g:=by
 obtain⟨W0,ai,ag,ap⟩:=iG P Q v a b w;have CE1:=zh j9;have CE2:=zh nd;have CNr:=zh nf;have CNc:=zh kr;have HB:Hid (Below W0.heap.size W0 W0):=zh zB;clear j9 nd nf kr;have CKc:Hid (∀ W,Calls Tryz.prog 82 #[vI 5,vS #[58]] W fun e w'=>TkO W w' e [tc]):=zh (fun W=>by rw[f6];exact aR 5 [58] W);have CK1:=zh zx;have CK2:=zh s7;subst hg;clear zx s7 f6;have ny:¬ (n:Int)<0:=by omega
 have gu:¬ (k:Int)<0:=by omega
 go_in
 go_upto_region 1 with fail
 rw[<- ai.out];clear ai;obtain⟨c0,c1,c2,c3,c4,c5,c6,c7,c8,c9,ku,kv,kw,c13,kz,la⟩:=ap.out _ HB.out
 go_wp2_with ((first
  |((with_reducible refine(CE1.out _ (zU ag.out HB.out)).mono ?_);rintro e wx ⟨rfl,hb⟩;replace HB:=zT HB hb)
  |((with_reducible refine(CE2.out _ (zU ag.out HB.out)).mono ?_);rintro e wx ⟨rfl,hb⟩;replace HB:=zT HB hb)
  |((with_reducible refine(CNr.out _).mono ?_);rintro e wx ⟨rfl,hb⟩;replace HB:=zT HB hb)
  |((with_reducible refine(CNc.out _).mono ?_);rintro e wx ⟨rfl,hb⟩;replace HB:=zT HB hb)
  |((with_reducible refine(CK1.out _).mono ?_);rintro e wx ⟨A1,ls,rfl,ho,hb⟩;have b7:=zh (aL ho HB.out.size);clear ho;replace HB:=zT HB hb)
  |((with_reducible refine(CK2.out _).mono ?_);rintro e wx ⟨A2,oh,rfl,ho,hb⟩;have HD:=zh (fun g (h2:(Value.slice A2 ([t2]:List RTok).length oh).ownBlock=some g) (h1:(Value.slice A1 ([t1]:List RTok).length ls).ownBlock=some g)=>(absurd (b7.out.lt g h1).2 (Nat.not_lt.2 (ho.lt g h2).1):False));have ee:=zh (aL ho HB.out.size);replace b7:=zh (aD hb b7.out);clear ho;replace HB:=zT HB hb)
  |((with_reducible refine(CKc.out _).mono ?_);rintro e wx ⟨A3,cc3,rfl,ho,hb⟩;have jb:=zh (aL ho HB.out.size);replace b7:=zh (aD hb b7.out);replace ee:=zh (aD hb ee.out);clear ho;replace HB:=zT HB hb)
  |(at_builtin;refine aT rfl _ _ rfl W0.heap.size W0.heap.size _ _ [t1] [tc] rfl b7.out rfl jb.out (by simp) HB.out.size ?_;intro A4 qc w4 k4 g4;have jc:=zh k4;replace ee:=zh (oY ee.out g4 HD.out);have hb:=aN b7.out g4 HB.out.size;clear k4 g4;replace HB:=zh (HB.out.trans hb))
  |(at_builtin;refine aT rfl _ _ rfl W0.heap.size W0.heap.size _ _ ([t1]++[tc]) [t2] rfl jc.out rfl ee.out (by simp) HB.out.size ?_;intro A5 gm w5 k5 g5;have de:=zh k5;have hb:=aN jc.out g5 HB.out.size;clear k5 g5;replace HB:=zh (HB.out.trans hb)));clear hb c0 c1 c2 c3 c4 c5 c6 c7 c8 c9 ku kv kw c13 kz la;obtain⟨c0,c1,c2,c3,c4,c5,c6,c7,c8,c9,ku,kv,kw,c13,kz,la⟩:=ap.out _ HB.out)
 go_ret
 exact⟨A5,gm,rfl,aL de.out ag.out.size,zU ag.out HB.out⟩
theorem uFY(p q:Option Nat)(R C:AxV)(v:Say)(a b:Cor)(w:World)(hR:AxQ w p R)(hC:AxQ w q C)(hv:v.ok)(hab:¬ (a.row=id0/\a.col=id0)) :
  Calls Tryz.prog 83 #[tN p q v,.agg (kJ a),.agg (kJ b)] w fun e w'=>TkO w w' e (gB v R C a b):=by
 have E1:=fun W h=>vD p R a.row b.row W (hR.next h)
 have E2:=fun W h=>vD q C a.col b.col W (hC.next h)
 have N1:=fun W=>vK a.row W
 have N2:=fun W=>vK a.col W
 by_cases hr:a.row=id0
 ·have hc:a.col≠id0:=fun h=>hab ⟨hr,h⟩
  rw[decide_eq_true hr]at N1;rw[decide_eq_false hc]at N2;obtain⟨x,y,exy⟩:=kT (cM R a.row b.row);rw[exy]at E1;rcases cH hC.av a.col b.col with h|⟨n,m,hn,hm,h⟩
  ·rw[h]at E2;refine uGC (ptr p) (ptr q) v a b _ w x y ?_ E1 E2 N1 N2;unfold gB;rw[if_pos hr,h]
  rw[h]at E2;refine rspan_r0 (ptr p) (ptr q) v a b _ w x y n m (dV v n a.fc) (dV v m b.fc) (tk 5 [58]) ?_ rfl (fun W=>qH p q v n a.fc W (by omega) hv) (fun W=>qH p q v m b.fc W (by omega) hv) E1 E2 N1 N2;unfold gB;rw[if_pos hr,h];rfl
 rw[decide_eq_false hr]at N1;by_cases hc:a.col=id0
 ·rw[decide_eq_true hc]at N2;obtain⟨x,y,exy⟩:=kT (cM C a.col b.col);rw[exy]at E2;rcases cH hR.av a.row b.row with h|⟨n,m,hn,hm,h⟩
  ·rw[h]at E1;refine uGB (ptr p) (ptr q) v a b _ w x y ?_ E1 E2 N1 N2;unfold gB;rw[if_neg hr,if_pos hc,h]
  rw[h]at E1;refine rspan_c0 (ptr p) (ptr q) v a b _ w x y n m (dW v n a.fr) (dW v m b.fr) (tk 5 [58]) ?_ rfl (fun W=>yV p q v n a.fr W (by omega) hv) (fun W=>yV p q v m b.fr W (by omega) hv) E1 E2 N1 N2;unfold gB;rw[if_neg hr,if_pos hc,h];rfl
 rw[decide_eq_false hc]at N2;rcases cH hR.av a.row b.row with h|⟨n,m,hn,hm,h⟩
 ·rw[h]at E1;obtain⟨x,y,exy⟩:=kT (cM C a.col b.col);rw[exy]at E2;refine uFZ (ptr p) (ptr q) v a b _ w x y ?_ E1 E2 N1 N2;unfold gB;rw[if_neg hr,if_neg hc,h]
 rw[h]at E1;rcases cH hC.av a.col b.col with h'|⟨k,l,hk,hl,h'⟩
 ·rw[h']at E2;refine uGA (ptr p) (ptr q) v a b _ w n m ?_ E1 E2 N1 N2;unfold gB;rw[if_neg hr,if_neg hc,h,h']
 rw[h']at E2;refine rspan_b (ptr p) (ptr q) v a b _ w n m k l (cY v n k a.fr a.fc) (cY v m l b.fr b.fc) (tk 5 [58]) ?_ rfl (fun W=>pG p q v n k a.fr a.fc W (by omega) (by omega) hv) (fun W=>pG p q v m l b.fr b.fc W (by omega) (by omega) hv) E1 E2 N1 N2;unfold gB;rw[if_neg hr,if_neg hc,h,h'];rfl
theorem dI{ops:Array Oper}{o:Oper}{a:Act}{w:World}{K:Act->World->Prop}{Q:Exit->Act->World->Prop}{E:Prop}(pm:o.guard=none)(s x:Operand)(ho:o.op=.call { callee:=.builtin .append,args:=#[s,x],argTypes:=#[81,81] })
  (base b2:Nat) (v1 v2:Value) (lg ev:List RTok) (hs:a.eval s=v1) (cq:w.ownsRow base 85 3 v1 lg.length (cL lg)) (hx:a.eval x=v2) (ie:w.ownsRow b2 85 3 v2 ev.length (cL ev)) (hn:lg.length+ev.length<=1000000) (dt:base<=w.heap.size)
  (h:∀ A' c' w',w'.ownsRow base 85 3 (.slice A' (lg++ev).length c') (lg++ev).length (cL (lg++ev))->w.grownBy w' v1.ownBlock->K (a.put o.dst (.slice A' (lg++ev).length c')) w') :
  if Region.wanted o (yielded ops a.tmps)=true then Oper.wp Tryz.prog o a w K Q else E:=by
 have hw:Region.wanted o (yielded ops a.tmps)=true:=by simp[Region.wanted,pm]
 rw[if_pos hw];obtain⟨i1,gi,gz0,gz1,gz2⟩:=info_parts xU;have e1:=qM lg ev;have e2:(lg++ev).length=lg.length+ev.length:=yl;rcases ie.2 with⟨rfl,h0⟩|⟨g,cap,cur,rfl,hb,hh,du,ig,rh,hc4⟩
 ·have po:ev=[]:=List.eq_nil_of_length_eq_zero h0;subst po;rw[List.append_nil]at h;obtain⟨A',c',rfl⟩:=aV cq;have ot:=run_append_owned_none (P:=Tryz.prog) (w:=w) base 81 o.type 85 i1 3 Tryz.underlying81 gi _ _ _ cq;unfold Oper.wp;simp[execOp,ho,resolve,invoke,builtin,hs,hx,ot,Result.andThen];exact h A' c' w cq ⟨rfl,rfl,rfl,zr,fun _ _ _=>rfl⟩
 refine wp_append_own (P:=Tryz.prog) w s x 81 ho base 85 i1 (.agg #[vI 0,vS #[],vI 0]) 3 32 Tryz.underlying81 gi gz0 gz1 gz2 rfl (by decide) v1 lg.length (cL lg) hs cq ⟨g,0,none⟩ ev.length cap (cL ev) hx (yT ev) (fun j u hj=>ie.cells (g:=g) rfl j u hj) (yU ev) (by unfold maxLen;omega) (by omega) dt (fun v' w' k1 k2 _=>?_);rw[<- e1,<- e2]at k1;obtain⟨A',c',rfl⟩:=aV k1;exact h A' c' w' k1 k2
theorem rlit_pos(m e:Int)(w:World)(hR:bH m e=true)(h0:0<=m) :
  Calls Tryz.prog 79 #[.agg #[vI 1,vI m,vI e,vS #[],.bool false,vI 0]] w fun x w'=>TkO w w' x [tk 1 (bK m e)]:=by
 obtain⟨h1,h2⟩:=fM hR;have ag:Hid (Below w.heap.size w (w.alloc (.cells #[vI 1,vI m,vI e,vS #[],.bool false,vI 0] 25))):=zh ((Below.refl _ w).alloc zr _);have CT:=zh (fun W=>jX m e W h1 h2 hR);have CK:Hid (∀ W,Calls Tryz.prog 82 #[vI 1,vT (bK m e)] W fun x w'=>TkO W w' x [tk 1 (bK m e)]):=zh (fun W=>aR 1 _ W);have hn:¬ m<0:=by omega
 generalize [tk 1 (bK m e)]=g at *;generalize bK m e=T at *;clear hR h1 h2
 go_in
 go_wp2_with fail
 refine(CT.out _).mono ?_;rintro x W2 ⟨rfl,aw⟩;have au:=zT ag aw;clear aw
 go_wp2_with fail
 refine(CK.out _).mono ?_;rintro x W3 ⟨A,c,rfl,ho,bv⟩;have HO:=zh (aL ho au.out.size);have bf:=zT au bv;clear ho bv
 go_wp2_with fail
 go_ret
 exact⟨A,c,rfl,HO.out,bf.out⟩
theorem uFW(t:Bs)(w:World) :
  Calls Tryz.prog 79 #[.agg #[vI 2,vI 0,vI 0,vT t,.bool false,vI 0]] w fun x w'=>TkO w w' x [tk 2 t]:=by
 have au:Hid (Below w.heap.size w (w.alloc (.cells #[vI 2,vI 0,vI 0,vT t,.bool false,vI 0] 25))):=zh ((Below.refl _ w).alloc zr _);have CK:Hid (∀ W,Calls Tryz.prog 82 #[vI 2,vT t] W fun x w'=>TkO W w' x [tk 2 t]):=zh (fun W=>aR 2 _ W);generalize [tk 2 t]=g at *
 go_in
 go_wp2_with fail
 refine(CK.out _).mono ?_;rintro x W3 ⟨A,c,rfl,ho,bv⟩;have HO:=zh (aL ho au.out.size);have bf:=zT au bv;clear ho bv
 go_wp2_with fail
 go_ret
 exact⟨A,c,rfl,HO.out,bf.out⟩
theorem uCB(f:Int)(w:World) :
  Calls Tryz.prog 79 #[.agg #[vI 4,vI 0,vI 0,vS #[],.bool false,vI f]] w fun x w'=>TkO w w' x [tk 6 (aY f)]:=by
 have ag:Hid (Below w.heap.size w (w.alloc (.cells #[vI 4,vI 0,vI 0,vS #[],.bool false,vI f] 25))):=zh ((Below.refl _ w).alloc zr _);have CT:=zh (fun W=>tA f W);have CK:Hid (∀ W,Calls Tryz.prog 82 #[vI 6,vT (aY f)] W fun x w'=>TkO W w' x [tk 6 (aY f)]):=zh (fun W=>aR 6 _ W);generalize [tk 6 (aY f)]=g at *;generalize aY f=T at *
 go_in
 go_wp2_with fail
 refine(CT.out _).mono ?_;rintro x W2 ⟨rfl,aw⟩;have au:=zT ag aw;clear aw
 go_wp2_with fail
 refine(CK.out _).mono ?_;rintro x W3 ⟨A,c,rfl,ho,bv⟩;have HO:=zh (aL ho au.out.size);have bf:=zT au bv;clear ho bv
 go_wp2_with fail
 go_ret
 exact⟨A,c,rfl,HO.out,bf.out⟩
theorem uCC(b:Bool)(w:World) :
  Calls Tryz.prog 79 #[.agg #[vI 3,vI 0,vI 0,vS #[],.bool b,vI 0]] w fun x w'=>TkO w w' x [tk 3 (if b then lN else noB)]:=by
 have ag:Hid (Below w.heap.size w (w.alloc (.cells #[vI 3,vI 0,vI 0,vS #[],.bool b,vI 0] 25))):=zh ((Below.refl _ w).alloc zr _);have CT:Hid (∀ W,Calls Tryz.prog 116 #[.agg #[vI 3,vI 0,vI 0,vS #[],.bool b,vI 0]] W fun x w'=>x=.returned (.tuple #[vT (if b then lN else noB),vI 0])/\Below W.heap.size W w'):=zh (fun W=>by
  have h:=uA ⟨3,0,0,[],b,0⟩ W (by cases b <;> decide);exact h)
 have CK:Hid (∀ W,Calls Tryz.prog 82 #[vI 3,vT (if b then lN else noB)] W fun x w'=>TkO W w' x [tk 3 (if b then lN else noB)]):=zh (fun W=>aR 3 _ W);generalize [tk 3 (if b then lN else noB)]=g at *;generalize (if b then lN else noB)=T at *
 go_in
 go_wp2_with fail
 refine(CT.out _).mono ?_;rintro x W2 ⟨rfl,aw⟩;have au:=zT ag aw;clear aw
 go_wp2_with fail
 refine(CK.out _).mono ?_;rintro x W3 ⟨A,c,rfl,ho,bv⟩;have HO:=zh (aL ho au.out.size);have bf:=zT au bv;clear ho bv
 go_wp2_with fail
 go_ret
 exact⟨A,c,rfl,HO.out,bf.out⟩
theorem rlit_neg(m e:Int)(w:World)(hR:bH m e=true)(h0:m<0) :
  Calls Tryz.prog 79 #[.agg #[vI 1,vI m,vI e,vS #[],.bool false,vI 0]] w fun x w'=>TkO w w' x [tk 5 [45],tk 1 (bK (-m) e)]:=by
 have ux:=vJ m e hR;obtain⟨h1,h2⟩:=fM ux;have hm:=(gN hR (by omega)).1;obtain⟨W0,ak⟩:∃ W0,W0=(w.alloc (.cells #[vI 1,vI m,vI e,vS #[],.bool false,vI 0] 25)).alloc (.cells #[vI (-m),vI e] 23):=⟨_,rfl⟩
 have ai:=zh ak;have ag:Hid (Below w.heap.size w W0):=zh (by rw[ak];exact((Below.refl _ w).alloc zr _).alloc (by rw[World.size_alloc];omega) _);have nx:Hid (Lies W0 (w.heap.size+1) 23 #[vI (-m),vI e]):=zh (by
  rw[ak];have h:=Lies.new (w.alloc (.cells #[vI 1,vI m,vI e,vS #[],.bool false,vI 0] 25)) 23 #[vI (-m),vI e];rw[World.size_alloc]at h;exact h)
 have ap:Hid (∀ W,Below W0.heap.size W0 W->W.cell? ⟨w.heap.size+1,0,none⟩=some (vI (-m))/\W.cell? ⟨w.heap.size+1,1,none⟩=some (vI e)/\Below W0.heap.size W0 W):=zh (fun W h=>⟨(nx.out.next h).cell 0,(nx.out.next h).cell 1,h⟩);have CT:Hid (∀ W,Calls Tryz.prog 142 #[.agg #[vI (-m),vI e]] W fun x w'=>x=.returned (vT (bK (-m) e))/\Below W.heap.size W w'):=zh (fun W=>jX (-m) e W h1 h2 ux);obtain⟨t1,l6⟩:=zD (tk 5 [45])
 obtain⟨t2,om⟩:=zD (tk 1 (bK (-m) e))
 have C1:Hid (∀ W,Calls Tryz.prog 82 #[vI 5,vS #[45]] W fun x w'=>TkO W w' x [t1]):=zh (fun W=>by rw[l6];exact aR 5 [45] W);have C2:Hid (∀ W,Calls Tryz.prog 82 #[vI 1,vT (bK (-m) e)] W fun x w'=>TkO W w' x [t2]):=zh (fun W=>by rw[om];exact aR 1 _ W);rw[<- l6,<- om];have u4q:IntKind.i64.wrap (0-m)=-m:=by rw[IntWalk.i64_in _ (by omega)];omega
 have hw2:IntKind.i64.wrap (-m)=-m:=IntWalk.i64_in _ (by omega);generalize bK (-m) e=T at *;clear hR ux h1 h2 hm ak l6 om
 go_in
 go_upto_region 4 with fail
 rw[<- ai.out];clear u4q hw2 ai;obtain⟨c0,c1,hB⟩:=ap.out _ zB
 go_cut [2] (fun v wx=>∃ A c,v=.slice A 2 c/\Hid (wx.ownsRow w.heap.size 85 3 (.slice A 2 c) 2 (cL [t1,t2]))/\Hid (Below w.heap.size w wx))
 case first=>
  go_region_held3 (fun w'=>w'.cell? ⟨w.heap.size+1,0,none⟩=some (vI (-m))/\w'.cell? ⟨w.heap.size+1,1,none⟩=some (vI e)/\Below W0.heap.size W0 w')
   (first|exact ap.out _ zB|exact ap.out _ zB.drew |(go_split_ands;exact ap.out _ (Below.trans (by assumption) (Below.mono hb (Below.size (by assumption))))) |(go_split_ands;exact ap.out _ (Below.trans (by assumption) hbA))|assumption)
   (first
    |(go_at_call 142;(with_reducible refine(CT.out _).mono ?_);rintro x wx ⟨rfl,hb⟩;have b7:=zh (aD hb b7.out))
    |(go_at_call 82;(with_reducible refine(C1.out _).mono ?_);rintro x wx ⟨A1,ls,rfl,ho,hb⟩;have b7:Hid (World.ownsRow _ W0.heap.size _ _ _ _ _):=zh (aL ho (by first|exact Below.size (by assumption) |(go_split_ands;exact Below.size (by assumption)))))
    |(go_at_call 82;(with_reducible refine(C2.out _).mono ?_);rintro x wx ⟨A2,oh,rfl,ho,hb⟩;have ee:Hid (World.ownsRow _ W0.heap.size _ _ _ _ _):=zh (aL ho (by first|exact Below.size (by assumption) |(go_split_ands;exact Below.size (by assumption))));have b7:=zh (aD hb b7.out))
    |(refine dI rfl _ _ rfl W0.heap.size W0.heap.size _ _ [t1] [t2] rfl b7.out rfl ee.out (by simp) (by first|exact Below.size (by assumption) |(go_split_ands;exact Below.size (by assumption))) ?_;intro A5 gm w5 k5 g5;have de:=zh k5;have hbA:=aN b7.out g5 (by first|exact Below.size (by assumption) |(go_split_ands;exact Below.size (by assumption)))))
  all_goals go_wp2_with fail
  all_goals go_meet
  all_goals refine⟨_,_,rfl,zh (aL de.out ag.out.size),zh ?_⟩
  all_goals (go_split_ands;exact ag.out.trans (Below.mono (by assumption) ag.out.size))
 case rest=>
 obtain⟨A,c,rfl,ho,hb⟩:=hcut
 go_wp2_with fail
 go_ret
 exact⟨A,c,rfl,ho.out,hb.out⟩
theorem wY(v:Val)(w:World)(hR:aW v=true)(h0:v.kind≠0) :
  Calls Tryz.prog 79 #[iH v] w fun x w'=>TkO w w' x (jQ v):=by
 rcases lH v hR with rfl|⟨m,e,rfl,h⟩|⟨t,rfl,h⟩|⟨b,rfl⟩|⟨f,rfl,h1,h2⟩
 ·exact absurd rfl h0
 ·by_cases hm:m<0
  ·have e1:jQ ⟨1,m,e,[],false,0⟩=[tk 5 [45],tk 1 (bK (-m) e)]:=by unfold jQ;rw[if_pos rfl,if_pos hm]
   rw[e1];exact rlit_neg m e w h hm
  have e1:jQ ⟨1,m,e,[],false,0⟩=[tk 1 (bK m e)]:=by unfold jQ;rw[if_pos rfl,if_neg hm]
  rw[e1];exact rlit_pos m e w h (by omega)
 ·exact uFW t w
 ·exact uCC b w
 exact uCB f w
def oW(h:NodeH):Int:=if h.kind=6 then bD h.name else if h.kind=5 then if h.name=[37] then 7 else 6 else 8
theorem mW(t:Tree):bN t=oW t.h:=rfl
theorem jY(h:NodeH)(A:Option Addr)(n c:Nat)(Cn:List Value)(w:World)(af:Hid (Cn.toArray=aJ h A n c)) :
  Calls Tryz.prog 86 #[.agg Cn.toArray] w fun e w'=>e=.returned (vI (oW h))/\Below w.heap.size w w':=by
 obtain⟨W1,an⟩:=zD (w.alloc (.cells Cn.toArray 34))
 have al:=zh an;have HL:=zL an;have HB:=zA an;have c0:=HL.out.cell 0;have c7:=HL.out.cell 7;rw[af.out]at c0 c7;obtain⟨k,v,s,a,b,r⟩:=h;simp only[aJ,za,zb,zf]at c0 c7;obtain⟨x,hx⟩:=zD (oW ⟨k,v,s,a,b,r⟩)
 have HX:=zh hx;rw[<- hx];clear an hx af;by_cases h6:k=6
 ·subst h6;have e6:oW ⟨6,v,s,a,b,r⟩=bD s:=rfl;rw[e6]at HX;by_cases s1:s=[38]
  ·subst s1;have HE:Hid (x=2):=zh (HX.out.trans rfl);clear HX
   go_in
   go_upto_region 1 with fail
   rw[<- al.out];clear al
   go_wp2_with fail
   go_ret
   exact⟨by(rw[HE.out]) <;> rfl,HB.out⟩
  by_cases s2:s=[43]
  ·subst s2;have HE:Hid (x=3):=zh (HX.out.trans rfl);clear HX
   go_in
   go_upto_region 1 with fail
   rw[<- al.out];clear al
   go_wp2_with fail
   go_ret
   exact⟨by(rw[HE.out]) <;> rfl,HB.out⟩
  by_cases s3:s=[45]
  ·subst s3;have HE:Hid (x=3):=zh (HX.out.trans rfl);clear HX
   go_in
   go_upto_region 1 with fail
   rw[<- al.out];clear al
   go_wp2_with fail
   go_ret
   exact⟨by(rw[HE.out]) <;> rfl,HB.out⟩
  by_cases s4:s=[42]
  ·subst s4;have HE:Hid (x=4):=zh (HX.out.trans rfl);clear HX
   go_in
   go_upto_region 1 with fail
   rw[<- al.out];clear al
   go_wp2_with fail
   go_ret
   exact⟨by(rw[HE.out]) <;> rfl,HB.out⟩
  by_cases s5:s=[47]
  ·subst s5;have HE:Hid (x=4):=zh (HX.out.trans rfl);clear HX
   go_in
   go_upto_region 1 with fail
   rw[<- al.out];clear al
   go_wp2_with fail
   go_ret
   exact⟨by(rw[HE.out]) <;> rfl,HB.out⟩
  by_cases s6:s=[94]
  ·subst s6;have HE:Hid (x=5):=zh (HX.out.trans rfl);clear HX
   go_in
   go_upto_region 1 with fail
   rw[<- al.out];clear al
   go_wp2_with fail
   go_ret
   exact⟨by(rw[HE.out]) <;> rfl,HB.out⟩
  have HE:Hid (x=1):=zh (HX.out.trans (by unfold bD;rw[if_neg s1,if_neg (by simp[s2,s3]),if_neg (by simp[s4,s5]),if_neg s6]));have b1:(s==[38])=false:=by simp[s1]
  have b2:(s==[43])=false:=by simp[s2]
  have b3:(s==[45])=false:=by simp[s3]
  have b4:(s==[42])=false:=by simp[s4]
  have b5:(s==[47])=false:=by simp[s5]
  have b6:(s==[94])=false:=by simp[s6]
  clear HX
  go_in
  go_upto_region 1 with fail
  rw[<- al.out];clear al
  go_wp2_with fail
  go_ret
  exact⟨by(rw[HE.out]) <;> rfl,HB.out⟩
 by_cases h5:k=5
 ·subst h5;by_cases s1:s=[37]
  ·subst s1;have HE:Hid (x=7):=zh (HX.out.trans rfl);clear HX
   go_in
   go_upto_region 1 with fail
   rw[<- al.out];clear al
   go_wp2_with fail
   go_ret
   exact⟨by(rw[HE.out]) <;> rfl,HB.out⟩
  have HE:Hid (x=6):=zh (HX.out.trans (by unfold oW;rw[if_neg (by show ¬ (5:Int)=6;omega),if_pos rfl,if_neg s1]));have b1:(s==[37])=false:=by simp[s1]
  clear HX
  go_in
  go_upto_region 1 with fail
  rw[<- al.out];clear al
  go_wp2_with fail
  go_ret
  exact⟨by(rw[HE.out]) <;> rfl,HB.out⟩
 have HE:Hid (x=8):=zh (HX.out.trans (by unfold oW;rw[if_neg h6,if_neg h5]));have k6:(k==6)=false:=by simp[h6]
 have k5:(k==5)=false:=by simp[h5]
 clear HX
 go_in
 go_upto_region 1 with fail
 rw[<- al.out];clear al
 go_wp2_with fail
 go_ret
 exact⟨by(rw[HE.out]) <;> rfl,HB.out⟩
theorem Lies.rangeN{w:World}{b:Nat}{t:TypeId}{C:List Value}(h:Lies w b t C.toArray):w.rangeAt b 0 C:=by
 have:=h.range
 rwa [List.toList_toArray]at this
theorem uDX{C:List Value}{h:NodeH}{A:Option Addr}{n cp:Nat}(e:C.toArray=aJ h A n cp):(Tryz.prog.info? 34).map (·.size)=some C.length:=by
 have h2:C.length=22:=by rw[<- yd,e];rfl
 rw[h2];exact bY
theorem xA(P Q:Option Addr)(v:Say)(h:NodeH)(A:Option Addr)(n c:Nat)(Cn:List Value)(af:Hid (Cn.toArray=aJ h A n c))(ts:List RTok)(po:ts.length<=900000)(f:Bool)(w:World)
  (hT:∀ W,Below w.heap.size w W->Calls Tryz.prog 36 #[.agg #[.pointer P,.pointer Q,vI v.r,vI v.c],.agg Cn.toArray] W fun e w'=>TkO W w' e ts) :
  Calls Tryz.prog 85 #[.agg #[.pointer P,.pointer Q,vI v.r,vI v.c],.agg Cn.toArray,.bool f] w fun e w'=>TkO w w' e (if f then tk 5 [40]::(ts++[tk 5 [41]]) else ts):=by
 obtain⟨W0,ak⟩:∃ W0,W0=(w.alloc (.cells #[.pointer P,.pointer Q,vI v.r,vI v.c] 84)).alloc (.cells Cn.toArray 34):=⟨_,rfl⟩
 have ai:=zh ak;have ag:Hid (Below w.heap.size w W0):=zh (by rw[ak];exact((Below.refl _ w).alloc zr _).alloc (by rw[World.size_alloc];omega) _);have L0:Hid (Lies W0 w.heap.size 84 #[.pointer P,.pointer Q,vI v.r,vI v.c]):=zh (by rw[ak];exact(Lies.new w _ _).alloc _);have HL:Hid (Lies W0 (w.heap.size+1) 34 Cn.toArray):=zh (by
  rw[ak];have h:=Lies.new (w.alloc (.cells #[.pointer P,.pointer Q,vI v.r,vI v.c] 84)) 34 Cn.toArray;rw[World.size_alloc]at h;exact h)
 have HI:=zh (uDX af.out);have ap:Hid (∀ W,Below W0.heap.size W0 W->W.cell? ⟨w.heap.size,0,none⟩=some (.pointer P)/\W.cell? ⟨w.heap.size,1,none⟩=some (.pointer Q)/\W.cell? ⟨w.heap.size,2,none⟩=some (vI v.r)/\W.cell? ⟨w.heap.size,3,none⟩=some (vI v.c)):=zh (fun W h=>⟨(L0.out.next h).cell 0,(L0.out.next h).cell 1,(L0.out.next h).cell 2,(L0.out.next h).cell 3⟩);have CT:Hid (∀ W,Below W0.heap.size W0 W->Calls Tryz.prog 36 #[.agg #[.pointer P,.pointer Q,vI v.r,vI v.c],.agg Cn.toArray] W fun e w'=>TkO W w' e ts):=zh (fun W h=>hT W (zU ag.out h));have HB:Hid (Below W0.heap.size W0 W0):=zh zB;obtain⟨tp,zw⟩:∃ t1,t1=tk 5 [40]:=⟨_,rfl⟩
 obtain⟨tc,f6⟩:∃ t2,t2=tk 5 [41]:=⟨_,rfl⟩
 have C1:Hid (∀ W,Calls Tryz.prog 82 #[vI 5,vS #[40]] W fun x w'=>TkO W w' x [tp]):=zh (fun W=>by rw[zw];exact aR 5 [40] W);have C2:Hid (∀ W,Calls Tryz.prog 82 #[vI 5,vS #[41]] W fun x w'=>TkO W w' x [tc]):=zh (fun W=>by rw[f6];exact aR 5 [41] W);rw[<- zw,<- f6];have ri:=zh po;clear ak af hT zw f6 po;cases f
 ·rw[if_neg (by decide)]
  go_in
  go_upto_region 1 with fail
  rw[<- ai.out];clear ai;obtain⟨c0,c1,c2,c3⟩:=ap.out _ HB.out
  go_wp2_with (first
   |(refine yr rfl 34 (.tmp 4) rfl (w.heap.size+1) 0 rfl Cn _ (HL.out.next HB.out).rangeN Tryz.underlying34 rfl HI.out ?_)
   |((with_reducible refine(CT.out _ HB.out).mono ?_);rintro e wx ⟨A1,ls,rfl,ho,hb⟩;have b7:=zh (aL ho HB.out.size);clear ho;replace HB:=zT HB hb;clear hb c0 c1 c2 c3;obtain⟨c0,c1,c2,c3⟩:=ap.out _ HB.out))
  go_ret
  exact⟨A1,ls,rfl,aL b7.out ag.out.size,zU ag.out HB.out⟩
 rw[if_pos rfl,show tp::(ts++[tc])=([tp]++ts)++[tc] by simp]
 go_in
 go_upto_region 1 with fail
 rw[<- ai.out];clear ai;obtain⟨c0,c1,c2,c3⟩:=ap.out _ HB.out
 go_wp2_with (first
  |(refine yr rfl 34 (.tmp 4) rfl (w.heap.size+1) 0 rfl Cn _ (HL.out.next HB.out).rangeN Tryz.underlying34 rfl HI.out ?_)
  |((with_reducible refine(C1.out _).mono ?_);rintro e wx ⟨A1,ls,rfl,ho,hb⟩;have b7:=zh (aL ho HB.out.size);clear ho;replace HB:=zT HB hb;clear hb c0 c1 c2 c3;obtain⟨c0,c1,c2,c3⟩:=ap.out _ HB.out)
  |((with_reducible refine(CT.out _ HB.out).mono ?_);rintro e wx ⟨A2,oh,rfl,ho,hb⟩;have ee:=zh (aL ho HB.out.size);replace b7:=zh (aD hb b7.out);clear ho;replace HB:=zT HB hb;clear hb c0 c1 c2 c3;obtain⟨c0,c1,c2,c3⟩:=ap.out _ HB.out)
  |(at_builtin;refine aT rfl _ _ rfl W0.heap.size W0.heap.size _ _ [tp] ts rfl b7.out rfl ee.out (by have:=ri.out;simp;omega) HB.out.size ?_;intro A4 qc w4 k4 g4;have jc:=zh k4;have hb:=aN b7.out g4 HB.out.size;clear k4 g4;replace HB:=zh (HB.out.trans hb);clear hb c0 c1 c2 c3;obtain⟨c0,c1,c2,c3⟩:=ap.out _ HB.out)
  |((with_reducible refine(C2.out _).mono ?_);rintro e wx ⟨A3,cc3,rfl,ho,hb⟩;have jb:=zh (aL ho HB.out.size);replace jc:=zh (aD hb jc.out);clear ho;replace HB:=zT HB hb;clear hb c0 c1 c2 c3;obtain⟨c0,c1,c2,c3⟩:=ap.out _ HB.out)
  |(at_builtin;refine aT rfl _ _ rfl W0.heap.size W0.heap.size _ _ ([tp]++ts) [tc] rfl jc.out rfl jb.out (by have:=ri.out;simp;omega) HB.out.size ?_;intro A5 gm w5 k5 g5;have de:=zh k5;have hb:=aN jc.out g5 HB.out.size;clear k5 g5;replace HB:=zh (HB.out.trans hb);clear hb c0 c1 c2 c3;obtain⟨c0,c1,c2,c3⟩:=ap.out _ HB.out))
 go_ret
 exact⟨A5,gm,congrArg (fun k=>Ending.returned (.slice A5 k gm)) (by simp:ts.length+1+1=([tp]++ts++[tc]).length),aL de.out ag.out.size,zU ag.out HB.out⟩
theorem sE(y:List RTok):∀ (xs:List (List RTok)),bF (xs++[y])=if xs=[] then y else bF xs++([tk 5 [44]]++y)
 | []=>by simp[bF]
 | [a]=>by simp[bF]
 |a::b::r=>by
  have ih:=sE y (b::r);rw[if_neg (by simp)]at ih;rw[if_neg (by simp)];show a++tk 5 [44]::bF (b::(r++[y]))=_;rw[show b::(r++[y])=(b::r)++[y] from rfl,ih];simp[bF]
theorem uFV(P Q:Option Addr)(v:Say)(A:Option Addr)(cp:Nat)(TS:List (List RTok))(w:World)
  (hK:∀ k (hk:k<TS.length),∃ g o ci,A=some ⟨g,o,none⟩/\(ci:List Value).length=22/\∀ W,Below w.heap.size w W->W.rangeAt g (o+k*22) ci/\Calls Tryz.prog 36 #[.agg #[.pointer P,.pointer Q,vI v.r,vI v.c],.agg ci.toArray] W fun e w'=>TkO W w' e TS[k])
  (hn:TS.length<=100000) (hl:∀ k,(bF (TS.take k)).length<=400000) (ru:∀ k (hk:k<TS.length),(TS[k]).length<=400000) :
  Calls Tryz.prog 84 #[.agg #[.pointer P,.pointer Q,vI v.r,vI v.c],.slice A TS.length cp,vS #[44]] w fun e w'=>TkO w w' e (bF TS):=by
 obtain⟨W0,ak⟩:=zD (w.alloc (.cells #[.pointer P,.pointer Q,vI v.r,vI v.c] 84))
 have ai:=zh ak;have ag:=zA ak;have L0:Hid (Lies W0 w.heap.size 84 #[.pointer P,.pointer Q,vI v.r,vI v.c]):=zh (by rw[ak];exact Lies.new w _ _);obtain⟨ts,po⟩:∃ t,t=tk 5 [44]:=⟨_,rfl⟩
 have CS:Hid (∀ W,Calls Tryz.prog 82 #[vI 5,vS #[44]] W fun x w'=>TkO W w' x [ts]):=zh (fun W=>by rw[po];exact aR 5 [44] W);have HSn:Hid (∀ k (hk:k<TS.length),bF (TS.take (k+1))=if k=0 then TS[k] else bF (TS.take k)++([ts]++TS[k])):=zh (fun k hk=>by
  rw[yw hk,sE,po];by_cases h0:k=0
  ·subst h0;simp
  rw[if_neg h0,if_neg (by
   intro h;rcases List.take_eq_nil_iff.1 h with h|h
   ·exact h0 h
   rw[h]at hk;exact absurd hk (Nat.not_lt_zero _))])
 have HK:Hid (∀ k (hk:k<TS.length),∃ g o ci,A=some ⟨g,o,none⟩/\(ci:List Value).length=22/\∀ W,Below W0.heap.size W0 W->W.rangeAt g (o+k*22) ci/\Calls Tryz.prog 36 #[.agg #[.pointer P,.pointer Q,vI v.r,vI v.c],.agg ci.toArray] W fun e w'=>TkO W w' e TS[k]):=zh (fun k hk=>by
  obtain⟨g,o,ci,h1,h2,h3⟩:=hK k hk;exact⟨g,o,ci,h1,h2,fun W h=>h3 W (zU ag.out h)⟩)
 have HLl:=zh hl;have ir:=zh ru;have HT0:Hid (TS.take 0=[]):=zh rfl;have HTn:Hid (TS.take TS.length=TS):=zh (List.take_length);obtain⟨n,dw⟩:=zD TS.length
 have HN:=zh dw;rw[<- dw]at hn ⊢;clear ak hK hl ru po dw
 go_in
 go_upto_region 1 with fail
 rw[<- ai.out];clear ai
 go_wp2_with fail
 go_loopw [7,8] (fun v7 v8 wr=>∃ k:Nat,k<=n/\v8=vI (k:Int)/\Hid (wr.ownsRow W0.heap.size 85 3 v7 (bF (TS.take k)).length (cL (bF (TS.take k))))/\Hid (Below W0.heap.size W0 wr)) (fun _ v8 _=>n-(intOf v8).toNat)
 case atStart=>exact⟨0,zm _,rfl,zh (by rw[HT0.out];exact⟨rfl,.inl ⟨rfl,rfl⟩⟩),zh zB⟩
 case round=>
  obtain⟨k,hk,rfl,hO,hB⟩:=hrel;have rv:(k:Int)<=100000:=by omega
  by_cases hlt:k<n
  ·have iu:(k:Int)<(n:Int):=by omega
   have ec:k<TS.length:=by rw[<- HN.out];exact hlt
   have HS:=zh (HSn.out k ec);obtain⟨g,o,ci,rfl,ed,cv⟩:=HK.out k ec;have zi:(Tryz.prog.info? 34).map (·.size)=some ci.length:=by rw[ed];exact bY
   have bg:=zh zi;have pj:=zh cv;have cr:=zh (HLl.out k);have o6:=zh (ir.out k ec);obtain⟨tk',htk'⟩:∃ t,TS[k]=t:=⟨_,rfl⟩
   rw[htk']at HS pj o6;have CT:Hid (∀ W,Below W0.heap.size W0 W->Calls Tryz.prog 36 #[.agg #[.pointer P,.pointer Q,vI v.r,vI v.c],.agg ci.toArray] W fun e w'=>TkO W w' e tk'):=zh (fun W h=>(pj.out W h).2);have ap:Hid (∀ W,Below W0.heap.size W0 W->W.rangeAt w.heap.size 0 [.pointer P,.pointer Q,vI v.r,vI v.c]/\W.rangeAt g (o+k*22) ci/\Below W0.heap.size W0 W):=zh (fun W h=>⟨Lies.rangeN (C:=[.pointer P,.pointer Q,vI v.r,vI v.c]) (L0.out.next h),(pj.out W h).1,h⟩);have ll:Hid (k=0->bF (TS.take k)=[]):=zh (fun h=>by rw[h];rfl);generalize jr:bF (TS.take k)=acc at *;clear cv htk' ed jr zi;obtain⟨A1,ls,rfl⟩:=aV hO.out
   go_upto_if 16 with fail
   go_cut [7] (fun v7 wx=>∃ A ac c,v7=.slice A ac.length c/\Hid (wx.ownsRow W0.heap.size 85 3 (.slice A ac.length c) ac.length (cL ac))/\Hid (Below W0.heap.size W0 wx)/\Hid (bF (TS.take (k+1))=ac++tk')/\Hid (ac.length<=400001))
   case first=>
    clear ap CT;by_cases gu:k=0
    ·have tu:(k:Int)<=0:=by omega
     have HQ:Hid (bF (TS.take (k+1))=acc++tk'):=zh (by rw[HS.out,if_pos gu,ll.out gu,List.nil_append]);clear gu
     go_wp2_with fail
     go_meet
     exact⟨A1,acc,ls,rfl,hO,hB,HQ,zh (by have:=cr.out;omega)⟩
    have tu:(0:Int)<(k:Int):=by omega
    have HQ:Hid (bF (TS.take (k+1))=(acc++[ts])++tk'):=zh (by rw[HS.out,if_neg gu,List.append_assoc]);clear gu
    go_wp2_with (first
     |((with_reducible refine(CS.out _).mono ?_);rintro e wx ⟨A2,oh,rfl,ho,hb⟩;have ee:=zh (aL ho hB.out.size);replace hO:=zh (aD hb hO.out);clear ho;replace hB:=zT hB hb;clear hb)
     |(at_builtin;refine aT rfl _ _ rfl W0.heap.size W0.heap.size _ _ acc [ts] rfl hO.out rfl ee.out (by have:=cr.out;simp;omega) hB.out.size ?_;intro A4 qc w4 k4 g4;have jc:=zh k4;have hb:=aN hO.out g4 hB.out.size;clear k4 g4;replace hB:=zh (hB.out.trans hb);clear hb))
    go_meet
    exact⟨A4,acc++[ts],qc,congrArg (fun k=>Value.slice A4 k qc) (by simp),jc,hB,HQ,zh (by have:=cr.out;simp;omega)⟩
   case rest=>
   obtain⟨A4,ac,qc,rfl,jc,bu,jf,ij⟩:=hcut;clear hO hB HS ll cr pj CS HK HSn HLl ir L0;have hkn:(k:Int)<(n:Int):=iu
   go_upto_region 7 with fail
   refine wp_region_held_drew (S:=fun w'=>w'.rangeAt w.heap.size 0 [.pointer P,.pointer Q,vI v.r,vI v.c]/\w'.rangeAt g (o+k*22) ci/\Below W0.heap.size W0 w') (by kernel_rfl) (ap.out _ bu.out.drew) (fun ae=>?_);refine TkA 0 (.slice A4 ac.length qc) ?_;refine TkC 1 (.agg #[.pointer P,.pointer Q,vI v.r,vI v.c]) rfl (yieldsIf_load_mid (by rfl) 84 (.tmp 3) rfl w.heap.size 0 rfl [.pointer P,.pointer Q,vI v.r,vI v.c] _ (fun w2 h=>h.1) Tryz.underlying84 rfl (by kernel_rfl)) ?_;refine TkA 2 (.slice (some ⟨g,o,none⟩) n cp) ?_;refine TkA 3 (vI (k:Int)) ?_;refine TkC 4 (vP g (o+k*22)) rfl (Or.inl ⟨by rfl,fun w2 hS=>by simp[execOp,go_sem,hkn,rA]⟩) ?_;refine TkC 5 (.agg ci.toArray) rfl (yieldsIf_load_mid (by rfl) 34 (.tmp 25) rfl g (o+k*22) rfl ci _ (fun w2 h=>h.2.1) Tryz.underlying34 rfl bg.out) ?_
   refine TkR 6 (fun K hK=>?_)
   go_simp
   go_at_call 36
   refine(CT.out _ ae.2.2).mono ?_;rintro x wx ⟨A2,oh,rfl,ho,hb⟩;have ee:=zh (aL ho ae.2.2.size);have ez:=zh (aD hb (aD (Below.drew zB) jc.out));have ni:=zh (ae.2.2.trans (hb.mono ae.2.2.size));clear ho hb
   go_wp2_with fail
   refine hK.out _ _ (ap.out _ ni.out) (fun hS1=>?_);clear hK K ae;refine TkR 7 (fun K hK=>?_);refine dI rfl _ _ rfl W0.heap.size W0.heap.size _ _ ac tk' rfl ez.out rfl ee.out (by have:=o6.out;have:=ij.out;omega) ni.out.size ?_;intro A5 gm w5 k5 g5;have HO7:=zh k5;have m4:=zh (ni.out.trans (aN ez.out g5 ni.out.size));clear k5 g5;refine hK.out _ _ (ap.out _ m4.out) (fun hS2=>?_);clear hK K hS1;refine TkA 8 (.slice A5 (ac++tk').length gm) ?_;simp only[Act.put,yz];refine TkD ?_
   go_wp2_with fail
   go_roundw
   case rel=>exact⟨k+1,by omega,by go_num,zh (by rw[jf.out];first|exact HO7.out |(have h:=HO7.out;simp only[yl]at h ⊢;exact h)),m4⟩
   case measure=>first |(simp[intOf];done) |(simp[intOf];omega)
  obtain rfl:k=n:=by omega
  go_wp2_with fail
  go_ret
  have h1:TS.take k=TS:=by rw[HN.out];exact HTn.out
  rw[h1]at hO;obtain⟨A1,ls,rfl⟩:=aV hO.out;exact⟨A1,ls,rfl,aL hO.out ag.out.size,zU ag.out hB.out⟩
abbrev VwC(q:Nat)(P Q:Option Addr)(v:Say)(W:World):Prop:=W.cell? ⟨q,0,none⟩=some (.pointer P)/\W.cell? ⟨q,1,none⟩=some (.pointer Q)/\W.cell? ⟨q,2,none⟩=some (vI v.r)/\W.cell? ⟨q,3,none⟩=some (vI v.c)
theorem cU{W:World}{q:Nat}{P Q:Option Addr}{v:Say}(h:Lies W q 84 #[.pointer P,.pointer Q,vI v.r,vI v.c]):VwC q P Q v W:=⟨h.cell 0,h.cell 1,h.cell 2,h.cell 3⟩
theorem fC(P Q:Option Addr)(v:Say)(Cn:List Value)(w:World):∃ W0,Hid (W0=(w.alloc (.cells #[.pointer P,.pointer Q,vI v.r,vI v.c] 84)).alloc (.cells Cn.toArray 34))/\Hid (Below w.heap.size w W0)/\Hid (Lies W0 w.heap.size 84 #[.pointer P,.pointer Q,vI v.r,vI v.c])/\Hid (Lies W0 (w.heap.size+1) 34 Cn.toArray):=by
 obtain⟨W0,ak⟩:∃ W0,W0=(w.alloc (.cells #[.pointer P,.pointer Q,vI v.r,vI v.c] 84)).alloc (.cells Cn.toArray 34):=⟨_,rfl⟩
 refine⟨W0,zh ak,zh (by rw[ak];exact((Below.refl _ w).alloc zr _).alloc (by rw[World.size_alloc];omega) _),zh (by rw[ak];exact(Lies.new w _ _).alloc _),zh ?_⟩;rw[ak];have h:=Lies.new (w.alloc (.cells #[.pointer P,.pointer Q,vI v.r,vI v.c] 84)) 34 Cn.toArray;rw[World.size_alloc]at h;exact h
theorem rtok_lit(P Q:Option Addr)(v:Say)(vv:Val)(s:Bs)(a b:Cor)(r:Int)(A:Option Addr)(n cp:Nat)(Cn:List Value)(af:Cn.toArray=aJ ⟨0,vv,s,a,b,r⟩ A n cp)(g:List RTok)(w:World)(hT:∀ W,Calls Tryz.prog 79 #[.agg #[vI vv.kind,vI vv.mant,vI vv.exp,vT vv.text,.bool vv.truth,vI vv.fault]] W fun x w'=>TkO W w' x g) :
  Calls Tryz.prog 36 #[.agg #[.pointer P,.pointer Q,vI v.r,vI v.c],.agg Cn.toArray] w fun e w'=>TkO w w' e g:=by
 obtain⟨W0,ai,ag,L0,HL⟩:=fC P Q v Cn w;have ap:=zh (fun W (h:Below W0.heap.size W0 W)=>And.intro (cU (L0.out.next h)) (cI (HL.out.next h) af));have HB:Hid (Below W0.heap.size W0 W0):=zh zB;have CK:=zh hT;clear af hT
 go_in
 go_upto_region 1 with fail
 rw[<- ai.out];clear ai;obtain⟨⟨w0,w1,w2,w3⟩,e0,e1,e2,e3,e4,e5,e6,-⟩:=ap.out _ HB.out
 go_wp2_with ((with_reducible refine(CK.out _).mono ?_);rintro e wx ⟨A5,gm,rfl,ho,hb⟩;have de:=zh (aL ho HB.out.size);clear ho;replace HB:=zT HB hb;clear hb)
 go_ret
 exact⟨A5,gm,rfl,aL de.out ag.out.size,zU ag.out HB.out⟩
theorem uGE(P Q:Option Addr)(v:Say)(vv:Val)(s:Bs)(a b:Cor)(r:Int)(A:Option Addr)(n cp:Nat)(Cn:List Value)(af:Cn.toArray=aJ ⟨7,vv,s,a,b,r⟩ A n cp)(g:List RTok)(w:World)(hT:∀ W,Calls Tryz.prog 82 #[vI 3,vT s] W fun x w'=>TkO W w' x g) :
  Calls Tryz.prog 36 #[.agg #[.pointer P,.pointer Q,vI v.r,vI v.c],.agg Cn.toArray] w fun e w'=>TkO w w' e g:=by
 obtain⟨W0,ai,ag,L0,HL⟩:=fC P Q v Cn w;have ap:=zh (fun W (h:Below W0.heap.size W0 W)=>And.intro (cU (L0.out.next h)) (cI (HL.out.next h) af));have HB:Hid (Below W0.heap.size W0 W0):=zh zB;have CK:=zh hT;clear af hT
 go_in
 go_upto_region 1 with fail
 rw[<- ai.out];clear ai;obtain⟨⟨w0,w1,w2,w3⟩,e0,-,-,-,-,-,-,e7,-⟩:=ap.out _ HB.out
 go_wp2_with ((with_reducible refine(CK.out _).mono ?_);rintro e wx ⟨A5,gm,rfl,ho,hb⟩;have de:=zh (aL ho HB.out.size);clear ho;replace HB:=zT HB hb;clear hb)
 go_ret
 exact⟨A5,gm,rfl,aL de.out ag.out.size,zU ag.out HB.out⟩
theorem uGH(P Q:Option Addr)(v:Say)(vv:Val)(s:Bs)(a b:Cor)(r:Int)(A:Option Addr)(n cp:Nat)(Cn:List Value)(af:Cn.toArray=aJ ⟨2,vv,s,a,b,r⟩ A n cp)(g:List RTok)(w:World)(hT:∀ W,Below w.heap.size w W->Calls Tryz.prog 83 #[.agg #[.pointer P,.pointer Q,vI v.r,vI v.c],.agg #[vI a.row.a,vI a.row.n,vI a.col.a,vI a.col.n,.bool a.fr,.bool a.fc],.agg #[vI b.row.a,vI b.row.n,vI b.col.a,vI b.col.n,.bool b.fr,.bool b.fc]] W fun x w'=>TkO W w' x g) :
  Calls Tryz.prog 36 #[.agg #[.pointer P,.pointer Q,vI v.r,vI v.c],.agg Cn.toArray] w fun e w'=>TkO w w' e g:=by
 obtain⟨W0,ai,ag,L0,HL⟩:=fC P Q v Cn w;have ap:=zh (fun W (h:Below W0.heap.size W0 W)=>And.intro (cU (L0.out.next h)) (cI (HL.out.next h) af));have HB:Hid (Below W0.heap.size W0 W0):=zh zB;have CK:=zh (fun W (h:Below W0.heap.size W0 W)=>hT W (zU ag.out h));clear af hT
 go_in
 go_upto_region 1 with fail
 rw[<- ai.out];clear ai;obtain⟨⟨w0,w1,w2,w3⟩,e0,-,-,-,-,-,-,-,e8,e9,e10,e11,e12,e13,e14,e15,e16,e17,e18,e19,-⟩:=ap.out _ HB.out
 go_wp2_with ((with_reducible refine(CK.out _ HB.out).mono ?_);rintro e wx ⟨A5,gm,rfl,ho,hb⟩;have de:=zh (aL ho HB.out.size);clear ho;replace HB:=zT HB hb;clear hb)
 go_ret
 exact⟨A5,gm,rfl,aL de.out ag.out.size,zU ag.out HB.out⟩
theorem uGF(P Q:Option Addr)(v:Say)(vv:Val)(s:Bs)(a b:Cor)(r:Int)(A:Option Addr)(n cp:Nat)(Cn:List Value)(af:Cn.toArray=aJ ⟨9,vv,s,a,b,r⟩ A n cp)(g:List RTok)(w:World)(hg:g=[]) :
  Calls Tryz.prog 36 #[.agg #[.pointer P,.pointer Q,vI v.r,vI v.c],.agg Cn.toArray] w fun e w'=>TkO w w' e g:=by
 obtain⟨W0,ai,ag,L0,HL⟩:=fC P Q v Cn w;have ap:=zh (fun W (h:Below W0.heap.size W0 W)=>And.intro (cU (L0.out.next h)) (cI (HL.out.next h) af));have HB:Hid (Below W0.heap.size W0 W0):=zh zB;have HG:=zh hg;clear af hg
 go_in
 go_upto_region 1 with fail
 rw[<- ai.out];clear ai;obtain⟨⟨w0,w1,w2,w3⟩,e0,-⟩:=ap.out _ HB.out
 go_wp2_with fail
 go_ret
 exact⟨none,0,by(rw[HG.out]) <;> rfl,by rw[HG.out];exact⟨rfl,.inl ⟨rfl,rfl⟩⟩,ag.out⟩
end Go.Proofs.YtjfihpaeglpblaaGreatDoor
