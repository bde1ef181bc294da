/-
  Lemmas, part 37: FxB OpenX OpenY.
-/
import Derived.Test.YtjfihpaeglpblaaGreatDoorRf36
set_option maxHeartbeats 100000000
set_option maxRecDepth 1000000
namespace Go.Proofs.YtjfihpaeglpblaaGreatDoor
open Go.RowKit
abbrev cH(a:Cor):Array Value:=#[vI a.row.a,vI a.row.n,vI a.col.a,vI a.col.n,.bool a.fr,.bool a.fc]
abbrev NdK(h:NodeH)(q:Nat)(W:World):Prop:=W.cell? ⟨q,8,none⟩=some (vI h.a.row.a)/\W.cell? ⟨q,9,none⟩=some (vI h.a.row.n)/\W.cell? ⟨q,10,none⟩=some (vI h.a.col.a)/\W.cell? ⟨q,11,none⟩=some (vI h.a.col.n)/\W.cell? ⟨q,12,none⟩=some (.bool h.a.fr)/\W.cell? ⟨q,13,none⟩=some (.bool h.a.fc)/\W.cell? ⟨q,14,none⟩=some (vI h.b.row.a)/\W.cell? ⟨q,15,none⟩=some (vI h.b.row.n)/\W.cell? ⟨q,16,none⟩=some (vI h.b.col.a)/\W.cell? ⟨q,17,none⟩=some (vI h.b.col.n)/\W.cell? ⟨q,18,none⟩=some (.bool h.b.fr)/\W.cell? ⟨q,19,none⟩=some (.bool h.b.fc)
abbrev wH:Array Value:=#[vI 0,vI 0,vI 0,vI 0,.bool false,.bool false]
theorem kR{W:World}{g:Nat}(h:Lies W g 29 wH)(a:Cor):Lies ((((((W.setCell ⟨g,0,none⟩ (vI a.row.a)).setCell ⟨g,1,none⟩ (vI a.row.n)).setCell ⟨g,2,none⟩ (vI a.col.a)).setCell ⟨g,3,none⟩ (vI a.col.n)).setCell ⟨g,4,none⟩ (.bool a.fr)).setCell ⟨g,5,none⟩ (.bool a.fc)) g 29 (cH a):=by
 have k:=(((((h.put 0 (vI a.row.a)).put 1 (vI a.row.n)).put 2 (vI a.col.a)).put 3 (vI a.col.n)).put 4 (.bool a.fr)).put 5 (.bool a.fc);simpa using k
theorem mY{W:World}{g q:Nat}{t:TypeId}{cs:Array Value}(h:Lies W g t cs)(hn:g≠q)(a:Cor):Lies ((((((W.setCell ⟨q,0,none⟩ (vI a.row.a)).setCell ⟨q,1,none⟩ (vI a.row.n)).setCell ⟨q,2,none⟩ (vI a.col.a)).setCell ⟨q,3,none⟩ (vI a.col.n)).setCell ⟨q,4,none⟩ (.bool a.fr)).setCell ⟨q,5,none⟩ (.bool a.fc)) g t cs :=
 aB (aB (aB (aB (aB (aB h hn _ _) hn _ _) hn _ _) hn _ _) hn _ _) hn _ _
theorem jE{n:Nat}{w W:World}{g:Nat}(h:Below n w W)(hn:n<=g)(a:Cor):Below n w ((((((W.setCell ⟨g,0,none⟩ (vI a.row.a)).setCell ⟨g,1,none⟩ (vI a.row.n)).setCell ⟨g,2,none⟩ (vI a.col.a)).setCell ⟨g,3,none⟩ (vI a.col.n)).setCell ⟨g,4,none⟩ (.bool a.fr)).setCell ⟨g,5,none⟩ (.bool a.fc)) :=
 (((((h.setCell (p:=⟨_,_,none⟩) hn _).setCell (p:=⟨_,_,none⟩) hn _).setCell (p:=⟨_,_,none⟩) hn _).setCell (p:=⟨_,_,none⟩) hn _).setCell (p:=⟨_,_,none⟩) hn _).setCell (p:=⟨_,_,none⟩) hn _
theorem uBD{h:NodeH}{A:Option Addr}{n c:Nat}{W:World}{q:Nat}{cs:Array Value}{b1 b2 b3 b4:Bool}(hl:Lies W q 34 cs)(hc:cs=aH h A n c)(e1:decide (h.a.row≠id0)=b1)(e2:decide (h.a.col≠id0)=b2)(e3:decide (h.b.row≠id0)=b3)(e4:decide (h.b.col≠id0)=b4):Lies ((((((((((((W.setCell ⟨q,8,none⟩ (vI h.a.row.a)).setCell ⟨q,9,none⟩ (vI h.a.row.n)).setCell ⟨q,10,none⟩ (vI h.a.col.a)).setCell ⟨q,11,none⟩ (vI h.a.col.n)).setCell ⟨q,12,none⟩ (.bool b1)).setCell ⟨q,13,none⟩ (.bool b2)).setCell ⟨q,14,none⟩ (vI h.b.row.a)).setCell ⟨q,15,none⟩ (vI h.b.row.n)).setCell ⟨q,16,none⟩ (vI h.b.col.a)).setCell ⟨q,17,none⟩ (vI h.b.col.n)).setCell ⟨q,18,none⟩ (.bool b3)).setCell ⟨q,19,none⟩ (.bool b4)) q 34 (aH (cQ h) A n c):=by
 rw[hc]at hl;have k1:=hl.put 8 (vI h.a.row.a);have k2:=k1.put 9 (vI h.a.row.n);have k3:=k2.put 10 (vI h.a.col.a);have k4:=k3.put 11 (vI h.a.col.n);have k5:=k4.put 12 (.bool b1);have k6:=k5.put 13 (.bool b2);have k7:=k6.put 14 (vI h.b.row.a);have k8:=k7.put 15 (vI h.b.row.n);have k9:=k8.put 16 (vI h.b.col.a);have k10:=k9.put 17 (vI h.b.col.n);have k11:=k10.put 18 (.bool b3);have k12:=k11.put 19 (.bool b4)
 have e:((((((((((((aH h A n c).setIfInBounds 8 (vI h.a.row.a)).setIfInBounds 9 (vI h.a.row.n)).setIfInBounds 10 (vI h.a.col.a)).setIfInBounds 11 (vI h.a.col.n)).setIfInBounds 12 (.bool b1)).setIfInBounds 13 (.bool b2)).setIfInBounds 14 (vI h.b.row.a)).setIfInBounds 15 (vI h.b.row.n)).setIfInBounds 16 (vI h.b.col.a)).setIfInBounds 17 (vI h.b.col.n)).setIfInBounds 18 (.bool b3)).setIfInBounds 19 (.bool b4)=aH (cQ h) A n c:=by
  subst e1 e2 e3 e4
  kernel_rfl
 rw[<- e];exact k12
theorem uEZ{W:World}{g q:Nat}{t:TypeId}{cs:Array Value}(hl:Lies W g t cs)(hn:g≠q)(h:NodeH)(b1 b2 b3 b4:Bool):Lies ((((((((((((W.setCell ⟨q,8,none⟩ (vI h.a.row.a)).setCell ⟨q,9,none⟩ (vI h.a.row.n)).setCell ⟨q,10,none⟩ (vI h.a.col.a)).setCell ⟨q,11,none⟩ (vI h.a.col.n)).setCell ⟨q,12,none⟩ (.bool b1)).setCell ⟨q,13,none⟩ (.bool b2)).setCell ⟨q,14,none⟩ (vI h.b.row.a)).setCell ⟨q,15,none⟩ (vI h.b.row.n)).setCell ⟨q,16,none⟩ (vI h.b.col.a)).setCell ⟨q,17,none⟩ (vI h.b.col.n)).setCell ⟨q,18,none⟩ (.bool b3)).setCell ⟨q,19,none⟩ (.bool b4)) g t cs:=by
 have k1:=aB hl hn 8 (vI h.a.row.a);have k2:=aB k1 hn 9 (vI h.a.row.n);have k3:=aB k2 hn 10 (vI h.a.col.a);have k4:=aB k3 hn 11 (vI h.a.col.n);have k5:=aB k4 hn 12 (.bool b1);have k6:=aB k5 hn 13 (.bool b2);have k7:=aB k6 hn 14 (vI h.b.row.a);have k8:=aB k7 hn 15 (vI h.b.row.n);have k9:=aB k8 hn 16 (vI h.b.col.a);have k10:=aB k9 hn 17 (vI h.b.col.n);have k11:=aB k10 hn 18 (.bool b3);have k12:=aB k11 hn 19 (.bool b4);exact k12
theorem xI{w W:World}{q:Nat}(hb:Below q w W)(h:NodeH)(b1 b2 b3 b4:Bool):Below q w ((((((((((((W.setCell ⟨q,8,none⟩ (vI h.a.row.a)).setCell ⟨q,9,none⟩ (vI h.a.row.n)).setCell ⟨q,10,none⟩ (vI h.a.col.a)).setCell ⟨q,11,none⟩ (vI h.a.col.n)).setCell ⟨q,12,none⟩ (.bool b1)).setCell ⟨q,13,none⟩ (.bool b2)).setCell ⟨q,14,none⟩ (vI h.b.row.a)).setCell ⟨q,15,none⟩ (vI h.b.row.n)).setCell ⟨q,16,none⟩ (vI h.b.col.a)).setCell ⟨q,17,none⟩ (vI h.b.col.n)).setCell ⟨q,18,none⟩ (.bool b3)).setCell ⟨q,19,none⟩ (.bool b4)):=by
 have k1:=hb.setCell (p:=⟨q,8,none⟩) zr (vI h.a.row.a);have k2:=k1.setCell (p:=⟨q,9,none⟩) zr (vI h.a.row.n);have k3:=k2.setCell (p:=⟨q,10,none⟩) zr (vI h.a.col.a);have k4:=k3.setCell (p:=⟨q,11,none⟩) zr (vI h.a.col.n);have k5:=k4.setCell (p:=⟨q,12,none⟩) zr (.bool b1);have k6:=k5.setCell (p:=⟨q,13,none⟩) zr (.bool b2);have k7:=k6.setCell (p:=⟨q,14,none⟩) zr (vI h.b.row.a);have k8:=k7.setCell (p:=⟨q,15,none⟩) zr (vI h.b.row.n);have k9:=k8.setCell (p:=⟨q,16,none⟩) zr (vI h.b.col.a);have k10:=k9.setCell (p:=⟨q,17,none⟩) zr (vI h.b.col.n);have k11:=k10.setCell (p:=⟨q,18,none⟩) zr (.bool b3);have k12:=k11.setCell (p:=⟨q,19,none⟩) zr (.bool b4);exact k12
abbrev FxS(h:NodeH)(g3 g4 g5:Nat)(W:World):Prop:=W.cell? ⟨g3,0,none⟩=some (vI h.a.row.a)/\W.cell? ⟨g3,1,none⟩=some (vI h.a.row.n)/\W.cell? ⟨g3,2,none⟩=some (vI h.a.col.a)/\W.cell? ⟨g3,3,none⟩=some (vI h.a.col.n)/\W.cell? ⟨g4,0,none⟩=some (vI h.b.row.a)/\W.cell? ⟨g4,1,none⟩=some (vI h.b.row.n)/\W.cell? ⟨g4,2,none⟩=some (vI h.b.col.a)/\W.cell? ⟨g4,3,none⟩=some (vI h.b.col.n)/\W.cell? ⟨g5,0,none⟩=some (vI 0)/\W.cell? ⟨g5,1,none⟩=some (vI 0)
def FxP(t:Tree)(Cn:List Value)(W:World):Prop:=Calls Tryz.prog 19 #[.agg Cn.toArray] W fun e w'=>∃ Dn:List Value,e=.returned (.agg Dn.toArray)/\TreeP (fun g=>W.heap.size<=g) w' (cR t) Dn.toArray/\Below W.heap.size W w'
theorem infoNB:(Tryz.prog.info? 34).map (fun i=>(i.size,i.zero.map (·.cells.size),decide (i.bytes<=1000)))=some (22,some 22,true):=by kernel_rfl
theorem mk_nodes(n:Nat)(hn:n<=1000000):∃ cs:Array Value,cs.size=n*22/\∀ W:World,(Instr.makeSlice 32 (vI (n:Int)) (vI (n:Int))).run Tryz.prog W=.ok (.slice (some ⟨W.heap.size,0,none⟩) n n) (W.alloc (.cells cs 34)):=by
 obtain⟨i,hi,e⟩:=Option.map_eq_some_iff.1 infoNB;injection e with e1 e;injection e with e2 e3;obtain⟨z,hz,ez⟩:=Option.map_eq_some_iff.1 e2;have hb:=of_decide_eq_true e3;refine⟨madeCells z.cells (n*22),by simp[madeCells],fun W=>?_⟩;have hbn:(i.bytes:Int)*(n:Int)<=281474976710656:=by
  have h2:=Nat.mul_le_mul hb hn;have h3:((i.bytes*n:Nat):Int)=(i.bytes:Int)*(n:Int):=Int.natCast_mul _ _;omega
 have h:=run_make (P:=Tryz.prog) W 32 34 i z Tryz.underlying32 hi hz .i64 .i64 (n:Int) (n:Int) (by omega) (Int.le_refl _) hbn (by omega);rw[e1]at h;simpa using h
structure FxI(w:World)(q g6:Nat)(nd:Array Value)(l:List Tree)(k:Nat)(wr:World):Prop where
 bel:Below w.heap.size w wr
 nd:Lies wr q 34 nd
 re:Lies wr (q+1) 34 bT.toArray
 th:wr.there g6 0 (l.length*22)
 lt:g6<wr.heap.size
 kids:∀ i (hi:i<l.length),i<k->∃ Di:List Value,wr.rangeAt g6 (i*22) Di/\Di.length=22/\TreeP (fun g=>g6<g) wr (cR (l[i]'hi)) Di.toArray
theorem gT{B b:Nat}(hb:B<=b){a:World}:∀ (vs:List Value) (o:Nat) (w:World),Below B a w->Below B a (w.setCells b o vs)
 | [],_,_,h=>h
 |v::r,o,w,h=>gT hb r (o+1) (w.setCell ⟨b,o,none⟩ v) (h.setCell (p:=⟨b,o,none⟩) hb v)
theorem gG{g b:Nat}(hn:g≠b):∀ (vs:List Value) (o:Nat) (w:World),(w.setCells b o vs).heap[g]?=w.heap[g]?
 | [],_,_=>rfl
 |v::r,o,w=>(gG hn r (o+1) (w.setCell ⟨b,o,none⟩ v)).trans (Below.heap_setCell _ _ _ _ hn)
theorem lZ{b:Nat}:∀ (vs:List Value) (o:Nat) (w:World),(w.setCells b o vs).heap.size=w.heap.size
 | [],_,_=>rfl
 |v::r,o,w=>(lZ r (o+1) (w.setCell ⟨b,o,none⟩ v)).trans (World.size_setCell _ _ _)
theorem pP{W W':World}{g o n:Nat}(h:W.there g o n)(hg:g<W.heap.size)(hb:Below W.heap.size W W'):W'.there g o n:=fun j hj=>by
 have e:=hb.block g hg;obtain⟨h1,h2⟩:=h j hj;refine⟨by rw[World.cell?_of_block (w:=W) (a:=⟨g,o+j,none⟩) e];exact h1,?_⟩;rw[<- h2];unfold World.frozen?;rw[e]
theorem tV{w wr w2:World}{q g6 k:Nat}{nd:Array Value}{l:List Tree}{Dn:List Value}(h:FxI w q g6 nd l k wr)(hk:k<l.length)(hb:Below wr.heap.size wr w2)(dq:Dn.length=22):w2.there g6 (k*22) Dn.toArray.size:=fun j hj=>by
 rw[yd,dq]at hj;have t:=pP h.th h.lt hb (k*22+j) (by have:=Nat.mul_le_mul_right 22 (Nat.succ_le_of_lt hk);omega);rw[Nat.zero_add]at t;exact t
theorem rK{W:World}{g b:Nat}{t:TypeId}{cs:Array Value}(h:Lies W g t cs)(hn:g≠b)(o:Nat)(vs:List Value):Lies (W.setCells b o vs) g t cs:=by
 have e:=gG hn vs o W;unfold Lies at h ⊢;rw[e,h]
theorem fxI_step{w wr w2:World}{q g6 k:Nat}{nd:Array Value}{l:List Tree}{Dn:List Value}(h:FxI w q g6 nd l k wr)(hk:k<l.length)(hq:q+1<g6)(hb:Below wr.heap.size wr w2)(rz:TreeP (fun g=>wr.heap.size<=g) w2 (cR (l[k]'hk)) Dn.toArray)(dq:Dn.length=22)(hw:w.heap.size<=g6:=by omega):FxI w q g6 nd l (k+1) (w2.setCells g6 (k*22) Dn):=by
 have ap:(w2.setCells g6 (k*22) Dn).heap.size=w2.heap.size:=lZ _ _ _;have iz:=hb.size;have hth:=tV h hk hb dq;have gq:∀ {t:Tree} {cs:Array Value} {W:World},(∀ g,g6<g->g<W.heap.size->(w2.setCells g6 (k*22) Dn).heap[g]?=W.heap[g]?)->W.heap.size<=w2.heap.size->TreeP (fun g=>g6<g) W t cs->TreeP (fun g=>g6<g) (w2.setCells g6 (k*22) Dn) t cs:=fun hE hS ht=>by
  have h1:=ht.imp (P':=fun g=>g6<g/\g<_) (fun g h1 h2=>⟨h1,h2⟩);exact(h1.keep ⟨by rw[ap];exact hS,fun g hg=>hE g hg.1 hg.2⟩).imp (fun g h1 _=>h1.1)
 refine⟨gT hw _ _ _ (h.bel.trans (hb.mono h.bel.size)),rK (h.nd.next hb) (by omega) _ _,rK (h.re.next hb) (by omega) _ _,World.there_setCells (pP h.th h.lt hb) _ _ _,by rw[ap];exact yu h.lt iz,fun i hi hik=>?_⟩;by_cases e:i=k
 ·subst e;refine⟨Dn,World.rangeAt_setCells_same w2 g6 (i*22) Dn (by rw[yd]at hth;exact hth),dq,?_⟩;refine gq (W:=w2) (fun g h1 h2=>gG (by omega) Dn _ w2) zr (rz.imp (fun g h1 _=>yu h.lt h1))
 obtain⟨Di,d1,d2,d3⟩:=h.kids i hi (by omega);refine⟨Di,World.rangeAt_setCells_apart (fun j v hv=>(World.cell?_of_block (w:=wr) (a:=⟨g6,i*22+j,none⟩) (hb.block g6 h.lt)).trans (d1 j v hv)) g6 (k*22) Dn (.inr (.inl (by rw[d2];have:=Nat.mul_le_mul_right 22 (show i+1<=k by omega);omega))),d2,?_⟩;refine gq (W:=wr) (fun g h1 h2=>?_) iz d3;rw[gG (show g≠g6 by omega) Dn _ w2];exact hb.block g h2
theorem nodeP_of{P:Nat->Prop}{W:World}{g o:Nat}{t:Tree}{Di:List Value}(hr:W.rangeAt g o Di)(ht:TreeP P W t Di.toArray):NodeP P W g o t:=by
 obtain⟨A,c,e,hc,hk⟩:=ht;cases t with
 |mk th tl=>
  refine⟨A,c,hc,fun j hj=>?_,hk⟩;have hs:(aH th A tl.length c).size=22:=rfl;have e2:(aH th A tl.length c)[j]?=some ((aH th A tl.length c)[j]'(by rw[hs];exact hj)):=Array.getElem?_eq_getElem _;rw[e2];refine hr j _ ?_;have e3:Di.toArray[j]?=(aH th A tl.length c)[j]?:=by rw[e];rfl
  rw[e2]at e3;simpa using e3
theorem fx_end{w wr:World}{g6:Nat}{nd:Array Value}{h:NodeH}{l:List Tree}{Dn:List Value}{v:Value}(hI:FxI w w.heap.size g6 nd l l.length wr)(hq:w.heap.size+1<g6):TreeP (fun g=>w.heap.size<=g) ((wr.setCell ⟨w.heap.size,21,none⟩ v).setCells (w.heap.size+1) 0 Dn) (cR (.mk h l)) (aH (cQ h) (some ⟨g6,0,none⟩) l.length l.length):=by
 have hE:∀ g,g6<=g->((wr.setCell ⟨w.heap.size,21,none⟩ v).setCells (w.heap.size+1) 0 Dn).heap[g]?=wr.heap[g]?:=fun g hg=>(gG (by omega) Dn 0 _).trans (Below.heap_setCell _ _ _ _ (by show g≠w.heap.size;omega))
 have hS:((wr.setCell ⟨w.heap.size,21,none⟩ v).setCells (w.heap.size+1) 0 Dn).heap.size=wr.heap.size:=(lZ Dn 0 _).trans (World.size_setCell _ _ _);generalize (wr.setCell ⟨w.heap.size,21,none⟩ v).setCells (w.heap.size+1) 0 Dn=V at *;rw[cR];refine⟨some ⟨g6,0,none⟩,l.length,by show _=aH (cQ h) _ (dG l).length _;rw[iF],by show (dG l).length<=_;rw[iF];exact zr,?_⟩;show KidsPO _ V _ (dG l);refine .inr ⟨g6,0,rfl,by omega,by rw[hS];exact hI.lt,rH (dG l) 0 (fun i hi=>?_)⟩;have q8:i<l.length:=by rw[iF]at hi;exact hi
 obtain⟨Di,d1,d2,d3⟩:=hI.kids i q8 q8;rw[tS l i q8 hi,Nat.zero_add];have h1:TreeP (fun g=>g6<g/\g<wr.heap.size) wr (cR (l[i]'q8)) Di.toArray:=d3.imp (fun g h1 h2=>⟨h1,h2⟩);refine nodeP_of (Di:=Di) (fun j u hu=>(World.cell?_of_block (w:=wr) (a:=⟨g6,i*22+j,none⟩) (hE g6 zr)).trans (d1 j u hu)) ((h1.keep ⟨by rw[hS];exact zr,fun g hg=>hE g (Nat.le_of_lt hg.1)⟩).imp (fun g h1 _=>by omega))
theorem put21{h:NodeH}{A:Option Addr}{n c g6:Nat}{W:World}{q:Nat}(hl:Lies W q 34 (aH h A n c)):Lies (W.setCell ⟨q,21,none⟩ (.slice (some ⟨g6,0,none⟩) n n)) q 34 (aH h (some ⟨g6,0,none⟩) n n):=by
 have k:=hl.put 21 (.slice (some ⟨g6,0,none⟩) n n);have e:(aH h A n c).setIfInBounds 21 (.slice (some ⟨g6,0,none⟩) n n)=aH h (some ⟨g6,0,none⟩) n n:=by kernel_rfl
 rw[<- e];exact k
theorem xN{fn:Func}{tmps:Array Value}{t:Nat}{ty:TypeId}{p:Addr}{v:Value}{w:World}(hr:fn.results=#[.cell t ty])(ht:tmps.getD t undef=.pointer (some p))(hl:(loadVar ty p).run Tryz.prog w=.ok v w):Sem.run Tryz.prog (results fn tmps) w=.ok v w:=by
 unfold results;rw[hr];have ht':tmps[t]?.getD undef=.pointer (some p):=by simpa using ht
 simp[ht',asAddr,hl]
theorem zY(n:Nat)(ih:∀ t:Tree,t.size<=n->∀ (Cn:List Value) (W:World),TreeP kV W t Cn.toArray->FxP t Cn W)(h:NodeH)(l:List Tree)(hs:(Tree.mk h l).size<=n+1)(hlb:l.length<=1000000)(A:Option Addr)(cp:Nat)(Cn:List Value)(w:World)(ai:Cn.toArray=aH h A l.length cp)(hkd:KidsPO kV w A l) :
  FxP (.mk h l) Cn w:=by
 unfold FxP;obtain⟨W0,aj⟩:∃ W0,W0=(w.alloc (.cells Cn.toArray 34)).alloc (.cells bT.toArray 34):=⟨_,rfl⟩
 have ak:=zh aj;have aq:Hid (Below w.heap.size w W0):=zh (by rw[aj];exact((Below.refl _ w).alloc zr _).alloc (by rw[World.size_alloc];omega) _);have HL:Hid (Lies W0 w.heap.size 34 Cn.toArray):=zh (by rw[aj];exact(Lies.new w _ _).alloc _);have HC:Hid (∀ W,Below W0.heap.size W0 W->NdK h w.heap.size W):=zh (fun W hb=>by
  have e:=fun j=>(HL.out.next hb).cell j
  rw[ai]at e;exact⟨e 8,e 9,e 10,e 11,e 12,e 13,e 14,e 15,e 16,e 17,e 18,e 19⟩)
 have HR:Hid (Lies W0 (w.heap.size+1) 34 bT.toArray):=zh (by
  rw[aj];have k:=Lies.new (w.alloc (.cells Cn.toArray 34)) 34 bT.toArray;rw[World.size_alloc]at k;exact k)
 have ot:=zh ai;have lg:=zh hlb;have HKd:=zh hkd;have kl:Hid (∀ i (hi:i<l.length),(l[i]'hi).size<=n):=zh (fun i hi=>by have h9:(l[i]'hi).size<(Tree.mk h l).size:=eF (t:=.mk h l) (i:=i) hi;omega);have IH:=zh ih;clear aj ai ih hs hlb hkd;simp only[bT]at ak
 go_in
 go_upto_region 1 with fail
 rw[<- ak.out];clear ak
 go_cut [3,4] (fun va vb wx=>∃ g3 g4:Nat,va=vP g3 0/\vb=vP g4 0/\Hid (g3≠g4/\W0.heap.size<=g3/\W0.heap.size<=g4/\Lies wx g3 29 (cH h.a)/\Lies wx g4 29 (cH h.b)/\Below W0.heap.size W0 wx))
 case first=>
  refine wp_region_held_drew (S:=fun w'=>NdK h w.heap.size w') (by kernel_rfl) (HC.out _ zB.drew) (fun af=>?_);refine TkA 0 (vP w.heap.size 8) ?_;refine TkA 1 (vP w.heap.size 8) ?_;refine TkB 2 (.agg (cH h.a)) ?_;refine TkA 3 (vP w.heap.size 8) ?_;refine TkA 4 (vP w.heap.size 14) ?_;refine TkB 5 (.agg (cH h.b)) ?_;have ae:Hid (Below W0.heap.size W0 W0.drew):=zh zB.drew;refine wpAnyH_ready (rs:=[6,7]) (by kernel_rfl) (by simp) ?_;refine AllReadyH.cons rfl (fun K hK=>?pa1) (AllReadyH.cons rfl (fun K hK=>?pb1) AllReadyH.nil)
  case' pa1=>
   go_simp
   obtain⟨Wa,ue⟩:∃ Wa,Wa=(W0.alloc (.cells wH 29)).drew:=⟨_,rfl⟩
   rw[<- ue];have oc:Hid (Below W0.heap.size W0 Wa):=zh (by rw[ue];exact((Below.refl _ W0).alloc zr _).drew);have ec:Hid (Lies Wa W0.heap.size 29 wH):=zh (by rw[ue];exact(Lies.new W0 _ _).next zB.drew);have ld:Hid (Wa.heap.size=W0.heap.size+1):=zh (by rw[ue];exact World.size_alloc _ _);clear ue;refine hK.out _ _ (HC.out _ oc.out) (fun aa=>?_);clear hK K af;have af:=aa;clear aa;refine TkR 7 (fun K hK=>?_)
   go_simp
   obtain⟨Wb,wd⟩:=zD (Wa.alloc (.cells wH 29))
   rw[<- wd];have ig:=zA wd;have bu:=zL wd;clear wd;have ba:=zh (zU oc.out ig.out);have jn:=zh (ec.out.next ig.out);refine hK.out _ _ (HC.out _ ba.out) (fun aa=>?_);clear hK K af;have af:=aa;clear aa;have uc0:=(jn.out).cell 0;have uf0:=(jn.out).frozen 0;have uc1:=(jn.out).cell 1;have uf1:=(jn.out).frozen 1;have uc2:=(jn.out).cell 2;have uf2:=(jn.out).frozen 2;have uc3:=(jn.out).cell 3;have uf3:=(jn.out).frozen 3;have uc4:=(jn.out).cell 4;have uf4:=(jn.out).frozen 4;have uc5:=(jn.out).cell 5;have uf5:=(jn.out).frozen 5;simp only[za,zb,zf]at uc0 uc1 uc2 uc3 uc4 uc5;refine TkR 8 (fun K hK=>?_)
   go_simp
   obtain⟨Wc,uf⟩:∃ Wc,Wc=((((((Wb.setCell ⟨W0.heap.size,0,none⟩ (vI h.a.row.a)).setCell ⟨W0.heap.size,1,none⟩ (vI h.a.row.n)).setCell ⟨W0.heap.size,2,none⟩ (vI h.a.col.a)).setCell ⟨W0.heap.size,3,none⟩ (vI h.a.col.n)).setCell ⟨W0.heap.size,4,none⟩ (.bool h.a.fr)).setCell ⟨W0.heap.size,5,none⟩ (.bool h.a.fc)):=⟨_,rfl⟩
   rw[<- uf];have HBc:Hid (Below W0.heap.size W0 Wc):=zh (by rw[uf];exact jE ba.out (by have:=ld.out;omega) _);have ux:Hid (Lies Wc W0.heap.size 29 (cH h.a)):=zh (by rw[uf];exact kR jn.out h.a);have jh:Hid (Lies Wc Wa.heap.size 29 wH):=zh (by rw[uf];exact mY bu.out (by have:=ld.out;omega) h.a);clear uf;clear uc0 uf0 uc1 uf1 uc2 uf2 uc3 uf3 uc4 uf4 uc5 uf5;refine hK.out _ _ (HC.out _ HBc.out) (fun aa=>?_);clear hK K af;have af:=aa;clear aa;have uc0:=(jh.out).cell 0;have uf0:=(jh.out).frozen 0;have uc1:=(jh.out).cell 1;have uf1:=(jh.out).frozen 1;have uc2:=(jh.out).cell 2;have uf2:=(jh.out).frozen 2;have uc3:=(jh.out).cell 3;have uf3:=(jh.out).frozen 3;have uc4:=(jh.out).cell 4;have uf4:=(jh.out).frozen 4;have uc5:=(jh.out).cell 5;have uf5:=(jh.out).frozen 5
   simp only[za,zb,zf]at uc0 uc1 uc2 uc3 uc4 uc5;refine TkR 9 (fun K hK=>?_)
   go_simp
   obtain⟨Wd,ug⟩:∃ Wd,Wd=((((((Wc.setCell ⟨Wa.heap.size,0,none⟩ (vI h.b.row.a)).setCell ⟨Wa.heap.size,1,none⟩ (vI h.b.row.n)).setCell ⟨Wa.heap.size,2,none⟩ (vI h.b.col.a)).setCell ⟨Wa.heap.size,3,none⟩ (vI h.b.col.n)).setCell ⟨Wa.heap.size,4,none⟩ (.bool h.b.fr)).setCell ⟨Wa.heap.size,5,none⟩ (.bool h.b.fc)):=⟨_,rfl⟩
   rw[<- ug];have wh:Hid (Below W0.heap.size W0 Wd):=zh (by rw[ug];exact jE HBc.out (by have:=ld.out;omega) _);have HN4:Hid (Lies Wd Wa.heap.size 29 (cH h.b)):=zh (by rw[ug];exact kR jh.out h.b);have HN3:Hid (Lies Wd W0.heap.size 29 (cH h.a)):=zh (by rw[ug];exact mY ux.out (by have:=ld.out;omega) h.b);clear ug;clear uc0 uf0 uc1 uf1 uc2 uf2 uc3 uf3 uc4 uf4 uc5 uf5;refine hK.out _ _ (HC.out _ wh.out) (fun aa=>?_);clear hK K af aa;refine TkD ?_
   (try simp only[Act.put,yz])
   go_wp2_with fail
   go_meet
   exact⟨_,_,rfl,rfl,zh ⟨by have:=ld.out;omega,by have:=ld.out;omega,by have:=ld.out;omega,HN3.out,HN4.out,wh.out⟩⟩
  case' pb1=>
   go_simp
   obtain⟨Wa,ue⟩:∃ Wa,Wa=(W0.alloc (.cells wH 29)).drew:=⟨_,rfl⟩
   rw[<- ue];have oc:Hid (Below W0.heap.size W0 Wa):=zh (by rw[ue];exact((Below.refl _ W0).alloc zr _).drew);have ec:Hid (Lies Wa W0.heap.size 29 wH):=zh (by rw[ue];exact(Lies.new W0 _ _).next zB.drew);have ld:Hid (Wa.heap.size=W0.heap.size+1):=zh (by rw[ue];exact World.size_alloc _ _);clear ue;refine hK.out _ _ (HC.out _ oc.out) (fun aa=>?_);clear hK K af;have af:=aa;clear aa;refine TkR 6 (fun K hK=>?_)
   go_simp
   obtain⟨Wb,wd⟩:=zD (Wa.alloc (.cells wH 29))
   rw[<- wd];have ig:=zA wd;have bu:=zL wd;clear wd;have ba:=zh (zU oc.out ig.out);have jn:=zh (ec.out.next ig.out);refine hK.out _ _ (HC.out _ ba.out) (fun aa=>?_);clear hK K af;have af:=aa;clear aa;have uc0:=(bu.out).cell 0;have uf0:=(bu.out).frozen 0;have uc1:=(bu.out).cell 1;have uf1:=(bu.out).frozen 1;have uc2:=(bu.out).cell 2;have uf2:=(bu.out).frozen 2;have uc3:=(bu.out).cell 3;have uf3:=(bu.out).frozen 3;have uc4:=(bu.out).cell 4;have uf4:=(bu.out).frozen 4;have uc5:=(bu.out).cell 5;have uf5:=(bu.out).frozen 5;simp only[za,zb,zf]at uc0 uc1 uc2 uc3 uc4 uc5;refine TkR 8 (fun K hK=>?_)
   go_simp
   obtain⟨Wc,uf⟩:∃ Wc,Wc=((((((Wb.setCell ⟨Wa.heap.size,0,none⟩ (vI h.a.row.a)).setCell ⟨Wa.heap.size,1,none⟩ (vI h.a.row.n)).setCell ⟨Wa.heap.size,2,none⟩ (vI h.a.col.a)).setCell ⟨Wa.heap.size,3,none⟩ (vI h.a.col.n)).setCell ⟨Wa.heap.size,4,none⟩ (.bool h.a.fr)).setCell ⟨Wa.heap.size,5,none⟩ (.bool h.a.fc)):=⟨_,rfl⟩
   rw[<- uf];have HBc:Hid (Below W0.heap.size W0 Wc):=zh (by rw[uf];exact jE ba.out (by have:=ld.out;omega) _);have ux:Hid (Lies Wc Wa.heap.size 29 (cH h.a)):=zh (by rw[uf];exact kR bu.out h.a);have jh:Hid (Lies Wc W0.heap.size 29 wH):=zh (by rw[uf];exact mY jn.out (by have:=ld.out;omega) h.a);clear uf;clear uc0 uf0 uc1 uf1 uc2 uf2 uc3 uf3 uc4 uf4 uc5 uf5;refine hK.out _ _ (HC.out _ HBc.out) (fun aa=>?_);clear hK K af;have af:=aa;clear aa;have uc0:=(jh.out).cell 0;have uf0:=(jh.out).frozen 0;have uc1:=(jh.out).cell 1;have uf1:=(jh.out).frozen 1;have uc2:=(jh.out).cell 2;have uf2:=(jh.out).frozen 2;have uc3:=(jh.out).cell 3;have uf3:=(jh.out).frozen 3;have uc4:=(jh.out).cell 4;have uf4:=(jh.out).frozen 4;have uc5:=(jh.out).cell 5;have uf5:=(jh.out).frozen 5
   simp only[za,zb,zf]at uc0 uc1 uc2 uc3 uc4 uc5;refine TkR 9 (fun K hK=>?_)
   go_simp
   obtain⟨Wd,ug⟩:∃ Wd,Wd=((((((Wc.setCell ⟨W0.heap.size,0,none⟩ (vI h.b.row.a)).setCell ⟨W0.heap.size,1,none⟩ (vI h.b.row.n)).setCell ⟨W0.heap.size,2,none⟩ (vI h.b.col.a)).setCell ⟨W0.heap.size,3,none⟩ (vI h.b.col.n)).setCell ⟨W0.heap.size,4,none⟩ (.bool h.b.fr)).setCell ⟨W0.heap.size,5,none⟩ (.bool h.b.fc)):=⟨_,rfl⟩
   rw[<- ug];have wh:Hid (Below W0.heap.size W0 Wd):=zh (by rw[ug];exact jE HBc.out (by have:=ld.out;omega) _);have HN4:Hid (Lies Wd W0.heap.size 29 (cH h.b)):=zh (by rw[ug];exact kR jh.out h.b);have HN3:Hid (Lies Wd Wa.heap.size 29 (cH h.a)):=zh (by rw[ug];exact mY ux.out (by have:=ld.out;omega) h.b);clear ug;clear uc0 uf0 uc1 uf1 uc2 uf2 uc3 uf3 uc4 uf4 uc5 uf5;refine hK.out _ _ (HC.out _ wh.out) (fun aa=>?_);clear hK K af aa;refine TkD ?_
   (try simp only[Act.put,yz])
   go_wp2_with fail
   go_meet
   exact⟨_,_,rfl,rfl,zh ⟨by have:=ld.out;omega,by have:=ld.out;omega,by have:=ld.out;omega,HN3.out,HN4.out,wh.out⟩⟩
 case rest=>
 obtain⟨g3,g4,rfl,rfl,HG⟩:=hcut;obtain⟨W1,am⟩:=zD wc
 subst am;have HA3:Hid (Lies W1 g3 29 (cH h.a)):=zh HG.out.2.2.2.1;have tj:Hid (Lies W1 g4 29 (cH h.b)):=zh HG.out.2.2.2.2.1;have bf:Hid (Below W0.heap.size W0 W1):=zh HG.out.2.2.2.2.2;have r6:Hid (g3≠g4/\W0.heap.size<=g3/\W0.heap.size<=g4):=zh ⟨HG.out.1,HG.out.2.1,HG.out.2.2.1⟩;have HGl:Hid (g3<W1.heap.size/\g4<W1.heap.size):=zh ⟨HA3.out.lt,tj.out.lt⟩;clear HG
 go_upto_region 3 with fail
 obtain⟨W2,dx⟩:=zD (W1.alloc (.cells #[vI 0,vI 0] 27))
 rw[<- dx];have ba:=zA dx;have dv:=zL dx;clear dx;have gj:=zh (HA3.out.next ba.out);have gu:=zh (tj.out.next ba.out);have HBw:Hid (Below W0.heap.size W0 W2):=zh (zU bf.out ba.out);obtain⟨g5,hg5⟩:=zD W1.heap.size
 rw[<- hg5]at dv HGl ⊢;have nu:Hid (W0.heap.size<=g5):=zh (by rw[hg5];exact bf.out.size);clear HA3 tj bf ba hg5;have bq:Hid (∀ W (a b:Cor),a.row=h.a.row->a.col=h.a.col->b.row=h.b.row->b.col=h.b.col->Lies W g3 29 (cH a)->Lies W g4 29 (cH b)->Lies W g5 27 #[vI 0,vI 0]->FxS h g3 g4 g5 W):=zh (fun W a b e1 e2 e3 e4 l1 l2 l3=>by
  unfold cH at l1 l2;rw[e1,e2]at l1;rw[e3,e4]at l2;exact⟨l1.cell 0,l1.cell 1,l1.cell 2,l1.cell 3,l2.cell 0,l2.cell 1,l2.cell 2,l2.cell 3,l3.cell 0,l3.cell 1⟩)
 have N1:∀ W:World,(binOp .neq 27 (.agg #[vI h.a.row.a,vI h.a.row.n]) (.agg #[vI 0,vI 0])).run Tryz.prog W=.ok (.bool (decide (h.a.row≠id0))) W:=fun W=>dP h.a.row id0 W
 have N2:∀ W:World,(binOp .neq 27 (.agg #[vI h.a.col.a,vI h.a.col.n]) (.agg #[vI 0,vI 0])).run Tryz.prog W=.ok (.bool (decide (h.a.col≠id0))) W:=fun W=>dP h.a.col id0 W
 have N3:∀ W:World,(binOp .neq 27 (.agg #[vI h.b.row.a,vI h.b.row.n]) (.agg #[vI 0,vI 0])).run Tryz.prog W=.ok (.bool (decide (h.b.row≠id0))) W:=fun W=>dP h.b.row id0 W
 have N4:∀ W:World,(binOp .neq 27 (.agg #[vI h.b.col.a,vI h.b.col.n]) (.agg #[vI 0,vI 0])).run Tryz.prog W=.ok (.bool (decide (h.b.col≠id0))) W:=fun W=>dP h.b.col id0 W
 obtain⟨b1,ab⟩:∃ b,decide (h.a.row≠id0)=b:=⟨_,rfl⟩
 have HBb1:=zh ab;rw[ab]at N1;clear ab;obtain⟨b2,hb2⟩:∃ b,decide (h.a.col≠id0)=b:=⟨_,rfl⟩
 have HBb2:=zh hb2;rw[hb2]at N2;clear hb2;obtain⟨b3,dt⟩:∃ b,decide (h.b.row≠id0)=b:=⟨_,rfl⟩
 have HBb3:=zh dt;rw[dt]at N3;clear dt;obtain⟨b4,ki⟩:∃ b,decide (h.b.col≠id0)=b:=⟨_,rfl⟩
 have pw:=zh ki;rw[ki]at N4;clear ki;refine wp_region_held_drew (S:=fun w'=>FxS h g3 g4 g5 w') (by kernel_rfl) (bq.out _ h.a h.b rfl rfl rfl rfl (gj.out.next zB.drew) (gu.out.next zB.drew) (dv.out.next zB.drew)) (fun af=>?_);refine TkA 0 (vP g3 0) ?_;refine TkB 1 (.agg #[vI h.a.row.a,vI h.a.row.n]) ?_;refine TkB 2 (.agg #[vI 0,vI 0]) ?_;refine TkC 3 (.bool b1) rfl (Or.inl ⟨by rfl,fun w2 hS=>by simp[execOp,go_sem,N1]⟩) ?_;refine TkA 4 (vP g3 2) ?_;refine TkB 5 (.agg #[vI h.a.col.a,vI h.a.col.n]) ?_;refine TkB 6 (.agg #[vI 0,vI 0]) ?_;refine TkC 7 (.bool b2) rfl (Or.inl ⟨by rfl,fun w2 hS=>by simp[execOp,go_sem,N2]⟩) ?_;refine TkA 8 (vP g4 0) ?_;refine TkB 9 (.agg #[vI h.b.row.a,vI h.b.row.n]) ?_
 refine TkB 10 (.agg #[vI 0,vI 0]) ?_;refine TkC 11 (.bool b3) rfl (Or.inl ⟨by rfl,fun w2 hS=>by simp[execOp,go_sem,N3]⟩) ?_;refine TkA 12 (vP g4 2) ?_;refine TkB 13 (.agg #[vI h.b.col.a,vI h.b.col.n]) ?_;refine TkB 14 (.agg #[vI 0,vI 0]) ?_;refine TkC 15 (.bool b4) rfl (Or.inl ⟨by rfl,fun w2 hS=>by simp[execOp,go_sem,N4]⟩) ?_;obtain⟨V0,hV0⟩:∃ V,V=W2.drew:=⟨_,rfl⟩
 rw[<- hV0];rw[<- hV0]at af;have HV:Hid (Below W0.heap.size W0 V0):=zh (by rw[hV0];exact HBw.out.drew);replace gj:=zh (gj.out.next zB.drew);rw[<- hV0]at gj;replace gu:=zh (gu.out.next zB.drew);rw[<- hV0]at gu;replace dv:=zh (dv.out.next zB.drew);rw[<- hV0]at dv;clear hV0;refine TkA 16 (vP g3 4) ?_;have k0:=gj.out.cell 4;have k1:=gj.out.frozen 4;simp only[cH,za,zb,zf]at k0;refine TkR 17 (fun K hK=>?_)
 go_simp
 clear k0 k1;obtain⟨V1,hV⟩:∃ V,V=V0.setCell ⟨g3,4,none⟩ (.bool b1):=⟨_,rfl⟩
 rw[<- hV];have HV1:Hid (Below W0.heap.size W0 V1):=zh (by rw[hV];exact HV.out.setCell (p:=⟨_,_,none⟩) r6.out.2.1 _);have lu:Hid (Lies V1 g3 29 (cH ⟨h.a.row,h.a.col,b1,h.a.fc⟩)):=zh (by rw[hV];have k:=gj.out.put 4 (.bool b1);simpa using k);have lw:Hid (Lies V1 g4 29 (cH h.b)):=zh (by rw[hV];exact aB gu.out (by have:=r6.out;omega) _ _);have nc:Hid (Lies V1 g5 27 #[vI 0,vI 0]):=zh (by rw[hV];exact aB dv.out (by have:=HGl.out;have:=r6.out;omega) _ _);clear hV;clear gj gu dv;have gj:=lu;have gu:=lw;have dv:=nc;clear lu lw nc;refine hK.out _ _ (bq.out _ ⟨h.a.row,h.a.col,b1,h.a.fc⟩ h.b rfl rfl rfl rfl gj.out gu.out dv.out) (fun aa=>?_);clear hK K af;have af:=aa;clear aa;refine TkA 18 (vP g3 5) ?_;have k0:=gj.out.cell 5;have k1:=gj.out.frozen 5
 simp only[cH,za,zb,zf]at k0;refine TkR 19 (fun K hK=>?_)
 go_simp
 clear k0 k1;obtain⟨V2,hV⟩:∃ V,V=V1.setCell ⟨g3,5,none⟩ (.bool b2):=⟨_,rfl⟩
 rw[<- hV];have HV2:Hid (Below W0.heap.size W0 V2):=zh (by rw[hV];exact HV1.out.setCell (p:=⟨_,_,none⟩) r6.out.2.1 _);have lu:Hid (Lies V2 g3 29 (cH ⟨h.a.row,h.a.col,b1,b2⟩)):=zh (by rw[hV];have k:=gj.out.put 5 (.bool b2);simpa using k);have lw:Hid (Lies V2 g4 29 (cH h.b)):=zh (by rw[hV];exact aB gu.out (by have:=r6.out;omega) _ _);have nc:Hid (Lies V2 g5 27 #[vI 0,vI 0]):=zh (by rw[hV];exact aB dv.out (by have:=HGl.out;have:=r6.out;omega) _ _);clear hV;clear gj gu dv;have gj:=lu;have gu:=lw;have dv:=nc;clear lu lw nc;refine hK.out _ _ (bq.out _ ⟨h.a.row,h.a.col,b1,b2⟩ h.b rfl rfl rfl rfl gj.out gu.out dv.out) (fun aa=>?_);clear hK K af;have af:=aa;clear aa;refine TkA 20 (vP g4 4) ?_;have k0:=gu.out.cell 4;have k1:=gu.out.frozen 4
 simp only[cH,za,zb,zf]at k0;refine TkR 21 (fun K hK=>?_)
 go_simp
 clear k0 k1;obtain⟨V3,hV⟩:∃ V,V=V2.setCell ⟨g4,4,none⟩ (.bool b3):=⟨_,rfl⟩
 rw[<- hV];have HV3:Hid (Below W0.heap.size W0 V3):=zh (by rw[hV];exact HV2.out.setCell (p:=⟨_,_,none⟩) r6.out.2.2 _);have lw:Hid (Lies V3 g4 29 (cH ⟨h.b.row,h.b.col,b3,h.b.fc⟩)):=zh (by rw[hV];have k:=gu.out.put 4 (.bool b3);simpa using k);have lu:Hid (Lies V3 g3 29 (cH ⟨h.a.row,h.a.col,b1,b2⟩)):=zh (by rw[hV];exact aB gj.out (by have:=r6.out;omega) _ _);have nc:Hid (Lies V3 g5 27 #[vI 0,vI 0]):=zh (by rw[hV];exact aB dv.out (by have:=HGl.out;have:=r6.out;omega) _ _);clear hV;clear gj gu dv;have gj:=lu;have gu:=lw;have dv:=nc;clear lu lw nc;refine hK.out _ _ (bq.out _ ⟨h.a.row,h.a.col,b1,b2⟩ ⟨h.b.row,h.b.col,b3,h.b.fc⟩ rfl rfl rfl rfl gj.out gu.out dv.out) (fun aa=>?_);clear hK K af;have af:=aa;clear aa;refine TkA 22 (vP g4 5) ?_;have k0:=gu.out.cell 5;have k1:=gu.out.frozen 5
 simp only[cH,za,zb,zf]at k0;refine TkR 23 (fun K hK=>?_)
 go_simp
 clear k0 k1;obtain⟨V4,hV⟩:∃ V,V=V3.setCell ⟨g4,5,none⟩ (.bool b4):=⟨_,rfl⟩
 rw[<- hV];have HV4:Hid (Below W0.heap.size W0 V4):=zh (by rw[hV];exact HV3.out.setCell (p:=⟨_,_,none⟩) r6.out.2.2 _);have lw:Hid (Lies V4 g4 29 (cH ⟨h.b.row,h.b.col,b3,b4⟩)):=zh (by rw[hV];have k:=gu.out.put 5 (.bool b4);simpa using k);have lu:Hid (Lies V4 g3 29 (cH ⟨h.a.row,h.a.col,b1,b2⟩)):=zh (by rw[hV];exact aB gj.out (by have:=r6.out;omega) _ _);have nc:Hid (Lies V4 g5 27 #[vI 0,vI 0]):=zh (by rw[hV];exact aB dv.out (by have:=HGl.out;have:=r6.out;omega) _ _);clear hV;clear gj gu dv;have gj:=lu;have gu:=lw;have dv:=nc;clear lu lw nc;refine hK.out _ _ (bq.out _ ⟨h.a.row,h.a.col,b1,b2⟩ ⟨h.b.row,h.b.col,b3,b4⟩ rfl rfl rfl rfl gj.out gu.out dv.out) (fun aa=>?_);clear hK K af;have af:=aa;clear aa;refine TkD ?_
 (try simp only[Act.put,yz])
 clear af N1 N2 N3 N4 bq;have mq:=HL.out.next HV4.out;have g3c0:=gj.out.cell 0;have g3c1:=gj.out.cell 1;have g3c2:=gj.out.cell 2;have g3c3:=gj.out.cell 3;have g3c4:=gj.out.cell 4;have g3c5:=gj.out.cell 5;simp only[cH,za,zb,zf]at g3c0 g3c1 g3c2 g3c3 g3c4 g3c5;have g4c0:=gu.out.cell 0;have g4c1:=gu.out.cell 1;have g4c2:=gu.out.cell 2;have g4c3:=gu.out.cell 3;have g4c4:=gu.out.cell 4;have g4c5:=gu.out.cell 5;simp only[cH,za,zb,zf]at g4c0 g4c1 g4c2 g4c3 g4c4 g4c5;obtain⟨n8,n9,n10,n11,n12,n13,n14,n15,n16,n17,n18,n19⟩:=HC.out _ HV4.out;have z8:=mq.frozen 8;have z9:=mq.frozen 9;have z10:=mq.frozen 10;have z11:=mq.frozen 11;have z12:=mq.frozen 12;have z13:=mq.frozen 13;have z14:=mq.frozen 14;have z15:=mq.frozen 15;have z16:=mq.frozen 16
 have z17:=mq.frozen 17;have z18:=mq.frozen 18;have z19:=mq.frozen 19;clear mq
 go_upto_region 5 with fail
 clear n8 z8 n9 z9 n10 z10 n11 z11 n12 z12 n13 z13 n14 z14 n15 z15 n16 z16 n17 z17 n18 z18 n19 z19 g3c0 g4c0 g3c1 g4c1 g3c2 g4c2 g3c3 g4c3 g3c4 g4c4 g3c5 g4c5;obtain⟨W5,dr⟩:∃ W5,W5=((((((((((((V4.setCell ⟨w.heap.size,8,none⟩ (vI h.a.row.a)).setCell ⟨w.heap.size,9,none⟩ (vI h.a.row.n)).setCell ⟨w.heap.size,10,none⟩ (vI h.a.col.a)).setCell ⟨w.heap.size,11,none⟩ (vI h.a.col.n)).setCell ⟨w.heap.size,12,none⟩ (.bool b1)).setCell ⟨w.heap.size,13,none⟩ (.bool b2)).setCell ⟨w.heap.size,14,none⟩ (vI h.b.row.a)).setCell ⟨w.heap.size,15,none⟩ (vI h.b.row.n)).setCell ⟨w.heap.size,16,none⟩ (vI h.b.col.a)).setCell ⟨w.heap.size,17,none⟩ (vI h.b.col.n)).setCell ⟨w.heap.size,18,none⟩ (.bool b3)).setCell ⟨w.heap.size,19,none⟩ (.bool b4)):=⟨_,rfl⟩
 rw[<- dr];have HN5:Hid (Lies W5 w.heap.size 34 (aH (cQ h) A l.length cp)):=zh (by rw[dr];exact uBD (HL.out.next HV4.out) ot.out HBb1.out HBb2.out HBb3.out pw.out);have lh:Hid (Lies W5 (w.heap.size+1) 34 bT.toArray):=zh (by rw[dr];exact uEZ (HR.out.next HV4.out) (by omega) h b1 b2 b3 b4);have bk:Hid (Below w.heap.size w W5):=zh (by rw[dr];exact xI (zU aq.out HV4.out) h b1 b2 b3 b4);clear dr gj gu dv HV HV1 HV2 HV3 HV4 HBb1 HBb2 HBb3 pw HC HL HR aq r6 HGl nu HBw;have n21:W5.cell? ⟨w.heap.size,21,none⟩=some (.slice A l.length cp):=HN5.out.cell 21;have tp:(l.length:Int)<=1000000:=by have:=lg.out;omega
 obtain⟨cs,ep,hmk⟩:=mk_nodes l.length lg.out;have HCs:=zh ep;clear ep
 go_upto_region 6 with fail
 clear hmk n21;obtain⟨W6,ja⟩:=zD (W5.alloc (.cells cs 34))
 rw[<- ja];have HN6:Hid (Lies W6 w.heap.size 34 (aH (cQ h) A l.length cp)):=zh (by rw[ja];exact HN5.out.alloc _);have HR6:Hid (Lies W6 (w.heap.size+1) 34 bT.toArray):=zh (by rw[ja];exact lh.out.alloc _);have qe:=zF bk ja;have cm:=zL ja;have HQ6:Hid (w.heap.size+1<W5.heap.size):=zh lh.out.lt;clear ja HN5 lh bk;obtain⟨g6,hg6⟩:=zD W5.heap.size
 rw[<- hg6]at cm HQ6 ⊢;clear hg6;have HI6:Hid (FxI w w.heap.size g6 (aH (cQ h) A l.length cp) l 0 W6):=zh ⟨qe.out,HN6.out,HR6.out,fun j hj=>⟨by rw[Nat.zero_add,cm.out.cell j,Array.getElem?_eq_getElem (by rw[HCs.out];exact hj)];rfl,by rw[Nat.zero_add];exact cm.out.frozen j⟩,cm.out.lt,fun i _ h=>absurd h (Nat.not_lt_zero _)⟩;clear HN6 HR6 qe cm HCs;have HKx:Hid (KidsPO (fun g=>g<w.heap.size) w A l):=zh (by
  rcases HKd.out with h0|⟨g,o,e,_,h2,h3⟩
  ·exact .inl h0
  exact .inr ⟨g,o,e,h2,h2,h3.imp (fun _ _ h=>h)⟩)
 clear HKd ot
 go_wp2_with fail
 go_loopw [7] (fun v wr=>∃ k:Nat,k<=l.length/\v=vI (k:Int)/\Hid (FxI w w.heap.size g6 (aH (cQ h) A l.length cp) l k wr)) (fun v _=>l.length-(intOf v).toNat)
 case atStart=>exact⟨0,zm _,rfl,HI6⟩
 case round=>
  obtain⟨k,hk,rfl,HI⟩:=hrel;have n21:wr.cell? ⟨w.heap.size,21,none⟩=some (.slice A l.length cp):=HI.out.nd.cell 21;by_cases hlt:k<l.length
  ·obtain⟨g,og,ci,rfl,dw,dy⟩:=fC HKx.out k hlt;obtain⟨xv,htp⟩:=dy wr ⟨HI.out.bel.size,fun g hg=>HI.out.bel.block g hg⟩;have HRA:=zh xv;have hc:=IH.out (l[k]'hlt) (kl.out k hlt) ci wr (htp.imp (fun _ _ _=>trivial));unfold FxP at hc;have HC:=zh hc;have zi:(Tryz.prog.info? 34).map (·.size)=some ci.length:=by rw[dw];exact bO
   have ip:(k:Int)<(l.length:Int):=by omega
   have rg:(k:Int)<=1000000:=by omega
   clear dy xv htp hc dw
   go_wp2_with (first |(refine yr rfl 34 (.tmp 55) rfl g (og+k*22) rfl ci _ HRA.out Tryz.underlying34 rfl zi ?_))
   refine HC.out.mono ?_;rintro e w2 ⟨Dn,rfl,rz,hb⟩;have dq:Dn.length=22:=by
    obtain⟨A',c',e',_⟩:=rz;exact jI e'
   have HIn:Hid (FxI w w.heap.size g6 (aH (cQ h) (some ⟨g,og,none⟩) l.length cp) l (k+1) (w2.setCells g6 (k*22) Dn)):=zh (fxI_step HI.out hlt HQ6.out hb rz dq (by have:=HQ6.out;omega));have HTh:Hid (w2.there g6 (k*22) Dn.toArray.size):=zh (tV HI.out hlt hb dq);have HOn:Hid (Dn.toArray.all (·.oneCell')=true):=zh rz.one
   have r7:(Tryz.prog.info? 34).map (·.size)=some Dn.toArray.size:=by rw[yd,dq];exact bO
   clear rz hb dq HC HRA zi HI n21
   go_wp2_with (first |(refine yq rfl 34 (.tmp 58) (.tmp 57) rfl g6 (k*22) Dn.toArray rfl rfl HTh.out r7 HOn.out ?_;change wpList _ _ _ _ _ (World.setCells _ g6 (k*22) Dn);generalize World.setCells _ _ _ _=w3 at HIn ⊢))
   go_roundw
   case rel=>exact⟨k+1,by omega,by go_num,HIn⟩
   case measure=>simp[intOf];omega
  have o9:k=l.length:=by omega
  subst o9;have z21:=HI.out.nd.frozen 21
  go_upto_region 11 with fail
  obtain⟨V,hV⟩:=zD (wr.setCell ⟨w.heap.size,21,none⟩ (.slice (some ⟨g6,0,none⟩) l.length l.length))
  rw[<- hV];have HVn:Hid (Lies V w.heap.size 34 (aH (cQ h) (some ⟨g6,0,none⟩) l.length l.length)):=zh (by rw[hV];exact put21 HI.out.nd);have HVr:Hid (Lies V (w.heap.size+1) 34 bT.toArray):=zh (by rw[hV];exact aB HI.out.re (by omega) _ _);have HVb:Hid (Below w.heap.size w V):=zh (by rw[hV];exact HI.out.bel.setCell (p:=⟨_,_,none⟩) zr _);obtain⟨Dn,hDn⟩:∃ Dn:List Value,Dn.toArray=aH (cQ h) (some ⟨g6,0,none⟩) l.length l.length:=⟨(aH (cQ h) (some ⟨g6,0,none⟩) l.length l.length).toList,by simp⟩
  have dq:Dn.length=22:=jI hDn;have HTr:Hid (TreeP (fun g=>w.heap.size<=g) (V.setCells (w.heap.size+1) 0 Dn) (cR (.mk h l)) Dn.toArray):=zh (by rw[hV,hDn];exact fx_end HI.out HQ6.out);rw[<- hDn]at HVn;have gy:Hid (V.rangeAt w.heap.size 0 Dn):=zh HVn.out.rangeM;have HTh:Hid (V.there (w.heap.size+1) 0 Dn.toArray.size):=zh (fun j hj=>by
   rw[yd,dq]at hj;rw[Nat.zero_add,HVr.out.cell j];exact⟨by rw[Array.getElem?_eq_getElem (show j<bT.toArray.size from hj)];rfl,HVr.out.frozen j⟩)
  have HOn:Hid (Dn.toArray.all (·.oneCell')=true):=zh (by rw[hDn];exact rP _ _ _ _)
  have zi:(Tryz.prog.info? 34).map (·.size)=some Dn.length:=by rw[dq];exact bO
  have r7:(Tryz.prog.info? 34).map (·.size)=some Dn.toArray.size:=by rw[yd,dq];exact bO
  have HBe:Hid (Below w.heap.size w (V.setCells (w.heap.size+1) 0 Dn)):=zh (gT (by omega) _ _ _ HVb.out);have HRs:Hid ((V.setCells (w.heap.size+1) 0 Dn).rangeAt (w.heap.size+1) 0 Dn):=zh (World.rangeAt_setCells_same V (w.heap.size+1) 0 Dn (by have:=HTh.out;rw[yd]at this;exact this));clear n21 z21 HI hV hDn dq HVn HVr HVb IH kl HKx HQ6 lg hlt hk
  go_wp2_with (first
   |(refine yr rfl 34 (.tmp 1) rfl w.heap.size 0 rfl Dn _ gy.out Tryz.underlying34 rfl zi ?_)
   |(refine yq rfl 34 (.tmp 2) (.tmp 61) rfl (w.heap.size+1) 0 Dn.toArray rfl rfl HTh.out r7 HOn.out ?_;change wpList _ _ _ _ _ (World.setCells _ (w.heap.size+1) 0 Dn);generalize World.setCells _ _ _ _=w3 at HTr HBe HRs ⊢))
  refine yt (v:=.agg Dn.toArray) (xN Tryz.results19 rfl (run_loadVar_mid w3 (w.heap.size+1) 0 34 Dn _ HRs.out Tryz.underlying34 rfl zi)) rfl ?_;exact⟨Dn,rfl,HTr.out,HBe.out⟩
theorem uEH:∀ (n:Nat),n<=1000000->∀ t:Tree,t.size<=n->∀ (Cn:List Value) (W:World),TreeP kV W t Cn.toArray->FxP t Cn W:=by
 intro n
 induction n with
 |zero=>intro _ t hs;cases t;rw[Tree.size]at hs;omega
 |succ n ih=>
  intro hn t hs Cn W hP;obtain⟨h,l⟩:=t;obtain⟨A,cp,e,hc,hk⟩:=hP;exact zY n (ih (by omega)) h l hs (by have h1:=bS l;have h2:aM l+1<=n+1:=hs;omega) A cp Cn W e hk
end Go.Proofs.YtjfihpaeglpblaaGreatDoor
namespace Go.Proofs.YtjfihpaeglpblaaGreatDoor
open Go.ChangeShapes Go.WideShapes Go.ChangeAt Go.RowKit
theorem cellsAx:Tryz.prog.cellsOf 37=3:=by kernel_rfl
theorem qK:Tryz.prog.cellsOf 35=1:=by kernel_rfl
section
variable {H:Type} {enc:TypeId×Value->H} {W:World}
theorem open_node{r:Reach}{b0:Nat}{v:Value}{d:DataW H}{p:List MemPlace}(hv:Value.okWide Tryz.prog W r b0 34 v)(h:DataW.Trod enc Tryz.prog W 0 (fun _=>true) true 34 v d p) :
  ∃ (t:Tree) (Cn:List Value),v=.agg Cn.toArray/\TreeP kV W t Cn.toArray/\t.ok (Rows.uptoBulk d)/\7*t.size<=Rows.uptoBulk d:=by
 obtain⟨cs,rfl,ap⟩:=okWide_struct Tryz.underlying34 hv;obtain⟨fuel,hf⟩:=h;have ql:DataW.trod enc Tryz.prog W 0 (fun _=>true) true fuel 34 cs.toList=some (d,p):=by simpa [Value.cells] using hf
 obtain⟨t,A,cp,h1,h2,h3,h4,h5⟩:=uFV _ _ _ _ zr ql;refine⟨t,(aH t.h A t.l.length cp).toList,by rw[<- h1],⟨A,cp,rfl,h2,h3⟩,h4,h5⟩
theorem oH{n:Nat}{c:Value}{y:DataW H×List MemPlace}(hf:DataW.trod enc Tryz.prog W 0 (fun _=>true) true n 35 [c]=some y) :
  ∃ (A:Option Addr) (cap:Nat) (l:List IdR),c=.slice A l.length cap/\eA W A l/\∀ x∈l,x.fits:=by
 have key:∃ A len cap,c=.slice A len cap:=by
  rcases Go.Deep.open_slice Tryz.underlying35 hf with⟨ep,_⟩|⟨x,len,c',m,n,D,Pl,ep,_⟩
  ·injection ep with ep _;exact⟨_,_,_,ep⟩
  injection ep with ep _;exact⟨_,_,_,ep⟩
 obtain⟨A,len,cap,rfl⟩:=key;obtain⟨l,rfl,h1,h2⟩:=in_ids (enc:=enc) (W:=W) (d:=y.1) (p:=y.2) ⟨n,by simpa [Value.cells] using hf⟩;exact⟨A,cap,l,rfl,h1,h2⟩
theorem open_axes{r:Reach}{b0:Nat}{v:Value}{d:DataW H}{p:List MemPlace}(hv:Value.okWide Tryz.prog W r b0 37 v)(h:DataW.Trod enc Tryz.prog W 0 (fun _=>true) true 37 v d p) :
  ∃ (A B D:Option Addr) (ca cb cd:Nat) (ids jds dead:List IdR),v=axesV A B D ids.length jds.length dead.length ca cb cd/\eA W A ids/\eA W B jds/\eA W D dead/\(∀ x∈ids,x.fits)/\∀ x∈jds,x.fits:=by
 obtain⟨cs,rfl,ap⟩:=okWide_struct Tryz.underlying37 hv;obtain⟨l⟩:=cs
 match l,ap.trans cellsAx with
 | [c0,c1,c2],_=>
  obtain⟨fuel,hf⟩:=h;have ql:DataW.trod enc Tryz.prog W 0 (fun _=>true) true fuel 37 [c0,c1,c2]=some (d,p):=by simpa [Value.cells] using hf
  obtain⟨xs,n,_,hx,_,hlen,hg⟩:=DataW.trod_struct Tryz.underlying37 ql
  match xs,hlen with
  | [y0,y1,y2],_=>
   have g0:DataW.trod enc Tryz.prog W 0 (fun _=>true) true n 35 [c0]=some y0:=by have:=hg 0 _ rfl;simpa [qK] using this
   have g1:DataW.trod enc Tryz.prog W 0 (fun _=>true) true n 35 [c1]=some y1:=by have:=hg 1 _ rfl;simpa [qK] using this
   have g2:DataW.trod enc Tryz.prog W 0 (fun _=>true) true n 35 [c2]=some y2:=by have:=hg 2 _ rfl;simpa [qK] using this
   obtain⟨A,ca,ids,rfl,a1,a2⟩:=oH g0;obtain⟨B,cb,jds,rfl,b1,b2⟩:=oH g1;obtain⟨D,cd,dead,rfl,c1,c2⟩:=oH g2;exact⟨A,B,D,ca,cb,cd,ids,jds,dead,rfl,a1,b1,c1,a2,b2⟩
end
end Go.Proofs.YtjfihpaeglpblaaGreatDoor
namespace Go.Proofs.YtjfihpaeglpblaaGreatDoor
open Go.ChangeShapes Go.WideShapes Go.ChangeAt Go.RowKit
theorem cellsCe:Tryz.prog.cellsOf 49=4:=by kernel_rfl
section
variable {H:Type} {enc:TypeId×Value->H} {W:World}
theorem open_cell{r:Reach}{b0:Nat}{v:Value}{d:DataW H}{p:List MemPlace}(hv:Value.okWide Tryz.prog W r b0 49 v)(h:DataW.Trod enc Tryz.prog W 0 (fun _=>true) true 49 v d p) :
  ∃ (x y:IdR),v=.agg #[vI x.a,vI x.n,vI y.a,vI y.n]/\x.fits/\y.fits:=by
 obtain⟨cs,rfl,ap⟩:=okWide_struct Tryz.underlying49 hv;obtain⟨l⟩:=cs
 match l,ap.trans cellsCe with
 | [c0,c1,c2,c3],_=>
  obtain⟨fuel,hf⟩:=h;have ql:DataW.trod enc Tryz.prog W 0 (fun _=>true) true fuel 49 [c0,c1,c2,c3]=some (d,p):=by simpa [Value.cells] using hf
  obtain⟨xs,n,_,hx,_,hlen,hg⟩:=DataW.trod_struct Tryz.underlying49 ql
  match xs,hlen with
  | [y0,y1],_=>
   have g0:DataW.trod enc Tryz.prog W 0 (fun _=>true) true n 27 [c0,c1]=some y0:=by have:=hg 0 _ rfl;simpa [pZ] using this
   have g1:DataW.trod enc Tryz.prog W 0 (fun _=>true) true n 27 [c2,c3]=some y1:=by have:=hg 1 _ rfl;simpa [pZ] using this
   obtain⟨x,rfl,rfl,e2⟩:=kF g0;obtain⟨y,rfl,rfl,e4⟩:=kF g1;exact⟨x,y,rfl,e2,e4⟩
end
end Go.Proofs.YtjfihpaeglpblaaGreatDoor
