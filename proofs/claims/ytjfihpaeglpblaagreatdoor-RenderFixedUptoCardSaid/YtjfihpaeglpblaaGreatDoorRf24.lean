/-
  Lemmas, part 24: Wr0 Wr1 Wr2 Wr4 Wr5.
-/
import Derived.Test.YtjfihpaeglpblaaGreatDoorRf23
set_option maxHeartbeats 100000000
set_option maxRecDepth 1000000
namespace Go.Proofs.YtjfihpaeglpblaaGreatDoor
open Go.RowKit
def rD(W:World)(g:Nat):Bool:=match W.heap[g]? with
 |some (.cells _ t _)=>decide (t=64)
 |_=>false
theorem uAF{W:World}{g:Nat}{cs:Array Value}(h:Lies W g 64 cs):rD W g=true:=by
 unfold rD;unfold Lies at h;rw[h];rfl
theorem uEK{W:World}{g:Nat}{t:TypeId}{cs:Array Value}(h:Lies W g t cs)(ht:t≠64):rD W g=false:=by
 unfold rD;unfold Lies at h;rw[h];exact decide_eq_false ht
def uCB(W:World)(p:Nat):List Nat:=(List.range W.heap.size).filter (fun g=>decide (p<g)&&rD W g)
theorem dU{W:World}{p g:Nat}:g∈uCB W p↔g<W.heap.size/\p<g/\rD W g=true:=by
 unfold uCB;rw[List.mem_filter,yg,yh,decide_eq_true_eq]
def Kw(p:Nat)(X:List Nat)(a b:World):Prop:=Kp (p::(X++uCB a p)) a b
theorem Kw.size{p:Nat}{X:List Nat}{a b:World}(h:Kw p X a b):a.heap.size<=b.heap.size:=Kp.size h
theorem Kw.refl(p:Nat)(X:List Nat)(a:World):Kw p X a a:=Kp.refl _ _
theorem Kw.trans{p:Nat}{X:List Nat}{a b c:World}(h:Kw p X a b)(k:Kw p X b c):Kw p X a c :=
 Kp.andThen h k (fun g hg=>by
  rcases ym.1 hg with rfl|hg
  ·exact .inl (.head _)
  rcases List.mem_append.1 hg with hg|hg
  ·exact .inl (.tail _ (List.mem_append_left _ hg))
  obtain⟨h1,h2,h3⟩:=dU.1 hg;rcases Nat.lt_or_ge g a.heap.size with hl|hl
  ·by_cases hm:g∈p::(X++uCB a p)
   ·exact .inl hm
   refine .inl (.tail _ (List.mem_append_right _ (dU.2 ⟨hl,h2,?_⟩)));unfold rD at h3 ⊢
   rwa [Kp.block h g hl hm]at h3
  exact .inr hl)
theorem Kw.of_below{p:Nat}{X:List Nat}{a b:World}(h:Below a.heap.size a b):Kw p X a b:=Kp.of_below h
theorem Kw.of_kp{p:Nat}{X Z:List Nat}{a b:World}(h:Kp Z a b)(hz:∀ g∈Z,g∈X):Kw p X a b :=
 Kp.mono h (fun g hg _=>.tail _ (List.mem_append_left _ (hz g hg)))
structure Gl(W:World):Prop where
 tab:Tab W
 pow:PowTab W
 mx:MaxVar W
def iD(b:Nat):Prop:=0<b/\4<b/\1<b
theorem Gl.next{w w':World}(h:Gl w)(hb:Below w.heap.size w w'):Gl w':=⟨h.tab.next hb,h.pow.next hb,h.mx.next hb⟩
theorem Gl.kp{Y:List Nat}{w w':World}(h:Gl w)(hk:Kp Y w w')(hY:∀ b∈Y,iD b):Gl w':=by
 refine⟨fun i hi=>?_,?_,?_⟩
 ·exact(hk.cell h.tab.lt (fun hm=>absurd (hY _ hm).1 (Nat.lt_irrefl _))).trans (h.tab i hi)
 ·have hp:=h.pow;unfold PowTab Lib.TabIs World.var? at *;rw[gPow]at hp ⊢;simp only[Option.bind_some]at hp ⊢;have hlt:4<w.heap.size:=by
   rcases Nat.lt_or_ge 4 w.heap.size with h'|h'
   ·exact h'
   rw[Array.getElem?_eq_none h']at hp;cases hp
  rw[hk.block _ hlt (fun hm=>absurd (hY _ hm).2.1 (Nat.lt_irrefl _))];exact hp
 obtain⟨m,hm⟩:=h.mx;exact⟨m,(hk.cell (pX hm) (fun hq=>absurd (hY _ hq).2.2 (Nat.lt_irrefl _))).trans hm⟩
theorem AxF.other{W W':World}{p q:Option Nat}{A B:AxV}(hA:AxF W p A)(hB:AxF W q B)(hk:Kp q.toList W W')(hn:∀ b,q=some b->p≠some b):AxF W' p A:=by
 match q,B,hB with
 |none,_,_=>exact hA.kp (Y:=[]) hk (fun y hy=>by cases hy)
 |some c,some (ids,fl),hB=>
  have hq:∃ cs,Lies W c 152 cs:=by
   obtain⟨_,_,_,_,⟨base,v1,v2,g⟩|⟨base,g⟩⟩:=hB
   ·exact⟨_,g.ax⟩
   obtain⟨_,_,_,_,_,_,g1,_⟩:=g.ex;exact⟨_,g1⟩
  obtain⟨cs,hc⟩:=hq
  match p,A,hA with
  |none,none,_=>trivial
  |some b,some (ids',fl'),⟨h1,h2,h3,h4,h5⟩=>
   have i8:b∉[c]:=fun hm=>hn c rfl (by rw[yf.1 hm])
   have off:∀ {t:TypeId} {y:Nat} {l7:Array Value},Lies W y t l7->t≠152->y∉[c]:=fun {t y l7} h ht hm=>fL h hc (fun e=>ht e.symm) (yf.1 hm)
   have offo:∀ {t:TypeId} {v:Value} {bb n sz:Nat} {xs:List Value},W.ownsRow bb t sz v n xs->t≠152->∀ g,v.ownBlock=some g->g∉[c]:=fun {t v bb n sz xs} h ht g hg=>by
    rcases h.2 with⟨rfl,_⟩|⟨g1,cap,cur,rfl,_,hh,_⟩
    ·simp[Value.ownBlock]at hg
    simp[Value.ownBlock]at hg;subst hg;exact off (show Lies W g1 t cur from hh) ht
   refine⟨h1,h2,h3,h4,?_⟩;rcases h5 with⟨base,v1,v2,g⟩|⟨base,g⟩
   ·exact .inl ⟨base,v1,v2,hk.lies g.ax i8,bL g.r1 hk (offo g.r1 (by decide)),bL g.r2 hk (offo g.r2 (by decide))⟩
   obtain⟨v1,v2,v4,m,ga,cs,g1,⟨b1,g2⟩,⟨b2,g3⟩,g4,g5,g6,g7,g8⟩:=g.ex;refine .inr ⟨base,⟨v1,v2,v4,m,ga,cs,hk.lies g1 i8,⟨b1,bL g2 hk (offo g2 (by decide))⟩,⟨b2,bL g3 hk (offo g3 (by decide))⟩,g4.at (hk.block _ g4.lt (fun hm=>?_)),hk.lies g5 (off g5 (by decide)),g6,g7,bL g8 hk (offo g8 (by decide))⟩⟩;obtain⟨es,ck,q2,_⟩:=g4;unfold Lies at hc;rw[yf.1 hm,hc]at q2;cases q2
def mN:List (Bs×Int):=[([61],1),([60,62],1),([60],1),([60,61],1),([62],1),([62,61],1),([38],2),([43],3),([45],3),([42],4),([47],4),([94],5)]
def iH(l:List (Bs×Int)):Array MapEntry:=(l.mapIdx fun i s=>{ key:=vT s.1,val:=vI s.2,born:=i }).toArray
theorem uEO(l:List (Bs×Int))(s:Bs)(n:Int):(iH l).push { key:=vT s,val:=vI n,born:=l.length }=iH (l++[(s,n)]):=by
 simp[iH,List.mapIdx_append]
def LvM(W:World)(m:Nat):Prop:=W.heap[m]?=some (.map (iH mN) 12)
theorem LvM.at{W W':World}{m:Nat}(h:LvM W m)(hb:W'.heap[m]?=W.heap[m]?):LvM W' m:=hb.trans h
theorem LvM.lt{W:World}{m:Nat}(h:LvM W m):m<W.heap.size:=(zk.1 h).1
theorem LvM.off{W:World}{m:Nat}(h:LvM W m){q:Option Nat}{A:AxV}(hA:AxF W q A)(hm:m∈q.toList):False:=by
 match q,A,hA,hm with
 |some c,some (ids,fl),hq,hm=>
  obtain rfl:m=c:=yf.1 (by simpa using hm);have key:∀ cs,Lies W m 152 cs->False:=fun cs hc=>by
   unfold Lies at hc;unfold LvM at h;rw[h]at hc;cases hc
  obtain⟨_,_,_,_,⟨base,v1,v2,g⟩|⟨base,g⟩⟩:=hq
  ·exact key _ g.ax
  obtain⟨_,_,_,_,_,_,k1,_⟩:=g.ex;exact key _ k1
structure WrS(W:World)(p m:Nat)(rp cp:Option Nat)(R C:AxV)(sf:Value)(ts:List RTok):Prop where
 box:∃ v,Lies W p 135 #[.pointer (ptr rp),.pointer (ptr cp),.map (some m),sf,v]/\W.ownsRow (p+1) 64 3 v ts.length (jD ts)
 ax:AxF W rp R
 ay:AxF W cp C
 ne:∀ b,rp=some b->cp≠some b
 lv:LvM W m
 gl:Gl W
 lo:∀ b∈rp.toList++cp.toList,b<p/\iD b
 pl:iD p
 ml:m<p
theorem WrS.lt{W:World}{p m:Nat}{rp cp:Option Nat}{R C:AxV}{sf:Value}{ts:List RTok}(h:WrS W p m rp cp R C sf ts):p<W.heap.size:=by
 obtain⟨v,h1,_⟩:=h.box;exact h1.lt
theorem vV{W:World}{p n:Nat}{v:Value}{xs:List Value}(h:W.ownsRow (p+1) 64 3 v n xs):∀ g,v.ownBlock=some g->g∈uCB W p/\∃ cs,Lies W g 64 cs:=by
 intro g hv;have hl:=h.lt g hv;rcases h.2 with⟨rfl,_⟩|⟨g1,cap,cur,rfl,_,hh,_⟩
 ·simp[Value.ownBlock]at hv
 simp[Value.ownBlock]at hv;subst hv;have h0:Lies W g1 64 cur:=hh;exact⟨dU.2 ⟨hl.2,by omega,uAF h0⟩,cur,h0⟩
theorem WrS.next{W W':World}{p m:Nat}{rp cp:Option Nat}{R C:AxV}{sf:Value}{ts:List RTok}(h:WrS W p m rp cp R C sf ts)(hb:Below W.heap.size W W'):WrS W' p m rp cp R C sf ts:=by
 obtain⟨v,h1,h2⟩:=h.box;exact⟨⟨v,h1.next hb,aL hb h2⟩,h.ax.next hb,h.ay.next hb,h.ne,h.lv.at (hb.block _ h.lv.lt),h.gl.next hb,h.lo,h.pl,h.ml⟩
theorem Kw.lies{W W':World}{p m:Nat}{rp cp:Option Nat}{R C:AxV}{sf:Value}{ts:List RTok}(hk:Kw p (rp.toList++cp.toList) W W')(h:WrS W p m rp cp R C sf ts){b:Nat}{t:TypeId}{cs:Array Value}(hl:Lies W b t cs)(h1:t≠64)(h2:t≠135)(h3:t≠152):Lies W' b t cs:=by
 refine Kp.lies hk hl (fun hm=>?_);obtain⟨v,g1,g2⟩:=h.box;have hax:∀ (q:Option Nat) (A:AxV),AxF W q A->b∉q.toList:=fun q A hq hm=>by
  match q,A,hq,hm with
  |some c,some (ids,fl),hq,hm=>
   rw[yf.1 (by simpa using hm:b∈[c])]at hl;obtain⟨_,_,_,_,⟨base,v1,v2,g⟩|⟨base,g⟩⟩:=hq
   ·exact fL hl g.ax (fun e=>h3 e.symm) rfl
   obtain⟨_,_,_,_,_,_,k1,_⟩:=g.ex;exact fL hl k1 (fun e=>h3 e.symm) rfl
 rcases ym.1 hm with rfl|hm
 ·exact fL hl g1 (fun e=>h2 e.symm) rfl
 rcases List.mem_append.1 hm with hm|hm
 ·rcases List.mem_append.1 hm with hm|hm
  ·exact hax _ _ h.ax hm
  exact hax _ _ h.ay hm
 exact absurd (dU.1 hm).2.2 (by rw[uEK hl h1];decide)
theorem Kw.kp{W W':World}{p m:Nat}{rp cp:Option Nat}{R C:AxV}{sf:Value}{ts:List RTok}(hk:Kw p (rp.toList++cp.toList) W W')(h:WrS W p m rp cp R C sf ts):KP (PLo p (rp.toList++cp.toList)) W W' :=
 ⟨hk.size,fun g hg=>Kp.block hk g (Nat.lt_trans hg.1 h.lt) (fun hm=>by
  rcases ym.1 hm with rfl|hm
  ·exact absurd hg.1 (Nat.lt_irrefl _)
  rcases List.mem_append.1 hm with hm|hm
  ·exact hg.2 hm
  exact absurd (dU.1 hm).2.1 (by have:=hg.1;omega))⟩
def WrO(p m:Nat)(rp cp:Option Nat)(R C:AxV)(sf:Value)(ts:List RTok)(w:World)(e:Ending)(w':World):Prop:=e=.returned (.tuple #[])/\WrS w' p m rp cp R C sf ts/\Kw p (rp.toList++cp.toList) w w'
theorem WrS.askR{W W':World}{p m:Nat}{rp cp:Option Nat}{R C:AxV}{sf:Value}{ts:List RTok}(h:WrS W p m rp cp R C sf ts)(hk:Kp rp.toList W W')(hA:AxF W' rp R):WrS W' p m rp cp R C sf ts:=by
 have ji:∀ b∈rp.toList,b<p/\iD b:=fun b hb=>h.lo b (List.mem_append_left _ hb)
 obtain⟨v,h1,h2⟩:=h.box;refine⟨⟨v,hk.lies h1 (fun hm=>absurd (ji _ hm).1 (Nat.lt_irrefl _)),bL h2 hk (fun g hg hm=>by have:=(h2.lt g hg).1;have:=(ji _ hm).1;omega)⟩,hA,h.ay.other h.ax hk (fun b e1 e2=>h.ne b e1 e2),h.ne,h.lv.at (hk.block _ h.lv.lt (fun hm=>?_)),h.gl.kp hk (fun b hb=>(ji b hb).2),h.lo,h.pl,h.ml⟩;exact h.lv.off h.ax hm
theorem WrS.askC{W W':World}{p m:Nat}{rp cp:Option Nat}{R C:AxV}{sf:Value}{ts:List RTok}(h:WrS W p m rp cp R C sf ts)(hk:Kp cp.toList W W')(hA:AxF W' cp C):WrS W' p m rp cp R C sf ts:=by
 have ji:∀ b∈cp.toList,b<p/\iD b:=fun b hb=>h.lo b (List.mem_append_right _ hb)
 obtain⟨v,h1,h2⟩:=h.box;refine⟨⟨v,hk.lies h1 (fun hm=>absurd (ji _ hm).1 (Nat.lt_irrefl _)),bL h2 hk (fun g hg hm=>by have:=(h2.lt g hg).1;have:=(ji _ hm).1;omega)⟩,h.ax.other h.ay hk (fun b e1 e2=>h.ne b e2 e1),hA,h.ne,h.lv.at (hk.block _ h.lv.lt (fun hm=>?_)),h.gl.kp hk (fun b hb=>(ji b hb).2),h.lo,h.pl,h.ml⟩;exact h.lv.off h.ay hm
theorem Kw.askR{W W':World}{p:Nat}{rp cp:Option Nat}(hk:Kp rp.toList W W'):Kw p (rp.toList++cp.toList) W W' :=
 Kw.of_kp hk (fun _ hg=>List.mem_append_left _ hg)
theorem Kw.askC{W W':World}{p:Nat}{rp cp:Option Nat}(hk:Kp cp.toList W W'):Kw p (rp.toList++cp.toList) W W' :=
 Kw.of_kp hk (fun _ hg=>List.mem_append_right _ hg)
theorem WrS.grown{W W':World}{p m:Nat}{rp cp:Option Nat}{R C:AxV}{sf v v':Value}{ts ts':List RTok}(h:WrS W p m rp cp R C sf ts)(hv:W.cell? ⟨p,4,none⟩=some v)(ho:W'.ownsRow (p+1) 64 3 v' ts'.length (jD ts'))(hg:W.grownBy W' v.ownBlock) :
  WrS (W'.setCell ⟨p,4,none⟩ v') p m rp cp R C sf ts'/\Kw p (rp.toList++cp.toList) W (W'.setCell ⟨p,4,none⟩ v'):=by
 obtain⟨v0,h1,h2⟩:=h.box;have hc:W.cell? ⟨p,4,none⟩=some v0:=h1.cell 4;rw[hv]at hc;injection hc with hc;subst hc;have hvo:=vV h2;have fw:Kp v.ownBlock.toList W W':=(Kp.refl _ W).grown hg (fun g jq=>.inl (by rw[jq];exact .head _));have az:∀ g∈v.ownBlock.toList,g∈uCB W p:=fun g hm=>(hvo g (by simpa using hm)).1
 have hpo:p∉v.ownBlock.toList:=fun hm=>absurd (dU.1 (az p hm)).2.1 (Nat.lt_irrefl _)
 have hL:=fw.lies h1 hpo;have hL2:Lies (W'.setCell ⟨p,4,none⟩ v') p 135 #[.pointer (ptr rp),.pointer (ptr cp),.map (some m),sf,v']:=hL.put 4 v';have er:Kp (p::(rp.toList++cp.toList++uCB W p)) W (W'.setCell ⟨p,4,none⟩ v') :=
  Kp.set (fw.mono (fun k hk _=>.tail _ (List.mem_append_right _ (az k hk)))) (.inl (.head _)) 4 v'
 have hko:Kp (p::v.ownBlock.toList) W (W'.setCell ⟨p,4,none⟩ v'):=Kp.set (fw.mono (fun k hk _=>.tail _ hk)) (.inl (.head _)) 4 v';have hY:NoAx W (p::v.ownBlock.toList):=fun y hy _=>by
  rcases ym.1 hy with rfl|hy
  ·exact⟨_,_,h1,by decide,by decide,by decide,by decide⟩
  obtain⟨_,cs,k⟩:=hvo y (by simpa using hy);exact⟨_,_,k,by decide,by decide,by decide,by decide⟩
 have hmn:m∉p::v.ownBlock.toList:=fun hm=>by
  rcases ym.1 hm with e|hm
  ·have:=h.ml;omega
  have:=(dU.1 (az m hm)).2.1;have:=h.ml;omega
 have hO:(W'.setCell ⟨p,4,none⟩ v').ownsRow (p+1) 64 3 v' ts'.length (jD ts'):=ownsRow_setCell_below ho (Nat.lt_succ_self p) v';refine⟨⟨⟨v',hL2,hO⟩,h.ax.kp hko hY,h.ay.kp hko hY,h.ne,h.lv.at (hko.block _ h.lv.lt hmn),h.gl.kp hko (fun b hb=>?_),h.lo,h.pl,h.ml⟩,er⟩;rcases ym.1 hb with rfl|hb
 ·exact h.pl
 have:=(dU.1 (az b hb)).2.1;obtain⟨q1,q2,q3⟩:=h.pl;exact⟨by omega,by omega,by omega⟩
def LV(q:Nat)(l:List (Bs×Int))(w W:World):Prop:=W.heap[q]?=some (.map (iH l) l.length)/\Below q w W/\q<W.heap.size
theorem LV.zero(w:World):LV w.heap.size [] w (w.alloc (.map #[] 0)):=⟨heap_alloc_new w _,(Below.refl _ w).alloc zr _,by rw[World.size_alloc];omega⟩
theorem oI:Tryz.prog.underlying 132=some (.map 9 3):=by kernel_rfl
theorem LV.run{q:Nat}{l:List (Bs×Int)}{w W:World}(h:LV q l w W)(s:Bs)(n:Int)(hf:Instr.findNow .string (vT s) (iH l).toList 0=some none) :
  (Instr.mapUpdate 132 (.map (some q)) (vT s) (vI n)).run Tryz.prog W=.ok () (dR W q ((iH l).push { key:=vT s,val:=vI n,born:=l.length }) (l.length+1)) :=
 vZ _ _ _ _ _ _ _ _ oI Tryz.underlying9 trivial h.1 hf
theorem LV.put{q:Nat}{l:List (Bs×Int)}{w W:World}(h:LV q l w W)(s:Bs)(n:Int):LV q (l++[(s,n)]) w (dR W q ((iH l).push { key:=vT s,val:=vI n,born:=l.length }) (l.length+1)) :=
 ⟨by rw[xJ h.2.2,uEO];simp,h.2.1.trans (vD zr _ _),by rw[pM];exact h.2.2⟩
theorem vR(w:World):Calls Tryz.prog 73 #[] w fun e w'=>e=.returned (.map (some w.heap.size))/\LvM w' w.heap.size/\Below w.heap.size w w':=by
 have S0:=zh (LV.zero w);have HP:Hid (∀ W',LV w.heap.size mN w W'->LvM W' w.heap.size/\Below w.heap.size w W'):=zh (fun W' h=>⟨h.1,h.2.1⟩);have wi:=@run_makeMap Tryz.prog;generalize hq:w.heap.size=q at *;have HQ:=zh hq
 go_in
 go_wp2_with (first
  |(refine bY rfl 132 (.tmp 1) (.const (vS #[61])) (.const (vI 1)) rfl (LV.run S0.out [61] 1 rfl) ?_;have S1:=zh (LV.put S0.out [61] 1);generalize dR _ _ _ _=W1 at S1 ⊢;clear S0;have S1:Hid (LV q [([61],1)] w W1):=S1)
  |(refine bY rfl 132 (.tmp 1) (.const (vS #[60,62])) (.const (vI 1)) rfl (LV.run S1.out [60,62] 1 rfl) ?_;have S2:=zh (LV.put S1.out [60,62] 1);generalize dR _ _ _ _=W2 at S2 ⊢;clear S1;have S2:Hid (LV q [([61],1),([60,62],1)] w W2):=S2)
  |(refine bY rfl 132 (.tmp 1) (.const (vS #[60])) (.const (vI 1)) rfl (LV.run S2.out [60] 1 rfl) ?_;have S3:=zh (LV.put S2.out [60] 1);generalize dR _ _ _ _=W3 at S3 ⊢;clear S2;have S3:Hid (LV q [([61],1),([60,62],1),([60],1)] w W3):=S3)
  |(refine bY rfl 132 (.tmp 1) (.const (vS #[60,61])) (.const (vI 1)) rfl (LV.run S3.out [60,61] 1 rfl) ?_;have S4:=zh (LV.put S3.out [60,61] 1);generalize dR _ _ _ _=W4 at S4 ⊢;clear S3;have S4:Hid (LV q [([61],1),([60,62],1),([60],1),([60,61],1)] w W4):=S4)
  |(refine bY rfl 132 (.tmp 1) (.const (vS #[62])) (.const (vI 1)) rfl (LV.run S4.out [62] 1 rfl) ?_;have S5:=zh (LV.put S4.out [62] 1);generalize dR _ _ _ _=W5 at S5 ⊢;clear S4;have S5:Hid (LV q [([61],1),([60,62],1),([60],1),([60,61],1),([62],1)] w W5):=S5)
  |(refine bY rfl 132 (.tmp 1) (.const (vS #[62,61])) (.const (vI 1)) rfl (LV.run S5.out [62,61] 1 rfl) ?_;have S6:=zh (LV.put S5.out [62,61] 1);generalize dR _ _ _ _=W6 at S6 ⊢;clear S5;have S6:Hid (LV q [([61],1),([60,62],1),([60],1),([60,61],1),([62],1),([62,61],1)] w W6):=S6)
  |(refine bY rfl 132 (.tmp 1) (.const (vS #[38])) (.const (vI 2)) rfl (LV.run S6.out [38] 2 rfl) ?_;have S7:=zh (LV.put S6.out [38] 2);generalize dR _ _ _ _=W7 at S7 ⊢;clear S6;have S7:Hid (LV q [([61],1),([60,62],1),([60],1),([60,61],1),([62],1),([62,61],1),([38],2)] w W7):=S7)
  |(refine bY rfl 132 (.tmp 1) (.const (vS #[43])) (.const (vI 3)) rfl (LV.run S7.out [43] 3 rfl) ?_;have S8:=zh (LV.put S7.out [43] 3);generalize dR _ _ _ _=W8 at S8 ⊢;clear S7;have S8:Hid (LV q [([61],1),([60,62],1),([60],1),([60,61],1),([62],1),([62,61],1),([38],2),([43],3)] w W8):=S8)
  |(refine bY rfl 132 (.tmp 1) (.const (vS #[45])) (.const (vI 3)) rfl (LV.run S8.out [45] 3 rfl) ?_;have S9:=zh (LV.put S8.out [45] 3);generalize dR _ _ _ _=W9 at S9 ⊢;clear S8;have S9:Hid (LV q [([61],1),([60,62],1),([60],1),([60,61],1),([62],1),([62,61],1),([38],2),([43],3),([45],3)] w W9):=S9)
  |(refine bY rfl 132 (.tmp 1) (.const (vS #[42])) (.const (vI 4)) rfl (LV.run S9.out [42] 4 rfl) ?_;have S10:=zh (LV.put S9.out [42] 4);generalize dR _ _ _ _=W10 at S10 ⊢;clear S9;have S10:Hid (LV q [([61],1),([60,62],1),([60],1),([60,61],1),([62],1),([62,61],1),([38],2),([43],3),([45],3),([42],4)] w W10):=S10)
  |(refine bY rfl 132 (.tmp 1) (.const (vS #[47])) (.const (vI 4)) rfl (LV.run S10.out [47] 4 rfl) ?_;have S11:=zh (LV.put S10.out [47] 4);generalize dR _ _ _ _=W11 at S11 ⊢;clear S10;have S11:Hid (LV q [([61],1),([60,62],1),([60],1),([60,61],1),([62],1),([62,61],1),([38],2),([43],3),([45],3),([42],4),([47],4)] w W11):=S11)
  |(refine bY rfl 132 (.tmp 1) (.const (vS #[94])) (.const (vI 5)) rfl (LV.run S11.out [94] 5 rfl) ?_;have S12:=zh (LV.put S11.out [94] 5);generalize dR _ _ _ _=W12 at S12 ⊢;clear S11;have S12:Hid (LV q [([61],1),([60,62],1),([60],1),([60,61],1),([62],1),([62,61],1),([38],2),([43],3),([45],3),([42],4),([47],4),([94],5)] w W12):=S12))
 go_ret
 exact⟨rfl,HP.out _ S12.out⟩
theorem bJ{P:Program}{w:World}(mty kt et:TypeId)(r clock:Nat)(es:Array MapEntry)(s:ByteArray)(i:Nat)(v:Value)(hm:P.underlying mty=some (.map kt et))(hk:P.underlying kt=some .string)(hb:w.heap[r]?=some (.map es clock))(hf:Instr.findNow .string (.string s) es.toList 0=some (some (i,v))) :
  (Instr.lookup mty (.map (some r)) (.string s) false).run P w=.ok v w:=by
 have hc:(Instr.checkKey es.isEmpty 10000 kt (.string s)).run P w=.ok () w:=MapKept.run_checkKey (k:=.string s) hk (by simp[MapKept.IsKey]) _ 9999;simp[Instr.lookup,run_underlying hm,MapKept.run_getObj_map hb,hc,MapKept.run_findKey hk hf,Result.andThen]
theorem look_lev{W:World}{m:Nat}(h:LvM W m){s:Bs}(hs:lO s=true):(Instr.lookup 132 (.map (some m)) (vT s) false).run Tryz.prog W=.ok (vI (bU s)) W:=by
 unfold lO at hs;simp only[Bool.or_eq_true,beq_iff_eq]at hs;rcases hs with((((((((((h1|h1)|h1)|h1)|h1)|h1)|h1)|h1)|h1)|h1)|h1)|h1 <;> subst h1
 ·exact bJ 132 9 3 m 12 (iH mN) ⟨#[43]⟩ 7 (vI 3) oI Tryz.underlying9 h rfl
 ·exact bJ 132 9 3 m 12 (iH mN) ⟨#[45]⟩ 8 (vI 3) oI Tryz.underlying9 h rfl
 ·exact bJ 132 9 3 m 12 (iH mN) ⟨#[42]⟩ 9 (vI 4) oI Tryz.underlying9 h rfl
 ·exact bJ 132 9 3 m 12 (iH mN) ⟨#[47]⟩ 10 (vI 4) oI Tryz.underlying9 h rfl
 ·exact bJ 132 9 3 m 12 (iH mN) ⟨#[94]⟩ 11 (vI 5) oI Tryz.underlying9 h rfl
 ·exact bJ 132 9 3 m 12 (iH mN) ⟨#[38]⟩ 6 (vI 2) oI Tryz.underlying9 h rfl
 ·exact bJ 132 9 3 m 12 (iH mN) ⟨#[61]⟩ 0 (vI 1) oI Tryz.underlying9 h rfl
 ·exact bJ 132 9 3 m 12 (iH mN) ⟨#[60,62]⟩ 1 (vI 1) oI Tryz.underlying9 h rfl
 ·exact bJ 132 9 3 m 12 (iH mN) ⟨#[60]⟩ 2 (vI 1) oI Tryz.underlying9 h rfl
 ·exact bJ 132 9 3 m 12 (iH mN) ⟨#[60,61]⟩ 3 (vI 1) oI Tryz.underlying9 h rfl
 ·exact bJ 132 9 3 m 12 (iH mN) ⟨#[62]⟩ 4 (vI 1) oI Tryz.underlying9 h rfl
 exact bJ 132 9 3 m 12 (iH mN) ⟨#[62,61]⟩ 5 (vI 1) oI Tryz.underlying9 h rfl
theorem yM{p m:Nat}{rp cp:Option Nat}{R C:AxV}{sf:Value}{ts:List RTok}(k:Int)(s:Bs)(w:World)(h:WrS w p m rp cp R C sf ts)(hn:ts.length<=900000) :
  Calls Tryz.prog 135 #[vP p 0,vI k,vT s] w fun e w'=>WrO p m rp cp R C sf (ts++[tk k s]) w e w':=by
 obtain⟨v,hl,ho⟩:=h.box;obtain⟨A,c,rfl⟩:=aY ho;have c4:w.cell? ⟨p,4,none⟩=some (.slice A ts.length c):=hl.cell 4;have hp:=hl.lt;obtain⟨i1,gi,gz0,gz1,gz2⟩:=info_parts rA;obtain⟨W1,am⟩:=zD (w.alloc (.cells #[vI k,vT s,vI 0] 64))
 have bf:=zA am;have eu:Hid (WrS W1 p m rp cp R C sf ts):=zh (h.next bf.out);have iu:Hid (Lies W1 p 135 #[.pointer (ptr rp),.pointer (ptr cp),.map (some m),sf,.slice A ts.length c]):=zh (hl.next bf.out);have rh:Hid (W1.ownsRow (p+1) 64 3 (.slice A ts.length c) ts.length (jD ts)):=zh (aL bf.out ho);have HN:Hid (∀ j u,(fM (tk k s))[j]?=some u->W1.cell? ((⟨w.heap.size,0,none⟩:Addr).add j)=some u):=zh (fun j u hj=>by
  have hL:Lies W1 w.heap.size 64 #[vI k,vT s,vI 0]:=by rw[am];exact Lies.new w _ _
  have e:(⟨w.heap.size,0,none⟩:Addr).add j=⟨w.heap.size,j,none⟩:=by cases j <;> simp[Addr.add]
  rw[e,hL.cell j];simpa [fM] using hj)
 have al:=zh am;have kl:Hid (p+1<=W1.heap.size):=zh (by have:=bf.out.size;omega);clear h hl ho am
 go_in
 go_wp2_with (first
  |(at_builtin;rw[<- al.out];refine wpList_append_own (P:=Tryz.prog) _ rfl _ _ 60 rfl (p+1) 64 i1 (.agg #[vI 0,vS #[],vI 0]) 3 32 Tryz.underlying60 gi gz0 gz1 gz2 rfl (by decide) (.slice A ts.length c) ts.length (jD ts) rfl rh.out ⟨w.heap.size,0,none⟩ 1 1 (fM (tk k s)) rfl rfl HN.out (lP _) (by unfold maxLen;omega) (by omega) kl.out (fun v' w' k1 k2 _=>?_);obtain⟨A',c',rfl⟩:=aY k1;have K1:=zh k1;have K2:=zh k2;have c5:w'.cell? ⟨p,4,none⟩=some (.slice A ts.length c):=((iu.out.grownA k2 (fun e=>by have:=(rh.out.lt p e.symm).1;omega)).cell 4);have f5:w'.frozen? ⟨p,4,none⟩=false:=((iu.out.grownA k2 (fun e=>by have:=(rh.out.lt p e.symm).1;omega)).frozen 4);clear k1 k2))
 go_end0
 have h1:=K1.out;rw[<- oE]at h1;have du:W1.cell? ⟨p,4,none⟩=some (.slice A ts.length c):=iu.out.cell 4;have hg:=eu.out.grown (ts':=ts++[tk k s]) du (by rw[yl];exact h1) K2.out;exact⟨rfl,hg.1,(Kw.of_below bf.out).trans hg.2⟩
theorem kT{p m:Nat}{rp cp:Option Nat}{R C:AxV}{sf:Value}{ts:List RTok}(w:World)(h:WrS w p m rp cp R C sf ts)(hn:ts.length<=900000) :
  Calls Tryz.prog 193 #[vP p 0] w fun e w'=>WrO p m rp cp R C sf (ts++eK) w e w':=by
 have CF:Hid (Calls Tryz.prog 113 #[vI 3] w fun e w'=>e=.returned (vS #[35,82,69,70,33])/\w=w'):=zh (hG 3 w h.gl.tab);have CP:Hid (Calls Tryz.prog 135 #[vP p 0,vI 6,vS #[35,82,69,70,33]] w fun e w'=>WrO p m rp cp R C sf (ts++eK) w e w'):=zh (yM 6 [35,82,69,70,33] w h hn);clear h hn;generalize ts++eK=g at *
 go_in
 go_wp2_with (first
  |((with_reducible refine CF.out.mono ?_);rintro e wx ⟨rfl,rfl⟩)
  |((with_reducible refine CP.out.mono ?_);rintro e wx ⟨rfl,hs,hk⟩;have HS:=zh hs;have HK:=zh hk;clear hs hk))
 go_end0
 exact⟨rfl,HS.out,HK.out⟩
def rW(h:NodeH):Int:=if h.kind=6 then bU h.name else if h.kind=5 then if h.name=[37] then 7 else 6 else 8
theorem uEX(t:Tree):eU t=rW t.h:=rfl
theorem sO{p m:Nat}{rp cp:Option Nat}{R C:AxV}{sf:Value}{ts:List RTok}(h:NodeH)(A:Option Addr)(n c:Nat)(Cn:List Value)(w:World)(ai:Hid (Cn.toArray=aH h A n c))(hw:WrS w p m rp cp R C sf ts)(h6:h.kind=6->lO h.name=true) :
  Calls Tryz.prog 133 #[vP p 0,.agg Cn.toArray] w fun e w'=>e=.returned (vI (rW h))/\Below w.heap.size w w':=by
 obtain⟨W1,am⟩:=zD (w.alloc (.cells Cn.toArray 34))
 have al:=zh am;have HL:=zL am;have HB:=zA am;have HWr:=zh (hw.next HB.out);have c0:=HL.out.cell 0;have c7:=HL.out.cell 7;rw[ai.out]at c0 c7;obtain⟨k,v,s,a,b,r⟩:=h;simp only[aH,za,zb,zf]at c0 c7;obtain⟨x,hx⟩:=zD (rW ⟨k,v,s,a,b,r⟩)
 have HX:=zh hx;rw[<- hx];clear am hx ai hw;by_cases e6:k=6
 ·subst e6;have HE:Hid (x=bU s):=zh (HX.out.trans rfl);obtain⟨wv,hl,-⟩:=HWr.out.box;have c2:W1.cell? ⟨p,2,none⟩=some (.map (some m)):=hl.cell 2;have hlk:=look_lev (HWr.out.lv.at (rfl:W1.drew.heap[m]?=W1.heap[m]?)) (h6 rfl);rw[<- HE.out]at hlk;obtain⟨W5,dr⟩:∃ W,W=W1.drew:=⟨_,rfl⟩
  have bk:Hid (Below w.heap.size w W5):=zh (by rw[dr];exact HB.out.drew);clear HX hl h6
  go_in
  go_upto_region 1 with fail
  rw[<- al.out];clear al
  go_upto_region 2 with fail
  go_cut [4] (fun va wx=>va=vI x/\Hid (wx=W5))
  case first=>
   go_region
   all_goals go_wp2_with fail
   all_goals go_meet
   all_goals exact⟨rfl,zh dr.symm⟩
  case rest=>
  obtain⟨rfl,hcut⟩:=hcut;obtain rfl:W5=wc:=hcut.out.symm;clear hlk dr hcut c0 c7 c2
  go_wp2_with fail
  go_ret
  exact⟨rfl,bk.out⟩
 by_cases h5:k=5
 ·subst h5;by_cases s1:s=[37]
  ·subst s1;have HE:Hid (x=7):=zh (HX.out.trans rfl);clear HX h6
   go_in
   go_upto_region 1 with fail
   rw[<- al.out];clear al
   go_wp2_with fail
   go_ret
   exact⟨by(rw[HE.out]) <;> rfl,HB.out⟩
  have HE:Hid (x=6):=zh (HX.out.trans (by unfold rW;rw[if_neg (by show ¬ (5:Int)=6;omega),if_pos rfl,if_neg s1]));have b1:(s==[37])=false:=by simp[s1]
  clear HX h6
  go_in
  go_upto_region 1 with fail
  rw[<- al.out];clear al
  go_wp2_with fail
  go_ret
  exact⟨by(rw[HE.out]) <;> rfl,HB.out⟩
 have HE:Hid (x=8):=zh (HX.out.trans (by unfold rW;rw[if_neg e6,if_neg h5]));have k6:(k==6)=false:=by simp[e6]
 have k5:(k==5)=false:=by simp[h5]
 clear HX h6
 go_in
 go_upto_region 1 with fail
 rw[<- al.out];clear al
 go_wp2_with fail
 go_ret
 exact⟨by(rw[HE.out]) <;> rfl,HB.out⟩
theorem Kw.loc{p b:Nat}{X:List Nat}{a W W':World}(h:Kw p X a W)(hk:Kp [b] W W')(hb:a.heap.size<=b):Kw p X a W' :=
 Kp.andThen h hk (fun g hg=>.inr (by rw[yf.1 hg];exact hb))
theorem WrS.loc{W W':World}{p m b:Nat}{rp cp:Option Nat}{R C:AxV}{sf:Value}{ts:List RTok}(h:WrS W p m rp cp R C sf ts)(hk:Kp [b] W W')(hb:p<b){t:TypeId}{cs:Array Value}(hl:Lies W b t cs)(h1:t≠64)(h2:t≠27)(h3:t≠4)(h4:t≠3)(h5:t≠152):WrS W' p m rp cp R C sf ts:=by
 obtain⟨v,g1,g2⟩:=h.box;have hY:NoAx W [b]:=fun y hy _=>by
  rw[yf.1 hy];exact⟨t,cs,hl,h2,h3,h4,h5⟩
 refine⟨⟨v,hk.lies g1 (fun hm=>by have:=yf.1 hm;omega),bL g2 hk (fun g hg hm=>?_)⟩,h.ax.kp hk hY,h.ay.kp hk hY,h.ne,h.lv.at (hk.block _ h.lv.lt (fun hm=>?_)),h.gl.kp hk (fun y hy=>?_),h.lo,h.pl,h.ml⟩
 ·obtain⟨_,l7,k⟩:=vV g2 g hg;exact fL hl k (fun e=>h1 e.symm) (yf.1 hm).symm
 ·have:=yf.1 hm;have:=h.ml;omega
 rw[yf.1 hy];obtain⟨q1,q2,q3⟩:=h.pl;exact⟨by omega,by omega,by omega⟩
theorem kK(W:World)(b i:Nat)(u:Value):Kp [b] W (W.setCell ⟨b,i,none⟩ u):=Kp.set (Kp.refl _ _) (.inl (.head _)) i u
theorem Lies.two{w:World}{b:Nat}{t:TypeId}{x y:Value}(h:Lies w b t #[x,y]):w.cell? ⟨b,0,none⟩=some x/\w.cell? ⟨b,1,none⟩=some y/\w.frozen? ⟨b,0,none⟩=false/\w.frozen? ⟨b,1,none⟩=false/\b<w.heap.size:=⟨h.cell 0,h.cell 1,h.frozen 0,h.frozen 1,h.lt⟩
theorem bQ{p m:Nat}{rp cp:Option Nat}{R C:AxV}{sf:Value}(k:Int)(s:Bs)(S:Array UInt8)(hS:S=s.toArray)(t:RTok)(ht:t=tk k s):∀ (W:World) (ts:List RTok),WrS W p m rp cp R C sf ts->ts.length<=900000->Calls Tryz.prog 135 #[vP p 0,vI k,vS S] W fun e w'=>WrO p m rp cp R C sf (ts++[t]) W e w':=fun W ts h hn=>by
 subst hS ht;exact yM k s W h hn
theorem uFZ{p m:Nat}{rp cp:Option Nat}{R C:AxV}{sf:Value}{ts:List RTok}(t:Bs)(w:World)(h:WrS w p m rp cp R C sf ts)(hn:ts.length<=800000) :
  Calls Tryz.prog 132 #[vP p 0,.agg #[vI 2,vI 0,vI 0,vT t,.bool false,vI 0]] w fun e w'=>WrO p m rp cp R C sf (ts++[tk 2 t]) w e w':=by
 obtain⟨W0,aj⟩:=zD (w.alloc (.cells #[vI 2,vI 0,vI 0,vT t,.bool false,vI 0] 25))
 have ak:=zh aj;have aq:=zA aj;have L0:Lies W0 w.heap.size 25 #[vI 2,vI 0,vI 0,vT t,.bool false,vI 0]:=by rw[aj];exact Lies.new w _ _
 have c0:=L0.cell 0;have c3:=L0.cell 3;simp only[za,zb,zf]at c0 c3;obtain⟨x,hx⟩:=zD (tk 2 t)
 have CP:=zh (bQ (p:=p) (m:=m) (rp:=rp) (cp:=cp) (R:=R) (C:=C) (sf:=sf) 2 t t.toArray rfl x hx);rw[<- hx];have HS:=zh (h.next aq.out);clear h hx L0 aj
 go_in
 go_upto_region 1 with fail
 rw[<- ak.out];clear ak
 go_wp2_with ((with_reducible refine(CP.out _ _ HS.out (by omega)).mono ?_);rintro e wx ⟨rfl,hs,hk⟩;have lj:=zh hs;have fj:=zh hk;clear hs hk c0 c3)
 go_end0
 exact⟨rfl,lj.out,(Kw.of_below aq.out).trans fj.out⟩
theorem uCD{p m:Nat}{rp cp:Option Nat}{R C:AxV}{sf:Value}{ts:List RTok}(f:Int)(w:World)(h:WrS w p m rp cp R C sf ts)(hn:ts.length<=800000) :
  Calls Tryz.prog 132 #[vP p 0,.agg #[vI 4,vI 0,vI 0,vS #[],.bool false,vI f]] w fun e w'=>WrO p m rp cp R C sf (ts++[tk 6 (bA f)]) w e w':=by
 obtain⟨W0,aj⟩:=zD (w.alloc (.cells #[vI 4,vI 0,vI 0,vS #[],.bool false,vI f] 25))
 have ak:=zh aj;have aq:=zA aj;have L0:Lies W0 w.heap.size 25 #[vI 4,vI 0,vI 0,vS #[],.bool false,vI f]:=by rw[aj];exact Lies.new w _ _
 have c0:=L0.cell 0;have c5:=L0.cell 5;simp only[za,zb,zf]at c0 c5;obtain⟨x,hx⟩:=zD (tk 6 (bA f))
 have CP:=zh (bQ (p:=p) (m:=m) (rp:=rp) (cp:=cp) (R:=R) (C:=C) (sf:=sf) 6 (bA f) (bA f).toArray rfl x hx);rw[<- hx];have HS:=zh (h.next aq.out);have CF:=zh (hG f W0 HS.out.gl.tab);generalize bA f=T at *;clear h hx L0 aj
 go_in
 go_upto_region 1 with fail
 rw[<- ak.out];clear ak
 go_wp2_with (first
  |((with_reducible refine CF.out.mono ?_);rintro e wx ⟨rfl,rfl⟩)
  |((with_reducible refine(CP.out _ _ HS.out (by omega)).mono ?_);rintro e wx ⟨rfl,hs,hk⟩;have lj:=zh hs;have fj:=zh hk;clear hs hk c0 c5))
 go_end0
 exact⟨rfl,lj.out,(Kw.of_below aq.out).trans fj.out⟩
theorem uCE{p m:Nat}{rp cp:Option Nat}{R C:AxV}{sf:Value}{ts:List RTok}(b:Bool)(w:World)(h:WrS w p m rp cp R C sf ts)(hn:ts.length<=800000) :
  Calls Tryz.prog 132 #[vP p 0,.agg #[vI 3,vI 0,vI 0,vS #[],.bool b,vI 0]] w fun e w'=>WrO p m rp cp R C sf (ts++[tk 3 (if b then sU else noB)]) w e w':=by
 obtain⟨W0,aj⟩:=zD (w.alloc (.cells #[vI 3,vI 0,vI 0,vS #[],.bool b,vI 0] 25))
 have ak:=zh aj;have aq:=zA aj;have L0:Lies W0 w.heap.size 25 #[vI 3,vI 0,vI 0,vS #[],.bool b,vI 0]:=by rw[aj];exact Lies.new w _ _
 have c0:=L0.cell 0;have c1:=L0.cell 1;have c2:=L0.cell 2;have c3:=L0.cell 3;have c4:=L0.cell 4;have c5:=L0.cell 5;simp only[za,zb,zf]at c0 c1 c2 c3 c4 c5;obtain⟨x,hx⟩:=zD (tk 3 (if b then sU else noB))
 have CP:=zh (bQ (p:=p) (m:=m) (rp:=rp) (cp:=cp) (R:=R) (C:=C) (sf:=sf) 3 (if b then sU else noB) (if b then sU else noB).toArray rfl x hx);rw[<- hx];have HS:=zh (h.next aq.out);have CF:Hid (Calls Tryz.prog 60 #[.agg #[vI 3,vI 0,vI 0,vS #[],.bool b,vI 0]] W0 fun e w'=>e=.returned (vT (if b then sU else noB))/\Below W0.heap.size W0 w'):=zh (by
  have h:=xX ⟨3,0,0,[],b,0⟩ W0 HS.out.gl.tab HS.out.gl.pow (by show (-9223372036854775808:Int)<=0;decide) (by show (0:Int)<=9223372036854775807;decide) (fun h=>by cases h);exact h)
 generalize (if b then sU else noB)=T at *;clear h hx L0 aj
 go_in
 go_upto_region 1 with fail
 rw[<- ak.out];clear ak
 go_wp2_with (first
  |((with_reducible refine CF.out.mono ?_);rintro e wx ⟨rfl,hb⟩;have eu:=zh (HS.out.next hb);have bf:=zh hb;clear hb)
  |((with_reducible refine(CP.out _ _ eu.out (by omega)).mono ?_);rintro e wx ⟨rfl,hs,hk⟩;have lj:=zh hs;have fj:=zh hk;clear hs hk c0 c1 c2 c3 c4 c5))
 go_end0
 exact⟨rfl,lj.out,((Kw.of_below aq.out).trans (Kw.of_below bf.out)).trans fj.out⟩
theorem wlit_pos{p m:Nat}{rp cp:Option Nat}{R C:AxV}{sf:Value}{ts:List RTok}(mt e:Int)(w:World)(h:WrS w p m rp cp R C sf ts)(hn:ts.length<=800000)(hR:bF mt e=true)(h0:0<=mt) :
  Calls Tryz.prog 132 #[vP p 0,.agg #[vI 1,vI mt,vI e,vS #[],.bool false,vI 0]] w fun e' w'=>WrO p m rp cp R C sf (ts++[tk 1 (cC mt e)]) w e' w':=by
 obtain⟨h1,h2⟩:=nX hR;obtain⟨W0,aj⟩:=zD (w.alloc (.cells #[vI 1,vI mt,vI e,vS #[],.bool false,vI 0] 25))
 obtain⟨W1,am⟩:=zD (W0.alloc (.cells #[vI mt,vI e] 23))
 have ak:=zh aj;have al:=zh am;have aq:=zA aj;have bf:=zA am;have L0:Lies W0 w.heap.size 25 #[vI 1,vI mt,vI e,vS #[],.bool false,vI 0]:=by rw[aj];exact Lies.new w _ _
 have L1:Lies W1 W0.heap.size 23 #[vI mt,vI e]:=by rw[am];exact Lies.new W0 _ _
 have c0:=L0.cell 0;have c1:=L0.cell 1;have c2:=L0.cell 2;have d0:=L1.cell 0;have d1:=L1.cell 1;simp only[za,zb,zf]at c0 c1 c2 d0 d1;obtain⟨x,hx⟩:=zD (tk 1 (cC mt e))
 have CP:=zh (bQ (p:=p) (m:=m) (rp:=rp) (cp:=cp) (R:=R) (C:=C) (sf:=sf) 1 (cC mt e) (cC mt e).toArray rfl x hx);rw[<- hx];have HS:=zh ((h.next aq.out).next bf.out);have CF:=zh (jZ mt e W1 HS.out.gl.pow h1 h2 hR);have hm:¬ mt<0:=by omega
 generalize cC mt e=T at *;clear h hx L0 L1 aj am h1 h2 hR
 go_in
 go_upto_region 1 with fail
 rw[<- ak.out];clear ak
 go_upto_region 4 with fail
 rw[<- al.out];clear al
 go_wp2_with (first
  |((with_reducible refine CF.out.mono ?_);rintro e wx ⟨rfl,hb⟩;have eu:=zh (HS.out.next hb);have ba:=zh hb;clear hb)
  |((with_reducible refine(CP.out _ _ eu.out (by omega)).mono ?_);rintro e wx ⟨rfl,hs,hk⟩;have lj:=zh hs;have fj:=zh hk;clear hs hk c0 c1 c2 d0 d1))
 go_end0
 exact⟨rfl,lj.out,(((Kw.of_below aq.out).trans (Kw.of_below bf.out)).trans (Kw.of_below ba.out)).trans fj.out⟩
theorem wlit_neg{p m:Nat}{rp cp:Option Nat}{R C:AxV}{sf:Value}{ts:List RTok}(mt e:Int)(w:World)(h:WrS w p m rp cp R C sf ts)(hn:ts.length<=800000)(hR:bF mt e=true)(h0:mt<0) :
  Calls Tryz.prog 132 #[vP p 0,.agg #[vI 1,vI mt,vI e,vS #[],.bool false,vI 0]] w fun e' w'=>WrO p m rp cp R C sf (ts++[tk 5 [45]]++[tk 1 (cC (-mt) e)]) w e' w':=by
 have hR2:=uFH mt e hR;obtain⟨g1,g2⟩:=nX hR;obtain⟨h1,h2⟩:=nX hR2;have hmb:=(kN hR (by omega)).1;obtain⟨W0,aj⟩:=zD (w.alloc (.cells #[vI 1,vI mt,vI e,vS #[],.bool false,vI 0] 25))
 obtain⟨W1,am⟩:=zD (W0.alloc (.cells #[vI mt,vI e] 23))
 have ak:=zh aj;have al:=zh am;have aq:=zA aj;have bf:=zA am;have L0:Lies W0 w.heap.size 25 #[vI 1,vI mt,vI e,vS #[],.bool false,vI 0]:=by rw[aj];exact Lies.new w _ _
 have L1:Lies W1 W0.heap.size 23 #[vI mt,vI e]:=by rw[am];exact Lies.new W0 _ _
 have c0:=L0.cell 0;have c1:=L0.cell 1;have c2:=L0.cell 2;have d0:=L1.cell 0;have d1:=L1.cell 1;simp only[za,zb,zf]at c0 c1 c2 d0 d1;have iu:=zh L1;have HKa:Hid (Kw p (rp.toList++cp.toList) w W1):=zh ((Kw.of_below aq.out).trans (Kw.of_below bf.out));have kl:Hid (w.heap.size<=W0.heap.size/\p<W0.heap.size):=zh ⟨aq.out.size,yu h.lt aq.out.size⟩;obtain⟨x,hx⟩:=zD (tk 5 [45])
 obtain⟨y,hy⟩:∃ x,x=tk 1 (cC (-mt) e):=⟨_,rfl⟩
 have CP:=zh (bQ (p:=p) (m:=m) (rp:=rp) (cp:=cp) (R:=R) (C:=C) (sf:=sf) 5 [45] #[45] rfl x hx);have CQ:=zh (bQ (p:=p) (m:=m) (rp:=rp) (cp:=cp) (R:=R) (C:=C) (sf:=sf) 1 (cC (-mt) e) (cC (-mt) e).toArray rfl y hy);rw[<- hx,<- hy];have HS:=zh ((h.next aq.out).next bf.out);have CN:Hid (∀ W,Calls Tryz.prog 192 #[.agg #[vI mt,vI e]] W fun x w'=>x=.returned (.agg #[vI (-mt),vI e])/\Below W.heap.size W w'):=zh (fun W=>uEU mt e W (by omega) g2 hR);have CF:Hid (∀ W,PowTab W->Calls Tryz.prog 181 #[.agg #[vI (-mt),vI e]] W fun x w'=>x=.returned (vT (cC (-mt) e))/\Below W.heap.size W w'):=zh (fun W hp=>jZ (-mt) e W hp h1 h2 hR2);generalize cC (-mt) e=T at *;obtain⟨mn,hmn⟩:∃ z,z=-mt:=⟨_,rfl⟩
 rw[<- hmn]at CN CF;clear h hx hy L0 L1 aj am h1 h2 hR hR2 g1 g2 hmb hmn aq bf
 go_in
 go_upto_region 1 with fail
 rw[<- ak.out];clear ak
 go_upto_region 4 with fail
 rw[<- al.out];clear al
 go_wp2_with (first
  |((with_reducible refine(CP.out _ _ HS.out (by omega)).mono ?_);rintro e wx ⟨rfl,hs,hk⟩;have gw:=zh (Kw.lies hk HS.out iu.out (by decide) (by decide) (by decide));have lj:=zh hs;have fj:=zh (HKa.out.trans hk);clear hs hk c0 c1 c2 d0 d1;obtain⟨d0,d1,f0,f1,z0⟩:=gw.out.two)
  |((with_reducible refine(CN.out _).mono ?_);rintro e wx ⟨rfl,hb⟩;have vp:=zh (gw.out.next hb);have ou:=zh (lj.out.next hb);have m9:=zh (fj.out.trans (Kw.of_below hb));clear hb d0 d1 f0 f1 z0;obtain⟨d0,d1,f0,f1,z0⟩:=vp.out.two)
  |(have k1:=kK wx W0.heap.size 0 (vI mn);have k2:=k1.trans (kK (wx.setCell ⟨W0.heap.size,0,none⟩ (vI mn)) W0.heap.size 1 (vI e));have o6:Hid (Lies ((wx.setCell ⟨W0.heap.size,0,none⟩ (vI mn)).setCell ⟨W0.heap.size,1,none⟩ (vI e)) W0.heap.size 23 #[vI mn,vI e]):=zh ((vp.out.put 0 (vI mn)).put 1 (vI e));have jl:=zh (ou.out.loc k2 kl.out.2 vp.out (by decide) (by decide) (by decide) (by decide) (by decide));have fv:=zh (m9.out.loc k2 kl.out.1);clear k1 k2;generalize ((wx.setCell ⟨W0.heap.size,0,none⟩ (vI mn)).setCell ⟨W0.heap.size,1,none⟩ (vI e))=W4 at o6 jl fv ⊢;(with_reducible refine(CF.out _ jl.out.gl.pow).mono ?_);rintro e wx ⟨rfl,hb⟩;have lx:=zh (jl.out.next hb);have kw:=zh (fv.out.trans (Kw.of_below hb));clear hb)
  |((with_reducible refine(CQ.out _ _ lx.out (by rw[yl];simp;omega)).mono ?_);rintro e wx ⟨rfl,hs,hk⟩;have dz:=zh hs;have vk:=zh (kw.out.trans hk);clear hs hk))
 go_end0
 exact⟨rfl,dz.out,vk.out⟩
theorem wE{p m:Nat}{rp cp:Option Nat}{R C:AxV}{sf:Value}{ts:List RTok}(v:Val)(w:World)(h:WrS w p m rp cp R C sf ts)(hn:ts.length<=800000)(hR:aR v=true)(h0:v.kind≠0) :
  Calls Tryz.prog 132 #[vP p 0,iB v] w fun e w'=>WrO p m rp cp R C sf (ts++kX v) w e w':=by
 rcases xU v hR with rfl|⟨mt,e,rfl,g⟩|⟨t,rfl,g⟩|⟨b,rfl⟩|⟨f,rfl,h1,h2⟩
 ·exact absurd rfl h0
 ·by_cases hm:mt<0
  ·have e1:ts++kX ⟨1,mt,e,[],false,0⟩=ts++[tk 5 [45]]++[tk 1 (cC (-mt) e)]:=by unfold kX;rw[if_pos rfl,if_pos hm];simp
   rw[e1];exact wlit_neg mt e w h hn g hm
  have e1:kX ⟨1,mt,e,[],false,0⟩=[tk 1 (cC mt e)]:=by unfold kX;rw[if_pos rfl,if_neg hm]
  rw[e1];exact wlit_pos mt e w h hn g (by omega)
 ·exact uFZ t w h hn
 ·exact uCE b w h hn
 exact uCD f w h hn
theorem Lies.rangeM{w:World}{b:Nat}{t:TypeId}{C:List Value}(h:Lies w b t C.toArray):w.rangeAt b 0 C:=by
 have:=h.range
 rwa [List.toList_toArray]at this
theorem cN{C:List Value}(h2:C.length=22):(Tryz.prog.info? 34).map (·.size)=some C.length:=by
 rw[h2];exact bO
theorem jI{C:List Value}{h:NodeH}{A:Option Addr}{n cp:Nat}(e:C.toArray=aH h A n cp):C.length=22:=by
 rw[<- yd,e];rfl
theorem yP{p m:Nat}{rp cp:Option Nat}{R C:AxV}{sf:Value}{ts:List RTok}(h:NodeH)(A:Option Addr)(n c:Nat)(Cn:List Value)(lev:Int)(qh:List RTok)(w:World)(ai:Hid (Cn.toArray=aH h A n c))(hw:WrS w p m rp cp R C sf ts)(h6:h.kind=6->lO h.name=true)(hn:ts.length+qh.length<=700000)
  (hT:∀ W ts',WrS W p m rp cp R C sf ts'->Kw p (rp.toList++cp.toList) w W->ts'.length<=ts.length+1->Calls Tryz.prog 74 #[vP p 0,.agg Cn.toArray] W fun e w'=>WrO p m rp cp R C sf (ts'++qh) W e w') :
  Calls Tryz.prog 134 #[vP p 0,.agg Cn.toArray,vI lev] w fun e w'=>WrO p m rp cp R C sf (ts++eZ (rW h) lev qh) w e w':=by
 obtain⟨W0,aj⟩:=zD (w.alloc (.cells Cn.toArray 34))
 have ak:=zh aj;have aq:=zA aj;have HK:Hid (Kw p (rp.toList++cp.toList) w W0):=zh (Kw.of_below aq.out);have HL:=zL aj;have HS:=zh (hw.next aq.out);have bj:=zh (cN (jI ai.out));have CV:=zh (fun W (hs:WrS W p m rp cp R C sf ts)=>sO h A n c Cn W ai hs h6);have CT:=zh hT;have gx:=zh hn;obtain⟨lv,mi⟩:=zD (rW h)
 rw[<- mi]at CV ⊢;clear aj hw hT h6 mi ai hn;by_cases hle:lev<=lv
 ·have e1:eZ lv lev qh=qh:=by unfold eZ;rw[if_pos hle]
  rw[e1];clear e1
  go_in
  go_upto_region 1 with fail
  rw[<- ak.out];clear ak
  go_wp2_with (first
   |(refine yr rfl 34 (.tmp 4) rfl w.heap.size 0 rfl Cn _ HL.out.rangeM Tryz.underlying34 rfl bj.out ?_)
   |((with_reducible refine(CV.out _ HS.out).mono ?_);rintro e wx ⟨rfl,hb⟩;replace HK:=zh (HK.out.trans (Kw.of_below hb));replace HL:=zh (HL.out.next hb);replace HS:=zh (HS.out.next hb);clear hb)
   |((with_reducible refine(CT.out _ _ HS.out HK.out (Nat.le_succ _)).mono ?_);rintro e wx ⟨rfl,hs,hk⟩;replace HK:=zh (HK.out.trans hk);replace HS:=zh hs;clear hs hk))
  go_end0
  exact⟨rfl,HS.out,HK.out⟩
 have e1:ts++eZ lv lev qh=ts++[tk 5 [40]]++qh++[tk 5 [41]]:=by unfold eZ;rw[if_neg hle];simp
 rw[e1];obtain⟨x,hx⟩:=zD (tk 5 [40])
 obtain⟨y,hy⟩:∃ x,x=tk 5 [41]:=⟨_,rfl⟩
 have CP:=zh (bQ (p:=p) (m:=m) (rp:=rp) (cp:=cp) (R:=R) (C:=C) (sf:=sf) 5 [40] #[40] rfl x hx);have CQ:=zh (bQ (p:=p) (m:=m) (rp:=rp) (cp:=cp) (R:=R) (C:=C) (sf:=sf) 5 [41] #[41] rfl y hy);rw[<- hx,<- hy];clear e1 hx hy
 go_in
 go_upto_region 1 with fail
 rw[<- ak.out];clear ak
 go_wp2_with (first
  |(refine yr rfl 34 (.tmp 4) rfl w.heap.size 0 rfl Cn _ HL.out.rangeM Tryz.underlying34 rfl bj.out ?_)
  |((with_reducible refine(CV.out _ HS.out).mono ?_);rintro e wx ⟨rfl,hb⟩;replace HK:=zh (HK.out.trans (Kw.of_below hb));replace HL:=zh (HL.out.next hb);replace HS:=zh (HS.out.next hb);clear hb)
  |((with_reducible refine(CP.out _ _ HS.out (by have:=gx.out;omega)).mono ?_);rintro e wx ⟨rfl,hs,hk⟩;replace HL:=zh (Kw.lies hk HS.out HL.out (by decide) (by decide) (by decide));replace HK:=zh (HK.out.trans hk);have lj:=zh hs;clear hs hk CP)
  |((with_reducible refine(CT.out _ _ lj.out HK.out (by simp)).mono ?_);rintro e wx ⟨rfl,hs,hk⟩;replace HK:=zh (HK.out.trans hk);have ou:=zh hs;clear hs hk)
  |((with_reducible refine(CQ.out _ _ ou.out (by have:=gx.out;simp only[yl,yi,List.length_nil];omega)).mono ?_);rintro e wx ⟨rfl,hs,hk⟩;replace HK:=zh (HK.out.trans hk);have jl:=zh hs;clear hs hk))
 go_end0
 exact⟨rfl,jl.out,HK.out⟩
end Go.Proofs.YtjfihpaeglpblaaGreatDoor
