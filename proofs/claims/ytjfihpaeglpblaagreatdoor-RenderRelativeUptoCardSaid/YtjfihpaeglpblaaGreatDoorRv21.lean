/-
  Lemmas, part 21: TakeA NdC Wr0 Wr1 Wr2 Wr4 Wr5 Wr6 Wr7.
-/
import Derived.Test.YtjfihpaeglpblaaGreatDoorProg
import Derived.Test.YtjfihpaeglpblaaGreatDoorRv19
set_option maxHeartbeats 100000000
set_option maxRecDepth 1000000
namespace Go.Proofs.YtjfihpaeglpblaaGreatDoor
open Go.RowKit
section
variable {P:Program} {md:Region.Mode} {ops:Array Oper} {Q:Exit->Act->World->Prop} {S:World->Prop} {fuel:Nat} {zl:Array Bool} {a:Act} {w:World} {o:Oper}
theorem TkC(i:Nat)(v:Value)(hi:ops[i]?=some o)(hy:YieldsIf P ops S o v a)(h:wpAnyH P md ops Q S fuel (zl.setIfInBounds i true) (a.put o.dst v) w)
  (hs:Region.noSelect ops=true:=by kernel_rfl) (hf:Region.free md ops zl i=true:=by kernel_rfl) (hr:(Region.ready md ops zl).contains i=true:=by kernel_rfl)
  (hQ:∀ c a w,Q (.panic c) (a.put o.dst v) w->Q (.panic c) a w:=by exact fun _ _ _ h=>h) (hS:S w:=by assumption):wpAnyH P md ops Q S (fuel+1) zl a w :=
 wpAnyH_take hi hs hf hr hQ hy hS h
theorem TkA(i:Nat)(v:Value)(h:wpAnyH P md ops Q S fuel (zl.setIfInBounds i true) (a.put o.dst v) w)(hi:ops[i]?=some o:=by rfl)
  (hs:Region.noSelect ops=true:=by kernel_rfl) (hf:Region.free md ops zl i=true:=by kernel_rfl) (hr:(Region.ready md ops zl).contains i=true:=by kernel_rfl)
  (hQ:∀ c a w,Q (.panic c) (a.put o.dst v) w->Q (.panic c) a w:=by exact fun _ _ _ h=>h) (hy:YieldsIf P ops S o v a:=by exact Or.inl ⟨by rfl,fun w2 hS=>by simp[execOp,go_sem]⟩) (hS:S w:=by assumption):wpAnyH P md ops Q S (fuel+1) zl a w :=
 wpAnyH_take hi hs hf hr hQ hy hS h
theorem TkB(i:Nat)(v:Value)(h:wpAnyH P md ops Q S fuel (zl.setIfInBounds i true) (a.put o.dst v) w)(hi:ops[i]?=some o:=by rfl)
  (hs:Region.noSelect ops=true:=by kernel_rfl) (hf:Region.free md ops zl i=true:=by kernel_rfl) (hr:(Region.ready md ops zl).contains i=true:=by kernel_rfl)
  (hQ:∀ c a w,Q (.panic c) (a.put o.dst v) w->Q (.panic c) a w:=by exact fun _ _ _ h=>h) (hy:YieldsIf P ops S o v a:=by exact Or.inl ⟨by rfl,fun w2 hS=>by simp[execOp,go_sem,hS]⟩) (hS:S w:=by assumption):wpAnyH P md ops Q S (fuel+1) zl a w :=
 wpAnyH_take hi hs hf hr hQ hy hS h
theorem TkR(i:Nat)(h:∀ K':Act->World->Prop,Shut (∀ a w,S w->(S w->wpAnyH P md ops Q S fuel (zl.setIfInBounds i true) a w)->K' a w)->if Region.wanted o (yielded ops a.tmps)=true then Oper.wp P o a w K' Q else K' (a.put o.dst undef) w)
  (ho:ops[i]?=some o:=by rfl) (hr:Region.ready md ops zl=[i]:=by kernel_rfl):wpAnyH P md ops Q S (fuel+1) zl a w :=
 wpAnyH_ready hr (by simp) (AllReadyH.cons ho h AllReadyH.nil)
theorem TkD(h:Q .normal a w)(hr:Region.ready md ops zl=[]:=by kernel_rfl):wpAnyH P md ops Q S fuel zl a w:=wpAnyH_done hr h _
end
abbrev NdC(W:World)(q:Nat)(k:Int)(vv:Val)(s:Bs)(a b:Cor)(r:Int)(A:Option Addr)(n cp:Nat):Prop:=W.cell? ⟨q,0,none⟩=some (vI k)/\W.cell? ⟨q,1,none⟩=some (vI vv.kind)/\W.cell? ⟨q,2,none⟩=some (vI vv.mant)/\W.cell? ⟨q,3,none⟩=some (vI vv.exp)/\W.cell? ⟨q,4,none⟩=some (vT vv.text)/\W.cell? ⟨q,5,none⟩=some (.bool vv.truth)/\W.cell? ⟨q,6,none⟩=some (vI vv.fault)/\W.cell? ⟨q,7,none⟩=some (vT s)/\W.cell? ⟨q,8,none⟩=some (vI a.row.a)/\W.cell? ⟨q,9,none⟩=some (vI a.row.n)/\W.cell? ⟨q,10,none⟩=some (vI a.col.a)/\W.cell? ⟨q,11,none⟩=some (vI a.col.n)/\W.cell? ⟨q,12,none⟩=some (.bool a.fr)/\W.cell? ⟨q,13,none⟩=some (.bool a.fc)/\W.cell? ⟨q,14,none⟩=some (vI b.row.a)/\W.cell? ⟨q,15,none⟩=some (vI b.row.n)/\W.cell? ⟨q,16,none⟩=some (vI b.col.a)/\W.cell? ⟨q,17,none⟩=some (vI b.col.n)/\W.cell? ⟨q,18,none⟩=some (.bool b.fr)/\W.cell? ⟨q,19,none⟩=some (.bool b.fc)/\W.cell? ⟨q,20,none⟩=some (vI r)/\W.cell? ⟨q,21,none⟩=some (.slice A n cp)
theorem cJ{W:World}{q:Nat}{k:Int}{vv:Val}{s:Bs}{a b:Cor}{r:Int}{A:Option Addr}{n cp:Nat}{Cn:List Value}(h:Lies W q 34 Cn.toArray)(ah:Cn.toArray=aK ⟨k,vv,s,a,b,r⟩ A n cp):NdC W q k vv s a b r A n cp:=by
 rw[ah]at h;exact⟨h.cell 0,h.cell 1,h.cell 2,h.cell 3,h.cell 4,h.cell 5,h.cell 6,h.cell 7,h.cell 8,h.cell 9,h.cell 10,h.cell 11,h.cell 12,h.cell 13,h.cell 14,h.cell 15,h.cell 16,h.cell 17,h.cell 18,h.cell 19,h.cell 20,h.cell 21⟩
def sG(W:World)(g:Nat):Bool:=match W.heap[g]? with
 |some (.cells _ t _)=>decide (t=64)
 |_=>false
theorem uBF{W:World}{g:Nat}{cs:Array Value}(h:Lies W g 64 cs):sG W g=true:=by
 unfold sG;unfold Lies at h;rw[h];rfl
theorem uFB{W:World}{g:Nat}{t:TypeId}{cs:Array Value}(h:Lies W g t cs)(ht:t≠64):sG W g=false:=by
 unfold sG;unfold Lies at h;rw[h];exact decide_eq_false ht
def uCZ(W:World)(p:Nat):List Nat:=(List.range W.heap.size).filter (fun g=>decide (p<g)&&sG W g)
theorem eG{W:World}{p g:Nat}:g∈uCZ W p↔g<W.heap.size/\p<g/\sG W g=true:=by
 unfold uCZ;rw[List.mem_filter,yg,yh,decide_eq_true_eq]
def Kw(p:Nat)(X:List Nat)(a b:World):Prop:=Kp (p::(X++uCZ a p)) a b
theorem Kw.size{p:Nat}{X:List Nat}{a b:World}(h:Kw p X a b):a.heap.size<=b.heap.size:=Kp.size h
theorem Kw.refl(p:Nat)(X:List Nat)(a:World):Kw p X a a:=Kp.refl _ _
theorem Kw.trans{p:Nat}{X:List Nat}{a b c:World}(h:Kw p X a b)(k:Kw p X b c):Kw p X a c :=
 Kp.andThen h k (fun g hg=>by
  rcases ym.1 hg with rfl|hg
  ·exact .inl (.head _)
  rcases List.mem_append.1 hg with hg|hg
  ·exact .inl (.tail _ (List.mem_append_left _ hg))
  obtain⟨h1,h2,h3⟩:=eG.1 hg;rcases Nat.lt_or_ge g a.heap.size with hl|hl
  ·by_cases hm:g∈p::(X++uCZ a p)
   ·exact .inl hm
   refine .inl (.tail _ (List.mem_append_right _ (eG.2 ⟨hl,h2,?_⟩)));unfold sG at h3 ⊢
   rwa [Kp.block h g hl hm]at h3
  exact .inr hl)
theorem Kw.of_below{p:Nat}{X:List Nat}{a b:World}(h:Below a.heap.size a b):Kw p X a b:=Kp.of_below h
theorem Kw.of_kp{p:Nat}{X Z:List Nat}{a b:World}(h:Kp Z a b)(hz:∀ g∈Z,g∈X):Kw p X a b :=
 Kp.mono h (fun g hg _=>.tail _ (List.mem_append_left _ (hz g hg)))
structure Gl(W:World):Prop where
 tab:Tab W
 pow:PowTab W
 mx:MaxVar W
def jA(b:Nat):Prop:=0<b/\4<b/\1<b
theorem Gl.next{w w':World}(h:Gl w)(hb:Below w.heap.size w w'):Gl w':=⟨h.tab.next hb,h.pow.next hb,h.mx.next hb⟩
theorem Gl.kp{Y:List Nat}{w w':World}(h:Gl w)(hk:Kp Y w w')(hY:∀ b∈Y,jA b):Gl w':=by
 refine⟨fun i hi=>?_,?_,?_⟩
 ·exact(hk.cell h.tab.lt (fun hm=>absurd (hY _ hm).1 (Nat.lt_irrefl _))).trans (h.tab i hi)
 ·have hp:=h.pow;unfold PowTab Lib.TabIs World.var? at *;rw[gPow]at hp ⊢;simp only[Option.bind_some]at hp ⊢;have hlt:4<w.heap.size:=by
   rcases Nat.lt_or_ge 4 w.heap.size with h'|h'
   ·exact h'
   rw[Array.getElem?_eq_none h']at hp;cases hp
  rw[hk.block _ hlt (fun hm=>absurd (hY _ hm).2.1 (Nat.lt_irrefl _))];exact hp
 obtain⟨m,hm⟩:=h.mx;exact⟨m,(hk.cell (rB hm) (fun hq=>absurd (hY _ hq).2.2 (Nat.lt_irrefl _))).trans hm⟩
theorem AxF.other{W W':World}{p q:Option Nat}{A B:AxV}(hA:AxF W p A)(hB:AxF W q B)(hk:Kp q.toList W W')(hn:∀ b,q=some b->p≠some b):AxF W' p A:=by
 match q,B,hB with
 |none,_,_=>exact hA.kp (Y:=[]) hk (fun y hy=>by cases hy)
 |some c,some (ids,fl),hB=>
  have hq:∃ cs,Lies W c 152 cs:=by
   obtain⟨_,_,_,_,⟨base,v1,v2,g⟩|⟨base,g⟩⟩:=hB
   ·exact⟨_,g.ax⟩
   obtain⟨_,_,_,_,_,_,g1,_⟩:=g.ex;exact⟨_,g1⟩
  obtain⟨cs,hc⟩:=hq
  match p,A,hA with
  |none,none,_=>trivial
  |some b,some (ids',fl'),⟨h1,h2,h3,h4,h5⟩=>
   have jo:b∉[c]:=fun hm=>hn c rfl (by rw[yf.1 hm])
   have off:∀ {t:TypeId} {y:Nat} {nx:Array Value},Lies W y t nx->t≠152->y∉[c]:=fun {t y nx} h ht hm=>gC h hc (fun e=>ht e.symm) (yf.1 hm)
   have offo:∀ {t:TypeId} {v:Value} {bb n sz:Nat} {xs:List Value},W.ownsRow bb t sz v n xs->t≠152->∀ g,v.ownBlock=some g->g∉[c]:=fun {t v bb n sz xs} h ht g hg=>by
    rcases h.2 with⟨rfl,_⟩|⟨g1,cap,cur,rfl,_,hh,_⟩
    ·simp[Value.ownBlock]at hg
    simp[Value.ownBlock]at hg;subst hg;exact off (show Lies W g1 t cur from hh) ht
   refine⟨h1,h2,h3,h4,?_⟩;rcases h5 with⟨base,v1,v2,g⟩|⟨base,g⟩
   ·exact .inl ⟨base,v1,v2,hk.lies g.ax jo,bV g.r1 hk (offo g.r1 (by decide)),bV g.r2 hk (offo g.r2 (by decide))⟩
   obtain⟨v1,v2,v4,m,ga,cs,g1,⟨b1,g2⟩,⟨b2,g3⟩,g4,g5,g6,g7,g8⟩:=g.ex;refine .inr ⟨base,⟨v1,v2,v4,m,ga,cs,hk.lies g1 jo,⟨b1,bV g2 hk (offo g2 (by decide))⟩,⟨b2,bV g3 hk (offo g3 (by decide))⟩,g4.at (hk.block _ g4.lt (fun hm=>?_)),hk.lies g5 (off g5 (by decide)),g6,g7,bV g8 hk (offo g8 (by decide))⟩⟩;obtain⟨es,ck,q2,_⟩:=g4;unfold Lies at hc;rw[yf.1 hm,hc]at q2;cases q2
def nX:List (Bs×Int):=[([61],1),([60,62],1),([60],1),([60,61],1),([62],1),([62,61],1),([38],2),([43],3),([45],3),([42],4),([47],4),([94],5)]
def jB(l:List (Bs×Int)):Array MapEntry:=(l.mapIdx fun i s=>{ key:=vT s.1,val:=vI s.2,born:=i }).toArray
theorem uFF(l:List (Bs×Int))(s:Bs)(n:Int):(jB l).push { key:=vT s,val:=vI n,born:=l.length }=jB (l++[(s,n)]):=by
 simp[jB,List.mapIdx_append]
def LvM(W:World)(m:Nat):Prop:=W.heap[m]?=some (.map (jB nX) 12)
theorem LvM.at{W W':World}{m:Nat}(h:LvM W m)(hb:W'.heap[m]?=W.heap[m]?):LvM W' m:=hb.trans h
theorem LvM.lt{W:World}{m:Nat}(h:LvM W m):m<W.heap.size:=(zk.1 h).1
theorem LvM.off{W:World}{m:Nat}(h:LvM W m){q:Option Nat}{A:AxV}(hA:AxF W q A)(hm:m∈q.toList):False:=by
 match q,A,hA,hm with
 |some c,some (ids,fl),hq,hm=>
  obtain rfl:m=c:=yf.1 (by simpa using hm);have key:∀ cs,Lies W m 152 cs->False:=fun cs hc=>by
   unfold Lies at hc;unfold LvM at h;rw[h]at hc;cases hc
  obtain⟨_,_,_,_,⟨base,v1,v2,g⟩|⟨base,g⟩⟩:=hq
  ·exact key _ g.ax
  obtain⟨_,_,_,_,_,_,k1,_⟩:=g.ex;exact key _ k1
structure WrS(W:World)(p m:Nat)(rp cp:Option Nat)(R C:AxV)(sf:Value)(ts:List RTok):Prop where
 box:∃ v,Lies W p 135 #[.pointer (ptr rp),.pointer (ptr cp),.map (some m),sf,v]/\W.ownsRow (p+1) 64 3 v ts.length (cN ts)
 ax:AxF W rp R
 ay:AxF W cp C
 ne:∀ b,rp=some b->cp≠some b
 lv:LvM W m
 gl:Gl W
 lo:∀ b∈rp.toList++cp.toList,b<p/\jA b
 pl:jA p
 ml:m<p
theorem WrS.lt{W:World}{p m:Nat}{rp cp:Option Nat}{R C:AxV}{sf:Value}{ts:List RTok}(h:WrS W p m rp cp R C sf ts):p<W.heap.size:=by
 obtain⟨v,h1,_⟩:=h.box;exact h1.lt
theorem wY{W:World}{p n:Nat}{v:Value}{xs:List Value}(h:W.ownsRow (p+1) 64 3 v n xs):∀ g,v.ownBlock=some g->g∈uCZ W p/\∃ cs,Lies W g 64 cs:=by
 intro g hv;have hl:=h.lt g hv;rcases h.2 with⟨rfl,_⟩|⟨g1,cap,cur,rfl,_,hh,_⟩
 ·simp[Value.ownBlock]at hv
 simp[Value.ownBlock]at hv;subst hv;have h0:Lies W g1 64 cur:=hh;exact⟨eG.2 ⟨hl.2,by omega,uBF h0⟩,cur,h0⟩
theorem WrS.next{W W':World}{p m:Nat}{rp cp:Option Nat}{R C:AxV}{sf:Value}{ts:List RTok}(h:WrS W p m rp cp R C sf ts)(hb:Below W.heap.size W W'):WrS W' p m rp cp R C sf ts:=by
 obtain⟨v,h1,h2⟩:=h.box;exact⟨⟨v,h1.next hb,aD hb h2⟩,h.ax.next hb,h.ay.next hb,h.ne,h.lv.at (hb.block _ h.lv.lt),h.gl.next hb,h.lo,h.pl,h.ml⟩
theorem Kw.lies{W W':World}{p m:Nat}{rp cp:Option Nat}{R C:AxV}{sf:Value}{ts:List RTok}(hk:Kw p (rp.toList++cp.toList) W W')(h:WrS W p m rp cp R C sf ts){b:Nat}{t:TypeId}{cs:Array Value}(hl:Lies W b t cs)(h1:t≠64)(h2:t≠135)(h3:t≠152):Lies W' b t cs:=by
 refine Kp.lies hk hl (fun hm=>?_);obtain⟨v,g1,g2⟩:=h.box;have hax:∀ (q:Option Nat) (A:AxV),AxF W q A->b∉q.toList:=fun q A hq hm=>by
  match q,A,hq,hm with
  |some c,some (ids,fl),hq,hm=>
   rw[yf.1 (by simpa using hm:b∈[c])]at hl;obtain⟨_,_,_,_,⟨base,v1,v2,g⟩|⟨base,g⟩⟩:=hq
   ·exact gC hl g.ax (fun e=>h3 e.symm) rfl
   obtain⟨_,_,_,_,_,_,k1,_⟩:=g.ex;exact gC hl k1 (fun e=>h3 e.symm) rfl
 rcases ym.1 hm with rfl|hm
 ·exact gC hl g1 (fun e=>h2 e.symm) rfl
 rcases List.mem_append.1 hm with hm|hm
 ·rcases List.mem_append.1 hm with hm|hm
  ·exact hax _ _ h.ax hm
  exact hax _ _ h.ay hm
 exact absurd (eG.1 hm).2.2 (by rw[uFB hl h1];decide)
theorem Kw.kp{W W':World}{p m:Nat}{rp cp:Option Nat}{R C:AxV}{sf:Value}{ts:List RTok}(hk:Kw p (rp.toList++cp.toList) W W')(h:WrS W p m rp cp R C sf ts):KP (PLo p (rp.toList++cp.toList)) W W' :=
 ⟨hk.size,fun g hg=>Kp.block hk g (Nat.lt_trans hg.1 h.lt) (fun hm=>by
  rcases ym.1 hm with rfl|hm
  ·exact absurd hg.1 (Nat.lt_irrefl _)
  rcases List.mem_append.1 hm with hm|hm
  ·exact hg.2 hm
  exact absurd (eG.1 hm).2.1 (by have:=hg.1;omega))⟩
def WrO(p m:Nat)(rp cp:Option Nat)(R C:AxV)(sf:Value)(ts:List RTok)(w:World)(e:Ending)(w':World):Prop:=e=.returned (.tuple #[])/\WrS w' p m rp cp R C sf ts/\Kw p (rp.toList++cp.toList) w w'
theorem WrS.askR{W W':World}{p m:Nat}{rp cp:Option Nat}{R C:AxV}{sf:Value}{ts:List RTok}(h:WrS W p m rp cp R C sf ts)(hk:Kp rp.toList W W')(hA:AxF W' rp R):WrS W' p m rp cp R C sf ts:=by
 have jn:∀ b∈rp.toList,b<p/\jA b:=fun b hb=>h.lo b (List.mem_append_left _ hb)
 obtain⟨v,h1,h2⟩:=h.box;refine⟨⟨v,hk.lies h1 (fun hm=>absurd (jn _ hm).1 (Nat.lt_irrefl _)),bV h2 hk (fun g hg hm=>by have:=(h2.lt g hg).1;have:=(jn _ hm).1;omega)⟩,hA,h.ay.other h.ax hk (fun b e1 e2=>h.ne b e1 e2),h.ne,h.lv.at (hk.block _ h.lv.lt (fun hm=>?_)),h.gl.kp hk (fun b hb=>(jn b hb).2),h.lo,h.pl,h.ml⟩;exact h.lv.off h.ax hm
theorem WrS.askC{W W':World}{p m:Nat}{rp cp:Option Nat}{R C:AxV}{sf:Value}{ts:List RTok}(h:WrS W p m rp cp R C sf ts)(hk:Kp cp.toList W W')(hA:AxF W' cp C):WrS W' p m rp cp R C sf ts:=by
 have jn:∀ b∈cp.toList,b<p/\jA b:=fun b hb=>h.lo b (List.mem_append_right _ hb)
 obtain⟨v,h1,h2⟩:=h.box;refine⟨⟨v,hk.lies h1 (fun hm=>absurd (jn _ hm).1 (Nat.lt_irrefl _)),bV h2 hk (fun g hg hm=>by have:=(h2.lt g hg).1;have:=(jn _ hm).1;omega)⟩,h.ax.other h.ay hk (fun b e1 e2=>h.ne b e2 e1),hA,h.ne,h.lv.at (hk.block _ h.lv.lt (fun hm=>?_)),h.gl.kp hk (fun b hb=>(jn b hb).2),h.lo,h.pl,h.ml⟩;exact h.lv.off h.ay hm
theorem Kw.askR{W W':World}{p:Nat}{rp cp:Option Nat}(hk:Kp rp.toList W W'):Kw p (rp.toList++cp.toList) W W' :=
 Kw.of_kp hk (fun _ hg=>List.mem_append_left _ hg)
theorem Kw.askC{W W':World}{p:Nat}{rp cp:Option Nat}(hk:Kp cp.toList W W'):Kw p (rp.toList++cp.toList) W W' :=
 Kw.of_kp hk (fun _ hg=>List.mem_append_right _ hg)
theorem WrS.grown{W W':World}{p m:Nat}{rp cp:Option Nat}{R C:AxV}{sf v v':Value}{ts ts':List RTok}(h:WrS W p m rp cp R C sf ts)(hv:W.cell? ⟨p,4,none⟩=some v)(ho:W'.ownsRow (p+1) 64 3 v' ts'.length (cN ts'))(hg:W.grownBy W' v.ownBlock) :
  WrS (W'.setCell ⟨p,4,none⟩ v') p m rp cp R C sf ts'/\Kw p (rp.toList++cp.toList) W (W'.setCell ⟨p,4,none⟩ v'):=by
 obtain⟨v0,h1,h2⟩:=h.box;have hc:W.cell? ⟨p,4,none⟩=some v0:=h1.cell 4;rw[hv]at hc;injection hc with hc;subst hc;have hvo:=wY h2;have eh:Kp v.ownBlock.toList W W':=(Kp.refl _ W).grown hg (fun g jk=>.inl (by rw[jk];exact .head _));have bd:∀ g∈v.ownBlock.toList,g∈uCZ W p:=fun g hm=>(hvo g (by simpa using hm)).1
 have hpo:p∉v.ownBlock.toList:=fun hm=>absurd (eG.1 (bd p hm)).2.1 (Nat.lt_irrefl _)
 have hL:=eh.lies h1 hpo;have hL2:Lies (W'.setCell ⟨p,4,none⟩ v') p 135 #[.pointer (ptr rp),.pointer (ptr cp),.map (some m),sf,v']:=hL.put 4 v';have fi:Kp (p::(rp.toList++cp.toList++uCZ W p)) W (W'.setCell ⟨p,4,none⟩ v') :=
  Kp.set (eh.mono (fun k hk _=>.tail _ (List.mem_append_right _ (bd k hk)))) (.inl (.head _)) 4 v'
 have hko:Kp (p::v.ownBlock.toList) W (W'.setCell ⟨p,4,none⟩ v'):=Kp.set (eh.mono (fun k hk _=>.tail _ hk)) (.inl (.head _)) 4 v';have hY:NoAx W (p::v.ownBlock.toList):=fun y hy _=>by
  rcases ym.1 hy with rfl|hy
  ·exact⟨_,_,h1,by decide,by decide,by decide,by decide⟩
  obtain⟨_,cs,k⟩:=hvo y (by simpa using hy);exact⟨_,_,k,by decide,by decide,by decide,by decide⟩
 have hmn:m∉p::v.ownBlock.toList:=fun hm=>by
  rcases ym.1 hm with e|hm
  ·have:=h.ml;omega
  have:=(eG.1 (bd m hm)).2.1;have:=h.ml;omega
 have hO:(W'.setCell ⟨p,4,none⟩ v').ownsRow (p+1) 64 3 v' ts'.length (cN ts'):=ownsRow_setCell_below ho (Nat.lt_succ_self p) v';refine⟨⟨⟨v',hL2,hO⟩,h.ax.kp hko hY,h.ay.kp hko hY,h.ne,h.lv.at (hko.block _ h.lv.lt hmn),h.gl.kp hko (fun b hb=>?_),h.lo,h.pl,h.ml⟩,fi⟩;rcases ym.1 hb with rfl|hb
 ·exact h.pl
 have:=(eG.1 (bd b hb)).2.1;obtain⟨q1,q2,q3⟩:=h.pl;exact⟨by omega,by omega,by omega⟩
def LV(q:Nat)(l:List (Bs×Int))(w W:World):Prop:=W.heap[q]?=some (.map (jB l) l.length)/\Below q w W/\q<W.heap.size
theorem LV.zero(w:World):LV w.heap.size [] w (w.alloc (.map #[] 0)):=⟨heap_alloc_new w _,(Below.refl _ w).alloc zr _,by rw[World.size_alloc];omega⟩
theorem pP:Tryz.prog.underlying 132=some (.map 9 3):=by kernel_rfl
theorem LV.run{q:Nat}{l:List (Bs×Int)}{w W:World}(h:LV q l w W)(s:Bs)(n:Int)(hf:Instr.findNow .string (vT s) (jB l).toList 0=some none) :
  (Instr.mapUpdate 132 (.map (some q)) (vT s) (vI n)).run Tryz.prog W=.ok () (eB W q ((jB l).push { key:=vT s,val:=vI n,born:=l.length }) (l.length+1)) :=
 xE _ _ _ _ _ _ _ _ pP Tryz.underlying9 trivial h.1 hf
theorem LV.put{q:Nat}{l:List (Bs×Int)}{w W:World}(h:LV q l w W)(s:Bs)(n:Int):LV q (l++[(s,n)]) w (eB W q ((jB l).push { key:=vT s,val:=vI n,born:=l.length }) (l.length+1)) :=
 ⟨by rw[yO h.2.2,uFF];simp,h.2.1.trans (wJ zr _ _),by rw[qT];exact h.2.2⟩
theorem wV(w:World):Calls Tryz.prog 73 #[] w fun e w'=>e=.returned (.map (some w.heap.size))/\LvM w' w.heap.size/\Below w.heap.size w w':=by
 have S0:=zh (LV.zero w);have HP:Hid (∀ W',LV w.heap.size nX w W'->LvM W' w.heap.size/\Below w.heap.size w W'):=zh (fun W' h=>⟨h.1,h.2.1⟩);have t7:=@run_makeMap Tryz.prog;generalize hq:w.heap.size=q at *;have HQ:=zh hq
 go_in
 go_wp2_with (first
  |(refine cK rfl 132 (.tmp 1) (.const (vS #[61])) (.const (vI 1)) rfl (LV.run S0.out [61] 1 rfl) ?_;have S1:=zh (LV.put S0.out [61] 1);generalize eB _ _ _ _=W1 at S1 ⊢;clear S0;have S1:Hid (LV q [([61],1)] w W1):=S1)
  |(refine cK rfl 132 (.tmp 1) (.const (vS #[60,62])) (.const (vI 1)) rfl (LV.run S1.out [60,62] 1 rfl) ?_;have S2:=zh (LV.put S1.out [60,62] 1);generalize eB _ _ _ _=W2 at S2 ⊢;clear S1;have S2:Hid (LV q [([61],1),([60,62],1)] w W2):=S2)
  |(refine cK rfl 132 (.tmp 1) (.const (vS #[60])) (.const (vI 1)) rfl (LV.run S2.out [60] 1 rfl) ?_;have S3:=zh (LV.put S2.out [60] 1);generalize eB _ _ _ _=W3 at S3 ⊢;clear S2;have S3:Hid (LV q [([61],1),([60,62],1),([60],1)] w W3):=S3)
  |(refine cK rfl 132 (.tmp 1) (.const (vS #[60,61])) (.const (vI 1)) rfl (LV.run S3.out [60,61] 1 rfl) ?_;have S4:=zh (LV.put S3.out [60,61] 1);generalize eB _ _ _ _=W4 at S4 ⊢;clear S3;have S4:Hid (LV q [([61],1),([60,62],1),([60],1),([60,61],1)] w W4):=S4)
  |(refine cK rfl 132 (.tmp 1) (.const (vS #[62])) (.const (vI 1)) rfl (LV.run S4.out [62] 1 rfl) ?_;have S5:=zh (LV.put S4.out [62] 1);generalize eB _ _ _ _=W5 at S5 ⊢;clear S4;have S5:Hid (LV q [([61],1),([60,62],1),([60],1),([60,61],1),([62],1)] w W5):=S5)
  |(refine cK rfl 132 (.tmp 1) (.const (vS #[62,61])) (.const (vI 1)) rfl (LV.run S5.out [62,61] 1 rfl) ?_;have S6:=zh (LV.put S5.out [62,61] 1);generalize eB _ _ _ _=W6 at S6 ⊢;clear S5;have S6:Hid (LV q [([61],1),([60,62],1),([60],1),([60,61],1),([62],1),([62,61],1)] w W6):=S6)
  |(refine cK rfl 132 (.tmp 1) (.const (vS #[38])) (.const (vI 2)) rfl (LV.run S6.out [38] 2 rfl) ?_;have S7:=zh (LV.put S6.out [38] 2);generalize eB _ _ _ _=W7 at S7 ⊢;clear S6;have S7:Hid (LV q [([61],1),([60,62],1),([60],1),([60,61],1),([62],1),([62,61],1),([38],2)] w W7):=S7)
  |(refine cK rfl 132 (.tmp 1) (.const (vS #[43])) (.const (vI 3)) rfl (LV.run S7.out [43] 3 rfl) ?_;have S8:=zh (LV.put S7.out [43] 3);generalize eB _ _ _ _=W8 at S8 ⊢;clear S7;have S8:Hid (LV q [([61],1),([60,62],1),([60],1),([60,61],1),([62],1),([62,61],1),([38],2),([43],3)] w W8):=S8)
  |(refine cK rfl 132 (.tmp 1) (.const (vS #[45])) (.const (vI 3)) rfl (LV.run S8.out [45] 3 rfl) ?_;have S9:=zh (LV.put S8.out [45] 3);generalize eB _ _ _ _=W9 at S9 ⊢;clear S8;have S9:Hid (LV q [([61],1),([60,62],1),([60],1),([60,61],1),([62],1),([62,61],1),([38],2),([43],3),([45],3)] w W9):=S9)
  |(refine cK rfl 132 (.tmp 1) (.const (vS #[42])) (.const (vI 4)) rfl (LV.run S9.out [42] 4 rfl) ?_;have S10:=zh (LV.put S9.out [42] 4);generalize eB _ _ _ _=W10 at S10 ⊢;clear S9;have S10:Hid (LV q [([61],1),([60,62],1),([60],1),([60,61],1),([62],1),([62,61],1),([38],2),([43],3),([45],3),([42],4)] w W10):=S10)
  |(refine cK rfl 132 (.tmp 1) (.const (vS #[47])) (.const (vI 4)) rfl (LV.run S10.out [47] 4 rfl) ?_;have S11:=zh (LV.put S10.out [47] 4);generalize eB _ _ _ _=W11 at S11 ⊢;clear S10;have S11:Hid (LV q [([61],1),([60,62],1),([60],1),([60,61],1),([62],1),([62,61],1),([38],2),([43],3),([45],3),([42],4),([47],4)] w W11):=S11)
  |(refine cK rfl 132 (.tmp 1) (.const (vS #[94])) (.const (vI 5)) rfl (LV.run S11.out [94] 5 rfl) ?_;have S12:=zh (LV.put S11.out [94] 5);generalize eB _ _ _ _=W12 at S12 ⊢;clear S11;have S12:Hid (LV q [([61],1),([60,62],1),([60],1),([60,61],1),([62],1),([62,61],1),([38],2),([43],3),([45],3),([42],4),([47],4),([94],5)] w W12):=S12))
 go_ret
 exact⟨rfl,HP.out _ S12.out⟩
theorem bW{P:Program}{w:World}(mty kt et:TypeId)(r clock:Nat)(es:Array MapEntry)(s:ByteArray)(i:Nat)(v:Value)(hm:P.underlying mty=some (.map kt et))(hk:P.underlying kt=some .string)(hb:w.heap[r]?=some (.map es clock))(hf:Instr.findNow .string (.string s) es.toList 0=some (some (i,v))) :
  (Instr.lookup mty (.map (some r)) (.string s) false).run P w=.ok v w:=by
 have hc:(Instr.checkKey es.isEmpty 10000 kt (.string s)).run P w=.ok () w:=MapKept.run_checkKey (k:=.string s) hk (by simp[MapKept.IsKey]) _ 9999;simp[Instr.lookup,run_underlying hm,MapKept.run_getObj_map hb,hc,MapKept.run_findKey hk hf,Result.andThen]
theorem look_lev{W:World}{m:Nat}(h:LvM W m){s:Bs}(hs:mS s=true):(Instr.lookup 132 (.map (some m)) (vT s) false).run Tryz.prog W=.ok (vI (bE s)) W:=by
 unfold mS at hs;simp only[Bool.or_eq_true,beq_iff_eq]at hs;rcases hs with((((((((((h1|h1)|h1)|h1)|h1)|h1)|h1)|h1)|h1)|h1)|h1)|h1 <;> subst h1
 ·exact bW 132 9 3 m 12 (jB nX) ⟨#[43]⟩ 7 (vI 3) pP Tryz.underlying9 h rfl
 ·exact bW 132 9 3 m 12 (jB nX) ⟨#[45]⟩ 8 (vI 3) pP Tryz.underlying9 h rfl
 ·exact bW 132 9 3 m 12 (jB nX) ⟨#[42]⟩ 9 (vI 4) pP Tryz.underlying9 h rfl
 ·exact bW 132 9 3 m 12 (jB nX) ⟨#[47]⟩ 10 (vI 4) pP Tryz.underlying9 h rfl
 ·exact bW 132 9 3 m 12 (jB nX) ⟨#[94]⟩ 11 (vI 5) pP Tryz.underlying9 h rfl
 ·exact bW 132 9 3 m 12 (jB nX) ⟨#[38]⟩ 6 (vI 2) pP Tryz.underlying9 h rfl
 ·exact bW 132 9 3 m 12 (jB nX) ⟨#[61]⟩ 0 (vI 1) pP Tryz.underlying9 h rfl
 ·exact bW 132 9 3 m 12 (jB nX) ⟨#[60,62]⟩ 1 (vI 1) pP Tryz.underlying9 h rfl
 ·exact bW 132 9 3 m 12 (jB nX) ⟨#[60]⟩ 2 (vI 1) pP Tryz.underlying9 h rfl
 ·exact bW 132 9 3 m 12 (jB nX) ⟨#[60,61]⟩ 3 (vI 1) pP Tryz.underlying9 h rfl
 ·exact bW 132 9 3 m 12 (jB nX) ⟨#[62]⟩ 4 (vI 1) pP Tryz.underlying9 h rfl
 exact bW 132 9 3 m 12 (jB nX) ⟨#[62,61]⟩ 5 (vI 1) pP Tryz.underlying9 h rfl
theorem uAD{p m:Nat}{rp cp:Option Nat}{R C:AxV}{sf:Value}{ts:List RTok}(k:Int)(s:Bs)(w:World)(h:WrS w p m rp cp R C sf ts)(hn:ts.length<=900000) :
  Calls Tryz.prog 135 #[vP p 0,vI k,vT s] w fun e w'=>WrO p m rp cp R C sf (ts++[tk k s]) w e w':=by
 obtain⟨v,hl,ho⟩:=h.box;obtain⟨A,c,rfl⟩:=aV ho;have c4:w.cell? ⟨p,4,none⟩=some (.slice A ts.length c):=hl.cell 4;have hp:=hl.lt;obtain⟨i1,gi,gz0,gz1,gz2⟩:=info_parts sD;obtain⟨W1,an⟩:=zD (w.alloc (.cells #[vI k,vT s,vI 0] 64))
 have bi:=zA an;have ee:Hid (WrS W1 p m rp cp R C sf ts):=zh (h.next bi.out);have jc:Hid (Lies W1 p 135 #[.pointer (ptr rp),.pointer (ptr cp),.map (some m),sf,.slice A ts.length c]):=zh (hl.next bi.out);have b7:Hid (W1.ownsRow (p+1) 64 3 (.slice A ts.length c) ts.length (cN ts)):=zh (aD bi.out ho);have HN:Hid (∀ j u,(eY (tk k s))[j]?=some u->W1.cell? ((⟨w.heap.size,0,none⟩:Addr).add j)=some u):=zh (fun j u hj=>by
  have hL:Lies W1 w.heap.size 64 #[vI k,vT s,vI 0]:=by rw[an];exact Lies.new w _ _
  have e:(⟨w.heap.size,0,none⟩:Addr).add j=⟨w.heap.size,j,none⟩:=by cases j <;> simp[Addr.add]
  rw[e,hL.cell j];simpa [eY] using hj)
 have am:=zh an;have mo:Hid (p+1<=W1.heap.size):=zh (by have:=bi.out.size;omega);clear h hl ho an
 go_in
 go_wp2_with (first
  |(at_builtin;rw[<- am.out];refine wpList_append_own (P:=Tryz.prog) _ rfl _ _ 60 rfl (p+1) 64 i1 (.agg #[vI 0,vS #[],vI 0]) 3 32 Tryz.underlying60 gi gz0 gz1 gz2 rfl (by decide) (.slice A ts.length c) ts.length (cN ts) rfl b7.out ⟨w.heap.size,0,none⟩ 1 1 (eY (tk k s)) rfl rfl HN.out (jO _) (by unfold maxLen;omega) (by omega) mo.out (fun v' w' k1 k2 _=>?_);obtain⟨A',c',rfl⟩:=aV k1;have K1:=zh k1;have K2:=zh k2;have c5:w'.cell? ⟨p,4,none⟩=some (.slice A ts.length c):=((jc.out.grownA k2 (fun e=>by have:=(b7.out.lt p e.symm).1;omega)).cell 4);have f5:w'.frozen? ⟨p,4,none⟩=false:=((jc.out.grownA k2 (fun e=>by have:=(b7.out.lt p e.symm).1;omega)).frozen 4);clear k1 k2))
 go_end0
 have h1:=K1.out;rw[<- pM]at h1;have dv:W1.cell? ⟨p,4,none⟩=some (.slice A ts.length c):=jc.out.cell 4;have hg:=ee.out.grown (ts':=ts++[tk k s]) dv (by rw[yl];exact h1) K2.out;exact⟨rfl,hg.1,(Kw.of_below bi.out).trans hg.2⟩
theorem mA{p m:Nat}{rp cp:Option Nat}{R C:AxV}{sf:Value}{ts:List RTok}(w:World)(h:WrS w p m rp cp R C sf ts)(hn:ts.length<=900000) :
  Calls Tryz.prog 193 #[vP p 0] w fun e w'=>WrO p m rp cp R C sf (ts++dC) w e w':=by
 have CF:Hid (Calls Tryz.prog 113 #[vI 3] w fun e w'=>e=.returned (vS #[35,82,69,70,33])/\w=w'):=zh (iV 3 w h.gl.tab);have CP:Hid (Calls Tryz.prog 135 #[vP p 0,vI 6,vS #[35,82,69,70,33]] w fun e w'=>WrO p m rp cp R C sf (ts++dC) w e w'):=zh (uAD 6 [35,82,69,70,33] w h hn);clear h hn;generalize ts++dC=g at *
 go_in
 go_wp2_with (first
  |((with_reducible refine CF.out.mono ?_);rintro e wx ⟨rfl,rfl⟩)
  |((with_reducible refine CP.out.mono ?_);rintro e wx ⟨rfl,hs,hk⟩;have HS:=zh hs;have HK:=zh hk;clear hs hk))
 go_end0
 exact⟨rfl,HS.out,HK.out⟩
def sZ(h:NodeH):Int:=if h.kind=6 then bE h.name else if h.kind=5 then if h.name=[37] then 7 else 6 else 8
theorem uFP(t:Tree):bP t=sZ t.h:=rfl
theorem tU{p m:Nat}{rp cp:Option Nat}{R C:AxV}{sf:Value}{ts:List RTok}(h:NodeH)(A:Option Addr)(n c:Nat)(Cn:List Value)(w:World)(ah:Hid (Cn.toArray=aK h A n c))(hw:WrS w p m rp cp R C sf ts)(h6:h.kind=6->mS h.name=true) :
  Calls Tryz.prog 133 #[vP p 0,.agg Cn.toArray] w fun e w'=>e=.returned (vI (sZ h))/\Below w.heap.size w w':=by
 obtain⟨W1,an⟩:=zD (w.alloc (.cells Cn.toArray 34))
 have am:=zh an;have HL:=zL an;have HB:=zA an;have HWr:=zh (hw.next HB.out);have c0:=HL.out.cell 0;have c7:=HL.out.cell 7;rw[ah.out]at c0 c7;obtain⟨k,v,s,a,b,r⟩:=h;simp only[aK,za,zb,zf]at c0 c7;obtain⟨x,hx⟩:=zD (sZ ⟨k,v,s,a,b,r⟩)
 have HX:=zh hx;rw[<- hx];clear an hx ah hw;by_cases e6:k=6
 ·subst e6;have HE:Hid (x=bE s):=zh (HX.out.trans rfl);obtain⟨wv,hl,-⟩:=HWr.out.box;have c2:W1.cell? ⟨p,2,none⟩=some (.map (some m)):=hl.cell 2;have hlk:=look_lev (HWr.out.lv.at (rfl:W1.drew.heap[m]?=W1.heap[m]?)) (h6 rfl);rw[<- HE.out]at hlk;obtain⟨W5,fe⟩:∃ W,W=W1.drew:=⟨_,rfl⟩
  have bm:Hid (Below w.heap.size w W5):=zh (by rw[fe];exact HB.out.drew);clear HX hl h6
  go_in
  go_upto_region 1 with fail
  rw[<- am.out];clear am
  go_upto_region 2 with fail
  go_cut [4] (fun va wx=>va=vI x/\Hid (wx=W5))
  case first=>
   go_region
   all_goals go_wp2_with fail
   all_goals go_meet
   all_goals exact⟨rfl,zh fe.symm⟩
  case rest=>
  obtain⟨rfl,hcut⟩:=hcut;obtain rfl:W5=wc:=hcut.out.symm;clear hlk fe hcut c0 c7 c2
  go_wp2_with fail
  go_ret
  exact⟨rfl,bm.out⟩
 by_cases h5:k=5
 ·subst h5;by_cases s1:s=[37]
  ·subst s1;have HE:Hid (x=7):=zh (HX.out.trans rfl);clear HX h6
   go_in
   go_upto_region 1 with fail
   rw[<- am.out];clear am
   go_wp2_with fail
   go_ret
   exact⟨by(rw[HE.out]) <;> rfl,HB.out⟩
  have HE:Hid (x=6):=zh (HX.out.trans (by unfold sZ;rw[if_neg (by show ¬ (5:Int)=6;omega),if_pos rfl,if_neg s1]));have b1:(s==[37])=false:=by simp[s1]
  clear HX h6
  go_in
  go_upto_region 1 with fail
  rw[<- am.out];clear am
  go_wp2_with fail
  go_ret
  exact⟨by(rw[HE.out]) <;> rfl,HB.out⟩
 have HE:Hid (x=8):=zh (HX.out.trans (by unfold sZ;rw[if_neg e6,if_neg h5]));have k6:(k==6)=false:=by simp[e6]
 have k5:(k==5)=false:=by simp[h5]
 clear HX h6
 go_in
 go_upto_region 1 with fail
 rw[<- am.out];clear am
 go_wp2_with fail
 go_ret
 exact⟨by(rw[HE.out]) <;> rfl,HB.out⟩
theorem Kw.loc{p b:Nat}{X:List Nat}{a W W':World}(h:Kw p X a W)(hk:Kp [b] W W')(hb:a.heap.size<=b):Kw p X a W' :=
 Kp.andThen h hk (fun g hg=>.inr (by rw[yf.1 hg];exact hb))
theorem WrS.loc{W W':World}{p m b:Nat}{rp cp:Option Nat}{R C:AxV}{sf:Value}{ts:List RTok}(h:WrS W p m rp cp R C sf ts)(hk:Kp [b] W W')(hb:p<b){t:TypeId}{cs:Array Value}(hl:Lies W b t cs)(h1:t≠64)(h2:t≠27)(h3:t≠4)(h4:t≠3)(h5:t≠152):WrS W' p m rp cp R C sf ts:=by
 obtain⟨v,g1,g2⟩:=h.box;have hY:NoAx W [b]:=fun y hy _=>by
  rw[yf.1 hy];exact⟨t,cs,hl,h2,h3,h4,h5⟩
 refine⟨⟨v,hk.lies g1 (fun hm=>by have:=yf.1 hm;omega),bV g2 hk (fun g hg hm=>?_)⟩,h.ax.kp hk hY,h.ay.kp hk hY,h.ne,h.lv.at (hk.block _ h.lv.lt (fun hm=>?_)),h.gl.kp hk (fun y hy=>?_),h.lo,h.pl,h.ml⟩
 ·obtain⟨_,nx,k⟩:=wY g2 g hg;exact gC hl k (fun e=>h1 e.symm) (yf.1 hm).symm
 ·have:=yf.1 hm;have:=h.ml;omega
 rw[yf.1 hy];obtain⟨q1,q2,q3⟩:=h.pl;exact⟨by omega,by omega,by omega⟩
theorem lS(W:World)(b i:Nat)(u:Value):Kp [b] W (W.setCell ⟨b,i,none⟩ u):=Kp.set (Kp.refl _ _) (.inl (.head _)) i u
theorem Lies.two{w:World}{b:Nat}{t:TypeId}{x y:Value}(h:Lies w b t #[x,y]):w.cell? ⟨b,0,none⟩=some x/\w.cell? ⟨b,1,none⟩=some y/\w.frozen? ⟨b,0,none⟩=false/\w.frozen? ⟨b,1,none⟩=false/\b<w.heap.size:=⟨h.cell 0,h.cell 1,h.frozen 0,h.frozen 1,h.lt⟩
theorem cB{p m:Nat}{rp cp:Option Nat}{R C:AxV}{sf:Value}(k:Int)(s:Bs)(S:Array UInt8)(hS:S=s.toArray)(t:RTok)(ht:t=tk k s):∀ (W:World) (ts:List RTok),WrS W p m rp cp R C sf ts->ts.length<=900000->Calls Tryz.prog 135 #[vP p 0,vI k,vS S] W fun e w'=>WrO p m rp cp R C sf (ts++[t]) W e w':=fun W ts h hn=>by
 subst hS ht;exact uAD k s W h hn
theorem uHD{p m:Nat}{rp cp:Option Nat}{R C:AxV}{sf:Value}{ts:List RTok}(t:Bs)(w:World)(h:WrS w p m rp cp R C sf ts)(hn:ts.length<=800000) :
  Calls Tryz.prog 132 #[vP p 0,.agg #[vI 2,vI 0,vI 0,vT t,.bool false,vI 0]] w fun e w'=>WrO p m rp cp R C sf (ts++[tk 2 t]) w e w':=by
 obtain⟨W0,ak⟩:=zD (w.alloc (.cells #[vI 2,vI 0,vI 0,vT t,.bool false,vI 0] 25))
 have aj:=zh ak;have af:=zA ak;have L0:Lies W0 w.heap.size 25 #[vI 2,vI 0,vI 0,vT t,.bool false,vI 0]:=by rw[ak];exact Lies.new w _ _
 have c0:=L0.cell 0;have c3:=L0.cell 3;simp only[za,zb,zf]at c0 c3;obtain⟨x,hx⟩:=zD (tk 2 t)
 have CP:=zh (cB (p:=p) (m:=m) (rp:=rp) (cp:=cp) (R:=R) (C:=C) (sf:=sf) 2 t t.toArray rfl x hx);rw[<- hx];have HS:=zh (h.next af.out);clear h hx L0 ak
 go_in
 go_upto_region 1 with fail
 rw[<- aj.out];clear aj
 go_wp2_with ((with_reducible refine(CP.out _ _ HS.out (by omega)).mono ?_);rintro e wx ⟨rfl,hs,hk⟩;have ig:=zh hs;have fu:=zh hk;clear hs hk c0 c3)
 go_end0
 exact⟨rfl,ig.out,(Kw.of_below af.out).trans fu.out⟩
theorem uDB{p m:Nat}{rp cp:Option Nat}{R C:AxV}{sf:Value}{ts:List RTok}(f:Int)(w:World)(h:WrS w p m rp cp R C sf ts)(hn:ts.length<=800000) :
  Calls Tryz.prog 132 #[vP p 0,.agg #[vI 4,vI 0,vI 0,vS #[],.bool false,vI f]] w fun e w'=>WrO p m rp cp R C sf (ts++[tk 6 (aY f)]) w e w':=by
 obtain⟨W0,ak⟩:=zD (w.alloc (.cells #[vI 4,vI 0,vI 0,vS #[],.bool false,vI f] 25))
 have aj:=zh ak;have af:=zA ak;have L0:Lies W0 w.heap.size 25 #[vI 4,vI 0,vI 0,vS #[],.bool false,vI f]:=by rw[ak];exact Lies.new w _ _
 have c0:=L0.cell 0;have c5:=L0.cell 5;simp only[za,zb,zf]at c0 c5;obtain⟨x,hx⟩:=zD (tk 6 (aY f))
 have CP:=zh (cB (p:=p) (m:=m) (rp:=rp) (cp:=cp) (R:=R) (C:=C) (sf:=sf) 6 (aY f) (aY f).toArray rfl x hx);rw[<- hx];have HS:=zh (h.next af.out);have CF:=zh (iV f W0 HS.out.gl.tab);generalize aY f=T at *;clear h hx L0 ak
 go_in
 go_upto_region 1 with fail
 rw[<- aj.out];clear aj
 go_wp2_with (first
  |((with_reducible refine CF.out.mono ?_);rintro e wx ⟨rfl,rfl⟩)
  |((with_reducible refine(CP.out _ _ HS.out (by omega)).mono ?_);rintro e wx ⟨rfl,hs,hk⟩;have ig:=zh hs;have fu:=zh hk;clear hs hk c0 c5))
 go_end0
 exact⟨rfl,ig.out,(Kw.of_below af.out).trans fu.out⟩
theorem uDC{p m:Nat}{rp cp:Option Nat}{R C:AxV}{sf:Value}{ts:List RTok}(b:Bool)(w:World)(h:WrS w p m rp cp R C sf ts)(hn:ts.length<=800000) :
  Calls Tryz.prog 132 #[vP p 0,.agg #[vI 3,vI 0,vI 0,vS #[],.bool b,vI 0]] w fun e w'=>WrO p m rp cp R C sf (ts++[tk 3 (if b then lP else noB)]) w e w':=by
 obtain⟨W0,ak⟩:=zD (w.alloc (.cells #[vI 3,vI 0,vI 0,vS #[],.bool b,vI 0] 25))
 have aj:=zh ak;have af:=zA ak;have L0:Lies W0 w.heap.size 25 #[vI 3,vI 0,vI 0,vS #[],.bool b,vI 0]:=by rw[ak];exact Lies.new w _ _
 have c0:=L0.cell 0;have c1:=L0.cell 1;have c2:=L0.cell 2;have c3:=L0.cell 3;have c4:=L0.cell 4;have c5:=L0.cell 5;simp only[za,zb,zf]at c0 c1 c2 c3 c4 c5;obtain⟨x,hx⟩:=zD (tk 3 (if b then lP else noB))
 have CP:=zh (cB (p:=p) (m:=m) (rp:=rp) (cp:=cp) (R:=R) (C:=C) (sf:=sf) 3 (if b then lP else noB) (if b then lP else noB).toArray rfl x hx);rw[<- hx];have HS:=zh (h.next af.out);have CF:Hid (Calls Tryz.prog 60 #[.agg #[vI 3,vI 0,vI 0,vS #[],.bool b,vI 0]] W0 fun e w'=>e=.returned (vT (if b then lP else noB))/\Below W0.heap.size W0 w'):=zh (by
  have h:=zJ ⟨3,0,0,[],b,0⟩ W0 HS.out.gl.tab HS.out.gl.pow (by show (-9223372036854775808:Int)<=0;decide) (by show (0:Int)<=9223372036854775807;decide) (fun h=>by cases h);exact h)
 generalize (if b then lP else noB)=T at *;clear h hx L0 ak
 go_in
 go_upto_region 1 with fail
 rw[<- aj.out];clear aj
 go_wp2_with (first
  |((with_reducible refine CF.out.mono ?_);rintro e wx ⟨rfl,hb⟩;have ee:=zh (HS.out.next hb);have bi:=zh hb;clear hb)
  |((with_reducible refine(CP.out _ _ ee.out (by omega)).mono ?_);rintro e wx ⟨rfl,hs,hk⟩;have ig:=zh hs;have fu:=zh hk;clear hs hk c0 c1 c2 c3 c4 c5))
 go_end0
 exact⟨rfl,ig.out,((Kw.of_below af.out).trans (Kw.of_below bi.out)).trans fu.out⟩
theorem wlit_pos{p m:Nat}{rp cp:Option Nat}{R C:AxV}{sf:Value}{ts:List RTok}(mt e:Int)(w:World)(h:WrS w p m rp cp R C sf ts)(hn:ts.length<=800000)(hR:bI mt e=true)(h0:0<=mt) :
  Calls Tryz.prog 132 #[vP p 0,.agg #[vI 1,vI mt,vI e,vS #[],.bool false,vI 0]] w fun e' w'=>WrO p m rp cp R C sf (ts++[tk 1 (bL mt e)]) w e' w':=by
 obtain⟨h1,h2⟩:=fR hR;obtain⟨W0,ak⟩:=zD (w.alloc (.cells #[vI 1,vI mt,vI e,vS #[],.bool false,vI 0] 25))
 obtain⟨W1,an⟩:=zD (W0.alloc (.cells #[vI mt,vI e] 23))
 have aj:=zh ak;have am:=zh an;have af:=zA ak;have bi:=zA an;have L0:Lies W0 w.heap.size 25 #[vI 1,vI mt,vI e,vS #[],.bool false,vI 0]:=by rw[ak];exact Lies.new w _ _
 have L1:Lies W1 W0.heap.size 23 #[vI mt,vI e]:=by rw[an];exact Lies.new W0 _ _
 have c0:=L0.cell 0;have c1:=L0.cell 1;have c2:=L0.cell 2;have d0:=L1.cell 0;have d1:=L1.cell 1;simp only[za,zb,zf]at c0 c1 c2 d0 d1;obtain⟨x,hx⟩:=zD (tk 1 (bL mt e))
 have CP:=zh (cB (p:=p) (m:=m) (rp:=rp) (cp:=cp) (R:=R) (C:=C) (sf:=sf) 1 (bL mt e) (bL mt e).toArray rfl x hx);rw[<- hx];have HS:=zh ((h.next af.out).next bi.out);have CF:=zh (lA mt e W1 HS.out.gl.pow h1 h2 hR);have hm:¬ mt<0:=by omega
 generalize bL mt e=T at *;clear h hx L0 L1 ak an h1 h2 hR
 go_in
 go_upto_region 1 with fail
 rw[<- aj.out];clear aj
 go_upto_region 4 with fail
 rw[<- am.out];clear am
 go_wp2_with (first
  |((with_reducible refine CF.out.mono ?_);rintro e wx ⟨rfl,hb⟩;have ee:=zh (HS.out.next hb);have aw:=zh hb;clear hb)
  |((with_reducible refine(CP.out _ _ ee.out (by omega)).mono ?_);rintro e wx ⟨rfl,hs,hk⟩;have ig:=zh hs;have fu:=zh hk;clear hs hk c0 c1 c2 d0 d1))
 go_end0
 exact⟨rfl,ig.out,(((Kw.of_below af.out).trans (Kw.of_below bi.out)).trans (Kw.of_below aw.out)).trans fu.out⟩
theorem wlit_neg{p m:Nat}{rp cp:Option Nat}{R C:AxV}{sf:Value}{ts:List RTok}(mt e:Int)(w:World)(h:WrS w p m rp cp R C sf ts)(hn:ts.length<=800000)(hR:bI mt e=true)(h0:mt<0) :
  Calls Tryz.prog 132 #[vP p 0,.agg #[vI 1,vI mt,vI e,vS #[],.bool false,vI 0]] w fun e' w'=>WrO p m rp cp R C sf (ts++[tk 5 [45]]++[tk 1 (bL (-mt) e)]) w e' w':=by
 have vn:=vV mt e hR;obtain⟨g1,g2⟩:=fR hR;obtain⟨h1,h2⟩:=fR vn;have hmb:=(gQ hR (by omega)).1;obtain⟨W0,ak⟩:=zD (w.alloc (.cells #[vI 1,vI mt,vI e,vS #[],.bool false,vI 0] 25))
 obtain⟨W1,an⟩:=zD (W0.alloc (.cells #[vI mt,vI e] 23))
 have aj:=zh ak;have am:=zh an;have af:=zA ak;have bi:=zA an;have L0:Lies W0 w.heap.size 25 #[vI 1,vI mt,vI e,vS #[],.bool false,vI 0]:=by rw[ak];exact Lies.new w _ _
 have L1:Lies W1 W0.heap.size 23 #[vI mt,vI e]:=by rw[an];exact Lies.new W0 _ _
 have c0:=L0.cell 0;have c1:=L0.cell 1;have c2:=L0.cell 2;have d0:=L1.cell 0;have d1:=L1.cell 1;simp only[za,zb,zf]at c0 c1 c2 d0 d1;have jc:=zh L1;have HKa:Hid (Kw p (rp.toList++cp.toList) w W1):=zh ((Kw.of_below af.out).trans (Kw.of_below bi.out));have mo:Hid (w.heap.size<=W0.heap.size/\p<W0.heap.size):=zh ⟨af.out.size,yu h.lt af.out.size⟩;obtain⟨x,hx⟩:=zD (tk 5 [45])
 obtain⟨y,hy⟩:∃ x,x=tk 1 (bL (-mt) e):=⟨_,rfl⟩
 have CP:=zh (cB (p:=p) (m:=m) (rp:=rp) (cp:=cp) (R:=R) (C:=C) (sf:=sf) 5 [45] #[45] rfl x hx);have CQ:=zh (cB (p:=p) (m:=m) (rp:=rp) (cp:=cp) (R:=R) (C:=C) (sf:=sf) 1 (bL (-mt) e) (bL (-mt) e).toArray rfl y hy);rw[<- hx,<- hy];have HS:=zh ((h.next af.out).next bi.out);have CN:Hid (∀ W,Calls Tryz.prog 192 #[.agg #[vI mt,vI e]] W fun x w'=>x=.returned (.agg #[vI (-mt),vI e])/\Below W.heap.size W w'):=zh (fun W=>uFM mt e W (by omega) g2 hR);have CF:Hid (∀ W,PowTab W->Calls Tryz.prog 181 #[.agg #[vI (-mt),vI e]] W fun x w'=>x=.returned (vT (bL (-mt) e))/\Below W.heap.size W w'):=zh (fun W hp=>lA (-mt) e W hp h1 h2 vn);generalize bL (-mt) e=T at *;obtain⟨mn,hmn⟩:∃ z,z=-mt:=⟨_,rfl⟩
 rw[<- hmn]at CN CF;clear h hx hy L0 L1 ak an h1 h2 hR vn g1 g2 hmb hmn af bi
 go_in
 go_upto_region 1 with fail
 rw[<- aj.out];clear aj
 go_upto_region 4 with fail
 rw[<- am.out];clear am
 go_wp2_with (first
  |((with_reducible refine(CP.out _ _ HS.out (by omega)).mono ?_);rintro e wx ⟨rfl,hs,hk⟩;have gu:=zh (Kw.lies hk HS.out jc.out (by decide) (by decide) (by decide));have ig:=zh hs;have fu:=zh (HKa.out.trans hk);clear hs hk c0 c1 c2 d0 d1;obtain⟨d0,d1,f0,f1,z0⟩:=gu.out.two)
  |((with_reducible refine(CN.out _).mono ?_);rintro e wx ⟨rfl,hb⟩;have xc:=zh (gu.out.next hb);have qe:=zh (ig.out.next hb);have oo:=zh (fu.out.trans (Kw.of_below hb));clear hb d0 d1 f0 f1 z0;obtain⟨d0,d1,f0,f1,z0⟩:=xc.out.two)
  |(have k1:=lS wx W0.heap.size 0 (vI mn);have k2:=k1.trans (lS (wx.setCell ⟨W0.heap.size,0,none⟩ (vI mn)) W0.heap.size 1 (vI e));have qq:Hid (Lies ((wx.setCell ⟨W0.heap.size,0,none⟩ (vI mn)).setCell ⟨W0.heap.size,1,none⟩ (vI e)) W0.heap.size 23 #[vI mn,vI e]):=zh ((xc.out.put 0 (vI mn)).put 1 (vI e));have jv:=zh (qe.out.loc k2 mo.out.2 xc.out (by decide) (by decide) (by decide) (by decide) (by decide));have gd:=zh (oo.out.loc k2 mo.out.1);clear k1 k2;generalize ((wx.setCell ⟨W0.heap.size,0,none⟩ (vI mn)).setCell ⟨W0.heap.size,1,none⟩ (vI e))=W4 at qq jv gd ⊢;(with_reducible refine(CF.out _ jv.out.gl.pow).mono ?_);rintro e wx ⟨rfl,hb⟩;have z8:=zh (jv.out.next hb);have lr:=zh (gd.out.trans (Kw.of_below hb));clear hb)
  |((with_reducible refine(CQ.out _ _ z8.out (by rw[yl];simp;omega)).mono ?_);rintro e wx ⟨rfl,hs,hk⟩;have gw:=zh hs;have wn:=zh (lr.out.trans hk);clear hs hk))
 go_end0
 exact⟨rfl,gw.out,wn.out⟩
theorem xM{p m:Nat}{rp cp:Option Nat}{R C:AxV}{sf:Value}{ts:List RTok}(v:Val)(w:World)(h:WrS w p m rp cp R C sf ts)(hn:ts.length<=800000)(hR:aW v=true)(h0:v.kind≠0) :
  Calls Tryz.prog 132 #[vP p 0,iK v] w fun e w'=>WrO p m rp cp R C sf (ts++jT v) w e w':=by
 rcases lI v hR with rfl|⟨mt,e,rfl,g⟩|⟨t,rfl,g⟩|⟨b,rfl⟩|⟨f,rfl,h1,h2⟩
 ·exact absurd rfl h0
 ·by_cases hm:mt<0
  ·have e1:ts++jT ⟨1,mt,e,[],false,0⟩=ts++[tk 5 [45]]++[tk 1 (bL (-mt) e)]:=by unfold jT;rw[if_pos rfl,if_pos hm];simp
   rw[e1];exact wlit_neg mt e w h hn g hm
  have e1:jT ⟨1,mt,e,[],false,0⟩=[tk 1 (bL mt e)]:=by unfold jT;rw[if_pos rfl,if_neg hm]
  rw[e1];exact wlit_pos mt e w h hn g (by omega)
 ·exact uHD t w h hn
 ·exact uDC b w h hn
 exact uDB f w h hn
theorem Lies.rangeM{w:World}{b:Nat}{t:TypeId}{C:List Value}(h:Lies w b t C.toArray):w.rangeAt b 0 C:=by
 have:=h.range
 rwa [List.toList_toArray]at this
theorem dE{C:List Value}(h2:C.length=22):(Tryz.prog.info? 34).map (·.size)=some C.length:=by
 rw[h2];exact bZ
theorem mF{C:List Value}{h:NodeH}{A:Option Addr}{n cp:Nat}(e:C.toArray=aK h A n cp):C.length=22:=by
 rw[<- yd,e];rfl
theorem uAG{p m:Nat}{rp cp:Option Nat}{R C:AxV}{sf:Value}{ts:List RTok}(h:NodeH)(A:Option Addr)(n c:Nat)(Cn:List Value)(lev:Int)(ni:List RTok)(w:World)(ah:Hid (Cn.toArray=aK h A n c))(hw:WrS w p m rp cp R C sf ts)(h6:h.kind=6->mS h.name=true)(hn:ts.length+ni.length<=700000)
  (hT:∀ W ts',WrS W p m rp cp R C sf ts'->Kw p (rp.toList++cp.toList) w W->ts'.length<=ts.length+1->Calls Tryz.prog 74 #[vP p 0,.agg Cn.toArray] W fun e w'=>WrO p m rp cp R C sf (ts'++ni) W e w') :
  Calls Tryz.prog 134 #[vP p 0,.agg Cn.toArray,vI lev] w fun e w'=>WrO p m rp cp R C sf (ts++dV (sZ h) lev ni) w e w':=by
 obtain⟨W0,ak⟩:=zD (w.alloc (.cells Cn.toArray 34))
 have aj:=zh ak;have af:=zA ak;have HK:Hid (Kw p (rp.toList++cp.toList) w W0):=zh (Kw.of_below af.out);have HL:=zL ak;have HS:=zh (hw.next af.out);have bg:=zh (dE (mF ah.out));have CV:=zh (fun W (hs:WrS W p m rp cp R C sf ts)=>tU h A n c Cn W ah hs h6);have CT:=zh hT;have ja:=zh hn;obtain⟨lv,ng⟩:=zD (sZ h)
 rw[<- ng]at CV ⊢;clear ak hw hT h6 ng ah hn;by_cases hle:lev<=lv
 ·have e1:dV lv lev ni=ni:=by unfold dV;rw[if_pos hle]
  rw[e1];clear e1
  go_in
  go_upto_region 1 with fail
  rw[<- aj.out];clear aj
  go_wp2_with (first
   |(refine yr rfl 34 (.tmp 4) rfl w.heap.size 0 rfl Cn _ HL.out.rangeM Tryz.underlying34 rfl bg.out ?_)
   |((with_reducible refine(CV.out _ HS.out).mono ?_);rintro e wx ⟨rfl,hb⟩;replace HK:=zh (HK.out.trans (Kw.of_below hb));replace HL:=zh (HL.out.next hb);replace HS:=zh (HS.out.next hb);clear hb)
   |((with_reducible refine(CT.out _ _ HS.out HK.out (Nat.le_succ _)).mono ?_);rintro e wx ⟨rfl,hs,hk⟩;replace HK:=zh (HK.out.trans hk);replace HS:=zh hs;clear hs hk))
  go_end0
  exact⟨rfl,HS.out,HK.out⟩
 have e1:ts++dV lv lev ni=ts++[tk 5 [40]]++ni++[tk 5 [41]]:=by unfold dV;rw[if_neg hle];simp
 rw[e1];obtain⟨x,hx⟩:=zD (tk 5 [40])
 obtain⟨y,hy⟩:∃ x,x=tk 5 [41]:=⟨_,rfl⟩
 have CP:=zh (cB (p:=p) (m:=m) (rp:=rp) (cp:=cp) (R:=R) (C:=C) (sf:=sf) 5 [40] #[40] rfl x hx);have CQ:=zh (cB (p:=p) (m:=m) (rp:=rp) (cp:=cp) (R:=R) (C:=C) (sf:=sf) 5 [41] #[41] rfl y hy);rw[<- hx,<- hy];clear e1 hx hy
 go_in
 go_upto_region 1 with fail
 rw[<- aj.out];clear aj
 go_wp2_with (first
  |(refine yr rfl 34 (.tmp 4) rfl w.heap.size 0 rfl Cn _ HL.out.rangeM Tryz.underlying34 rfl bg.out ?_)
  |((with_reducible refine(CV.out _ HS.out).mono ?_);rintro e wx ⟨rfl,hb⟩;replace HK:=zh (HK.out.trans (Kw.of_below hb));replace HL:=zh (HL.out.next hb);replace HS:=zh (HS.out.next hb);clear hb)
  |((with_reducible refine(CP.out _ _ HS.out (by have:=ja.out;omega)).mono ?_);rintro e wx ⟨rfl,hs,hk⟩;replace HL:=zh (Kw.lies hk HS.out HL.out (by decide) (by decide) (by decide));replace HK:=zh (HK.out.trans hk);have ig:=zh hs;clear hs hk CP)
  |((with_reducible refine(CT.out _ _ ig.out HK.out (by simp)).mono ?_);rintro e wx ⟨rfl,hs,hk⟩;replace HK:=zh (HK.out.trans hk);have qe:=zh hs;clear hs hk)
  |((with_reducible refine(CQ.out _ _ qe.out (by have:=ja.out;simp only[yl,yi,List.length_nil];omega)).mono ?_);rintro e wx ⟨rfl,hs,hk⟩;replace HK:=zh (HK.out.trans hk);have jv:=zh hs;clear hs hk))
 go_end0
 exact⟨rfl,jv.out,HK.out⟩
theorem uFD{W W':World}(h:Kp [] W W'):Below W.heap.size W W':=h.below (fun k hk=>by cases hk) zr
theorem qD(y:List RTok):∀ (xs:List (List RTok)),bG (xs++[y])=if xs=[] then y else bG xs++([tk 5 [44]]++y)
 | []=>by simp[bG]
 | [a]=>by simp[bG]
 |a::b::r=>by
  have ih:=qD y (b::r);rw[if_neg (by simp)]at ih;rw[if_neg (by simp)];show a++tk 5 [44]::bG (b::(r++[y]))=_;rw[show b::(r++[y])=(b::r)++[y] from rfl,ih];simp[bG]
theorem uHC{p m:Nat}{rp cp:Option Nat}{R C:AxV}{sf:Value}{ts:List RTok}(A:Option Addr)(ca:Nat)(TS:List (List RTok))(w:World)(hw:WrS w p m rp cp R C sf ts)
  (hK:∀ k (hk:k<TS.length),∃ g o ci,A=some ⟨g,o,none⟩/\(ci:List Value).length=22/\ci.toArray.all (·.oneCell')=true/\∀ W ts',WrS W p m rp cp R C sf ts'->Kw p (rp.toList++cp.toList) w W->W.rangeAt g (o+k*22) ci/\(ts'.length<=ts.length+(bG (TS.take k)).length+1->Calls Tryz.prog 74 #[vP p 0,.agg ci.toArray] W fun e w'=>WrO p m rp cp R C sf (ts'++TS[k]) W e w'))
  (hn:TS.length<=100000) (hl:∀ k,ts.length+(bG (TS.take k)).length<=700000) :
  Calls Tryz.prog 136 #[vP p 0,.slice A TS.length ca] w fun e w'=>WrO p m rp cp R C sf (ts++bG TS) w e w':=by
 obtain⟨tc,f8⟩:∃ x,x=tk 5 [44]:=⟨_,rfl⟩
 have CP:=zh (cB (p:=p) (m:=m) (rp:=rp) (cp:=cp) (R:=R) (C:=C) (sf:=sf) 5 [44] #[44] rfl tc f8);have ue:Hid (∀ k (hk:k<TS.length),bG (TS.take (k+1))=if k=0 then TS[k] else bG (TS.take k)++([tc]++TS[k])):=zh (fun k hk=>by
  rw[yw hk,qD,f8];by_cases h0:k=0
  ·subst h0;simp
  rw[if_neg h0,if_neg (by
   intro h;rcases List.take_eq_nil_iff.1 h with h|h
   ·exact h0 h
   rw[h]at hk;exact absurd hk (Nat.not_lt_zero _))])
 have HKs:=zh hK;have HLl:=zh hl;have qu:Hid (WrS w p m rp cp R C sf (ts++bG (TS.take 0))):=zh (by rw[List.take_zero];simpa [bG] using hw);have HTn:Hid (TS.take TS.length=TS):=zh (List.take_length);obtain⟨n,dx⟩:=zD TS.length
 have HN:=zh dx;rw[<- dx]at hn ⊢;clear hw hK hl f8 dx
 go_in
 go_wp2_with fail
 go_loopw [8] (fun v8 wr=>∃ k:Nat,k<=n/\v8=vI (k:Int)/\Hid (WrS wr p m rp cp R C sf (ts++bG (TS.take k)))/\Hid (Kw p (rp.toList++cp.toList) w wr)) (fun v8 _=>n-(intOf v8).toNat)
 case atStart=>exact⟨0,zm _,rfl,qu,zh (Kw.refl _ _ _)⟩
 case round=>
  obtain⟨k,hk,rfl,HS,HK⟩:=hrel;have si:(k:Int)<=100000:=by omega
  clear qu;by_cases hlt:k<n
  ·have ix:(k:Int)<(n:Int):=by omega
   have eh:k<TS.length:=by rw[<- HN.out];exact hlt
   have HE:=zh (ue.out k eh);obtain⟨g,o,ci,rfl,ei,hone,da⟩:=HKs.out k eh;have bg:=zh (dE ei);have HInz:Hid ((Tryz.prog.info? 34).map (·.size)=some ci.toArray.size):=zh (by rw[yd,ei];exact bZ)
   have HOne:=zh hone;have j6:=zh (da wr _ HS.out HK.out).1;have CN:=zh (fun W ts' h1 h2=>(da W ts' h1 h2).2);have cr:=zh (HLl.out k);have HBz:Hid (Below wr.heap.size wr (World.setCells (wr.alloc (.cells fM.toArray 34)) wr.heap.size 0 ci)):=zh (uFD (nW (.inr zr) ci 0 ((Kp.refl _ _).alloc _)));have HZ:Hid (Lies (World.setCells (wr.alloc (.cells fM.toArray 34)) wr.heap.size 0 ci) wr.heap.size 34 ci.toArray):=zh ((Lies.new wr 34 fM.toArray).putAll (by rw[ei];rfl));have HT:Hid (World.there (wr.alloc (.cells fM.toArray 34)) wr.heap.size 0 ci.toArray.size):=zh (by have h:=(Lies.new wr 34 fM.toArray).thereA;have h0:ci.toArray.size=22:=(by rw[yd,ei]);rw[h0];exact h);simp only[fM]at HBz HZ;obtain⟨q,hq⟩:=zD wr.heap.size
   have HQ:=zh hq;obtain⟨tt,htt⟩:∃ t,TS[k]=t:=⟨_,rfl⟩
   rw[htt]at HE CN;clear da hone ei HKs ue HTn htt hq;by_cases gy:k=0
   ·have uf:(k:Int)<=0:=by omega
    have HE2:Hid (ts++bG (TS.take (k+1))=(ts++bG (TS.take k))++tt):=zh (by rw[HE.out,if_pos gy,gy];simp[bG]);clear HE gy
    go_wp2_with (first
     |(refine yr rfl 34 (.tmp 11) rfl g (o+k*22) rfl ci _ j6.out Tryz.underlying34 rfl bg.out ?_)
     |(refine yq rfl 34 (.tmp 5) (.tmp 12) rfl wr.heap.size 0 ci.toArray rfl rfl HT.out HInz.out HOne.out ?_;change wpList _ _ _ _ _ (World.setCells _ wr.heap.size 0 ci);generalize World.setCells _ _ _ _=wz at HBz HZ ⊢;have ig:=zh (HS.out.next HBz.out);have fu:=zh (HK.out.trans (Kw.of_below HBz.out)))
     |(refine yr rfl 34 (.tmp 5) rfl wr.heap.size 0 rfl ci _ HZ.out.rangeM Tryz.underlying34 rfl bg.out ?_)
     |((with_reducible refine(CN.out _ _ ig.out fu.out (by simp only[yl];omega)).mono ?_);rintro e wx ⟨rfl,hs,en⟩;have qe:=zh hs;have oo:=zh (fu.out.trans en);clear hs en))
    go_roundw
    case rel=>exact⟨k+1,by omega,by go_num,zh (by rw[HE2.out];exact qe.out),oo⟩
    case measure=>first |(simp[intOf];done) |(simp[intOf];omega)
   have uf:(0:Int)<(k:Int):=by omega
   have HE2:Hid (ts++bG (TS.take (k+1))=(ts++bG (TS.take k))++[tc]++tt):=zh (by rw[HE.out,if_neg gy];simp);clear HE gy
   go_wp2_with (first
    |(refine yr rfl 34 (.tmp 11) rfl g (o+k*22) rfl ci _ j6.out Tryz.underlying34 rfl bg.out ?_)
    |(refine yq rfl 34 (.tmp 5) (.tmp 12) rfl wr.heap.size 0 ci.toArray rfl rfl HT.out HInz.out HOne.out ?_;change wpList _ _ _ _ _ (World.setCells _ wr.heap.size 0 ci);generalize World.setCells _ _ _ _=wz at HBz HZ ⊢;have ig:=zh (HS.out.next HBz.out);have fu:=zh (HK.out.trans (Kw.of_below HBz.out)))
    |((with_reducible refine(CP.out _ _ ig.out (by have:=cr.out;rw[yl];omega)).mono ?_);rintro e wx ⟨rfl,hs,en⟩;have vo:=zh (Kw.lies en ig.out HZ.out (by decide) (by decide) (by decide));have jv:=zh hs;have gd:=zh (fu.out.trans en);clear hs en)
    |(refine yr rfl 34 (.tmp 5) rfl wr.heap.size 0 rfl ci _ vo.out.rangeM Tryz.underlying34 rfl bg.out ?_)
    |((with_reducible refine(CN.out _ _ jv.out gd.out (by simp only[yl,yi,List.length_nil];omega)).mono ?_);rintro e wx ⟨rfl,hs,en⟩;have qe:=zh hs;have oo:=zh (gd.out.trans en);clear hs en))
   go_roundw
   case rel=>exact⟨k+1,by omega,by go_num,zh (by rw[HE2.out];exact qe.out),oo⟩
   case measure=>first |(simp[intOf];done) |(simp[intOf];omega)
  obtain rfl:k=n:=by omega
  go_wp2_with fail
  go_end0
  have h1:TS.take k=TS:=by rw[HN.out];exact HTn.out
  rw[h1]at HS;exact⟨rfl,HS.out,HK.out⟩
theorem lJ{g o N c a b:Nat}(h1:a<b)(h2:b<=N)(h3:N<=c):∀ W,(Instr.slice 32 (.slice (some ⟨g,o,none⟩) N c) (some (vI (a:Int))) (some (vI (b:Int))) none).run Tryz.prog W=.ok (.slice (some ⟨g,o+a*22,none⟩) (b-a) (c-a)) W:=fun W=>by
 have al:Tryz.prog.underlying 32=some (.slice (Tryz.prog.elem 32)):=by kernel_rfl
 have wk:∀ W,(sizeOf (Tryz.prog.elem 32)).run Tryz.prog W=.ok 22 W:=fun W=>by kernel_rfl
 rw[run_slice_lh W 32 (some ⟨g,o,none⟩) N c al .i64 .i64 a b (by omega) (by omega) (by omega),wk];have hc:¬ c=a:=by omega
 simp[Result.andThen,sliced,hc,rJ]
theorem uK{g o N c a b:Nat}(h1:a<b)(h2:b<=N)(h3:N<=c):∀ W,(Instr.sliceAt 32 (.slice (some ⟨g,o,none⟩) N c) (some (vI (a:Int))) (some (vI (b:Int))) none).run Tryz.prog W=.ok (.slice (some ⟨g,o+a*22,none⟩) (b-a) (c-a)) W:=fun W=>by
 have al:Tryz.prog.underlying 32=some (.slice (Tryz.prog.elem 32)):=by kernel_rfl
 rw[run_sliceAt_slice W 32 _ _ _ _ al];exact lJ h1 h2 h3 W
theorem zX{p m:Nat}{rp cp:Option Nat}{R C:AxV}{sf:Value}{ts:List RTok}(h:NodeH)(g o ca r cw:Nat)(Cn:List Value)(TS:List (List RTok))(w:World)(ah:Hid (Cn.toArray=aK h (some ⟨g,o,none⟩) (r*cw) ca))(ny:h.rows=(r:Int))(h1:1<=r)(h2:1<=cw)(hc:r*cw<=ca)(wj:r*cw<=100000)(hw:WrS w p m rp cp R C sf ts)
  (hL:∀ i,i<r->∀ W ts',WrS W p m rp cp R C sf ts'->Kw p (rp.toList++cp.toList) w W->ts'.length<=ts.length+(cT cw TS i).length+1->Calls Tryz.prog 136 #[vP p 0,.slice (some ⟨g,o+i*cw*22,none⟩) cw (ca-i*cw)] W fun e w'=>WrO p m rp cp R C sf (ts'++bG ((TS.drop (i*cw)).take cw)) W e w')
  (hl:∀ i,i<=r->ts.length+(cT cw TS i).length<=700000) :
  Calls Tryz.prog 137 #[vP p 0,.agg Cn.toArray] w fun e w'=>WrO p m rp cp R C sf (ts++(cT cw TS r++[tk 5 [125]])) w e w':=by
 obtain⟨W0,ak⟩:=zD (w.alloc (.cells Cn.toArray 34))
 have aj:=zh ak;have af:=zA ak;have HK:Hid (Kw p (rp.toList++cp.toList) w W0):=zh (Kw.of_below af.out);have HL:=zL ak;obtain⟨N,hN⟩:=zD (r*cw)
 have HN:=zh hN;rw[<- hN]at ah;have HC:Hid (∀ W,Lies W w.heap.size 34 Cn.toArray->W.cell? ⟨w.heap.size,20,none⟩=some (vI (r:Int))/\W.cell? ⟨w.heap.size,21,none⟩=some (.slice (some ⟨g,o,none⟩) N ca)):=zh (fun W hl=>by
  have e20:=hl.cell 20;have e21:=hl.cell 21;rw[ah.out]at e20 e21;rw[<- ny];exact⟨e20,e21⟩)
 have HS:Hid (WrS W0 p m rp cp R C sf (ts++cT cw TS 0)):=zh (by rw[cT,List.append_nil];exact hw.next af.out);have CL:=zh hL;have HLl:=zh hl;obtain⟨x,hx⟩:=zD (tk 5 [123])
 obtain⟨y,hy⟩:∃ x,x=tk 5 [59]:=⟨_,rfl⟩
 obtain⟨z,hz⟩:∃ x,x=tk 5 [125]:=⟨_,rfl⟩
 have CX:=zh (cB (p:=p) (m:=m) (rp:=rp) (cp:=cp) (R:=R) (C:=C) (sf:=sf) 5 [123] #[123] rfl x hx);have CY:=zh (cB (p:=p) (m:=m) (rp:=rp) (cp:=cp) (R:=R) (C:=C) (sf:=sf) 5 [59] #[59] rfl y hy);have CZ:=zh (cB (p:=p) (m:=m) (rp:=rp) (cp:=cp) (R:=R) (C:=C) (sf:=sf) 5 [125] #[125] rfl z hz);have ue:Hid (∀ i,cT cw TS (i+1)=cT cw TS i++(if i=0 then x else y)::bG ((TS.drop (i*cw)).take cw)):=zh (fun i=>by
  rw[hx,hy,cT];by_cases h0:i=0
  ·rw[if_pos h0,if_pos h0]
  rw[if_neg h0,if_neg h0])
 rw[<- hz];have ug:cw<=N:=by rw[hN];exact Nat.le_mul_of_pos_left cw h1
 have hrN:r<=N:=by rw[hN];exact Nat.le_mul_of_pos_right r h2
 have hNb:N<=100000:=by rw[hN];exact wj
 have la:N<=ca:=by rw[hN];exact hc
 have hq:(N:Int).tdiv (r:Int)=(cw:Int):=by
  rw[hN,Int.natCast_mul];exact Int.mul_tdiv_cancel_left (cw:Int) (by omega)
 have fq:((r:Int)==0)=false:=by rw[beq_eq_false_iff_ne];omega
 have HR:=zh (And.intro h1 (And.intro h2 (And.intro ug (And.intro hrN (And.intro hNb la)))));have zt:(r:Int)<=100000:=by omega
 have hcwi:(cw:Int)<=100000:=by omega
 have fh:(1:Int)<=(r:Int):=by omega
 have HHC:=zh ah.out;clear ak hw hL hl hx hy hz hN ah ny h1 h2 hc wj ug hrN hNb la af
 go_in
 go_upto_region 1 with fail
 rw[<- aj.out];clear aj;obtain⟨z9,jw⟩:=HC.out _ HL.out
 go_wp2_with fail
 clear z9 jw hq fq
 go_loopw [14] (fun v14 wr=>∃ i:Nat,i<=r/\v14=vI (i:Int)/\Hid (WrS wr p m rp cp R C sf (ts++cT cw TS i))/\Hid (Kw p (rp.toList++cp.toList) w wr)/\Hid (Lies wr w.heap.size 34 Cn.toArray)) (fun v14 _=>r-(intOf v14).toNat)
 case atStart=>exact⟨0,zm _,rfl,HS,HK,HL⟩
 case round=>
  clear HS HK HL;obtain⟨i,hi,rfl,HS,HK,HL⟩:=hrel;by_cases hlt:i<r
  ·have hlti:(i:Int)<(r:Int):=by omega
   obtain⟨q1,q2,q3,q4,q5,q6⟩:=HR.out;have ab:i*cw+cw<=N:=by
    have:=Nat.mul_le_mul_right cw (by omega:i+1<=r);rw[Nat.succ_mul,<- HN.out]at this;exact this
   obtain⟨a,ha⟩:=zD (i*cw)
   rw[<- ha]at ab;obtain⟨b,hb⟩:=zD (a+cw)
   have vr:IntKind.i64.wrap ((i:Int)*(cw:Int))=(a:Int):=by
    rw[ha,<- Int.natCast_mul];exact IntWalk.i64_in _ (by rw[<- ha];omega)
   have hw2:IntKind.i64.wrap (((i:Int)+1)*(cw:Int))=(b:Int):=by
    rw[show ((i:Int)+1)*(cw:Int)=((b:Nat):Int) by rw[hb,ha,Int.add_mul];simp];exact IntWalk.i64_in _ (by omega)
   have ed:=lJ (g:=g) (o:=o) (N:=N) (c:=ca) (a:=a) (b:=b) (by omega) (by omega) q6;have j5:=uK (g:=g) (o:=o) (N:=N) (c:=ca) (a:=a) (b:=b) (by omega) (by omega) q6;have CN:=zh (CL.out i hlt);rw[<- ha]at CN;rw[show b-a=cw by omega]at ed j5;have cr:=zh (HLl.out i (by omega));have HE0:=ue.out i;rw[<- ha]at HE0;have HE1:=zh HE0;generalize bG ((TS.drop a).take cw)=tt at *;obtain⟨z9,jw⟩:=HC.out _ HL.out;clear q1 q2 q3 q4 q5 q6 ab ha hb HE0;by_cases hi0:i=0
   ·have hi0i:((i:Int)==0)=true:=by rw[hi0];rfl
    have HE2:Hid (ts++cT cw TS (i+1)=(ts++cT cw TS i)++[x]++tt):=zh (by rw[HE1.out,if_pos hi0];simp);clear hi0 HE1
    go_wp2_with (first
     |((with_reducible refine(CX.out _ _ HS.out (by have:=cr.out;rw[yl];omega)).mono ?_);rintro e wx ⟨rfl,hs,hk⟩;have qq:=zh (Kw.lies hk HS.out HL.out (by decide) (by decide) (by decide));have jv:=zh hs;have gd:=zh (HK.out.trans hk);clear hs hk z9 jw;obtain⟨z9,jw⟩:=HC.out _ qq.out)
     |((with_reducible refine(CN.out _ _ jv.out gd.out (by simp only[yl,yi,List.length_nil];omega)).mono ?_);rintro e wx ⟨rfl,hs,hk⟩;have dy:=zh (Kw.lies hk jv.out qq.out (by decide) (by decide) (by decide));have z8:=zh hs;have lr:=zh (gd.out.trans hk);clear hs hk))
    go_roundw
    case rel=>exact⟨i+1,by omega,by go_num,zh (by rw[HE2.out];exact z8.out),lr,dy⟩
    case measure=>first |(simp[intOf];done) |(simp[intOf];omega)
   have hi0i:((i:Int)==0)=false:=by rw[beq_eq_false_iff_ne];omega
   have HE2:Hid (ts++cT cw TS (i+1)=(ts++cT cw TS i)++[y]++tt):=zh (by rw[HE1.out,if_neg hi0];simp);clear hi0 HE1
   go_wp2_with (first
    |((with_reducible refine(CY.out _ _ HS.out (by have:=cr.out;rw[yl];omega)).mono ?_);rintro e wx ⟨rfl,hs,hk⟩;have qq:=zh (Kw.lies hk HS.out HL.out (by decide) (by decide) (by decide));have jv:=zh hs;have gd:=zh (HK.out.trans hk);clear hs hk z9 jw;obtain⟨z9,jw⟩:=HC.out _ qq.out)
    |((with_reducible refine(CN.out _ _ jv.out gd.out (by simp only[yl,yi,List.length_nil];omega)).mono ?_);rintro e wx ⟨rfl,hs,hk⟩;have dy:=zh (Kw.lies hk jv.out qq.out (by decide) (by decide) (by decide));have z8:=zh hs;have lr:=zh (gd.out.trans hk);clear hs hk))
   go_roundw
   case rel=>exact⟨i+1,by omega,by go_num,zh (by rw[HE2.out];exact z8.out),lr,dy⟩
   case measure=>first |(simp[intOf];done) |(simp[intOf];omega)
  obtain rfl:i=r:=by omega
  have cr:=zh (HLl.out i (by omega))
  go_wp2_with ((with_reducible refine(CZ.out _ _ HS.out (by have:=cr.out;rw[yl];omega)).mono ?_);rintro e wx ⟨rfl,hs,hk⟩;have jv:=zh hs;have gd:=zh (HK.out.trans hk);clear hs hk)
  go_end0
  exact⟨rfl,by rw[<- List.append_assoc];exact jv.out,gd.out⟩
end Go.Proofs.YtjfihpaeglpblaaGreatDoor
