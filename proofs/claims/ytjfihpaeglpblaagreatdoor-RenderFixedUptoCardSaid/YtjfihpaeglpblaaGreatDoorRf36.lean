/-
  Lemmas, part 36: RsA RsE RenderSaysW.
-/
import Derived.Test.YtjfihpaeglpblaaGreatDoorRf34
import Derived.Test.YtjfihpaeglpblaaGreatDoorRf35
set_option maxHeartbeats 100000000
set_option maxRecDepth 1000000
namespace Go.Proofs.YtjfihpaeglpblaaGreatDoor
open Go.RowKit
def AxsB(W:World)(Y:List Nat):Prop:=∀ y∈Y,∃ cs,Lies W y 152 cs
theorem AxsB.lies{W:World}{Y:List Nat}{b:Nat}{t:TypeId}{cs:Array Value}(hY:AxsB W Y)(h:Lies W b t cs)(ht:t≠152):b∉Y:=fun hm=>by
 obtain⟨l7,h1⟩:=hY b hm;exact fL h h1 (fun e=>ht e.symm) rfl
theorem AxsB.own{W:World}{Y:List Nat}{b n sz:Nat}{te:TypeId}{v:Value}{xs:List Value}(hY:AxsB W Y)(h:W.ownsRow b te sz v n xs)(ht:te≠152):∀ g,v.ownBlock=some g->g∉Y:=fun g hg=>by
 rcases h.2 with⟨rfl,_⟩|⟨g1,cap,cur,rfl,_,hh,_⟩
 ·simp[Value.ownBlock]at hg
 simp[Value.ownBlock]at hg;subst hg;have h0:Lies W g1 te cur:=hh;exact hY.lies h0 ht
theorem AxF.lies{W:World}{b:Nat}{A:AxV}(h:AxF W (some b) A):∃ cs,Lies W b 152 cs:=by
 match A,h with
 |some (ids,fl),⟨_,_,_,_,.inl ⟨_,_,_,g⟩⟩=>exact⟨_,g.ax⟩
 |some (ids,fl),⟨_,_,_,_,.inr ⟨_,g⟩⟩=>
  obtain⟨_,_,_,_,_,_,h1,_⟩:=g.ex;exact⟨_,h1⟩
theorem wL{W:World}{rp cp:Option Nat}{R C:AxV}(h:AxF W rp R)(k:AxF W cp C):AxsB W (rp.toList++cp.toList):=fun y hy=>by
 rcases List.mem_append.1 hy with hy|hy
 ·obtain rfl:rp=some y:=by simpa using hy
  exact h.lies
 obtain rfl:cp=some y:=by simpa using hy
 exact k.lies
theorem AxQ.kp{W W':World}{p:Option Nat}{A:AxV}{Y:List Nat}(h:AxQ W p A)(hk:Kp Y W W')(hY:AxsB W Y):AxQ W' p A:=by
 match p,A,h with
 |none,none,_=>trivial
 |some b,some (ids,fl),⟨h1,h2,h3,h4,base,v1,v2,h5⟩=>
  exact⟨h1,h2,h3,h4,base,v1,v2,h5.kp hk (hY.lies h5.ax (by decide)) (hY.own h5.r1 (by decide)) (hY.own h5.r2 (by decide))⟩
structure Made(w:World)(R C:AxV)(rp cp p q:Option Nat)(W:World):Prop where
 r:AxF W rp R
 c:AxF W cp C
 p:AxQ W p R
 q:AxQ W q C
 ne:∀ b,rp=some b->cp≠some b
 lo:∀ b∈rp.toList++cp.toList,w.heap.size<=b/\b<W.heap.size
 b:Below w.heap.size w W
abbrev eB(ids dead:List IdR):AxV:=some (bD ids,dK (bD ids) dead)
theorem made_of{w w1 w2:World}{ids jds dead:List IdR}{m1 c1 b1 m2 c2 b2:Nat}{v1 v2 u1 u2 x1 x2 z1 z2:Value}(hn:ids.length<=300)(hm:jds.length<=300)(hf:∀ y∈ids,y.fits)(hg:∀ y∈jds,y.fits)
  (hW:∃ W0,W0.heap.size=w.heap.size+1/\Below w.heap.size w W0/\TwoAx W0 W0.heap.size m1 c1 b1 (bD ids) (dK (bD ids) dead) v1 v2 u1 u2 w1) (h2:TwoAx w1 w1.heap.size m2 c2 b2 (bD jds) (dK (bD jds) dead) x1 x2 z1 z2 w2) :
  Made w (eB ids dead) (eB jds dead) (some (w.heap.size+1)) (some w1.heap.size) (some m1) (some m2) w2:=by
 obtain⟨W0,hs,ev,h1⟩:=hW;rw[hs]at h1;have hle:∀ l:List IdR,l.length=(dK l dead).length:=fun l=>by
  have h:=qN l dead dead.length zr;rw[List.take_length]at h;exact h.symm
 obtain⟨p1,-,p3,p4⟩:=nT ids;obtain⟨q1,-,q3,q4⟩:=nT jds;have ab:=h1.b;have hb2:=h2.b;have s0:=ev.size;have s1:=ab.size;have s2:=hb2.size;have lt1:=h1.a.ax.lt;have lt2:=h2.a.ax.lt;have e1:AxF w1 (some (w.heap.size+1)) (eB ids dead):=⟨hle _,by omega,fun y hy=>hf y (p4 y hy),p1,.inl ⟨_,_,_,h1.a⟩⟩
 have e2:AxF w2 (some w1.heap.size) (eB jds dead):=⟨hle _,by omega,fun y hy=>hg y (q4 y hy),q1,.inl ⟨_,_,_,h2.a⟩⟩
 have g1:AxQ w1 (some m1) (eB ids dead):=⟨hle _,by omega,fun y hy=>hf y (p4 y hy),p1,_,_,_,h1.r⟩
 have g2:AxQ w2 (some m2) (eB jds dead):=⟨hle _,by omega,fun y hy=>hg y (q4 y hy),q1,_,_,_,h2.r⟩
 refine⟨e1.next hb2,e2,g1.next hb2,g2,fun b hb hc=>?_,fun b hb=>?_,(ev.trans (ab.mono s0)).trans (hb2.mono (by omega))⟩
 ·injection hb with hb;injection hc with hc;omega
 simp at hb;omega
theorem made_any(A B D:Option Addr)(ca cb cd:Nat)(ids jds dead:List IdR)(w:World)(hA:eA w A ids)(hB:eA w B jds)(hD:eA w D dead)(hn:ids.length<=300)(hm:jds.length<=300)(hd:dead.length<=300)(hf:∀ y∈ids,y.fits)(hg:∀ y∈jds,y.fits) :
  Calls Tryz.prog 12 #[axesV A B D ids.length jds.length dead.length ca cb cd] w fun e w'=>∃ r c m1 m2,e=.returned (.tuple #[vP r 0,vP c 0,vP m1 0,vP m2 0])/\Made w (eB ids dead) (eB jds dead) (some r) (some c) (some m1) (some m2) w':=by
 obtain⟨W0,aj⟩:=zD (w.alloc (.cells #[.slice A ids.length ca,.slice B jds.length cb,.slice D dead.length cd] 37))
 have ak:=zh aj;have pf:Hid (W0.heap.size=w.heap.size+1):=zh (by rw[aj,World.size_alloc]);have aq:=zA aj;have HL:Lies W0 w.heap.size 37 #[.slice A ids.length ca,.slice B jds.length cb,.slice D dead.length cd]:=by rw[aj];exact Lies.new w _ _
 have HC:Hid (∀ W,Below W0.heap.size W0 W->W.cell? ⟨w.heap.size,0,none⟩=some (.slice A ids.length ca)/\W.cell? ⟨w.heap.size,1,none⟩=some (.slice B jds.length cb)/\W.cell? ⟨w.heap.size,2,none⟩=some (.slice D dead.length cd)):=zh (fun W hb=>⟨(HL.next hb).cell 0,(HL.next hb).cell 1,(HL.next hb).cell 2⟩);have C1:=zh (tN A D ca cd ids dead W0 (cZ hA aq.out) (cZ hD aq.out) hn hd hf);have C2:Hid (∀ w1,Below W0.heap.size W0 w1->_):=zh (fun w1 (hb:Below W0.heap.size W0 w1)=>tN B D cb cd jds dead w1 (cZ hB (zU aq.out hb)) (cZ hD (zU aq.out hb)) hm hd hg)
 have HM:Hid (∀ (w1 w2:World) (m1 c1 b1 m2 c2 b2:Nat) (v1 v2 u1 u2 x1 x2 z1 z2:Value),TwoAx W0 W0.heap.size m1 c1 b1 (bD ids) (dK (bD ids) dead) v1 v2 u1 u2 w1->TwoAx w1 w1.heap.size m2 c2 b2 (bD jds) (dK (bD jds) dead) x1 x2 z1 z2 w2->Made w (eB ids dead) (eB jds dead) (some (w.heap.size+1)) (some w1.heap.size) (some m1) (some m2) w2) :=
  zh (fun _ _ _ _ _ _ _ _ _ _ _ _ _ _ _ _ h1 h2=>made_of hn hm hf hg ⟨W0,pf.out,aq.out,h1⟩ h2)
 have X0:=HC.out W0 zB;obtain⟨x0,x1,x2⟩:=X0;clear aj hA hB hD hn hm hd hf hg HL;generalize eB ids dead=R at *;generalize eB jds dead=C at *
 go_in
 go_upto_region 1 with fail
 rw[<- ak.out];clear ak
 go_wp2_with (first
  |((with_reducible refine C1.out.mono ?_);rintro e w1 ⟨m1,c1,b1,v1,v2,u1,u2,rfl,h1⟩;have H1:=zh h1;obtain⟨y0,y1,y2⟩:=HC.out _ h1.b;clear x0 x1 x2 h1)
  |((with_reducible refine(C2.out _ H1.out.b).mono ?_);rintro e w2 ⟨m2,c2,b2,z1,z2,z3,z4,rfl,h2⟩;have H2:=zh (HM.out _ _ _ _ _ _ _ _ _ _ _ _ _ _ _ _ H1.out h2);clear h2))
 (try simp only[Exit.inBlock,Exit.then])
 refine yt (v:=.tuple #[vP W0.heap.size 0,vP w1.heap.size 0,vP m1 0,vP m2 0]) (by simp[results,Tryz.results12,go_sem]) rfl ?_;exact⟨_,_,_,_,by first|rfl |(rw[pf.out]),H2.out⟩
mutual
theorem uDM{N:Nat}:∀ {d:Nat} {t:Tree},t.ok N->eX d t=false->t.ok 300
 |0,_,_,h=>by cases h
 |d+1,.mk h l,ho,hv=>by
  rw[Tree.ok]at ho ⊢;unfold eX at hv;simp only[Tree.h,Tree.l,Bool.or_eq_false_iff]at hv;obtain⟨⟨a1,a2,a3,a4,a5,a6⟩,hl⟩:=ho;exact⟨⟨a1,a2,a3,a4,Nat.le_of_not_lt (of_decide_eq_false hv.1.2),Nat.le_of_not_lt (of_decide_eq_false hv.1.1.2)⟩,xF hl hv.2⟩
theorem xF{N:Nat}:∀ {d:Nat} {l:List Tree},okL N l->l.any (eX d)=false->okL 300 l
 |_,[],_,_=>trivial
 |d,t::r,ho,hv=>by
  rw[okL]at ho ⊢;rw[List.any_cons,Bool.or_eq_false_iff]at hv;exact⟨uDM ho.1 hv.1,xF ho.2 hv.2⟩
end
mutual
theorem Tree.ok.fine:∀ {t:Tree},t.ok 300->t.fine
 | .mk h l,ho=>by
  rw[Tree.ok]at ho;rw[Tree.fine];obtain⟨⟨a1,a2,a3,a4,a5,a6⟩,hl⟩:=ho;exact⟨⟨a1,a2,by omega,by omega⟩,xE hl⟩
theorem xE:∀ {l:List Tree},okL 300 l->uCZ l
 | [],_=>trivial
 |t::r,ho=>by
  rw[okL]at ho;exact⟨Tree.ok.fine ho.1,xE ho.2⟩
end
theorem great_no{t:Tree}{N:Nat}(ho:t.ok N)(h:iU t=false):t.ok 300/\t.fine/\t.size<=400:=by
 unfold iU at h;rw[Bool.or_eq_false_iff,decide_eq_false_iff_not,Nat.not_lt]at h;have h1:=uDM ho h.1;exact⟨h1,h1.fine,h.2⟩
structure LawW(w:World)(b:Nat)(t:Tree)(Cn:List Value)(R C:AxV)(rp cp p q:Option Nat)(W:World):Prop where
 box:∃ cs,Lies W b 34 cs
 row:W.rangeAt b 0 Cn
 tree:TreeP (fun g=>g∉rp.toList++cp.toList) W t Cn.toArray
 r:AxF W rp R
 c:AxF W cp C
 p:AxQ W p R
 q:AxQ W q C
 ne:∀ b,rp=some b->cp≠some b
 lo:∀ b∈rp.toList++cp.toList,w.heap.size<=b/\b<W.heap.size/\iD b
 gl:Gl W
 bel:Below w.heap.size w W
theorem hH{W W':World}{b o:Nat}{cs:List Value}(h:W.rangeAt b o cs)(hk:W'.heap[b]?=W.heap[b]?):W'.rangeAt b o cs:=fun j v hv=>(World.cell?_of_block (w:=W) (a:=⟨b,o+j,none⟩) hk).trans (h j v hv)
theorem LawW.next{w:World}{b:Nat}{t:Tree}{Cn:List Value}{R C:AxV}{rp cp p q:Option Nat}{W W':World}(h:LawW w b t Cn R C rp cp p q W)(hb:Below W.heap.size W W'):LawW w b t Cn R C rp cp p q W':=by
 obtain⟨cs,hc⟩:=h.box;have hs:=hb.size;exact⟨⟨cs,hc.next hb⟩,hH h.row (hb.block _ hc.lt),h.tree.box hb,h.r.next hb,h.c.next hb,h.p.next hb,h.q.next hb,h.ne,fun x hx=>⟨(h.lo x hx).1,by have:=(h.lo x hx).2.1;omega,(h.lo x hx).2.2⟩,h.gl.next hb,h.bel.trans (hb.mono h.bel.size)⟩
theorem LawW.kp{w:World}{b:Nat}{t:Tree}{Cn:List Value}{R C:AxV}{rp cp p q:Option Nat}{W W':World}(h:LawW w b t Cn R C rp cp p q W)(hk:Kp (rp.toList++cp.toList) W W')(hr:AxF W' rp R)(hc:AxF W' cp C)(hg:Gl W'):LawW w b t Cn R C rp cp p q W':=by
 obtain⟨cs,hl⟩:=h.box;have hA:=wL h.r h.c;have hs:=hk.size;have hb:b∉rp.toList++cp.toList:=hA.lies hl (by decide);refine⟨⟨cs,hk.lies hl hb⟩,hH h.row (hk.block _ hl.lt hb),?_,hr,hc,h.p.kp hk hA,h.q.kp hk hA,h.ne,fun x hx=>⟨(h.lo x hx).1,by have:=(h.lo x hx).2.1;omega,(h.lo x hx).2.2⟩,hg,h.bel.trans (hk.below (fun k ft=>(h.lo k ft).1) h.bel.size)⟩;have h1:TreeP (fun g=>g<W.heap.size/\g∉rp.toList++cp.toList) W t Cn.toArray:=h.tree.imp (fun g h1 h2=>⟨h2,h1⟩);exact(h1.keep ⟨hs,fun g hg=>hk.block g hg.1 hg.2⟩).imp (fun g h1 _=>h1.2)
theorem LawW.of_made{w w1 W:World}{b:Nat}{t:Tree}{Cn:List Value}{R C:AxV}{rp cp p q:Option Nat}(hM:Made w1 R C rp cp p q W)(hb:Below w.heap.size w w1)(hg:Gl w1)(hl:∃ cs,Lies w1 b 34 cs)(hr:w1.rangeAt b 0 Cn)(hP:TreeP kV w1 t Cn.toArray):LawW w b t Cn R C rp cp p q W:=by
 obtain⟨cs,hc⟩:=hl;have hs:=hb.size;refine⟨⟨cs,hc.next hM.b⟩,hH hr (hM.b.block _ hc.lt),?_,hM.r,hM.c,hM.p,hM.q,hM.ne,fun x hx=>⟨by have:=(hM.lo x hx).1;omega,(hM.lo x hx).2,hg.low (hM.lo x hx).1⟩,hg.next hM.b,hb.trans (hM.b.mono hs)⟩;have h1:TreeP (fun g=>g<w1.heap.size) w1 t Cn.toArray:=hP.imp (fun g _ h2=>h2);exact(h1.keep ⟨hM.b.size,fun g hg=>hM.b.block g hg⟩).imp (fun g h1 _ hm=>by have:=(hM.lo g hm).1;omega)
theorem LawW.any{w:World}{b:Nat}{t:Tree}{Cn:List Value}{R C:AxV}{rp cp p q:Option Nat}{W:World}(h:LawW w b t Cn R C rp cp p q W):TreeP kV W t Cn.toArray:=h.tree.imp (fun _ _ _=>trivial)
abbrev strV(s:Bs):Value:=vT s
abbrev vL(t:Tree)(n1 n2 n3:Nat):Bool:=iU t||decide (60<n1)||decide (60<n2)||decide (60<n3)
theorem uEI{t:Tree}{N n1 n2 n3:Nat}(ho:t.ok N)(h:vL t n1 n2 n3=false):t.ok 300/\t.fine/\t.size<=400/\n1<=60/\n2<=60/\n3<=60:=by
 simp only[vL,Bool.or_eq_false_iff]at h;obtain⟨⟨⟨h0,h1⟩,h2⟩,h3⟩:=h;obtain⟨a,b,c⟩:=great_no ho h0;exact⟨a,b,c,Nat.le_of_not_lt (of_decide_eq_false h1),Nat.le_of_not_lt (of_decide_eq_false h2),Nat.le_of_not_lt (of_decide_eq_false h3)⟩
end Go.Proofs.YtjfihpaeglpblaaGreatDoor
