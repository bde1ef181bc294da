/-
  Lemmas, part 24: PaU PaX RlF RlG RlH.
-/
import Derived.Test.YtmgjidnalpgegaaGreatDoorPr23
set_option maxHeartbeats 100000000
namespace Go.Proofs.YtmgjidnalpgegaaGreatDoor
open Go.RowKit
theorem kQ{fn:Func}{p u v:Tmp}{tmps:Array Value}{w:World}{g:Nat}{cs:Array Value}(h:fn.results=#[.cell p 41,.tmp u,.tmp v])(hp:tmps.getD p undef=.pointer (some ⟨g,0,none⟩))(hl:Lies w g 41 cs)(fz:cs.size=22) :
  (results fn tmps).run Tryz.prog w=.ok (.tuple #[.agg cs,tmps.getD u undef,tmps.getD v undef]) w:=by
 have hr:=run_loadVar_row (P:=Tryz.prog) w g 41 41 cs _ _ hl Tryz.underlying41 rfl (by rw[fz];exact aF);have h2:(results fn tmps).run Tryz.prog w=((asAddr (tmps.getD p undef)).run Tryz.prog w).andThen fun a w₁=>((loadVar 41 a).run Tryz.prog w₁).andThen fun x w₂=>.ok (.tuple #[x,tmps.getD u undef,tmps.getD v undef]) w₂:=by
  simp only[results,h];simp[Sem.run_bind,Result.andThen]
 rw[h2,hp];simp only[asAddr,Sem.run_pure,Result.andThen_ok,hr]
theorem uX(ts:List Tok)(j:Nat)(h:j<ts.length):(dZ ts)[j*3]?=some (.int .i64 ts[j].kind)/\(dZ ts)[j*3+1]?=some (.string ⟨ts[j].text.toArray⟩)/\(dZ ts)[j*3+2]?=some (.int .i64 ts[j].place):=by
 induction ts generalizing j with
 |nil=>simp at h
 |cons t ts ih=>
  have e:dZ (t::ts)=eU t++dZ ts:=by simp[dZ]
  have hl:(eU t).length=3:=rfl;cases j with
  |zero=>rw[e];exact⟨rfl,rfl,rfl⟩
  |succ j=>
   have:=ih j (by simpa using h);rw[e];rw[List.getElem?_append_right (by omega),List.getElem?_append_right (by omega),List.getElem?_append_right (by omega),hl];rw[show (j+1)*3-3=j*3 by omega,show (j+1)*3+1-3=j*3+1 by omega,show (j+1)*3+2-3=j*3+2 by omega];simpa using this
theorem toks_in{w:World}{base:Nat}{e:TypeId}{v:Value}{n:Nat}{ts:List Tok}(hn:n=ts.length)(h0:0<n)(h:w.ownsRow base e 3 v n (dZ ts)):∃ g cap,v=.slice (some ⟨g,0,none⟩) ts.length cap/\base<=g/\TokIn w g ts:=by
 subst hn;obtain⟨g,cap,rfl,hb,hlt⟩:=h.form h0;refine⟨g,cap,rfl,hb,hlt,fun j hj=>?_⟩;have hc:=h.cells (g:=g) rfl;obtain⟨h1,h2,h3⟩:=uX ts j hj;have k1:=hc _ _ h1;have k2:=hc _ _ h2;have k3:=hc _ _ h3;rw[Addr.add_mid,Nat.zero_add]at k1 k2 k3;exact⟨k1,k2,k3⟩
theorem lex_len2(s:Bs)(ts:List Tok)(h:mX s=.ok ts):ts.length<=s.length:=xM _ _ _ _ h
def oA:Except (Nat×Nat) Tree->Tree
 | .ok t=>t
 | .error _=>uH
def resP:Except (Nat×Nat) Tree->Nat
 | .ok _=>0
 | .error x=>x.2
def resE:Except (Nat×Nat) Tree->Nat
 | .ok _=>0
 | .error x=>x.1
def FPost(ax:Ax)(pa pb:Option Nat)(w:World)(r:Except (Nat×Nat) Tree)(e:Ending)(w':World):Prop :=
 AxIn w' pa ax.rows/\AxIn w' pb ax.cols/\Kp (pa.toList++pb.toList) w w'/\(∀ t,r=.ok t->t.right 6=true/\t.size<=256) /\
  ∃ A cp,e=.returned (.tuple #[dA (oA r).h A (oA r).l.length cp,.int .i64 (resP r:Nat),.int .i64 (resE r:Nat)])/\KidsOk w' (List.range w.heap.size) A (oA r).l
theorem dM{W W':World}{p:Option Nat}{l:List IdR}(h:AxIn W p l)(hb:Below W.heap.size W W'):AxIn W' p l:=h.kp (Y:=[]) (Kp.of_below hb) (fun y hy=>by cases hy)
theorem kH{ax:Ax}{pa pb:Option Nat}{w w':World}{x:Nat×Nat}(h1:AxIn w' pa ax.rows)(h2:AxIn w' pb ax.cols)(h3:Kp (pa.toList++pb.toList) w w'):FPost ax pa pb w (.error x) (.returned (.tuple #[.agg aA.toArray,.int .i64 (x.2:Nat),.int .i64 (x.1:Nat)])) w' :=
 ⟨h1,h2,h3,fun t e=>(by cases e),none,0,rfl,.inl rfl⟩
theorem jV{p:Option Nat}{x:Nat}(h:x∈p.toList):p=some x:=by
 cases p with
 |none=>cases h
 |some b=>rw[yf.1 (by simpa using h:x∈[b])]
theorem KidsOk.anti{W:World}{X Y:List Nat}(hs:∀ y∈Y,y<W.heap.size->y∈X){A:Option Addr}{l:List Tree}(h:KidsOk W X A l):KidsOk W Y A l:=by
 rcases h with h|⟨g,hA,hx,hg,hk⟩
 ·exact .inl h
 exact .inr ⟨g,hA,fun hm=>hx (hs g hm hg),hg,KidsAt.anti hs hk⟩
theorem dI{W W':World}(h:Kp [] W W'):Below W.heap.size W W':=h.below (fun k hk=>by cases hk) zr
theorem yJ{W:World}{p:Option Nat}{l:List IdR}{q:Nat}{C0:Array Value}{C:List Value}(h:AxIn W p l)(hl:Lies W q 41 C0)(hp:p≠some q):AxIn (W.setCells q 0 C) p l :=
 h.kp (Y:=[q]) (aT (.inl (.head _)) C 0 (Kp.refl _ _)) (fun y hy=>by rw[yf.1 hy];exact⟨fun e=>hp e.symm,_,_,hl,by decide,by decide⟩)
structure FSt(ax:Ax)(pa pb:Option Nat)(w:World)(q:Nat)(C:Array Value)(W:World):Prop where
 a:AxIn W pa ax.rows
 b:AxIn W pb ax.cols
 box:Lies W q 41 C
 kp:Kp (pa.toList++pb.toList) w W
theorem FSt.put{ax:Ax}{pa pb:Option Nat}{w W:World}{q:Nat}{C0:Array Value}(h:FSt ax pa pb w q C0 W)(C:List Value)(hC:C.length=C0.size)(ha:pa≠some q)(hb:pb≠some q)(hq:w.heap.size<=q):FSt ax pa pb w q C.toArray (W.setCells q 0 C) :=
 ⟨yJ h.a h.box ha,yJ h.b h.box hb,h.box.putAll hC,aT (.inr hq) C 0 h.kp⟩
theorem FSt.next{ax:Ax}{pa pb:Option Nat}{w W W':World}{q:Nat}{C:Array Value}(h:FSt ax pa pb w q C W)(hb:Below W.heap.size W W'):FSt ax pa pb w q C W' :=
 ⟨dM h.a hb,dM h.b hb,h.box.next hb,h.kp.trans (Kp.of_below hb)⟩
structure AxB(pa pb:Option Nat)(lo:Nat):Prop where
 tb:0<lo
 a:∀ b,pa=some b->lo<=b
 b:∀ b,pb=some b->lo<=b
 ne:∀ b,pa=some b->pb≠some b
set_option maxRecDepth 100000 in
theorem mA(ax:Ax)(ha:lO ax)(pa pb:Option Nat)(lo:Nat)(s:Bs)(w:World)(hs:s.length<=50000)(hT:Tab w)(har:AxIn w pa ax.rows)(hac:AxIn w pb ax.cols)(hlo:lo<=w.heap.size)(hB:AxB pa pb lo) :
  Calls Tryz.prog 11 #[.string ⟨s.toArray⟩,.pointer (ptr pa),.pointer (ptr pb)] w (FPost ax pa pb w (bI ax s)):=by
 obtain⟨W1,bt⟩:∃ W1,W1=w.alloc (.cells aA.toArray 41):=⟨_,rfl⟩
 have af:Below w.heap.size w W1:=by rw[bt];exact(zp _)
 have kj:Hid (Lies W1 w.heap.size 41 aA.toArray):=zh (by rw[bt];exact Lies.new _ _ _);have i9:=zh (dM har af);have fa:=zh (dM hac af);have s4:=zh (hT.next af);have dy:=zh af;have bu:=zh bt;have HBX:Hid ((∀ b,pa=some b->b<w.heap.size)/\(∀ b,pb=some b->b<w.heap.size)):=zh ⟨fun b e=>by obtain⟨cs,hc⟩:=har.box b e;exact hc.lt,fun b e=>by obtain⟨cs,hc⟩:=hac.box b e;exact hc.lt⟩;have HPA:Hid (pa≠some w.heap.size):=zh (fun e=>by have:=HBX.out.1 _ e;omega);have HPB:Hid (pb≠some w.heap.size):=zh (fun e=>by have:=HBX.out.2 _ e;omega);have HLO:Hid (lo<=w.heap.size):=zh hlo;have rh:=zh hB;have HAx:=zh ha;have HS:=zh hs;have CL:=zh (lex_any s W1 (by omega) (hT.next af));obtain⟨O,hO⟩:∃ O,bI ax s=O:=⟨_,rfl⟩
 rw[hO];have HO:=zh hO;clear bt af har hac hT hlo hB ha hs hO
 go_enter Tryz.func11,Tryz.ntmps11
 go_upto_region 1 with fail
 rw[<- bu.out];generalize hq:w.heap.size=q at *;clear bu
 go_wp2_with fail
 refine CL.out.mono ?_;cases hl:mX s with
 |error k=>
  rintro e W2 ⟨rfl,ay⟩;have gm:Hid (O=.error (7,k)):=zh (by rw[<- HO.out];unfold bI;rw[hl]);have jt:=zh (kj.out.next ay);have cq:=zh (dy.out.trans (ay.mono (by have:=dy.out.size;omega)));have bv:=zh (dM i9.out ay);have HC2:=zh (dM fa.out ay);clear ay CL HO kj i9 fa s4;have HFS:Hid (FSt ax pa pb w q aA.toArray W2):=zh ⟨bv.out,HC2.out,jt.out,Kp.of_below (by rw[hq];exact cq.out)⟩;clear jt cq bv HC2;have HT:=zh HFS.out.box.thereA;have ag:=zh (HFS.out.put aA rfl HPA.out HPB.out (Nat.le_of_eq hq))
  go_wp2_with (first |(refine yq rfl 41 (.tmp 6) (.tmp 24) rfl q 0 aA.toArray rfl rfl HT.out aF aW ?_;change wpList _ _ _ _ _ (World.setCells _ q 0 aA);generalize World.setCells _ _ _ _=wz at ag ⊢))
  refine yt (kQ rfl rfl ag.out.box rfl) rfl ?_;rw[gm.out];exact kH ag.out.a ag.out.b ag.out.kp
 |ok ts=>
  rintro e W2 ⟨v,rfl,aj,ay⟩;obtain⟨g,cap,rfl,nk,zt⟩:=toks_in (by simp) (by omega) aj;have HFS2:Hid (FSt ax pa pb w q aA.toArray W2):=zh ⟨dM i9.out ay,dM fa.out ay,kj.out.next ay,Kp.of_below (by rw[hq];exact dy.out.trans (ay.mono (by have:=dy.out.size;omega)))⟩;have HT2:=zh (s4.out.next ay);have HG:Hid (g<W2.heap.size/\TokIn W2 g (ts++[cJ s.length])/\W1.heap.size<=g):=zh ⟨zt.1,zt,nk⟩;have dt:q<W1.heap.size:=kj.out.lt;have qw:=ay.size;have CS:=zh (uBI W2);clear aj ay nk zt CL kj i9 fa s4 dy
  go_wp2_with fail
  refine CS.out.mono ?_;rintro e W3 ⟨rfl,lp,b9⟩;obtain⟨E,hE⟩:∃ E:Env,E=⟨W3.heap.size,g,cap,ts++[cJ s.length],pa,pb,W2.heap.size,ax,lo⟩:=⟨_,rfl⟩
  obtain⟨W4,hW4⟩:∃ W4,W4=W3.alloc (.cells (rdC E 0 0 0 0 0) 66):=⟨_,rfl⟩
  have lx:Below W3.heap.size W3 W4:=by rw[hW4];exact(zp _)
  have sh:Below W2.heap.size W2 W4:=b9.trans (lx.mono b9.size);have nu:(∀ b,pa=some b->b<q)/\(∀ b,pb=some b->b<q):=HBX.out;have hs3:=b9.size;have HEok:Hid E.ok:=zh (by
   rw[hE];refine⟨?_,?_,?_,rh.out.tb,?_,?_,rh.out.ne⟩
   ·intro hm;have hg:=HG.out;rcases ym.1 hm with hm|hm
    ·have:g=W3.heap.size:=hm;omega
    rcases List.mem_append.1 hm with hm|hm
    ·have:=nu.1 g (jV hm);omega
    have:=nu.2 g (jV hm);omega
   ·intro i hi hm;have jw:=lp.lt i hi;rcases ym.1 hm with hm|hm
    ·have:W2.heap.size+i=W3.heap.size:=hm;omega
    rcases List.mem_append.1 hm with hm|hm
    ·have:=nu.1 (W2.heap.size+i) (jV hm);omega
    have:=nu.2 (W2.heap.size+i) (jV hm);omega
   ·intro x hm;rcases ym.1 hm with hm|hm
    ·have h0:x=W3.heap.size:=hm;have:=HLO.out;show lo<=x;omega
    rcases List.mem_append.1 hm with hm|hm
    ·exact rh.out.a x (jV hm)
    exact rh.out.b x (jV hm)
   ·intro b hb;have:=nu.1 b hb;show b≠W3.heap.size;omega
   intro b hb;have:=nu.2 b hb;show b≠W3.heap.size;omega)
  have kz:Hid (InE E 0 0 0 0 0 W4):=zh (by
   have e1:E.r=W3.heap.size:=by rw[hE]
   refine⟨by rw[e1,hW4];exact Lies.new _ _ _,?_,?_,?_,?_,HT2.out.next sh,?_⟩
   ·rw[hE];exact TokIn.kp (Y:=[]) HG.out.2.1 (Kp.of_below sh) (by simp)
   ·rw[hE];exact dM HFS2.out.a sh
   ·rw[hE];exact dM HFS2.out.b sh
   ·rw[hE];exact SgIn.kp (Y:=[]) lp (Kp.of_below lx) (fun _ _=>by simp)
   rw[hE];have:=HLO.out;have:=lx.size;show lo<=W4.heap.size;omega)
  have hL:E.L=ts++[cJ s.length]:=by rw[hE]
  have kn:=oQ s ts hl;have htx:=text_le2 s ts hl;have ta:E.ends:=by
   refine⟨by rw[hL];simp,fun k hk=>?_⟩;unfold Env.at;rw[hL]at hk ⊢;rw[show hd ((ts++[cJ s.length]).drop k)=(ts++[cJ s.length])[k]'hk from by unfold hd;rw[yx hk];rfl];simp only[yl,List.length_singleton]at hk ⊢;by_cases hkt:k<ts.length
   ·rw[List.getElem_append_left hkt];have:=(kn.1 _ (List.getElem_mem hkt)).k0;exact⟨fun h=>absurd h this,fun h=>by omega⟩
   rw[List.getElem_append_right (by omega)];have h0:k-ts.length=0:=by omega
   simp only[h0,List.getElem_cons_zero];exact⟨fun _=>by omega,fun _=>rfl⟩
  have xu:E.short:=by
   intro k;by_cases hk:k<E.L.length
   ·rw[E.at_lt hk];have hm:E.L[k]∈ts++[cJ s.length]:=by rw[<- hL];exact List.getElem_mem hk
    rcases List.mem_append.1 hm with hm|hm
    ·have:=htx _ hm;have:=HS.out;omega
    rw[yf.1 hm];exact zm _
   unfold Env.at hd;rw[List.drop_of_length_le (by omega)];exact zm _
  have hLen:E.L.length<=1000000:=by rw[hL];have:=lex_len2 s ts hl;have:=HS.out;simp;omega
  have HEL:=zh hL;have CW:=zh (uBT E HEok.out ta hLen xu chkLeaf 64 0 rfl 0 0 0 0 W4 kz.out ta.1 zr);have ot:Hid (E.ax=ax/\E.r=W3.heap.size/\E.pa=pa/\E.pb=pb):=zh (by rw[hE];exact⟨rfl,rfl,rfl,rfl⟩);have HFin:Hid (∀ t rest c,gB 65 ax 0 (ts++[cJ s.length]) 0=.ok t rest c->c=t.size/\t.right 6=true):=zh (fun t rest c h=>uM HAx.out (zS hl) h);have HFS4:=zh (HFS2.out.next sh);have gm:Hid (O=eR ax (ts++[cJ s.length])):=zh (by rw[<- HO.out];unfold bI;rw[hl]);have la:q<W4.heap.size:=by have:=sh.size;omega
  have zu:q≠E.r:=by rw[ot.out.2.1];omega
  have HXF:Hid (∀ W k op nd pl er,Kp E.X W4 W->InE E k op nd pl er W->FSt ax pa pb w q aA.toArray W):=zh (fun W k op nd pl er hk hi=>by
   have hX:E.X=E.r::(pa.toList++pb.toList):=by unfold Env.X;rw[ot.out.2.2.1,ot.out.2.2.2]
   have h1:=hi.ar;have h2:=hi.ac;rw[ot.out.2.2.1,ot.out.1]at h1;rw[ot.out.2.2.2,ot.out.1]at h2;refine⟨h1,h2,hk.lies HFS4.out.box (fun hm=>?_),HFS4.out.kp.andThen hk (fun g hg=>?_)⟩
   ·rw[hX]at hm;rcases ym.1 hm with hm|hm
    ·exact zu hm
    rcases List.mem_append.1 hm with hm|hm
    ·exact HPA.out (jV hm)
    exact HPB.out (jV hm)
   rw[hX]at hg;rcases ym.1 hg with hg|hg
   ·right;rw[hg,ot.out.2.1];omega
   exact .inl hg)
  rw[List.drop_zero,ot.out.1,HEL.out]at CW;have hrdc:rdC E 0 0 0 0 0=#[.slice (some ⟨g,0,none⟩) (ts.length+1) cap,.int .i64 0,.int .i64 0,.int .i64 0,.pointer (ptr pa),.pointer (ptr pb),.map (some W2.heap.size),.int .i64 0,.int .i64 0]:=by rw[show ts.length+1=(ts++[cJ s.length]).length by simp];subst hE;rfl
  rw[hrdc]at hW4;have HW4:=zh hW4;have hr3:W3.heap.size=E.r:=ot.out.2.1.symm;have tf:=zh hLen;have HWs:Hid (w.heap.size<=W3.heap.size):=zh (by omega);clear hE hrdc hW4 hL kn htx xu hLen lp b9 lx sh CS HFS2 HT2 HG HO qw hs3 nu dt
  go_upto_region 5 with fail
  rw[<- HW4.out];clear HW4 hr3;have HEE:=zh ta;clear ta
  go_wp2_with fail
  refine CW.out.mono ?_;obtain⟨R,hR⟩:∃ R,gB 65 ax 0 (ts++[cJ s.length]) 0=R:=⟨_,rfl⟩
  rw[hR];have HR:=zh hR;clear hR CW;cases R with
  |bad er' p=>
   rintro e W5 ⟨cs,k',op',nd',rfl,g1,g2,g3,g4,g5,g6,g7⟩;obtain⟨C,rfl⟩:∃ C:List Value,cs=C.toArray:=⟨cs.toList,by simp⟩
   have yC:Hid (C.length=22):=zh (by rwa [yd]at g1);have yo:=zh g2;have zi:=fo yC.out;have hkx:Kp E.X W4 W5:=g7;have nj:Hid (FSt ax pa pb w q aA.toArray W5/\InE E k' op' nd' p er' W5):=zh ⟨HXF.out W5 _ _ _ _ _ hkx g6,g6⟩;have HX9:Hid (∀ Wz,Below W5.heap.size W5 Wz->FSt ax pa pb w q aA.toArray Wz/\Lies Wz E.r 66 (rdC E k' op' nd' p er')):=zh (fun Wz hk=>⟨nj.out.1.next hk,(nj.out.2.next hk).rd⟩);have ou:Hid (Below W5.heap.size W5 (World.setCells (W5.alloc (.cells aA.toArray 41)) W5.heap.size 0 C)):=zh (dI (aT (.inr zr) C 0 ((Kp.refl _ _).alloc _)));have HT:Hid (World.there (W5.alloc (.cells aA.toArray 41)) W5.heap.size 0 C.toArray.size):=zh (by have:=(Lies.new W5 41 aA.toArray).thereA;have h0:C.toArray.size=22:=(by rw[yd,yC.out]);rw[h0];exact this)
   have im:Hid (O=.error (er',p)):=zh (by rw[gm.out];unfold eR;rw[HR.out]);simp only[aA]at ou;clear g1 g2 g3 g4 g5 g6 g7 hkx nj gm HR
   go_wp2_with (first |(refine yq rfl 41 (.tmp 13) (.tmp 36) rfl W5.heap.size 0 C.toArray rfl rfl HT.out zi yo.out ?_;change wpList _ _ _ _ _ (World.setCells _ W5.heap.size 0 C);generalize World.setCells _ _ _ _=wz at ou ⊢))
   obtain⟨P0,j4⟩:∃ R:World->Prop,∀ w',R w'↔(FSt ax pa pb w q aA.toArray w'/\Lies w' E.r 66 (rdC E k' op' nd' p er')):=⟨_,fun _=>Iff.rfl⟩
   have ev:=zh j4;clear j4;obtain⟨P1,nh⟩:∃ R:World->Prop,∀ w',R w'↔(FSt ax pa pb w q aA.toArray w'/\Lies w' E.r 66 (rdC E k' op' nd' p er')):=⟨_,fun _=>Iff.rfl⟩
   have j5:=zh nh;clear nh;have HQ:=zh hq;clear hq;obtain⟨TT,ae⟩:∃ TT:List (Nat×Nat×Value),TT=[(0,49,.agg aA.toArray),(1,50,.pointer (some ⟨E.r,0,none⟩)),(2,51,.pointer (some ⟨E.r,0,none⟩)),(3,52,.pointer (some ⟨E.r,7,none⟩)),(4,53,.int .i64 (p:Nat)),(5,54,.pointer (some ⟨E.r,0,none⟩)),(6,55,.pointer (some ⟨E.r,0,none⟩)),(7,56,.pointer (some ⟨E.r,8,none⟩)),(8,57,.int .i64 (er':Nat)),(10,7,.int .i64 (p:Nat)),(11,8,.int .i64 (er':Nat))]:=⟨_,rfl⟩
   have am:=zh ae;clear ae;refine bC (fun a0=>71<=a0.tmps.size/\a0.eval (.tmp 6)=.pointer (some ⟨q,0,none⟩)/\a0.eval (.tmp 12)=.pointer (some ⟨E.r,0,none⟩)) [49,50,51,52,53,54,55,56,57,7,8] TT [(9,P1)] P0 (by kernel_rfl) (by kernel_rfl) ⟨by simp,rfl,rfl⟩ ((ev.out _).2 (HX9.out _ ou.out.drew)) ?_ ?_
   ·rintro a0 ⟨hs,mu,hq12⟩ zl a1 w1 zj o bg hI aa ho zd;have ae:=am.out;subst ae;have hk:okU (([(0,49,.agg aA.toArray),(1,50,.pointer (some ⟨E.r,0,none⟩)),(2,51,.pointer (some ⟨E.r,0,none⟩)),(3,52,.pointer (some ⟨E.r,7,none⟩)),(4,53,.int .i64 (p:Nat)),(5,54,.pointer (some ⟨E.r,0,none⟩)),(6,55,.pointer (some ⟨E.r,0,none⟩)),(7,56,.pointer (some ⟨E.r,8,none⟩)),(8,57,.int .i64 (er':Nat)),(10,7,.int .i64 (p:Nat)),(11,8,.int .i64 (er':Nat))]:List (Nat×Nat×Value)).map fun e=>(e.1,e.2.1)) [49,50,51,52,53,54,55,56,57,7,8] 71=true:=by rfl
    have hj:=Up.of_false aa;have hj12:zj<12:=by rw[bg]at hj;exact hj
    have e6x:a1.eval (.tmp 6)=.pointer (some ⟨q,0,none⟩):=(hI.off.eval (by decide)).trans mu;have e12x:a1.eval (.tmp 12)=.pointer (some ⟨E.r,0,none⟩):=(hI.off.eval (by decide)).trans hq12;(iterate 11 rcases zq hj12 with hj12|rfl);obtain rfl:=cz hj12;all_goals obtain rfl:=oi ho
    ·exact aQ hk hI hs (.head _) (by simp) aa ho zd (aC rfl) rfl (by simp[execOp,go_sem,aA])
    ·exact aQ hk hI hs (.tail _ (.head _)) (by simp) aa ho zd (aC rfl) rfl (by simp[execOp,go_sem,aE e12x])
    ·have d1:=ud zd 1;have p1:=pk hI.pt 1 rfl d1;exact aQ hk hI hs (mm 2 rfl) (by simp) aa ho zd (aC rfl) rfl (by simp[execOp,go_sem,aE p1])
    ·have d2:=ud zd 2;have p2:=pk hI.pt 2 rfl d2;exact aQ hk hI hs (mm 3 rfl) (by simp) aa ho zd (aC rfl) rfl (by simp[execOp,go_sem,aE p2])
    ·have d3:=ud zd 3;have p3:=pk hI.pt 3 rfl d3;have hq:w1.cell? ⟨E.r,7,none⟩=some (.int .i64 (p:Nat)):=by
      obtain⟨jj,oo,hP⟩:=hI.low 1 (by simp) (fun m hm=>by cases hm) aa;rcases(by omega:jj=0\/jj=1) with rfl|rfl
      ·have hP:P0 w1:=hP;exact((ev.out _).1 hP).2.cell 7
      have hP:P1 w1:=hP;exact((j5.out _).1 hP).2.cell 7
     exact aQ hk hI hs (mm 4 rfl) (by simp) aa ho zd (aC rfl) rfl (by simp[execOp,go_sem,aE p3,hq])
    ·exact aQ hk hI hs (mm 5 rfl) (by simp) aa ho zd (aC rfl) rfl (by simp[execOp,go_sem,aE e12x])
    ·have d5:=ud zd 5;have p5:=pk hI.pt 5 rfl d5;exact aQ hk hI hs (mm 6 rfl) (by simp) aa ho zd (aC rfl) rfl (by simp[execOp,go_sem,aE p5])
    ·have d6:=ud zd 6;have p6:=pk hI.pt 6 rfl d6;exact aQ hk hI hs (mm 7 rfl) (by simp) aa ho zd (aC rfl) rfl (by simp[execOp,go_sem,aE p6])
    ·have d7:=ud zd 7;have p7:=pk hI.pt 7 rfl d7;have hq:w1.cell? ⟨E.r,8,none⟩=some (.int .i64 (er':Nat)):=by
      obtain⟨jj,oo,hP⟩:=hI.low 1 (by simp) (fun m hm=>by cases hm) aa;rcases(by omega:jj=0\/jj=1) with rfl|rfl
      ·have hP:P0 w1:=hP;exact((ev.out _).1 hP).2.cell 8
      have hP:P1 w1:=hP;exact((j5.out _).1 hP).2.cell 8
     exact aQ hk hI hs (mm 8 rfl) (by simp) aa ho zd (aC rfl) rfl (by simp[execOp,go_sem,aE p7,hq])
    ·have d0:=ud zd 0;have p0:=pk hI.pt 0 rfl d0;refine kI hI (by simp) (by kernel_rfl) [] [] P1 rfl aa ho zd (aC rfl) rfl (fun hP=>?_);have hP:P0 w1:=hP;have h:=((ev.out _).1 hP).1;have hl:=((ev.out _).1 hP).2;exact⟨w1.setCells q 0 aA,eI 41 (.tmp 6) (.tmp 49) rfl q 0 aA.toArray e6x p0 h.box.thereA aF aW,(j5.out _).2 ⟨h.put aA rfl HPA.out HPB.out (Nat.le_of_eq HQ.out),eV (Ne.symm zu) aA 0 hl⟩⟩
    ·have d4:=ud zd 4;have p4:=pk hI.pt 4 rfl d4;exact aQ hk hI hs (mm 9 rfl) (by simp) aa ho zd (aC rfl) rfl (by simp[execOp,go_sem,aE p4])
    have d8:=ud zd 8;have p8:=pk hI.pt 8 rfl d8;exact aQ hk hI hs (mm 10 rfl) (by simp) aa ho zd (aC rfl) rfl (by simp[execOp,go_sem,aE p8])
   intro zl a1 w1 hI ap;have ae:=am.out;subst ae;have hF:P1 w1:=hI.st.last (fun m hm=>ap m.1 (by simp only[ym,List.not_mem_nil,or_false]at hm;rcases hm with rfl;all_goals simp));have z7:a1.eval (.tmp 7)=.int .i64 (p:Nat):=hI.pt (10,7,.int .i64 (p:Nat)) (mm 9 rfl) (ap 10 (by decide));have z8:a1.eval (.tmp 8)=.int .i64 (er':Nat):=hI.pt (11,8,.int .i64 (er':Nat)) (mm 10 rfl) (ap 11 (by decide));obtain⟨ff,rfl,hf⟩:=hI.off.forms;rw[<- hf 7]at z7;rw[<- hf 8]at z8;clear hI;simp only[List.foldl,Act.put,yz,List.set];rw[z7,z8];have h:=((j5.out _).1 hF).1;simp only[Exit.then]
   go_step
   repeat go_step
   refine yt (kQ rfl rfl h.box rfl) rfl ?_;rw[im.out];exact kH h.a h.b h.kp
  |ok t rest c=>
   rintro e W5 ⟨k',cs,rfl,g1,g2,g3,g4,g5,g6,g7,g8⟩;obtain⟨C,rfl⟩:∃ C:List Value,cs=C.toArray:=⟨cs.toList,by simp⟩
   have yC:Hid (C.length=22):=zh (by have:=g8.1;rwa [yd]at this);have yo:=zh g8.2.1;have zi:=fo yC.out;have gb:(Tryz.prog.info? 41).map (·.size)=some C.length:=by rw[yC.out];exact aF
   have hkx:Kp E.X W4 W5:=g7;have nj:Hid (FSt ax pa pb w q aA.toArray W5/\InE E k' 0 c 0 0 W5):=zh ⟨HXF.out W5 _ _ _ _ _ hkx g6,g6⟩;obtain⟨hct,hrt⟩:=HFin.out t rest c HR.out;have u5:Hid (c=t.size/\t.right 6=true/\c<=1000000/\k'<E.L.length/\rest=E.L.drop k'):=zh ⟨hct,hrt,by have:=tf.out;omega,g2,by rw[g3]⟩;have HNV:=zh g8;have ou:Hid (Below W5.heap.size W5 (World.setCells (W5.alloc (.cells aA.toArray 41)) W5.heap.size 0 C)/\Lies (World.setCells (W5.alloc (.cells aA.toArray 41)) W5.heap.size 0 C) W5.heap.size 41 C.toArray):=zh ⟨dI (aT (.inr zr) C 0 ((Kp.refl _ _).alloc _)),(Lies.new W5 41 aA.toArray).putAll (by rw[yC.out];rfl)⟩;have HT:Hid (World.there (W5.alloc (.cells aA.toArray 41)) W5.heap.size 0 C.toArray.size):=zh (by have:=(Lies.new W5 41 aA.toArray).thereA;have h0:C.toArray.size=22:=(by rw[yd,yC.out]);rw[h0];exact this)
   simp only[aA]at ou;clear g1 g2 g3 g4 g5 g6 g7 g8 hkx hct hrt HFin;obtain⟨tk,htk⟩:∃ tk,E.at k'=tk:=⟨_,rfl⟩
   have HTK:Hid (hd rest=tk):=zh (by rw[<- htk,u5.out.2.2.2.2];rfl)
   go_upto_region 6 with(first |(refine yq rfl 41 (.tmp 13) (.tmp 36) rfl W5.heap.size 0 C.toArray rfl rfl HT.out zi yo.out ?_;change wpList _ _ _ _ _ (World.setCells _ W5.heap.size 0 C);generalize World.setCells _ _ _ _=wz at ou ⊢))
   have HIz:=zh (nj.out.2.next ou.out.1);have CT:=zh (bX E k' 0 c 0 0 wz HIz.out u5.out.2.2.2.1);rw[htk]at CT;obtain⟨kk,tx,pl⟩:=tk
   go_wp2_with fail
   refine CT.out.mono ?_;rintro e W7 ⟨rfl,uu⟩;have f9:=zh (HIz.out.next uu);have hb57:Below W5.heap.size W5 W7:=ou.out.1.trans (uu.mono ou.out.1.size);have HF7:=zh (nj.out.1.next hb57);have HB57:=zh hb57;have HL7:=zh (ou.out.2.next uu);clear HT ou HIz CT nj uu hb57 htk;have xz:=fun W=>lK (kk:Int) ⟨tx.toArray⟩ (pl:Int) W
   by_cases hk0:kk=0
   ·subst hk0;have r3:W7.cell? ⟨E.r,3,none⟩=some (.int .i64 (c:Int)):=f9.out.rd.cell 3;have hHO3:O=(if 256<c then .error (5,0) else if dE t≠0 then .error (dE t,0) else .ok t):=by rw[gm.out];unfold eR;rw[HR.out];dsimp only;rw[HTK.out,if_neg (by simp)]
    have im:=zh hHO3;clear hHO3 gm HR;by_cases hc:256<c
    ·have m9:(256:Int)<(c:Int):=by omega
     have HO4:Hid (O=.error (5,0)):=zh (by rw[im.out,if_pos hc]);have HT:=zh HF7.out.box.thereA;have ag:=zh (HF7.out.put aA rfl HPA.out HPB.out (Nat.le_of_eq hq))
     go_wp2_with (first |(refine yq rfl 41 (.tmp 6) (.tmp 63) rfl q 0 aA.toArray rfl rfl HT.out aF aW ?_;change wpList _ _ _ _ _ (World.setCells _ q 0 aA);generalize World.setCells _ _ _ _=wz at ag ⊢))
     refine yt (kQ rfl rfl ag.out.box rfl) rfl ?_;rw[HO4.out];exact kH ag.out.a ag.out.b ag.out.kp
    have m9:¬ (256:Int)<(c:Int):=by omega
    obtain⟨A,cpp,hCC,hkids⟩:=HNV.out.2.2 (by omega);have HKx:=zh (KidsOk.kp (Kp.of_below HB57.out) hkids);have HCC:=zh hCC;clear hkids hCC;have ee:=zh (HL7.out.range);have ee:Hid (W7.rangeAt W5.heap.size 0 C):=zh HL7.out.range;have CC:=zh (rY t C.toArray W7 ⟨A,cpp,HCC.out,KidsOk.anti (Y:=[]) (fun y hy _=>by cases hy) HKx.out⟩ (by have:=u5.out;omega) (tW t 6 u5.out.2.1))
    go_wp2_with (first |(refine yr rfl 41 (.tmp 13) rfl W5.heap.size 0 rfl C _ ee.out Tryz.underlying41 rfl gb ?_))
    refine CC.out.mono ?_;rintro e W8 ⟨rfl,xv⟩;have HF8:=zh (HF7.out.next xv);have HL8:=zh (HL7.out.next xv);have lz:=zh (KidsOk.kp (Kp.of_below xv) HKx.out);clear xv CC HF7 HL7 HKx ee r3;by_cases hp0:dE t=0
    ·rw[hp0];have HO4:Hid (O=.ok t):=zh (by rw[im.out,if_neg hc,if_neg (by simp[hp0])]);have ee:Hid (W8.rangeAt W5.heap.size 0 C):=zh HL8.out.range;have HT:Hid (W8.there q 0 C.toArray.size):=zh (by have:=HF8.out.box.thereA;have h0:C.toArray.size=22:=(by rw[yd,yC.out]);rw[h0];exact this);have ag:=zh (And.intro (HF8.out.put C (by rw[yC.out];rfl) HPA.out HPB.out (Nat.le_of_eq hq)) (KidsOk.kp (X:=List.range W4.heap.size) (aT (W:=W8) (a:=W8) (bx:=q) (.inl (yg.2 la)) C 0 (Kp.refl _ _)) lz.out))
     go_wp2_with (first |(refine yr rfl 41 (.tmp 13) rfl W5.heap.size 0 rfl C _ ee.out Tryz.underlying41 rfl gb ?_) |(refine yq rfl 41 (.tmp 6) (.tmp 70) rfl q 0 C.toArray rfl rfl HT.out zi yo.out ?_;change wpList _ _ _ _ _ (World.setCells _ q 0 C);generalize World.setCells _ _ _ _=wz2 at ag ⊢))
     refine yt (kQ rfl rfl ag.out.1.box (by rw[yd,yC.out])) rfl ?_;rw[HO4.out];refine⟨ag.out.1.a,ag.out.1.b,ag.out.1.kp,fun t' e=>(by cases e;exact⟨u5.out.2.1,by have:=u5.out;omega⟩),A,cpp,by rw[HCC.out];rfl,KidsOk.anti (fun y hy _=>by have:=yg.1 hy;exact yg.2 (by omega)) ag.out.2⟩
    have hpi:((dE t:Nat):Int)≠0:=by omega
    have HO4:Hid (O=.error (dE t,0)):=zh (by rw[im.out,if_neg hc,if_pos hp0]);generalize dE t=pc at *;have HT:=zh HF8.out.box.thereA;have ag:=zh (HF8.out.put aA rfl HPA.out HPB.out (Nat.le_of_eq hq))
    go_wp2_with (first |(refine yq rfl 41 (.tmp 6) (.tmp 68) rfl q 0 aA.toArray rfl rfl HT.out aF aW ?_;change wpList _ _ _ _ _ (World.setCells _ q 0 aA);generalize World.setCells _ _ _ _=wz at ag ⊢))
    refine yt (kQ rfl rfl ag.out.box rfl) rfl ?_;rw[HO4.out];exact kH ag.out.a ag.out.b ag.out.kp
   have HO4:Hid (O=.error (6,pl)):=zh (by rw[gm.out];unfold eR;rw[HR.out];dsimp only;rw[HTK.out,if_pos (by simpa using hk0)]);have ja:(kk:Int)≠0:=by omega
   have CWr:=zh (eN E HEok.out k' 0 c 0 0 6 W7 f9.out u5.out.2.2.2.1);have hpl:(E.at k').place=pl:=by have:=HTK.out;rw[u5.out.2.2.2.2]at this;show (hd (E.L.drop k')).place=pl;rw[this]
   rw[hpl]at CWr;have HXW:Hid (∀ W,Kp [E.r] W7 W->InE E k' 0 c pl 6 W->FSt ax pa pb w q aA.toArray W/\Lies W E.r 66 (rdC E k' 0 c pl 6)):=zh (fun W hk hi=>by
    have h1:=hi.ar;have h2:=hi.ac;rw[ot.out.2.2.1,ot.out.1]at h1;rw[ot.out.2.2.2,ot.out.1]at h2;exact⟨⟨h1,h2,hk.lies HF7.out.box (fun hm=>zu (yf.1 hm)),HF7.out.kp.andThen hk (fun g hg=>.inr (by rw[yf.1 hg,ot.out.2.1];have:=HWs.out;omega))⟩,hi.rd⟩)
   go_wp2_with fail
   refine CWr.out.mono ?_;rintro e W8 ⟨rfl,g8,g9⟩;have HX9:=zh (HXW.out W8 g9 g8);clear HXW g8 g9 CWr HF7 HL7 f9;have HX9:Hid (∀ Wz,Below W8.heap.size W8 Wz->FSt ax pa pb w q aA.toArray Wz/\Lies Wz E.r 66 (rdC E k' 0 c pl 6)):=zh (fun Wz hk=>⟨HX9.out.1.next hk,HX9.out.2.next hk⟩);have ou:Hid (Below W8.heap.size W8 W8):=zh (Below.refl _ _)
   go_wp2_with fail
   obtain⟨P0,j4⟩:∃ R:World->Prop,∀ w',R w'↔(FSt ax pa pb w q aA.toArray w'/\Lies w' E.r 66 (rdC E k' 0 c pl 6)):=⟨_,fun _=>Iff.rfl⟩
   have ev:=zh j4;clear j4;obtain⟨P1,nh⟩:∃ R:World->Prop,∀ w',R w'↔(FSt ax pa pb w q aA.toArray w'/\Lies w' E.r 66 (rdC E k' 0 c pl 6)):=⟨_,fun _=>Iff.rfl⟩
   have j5:=zh nh;clear nh;have HQ:=zh hq;clear hq;obtain⟨TT,ae⟩:∃ TT:List (Nat×Nat×Value),TT=[(0,49,.agg aA.toArray),(1,50,.pointer (some ⟨E.r,0,none⟩)),(2,51,.pointer (some ⟨E.r,0,none⟩)),(3,52,.pointer (some ⟨E.r,7,none⟩)),(4,53,.int .i64 (pl:Nat)),(5,54,.pointer (some ⟨E.r,0,none⟩)),(6,55,.pointer (some ⟨E.r,0,none⟩)),(7,56,.pointer (some ⟨E.r,8,none⟩)),(8,57,.int .i64 (6:Nat)),(10,7,.int .i64 (pl:Nat)),(11,8,.int .i64 (6:Nat))]:=⟨_,rfl⟩
   have am:=zh ae;clear ae;refine bC (fun a0=>71<=a0.tmps.size/\a0.eval (.tmp 6)=.pointer (some ⟨q,0,none⟩)/\a0.eval (.tmp 12)=.pointer (some ⟨E.r,0,none⟩)) [49,50,51,52,53,54,55,56,57,7,8] TT [(9,P1)] P0 (by kernel_rfl) (by kernel_rfl) ⟨by simp,rfl,rfl⟩ ((ev.out _).2 (HX9.out _ ou.out.drew)) ?_ ?_
   ·rintro a0 ⟨hs,mu,hq12⟩ zl a1 w1 zj o bg hI aa ho zd;have ae:=am.out;subst ae;have hk:okU (([(0,49,.agg aA.toArray),(1,50,.pointer (some ⟨E.r,0,none⟩)),(2,51,.pointer (some ⟨E.r,0,none⟩)),(3,52,.pointer (some ⟨E.r,7,none⟩)),(4,53,.int .i64 (pl:Nat)),(5,54,.pointer (some ⟨E.r,0,none⟩)),(6,55,.pointer (some ⟨E.r,0,none⟩)),(7,56,.pointer (some ⟨E.r,8,none⟩)),(8,57,.int .i64 (6:Nat)),(10,7,.int .i64 (pl:Nat)),(11,8,.int .i64 (6:Nat))]:List (Nat×Nat×Value)).map fun e=>(e.1,e.2.1)) [49,50,51,52,53,54,55,56,57,7,8] 71=true:=by rfl
    have hj:=Up.of_false aa;have hj12:zj<12:=by rw[bg]at hj;exact hj
    have e6x:a1.eval (.tmp 6)=.pointer (some ⟨q,0,none⟩):=(hI.off.eval (by decide)).trans mu;have e12x:a1.eval (.tmp 12)=.pointer (some ⟨E.r,0,none⟩):=(hI.off.eval (by decide)).trans hq12;(iterate 11 rcases zq hj12 with hj12|rfl);obtain rfl:=cz hj12;all_goals obtain rfl:=oi ho
    ·exact aQ hk hI hs (.head _) (by simp) aa ho zd (aC rfl) rfl (by simp[execOp,go_sem,aA])
    ·exact aQ hk hI hs (.tail _ (.head _)) (by simp) aa ho zd (aC rfl) rfl (by simp[execOp,go_sem,aE e12x])
    ·have d1:=ud zd 1;have p1:=pk hI.pt 1 rfl d1;exact aQ hk hI hs (mm 2 rfl) (by simp) aa ho zd (aC rfl) rfl (by simp[execOp,go_sem,aE p1])
    ·have d2:=ud zd 2;have p2:=pk hI.pt 2 rfl d2;exact aQ hk hI hs (mm 3 rfl) (by simp) aa ho zd (aC rfl) rfl (by simp[execOp,go_sem,aE p2])
    ·have d3:=ud zd 3;have p3:=pk hI.pt 3 rfl d3;have hq:w1.cell? ⟨E.r,7,none⟩=some (.int .i64 (pl:Nat)):=by
      obtain⟨jj,oo,hP⟩:=hI.low 1 (by simp) (fun m hm=>by cases hm) aa;rcases(by omega:jj=0\/jj=1) with rfl|rfl
      ·have hP:P0 w1:=hP;exact((ev.out _).1 hP).2.cell 7
      have hP:P1 w1:=hP;exact((j5.out _).1 hP).2.cell 7
     exact aQ hk hI hs (mm 4 rfl) (by simp) aa ho zd (aC rfl) rfl (by simp[execOp,go_sem,aE p3,hq])
    ·exact aQ hk hI hs (mm 5 rfl) (by simp) aa ho zd (aC rfl) rfl (by simp[execOp,go_sem,aE e12x])
    ·have d5:=ud zd 5;have p5:=pk hI.pt 5 rfl d5;exact aQ hk hI hs (mm 6 rfl) (by simp) aa ho zd (aC rfl) rfl (by simp[execOp,go_sem,aE p5])
    ·have d6:=ud zd 6;have p6:=pk hI.pt 6 rfl d6;exact aQ hk hI hs (mm 7 rfl) (by simp) aa ho zd (aC rfl) rfl (by simp[execOp,go_sem,aE p6])
    ·have d7:=ud zd 7;have p7:=pk hI.pt 7 rfl d7;have hq:w1.cell? ⟨E.r,8,none⟩=some (.int .i64 (6:Nat)):=by
      obtain⟨jj,oo,hP⟩:=hI.low 1 (by simp) (fun m hm=>by cases hm) aa;rcases(by omega:jj=0\/jj=1) with rfl|rfl
      ·have hP:P0 w1:=hP;exact((ev.out _).1 hP).2.cell 8
      have hP:P1 w1:=hP;exact((j5.out _).1 hP).2.cell 8
     exact aQ hk hI hs (mm 8 rfl) (by simp) aa ho zd (aC rfl) rfl (by simp[execOp,go_sem,aE p7,hq])
    ·have d0:=ud zd 0;have p0:=pk hI.pt 0 rfl d0;refine kI hI (by simp) (by kernel_rfl) [] [] P1 rfl aa ho zd (aC rfl) rfl (fun hP=>?_);have hP:P0 w1:=hP;have h:=((ev.out _).1 hP).1;have hl:=((ev.out _).1 hP).2;exact⟨w1.setCells q 0 aA,eI 41 (.tmp 6) (.tmp 49) rfl q 0 aA.toArray e6x p0 h.box.thereA aF aW,(j5.out _).2 ⟨h.put aA rfl HPA.out HPB.out (Nat.le_of_eq HQ.out),eV (Ne.symm zu) aA 0 hl⟩⟩
    ·have d4:=ud zd 4;have p4:=pk hI.pt 4 rfl d4;exact aQ hk hI hs (mm 9 rfl) (by simp) aa ho zd (aC rfl) rfl (by simp[execOp,go_sem,aE p4])
    have d8:=ud zd 8;have p8:=pk hI.pt 8 rfl d8;exact aQ hk hI hs (mm 10 rfl) (by simp) aa ho zd (aC rfl) rfl (by simp[execOp,go_sem,aE p8])
   intro zl a1 w1 hI ap;have ae:=am.out;subst ae;have hF:P1 w1:=hI.st.last (fun m hm=>ap m.1 (by simp only[ym,List.not_mem_nil,or_false]at hm;rcases hm with rfl;all_goals simp));have z7:a1.eval (.tmp 7)=.int .i64 (pl:Nat):=hI.pt (10,7,.int .i64 (pl:Nat)) (mm 9 rfl) (ap 10 (by decide));have z8:a1.eval (.tmp 8)=.int .i64 (6:Nat):=hI.pt (11,8,.int .i64 (6:Nat)) (mm 10 rfl) (ap 11 (by decide));obtain⟨ff,rfl,hf⟩:=hI.off.forms;rw[<- hf 7]at z7;rw[<- hf 8]at z8;clear hI;simp only[List.foldl,Act.put,yz,List.set];rw[z7,z8];have h:=((j5.out _).1 hF).1;simp only[Exit.then]
   go_step
   repeat go_step
   refine yt (kQ rfl rfl h.box rfl) rfl ?_;rw[HO4.out];exact kH h.a h.b h.kp
theorem pAxis_nd(ids:List IdR):∀ k,k<=ids.length->(bU (ids.take k)).Nodup/\id0∉bU (ids.take k):=by
 intro k
 induction k with
 |zero=>intro _;exact⟨List.nodup_nil,by simp[bU]⟩
 |succ k ih=>
  intro h;obtain⟨h1,h2⟩:=ih (by omega);rw[jH ids k h];unfold kU
  split
  ·exact⟨h1,h2⟩
  rename_i hn
  rw[not_or]at hn;refine⟨?_,?_⟩
  ·rw[List.nodup_append];refine⟨h1,by simp,fun a ha b hb=>?_⟩;rw[yf.1 hb];exact fun e=>hn.2 (e ▸ ha)
  rw[List.mem_append,not_or];exact⟨h2,fun h=>hn.1 (yf.1 h).symm⟩
theorem gV(ids:List IdR):(bU ids).Nodup/\id0∉bU ids/\(bU ids).length<=ids.length/\∀ y∈bU ids,y∈ids:=by
 have h1:=pAxis_nd ids ids.length zr;have h2:=pV ids ids.length zr;have h3:=vZ ids ids.length zr;rw[List.take_length]at h1 h2 h3;exact⟨h1.1,h1.2,h2,h3⟩
theorem axOk_of(r c:List IdR):lO ⟨bU r,bU c⟩:=⟨fun _ hx e=>(gV r).2.1 (e ▸ hx),fun _ hx e=>(gV c).2.1 (e ▸ hx)⟩
def fT(l dead:List IdR):List Bool:=dead.foldl (fun fl x=>jM l fl x false) (List.replicate l.length true)
theorem qG(l dead:List IdR)(k:Nat)(h:k<dead.length):fT l (dead.take (k+1))=jM l (fT l (dead.take k)) dead[k] false:=by
 unfold fT;rw[yw h,List.foldl_append];rfl
theorem sC(l dead:List IdR):∀ k,k<=dead.length->(fT l (dead.take k)).length=l.length:=by
 intro k
 induction k with
 |zero=>intro _;exact List.length_replicate
 |succ k ih=>intro h;rw[qG l dead k h,uIU,ih (by omega)]
structure TwoAx(w:World)(q m b1 b2:Nat)(acc:List IdR)(fl:List Bool)(v1 v2 u1 u2:Value)(W:World):Prop where
 a:AxRaw q b1 acc fl v1 v2 W
 r:RfMk m b2 acc fl u1 u2 W
 b:Below w.heap.size w W
 q1:w.heap.size<=q
 qm:q<m
 mb:m<=b2
 e1:∀ g,v1.ownBlock=some g->g<m
 e2:∀ g,v2.ownBlock=some g->w.heap.size<=g/\g<m
 bs:b2<=W.heap.size
theorem TwoAx.del{w:World}{q m b1 b2:Nat}{acc:List IdR}{fl fl':List Bool}{v1 v2 u1 u2:Value}{W W':World}(h:TwoAx w q m b1 b2 acc fl v1 v2 u1 u2 W)(hk:Kp (q::v2.ownBlock.toList) W W')(ha:AxRaw q b1 acc fl' v1 v2 W') :
  AxRaw q b1 acc fl' v1 v2 W'/\RfMk m b2 acc fl u1 u2 W'/\Below w.heap.size w W'/\b2<=W'.heap.size:=by
 have hm:∀ g,m<=g->g∉q::v2.ownBlock.toList:=fun g hg hx=>by
  rcases ym.1 hx with hx|hx
  ·have:=h.qm;omega
  have:=(h.e2 g (by simpa using hx)).2;omega
 refine⟨ha,h.r.kp hk (hm m zr) (fun g hg=>hm g (yv h.mb (bH h.r.r1 g hg).1)) (fun g hg=>hm g (yv h.mb (bH h.r.r2 g hg).1)),h.b.trans (hk.below (fun g hg=>?_) h.b.size),yv h.bs hk.size⟩;rcases ym.1 hg with hx|hx
 ·rw[hx];exact h.q1
 exact(h.e2 g (by simpa using hx)).1
theorem TwoAx.set{w:World}{q m b1 b2:Nat}{acc:List IdR}{fl fl':List Bool}{v1 v2 u1 u2 u2':Value}{W0 W W':World}(h:TwoAx w q m b1 b2 acc fl v1 v2 u1 u2 W0)(ha:AxRaw q b1 acc fl' v1 v2 W)(hb:Below w.heap.size w W)(hz:b2<=W.heap.size)(hk:Kp [m] W W')(hr:RfMk m b2 acc fl' u1 u2' W'):TwoAx w q m b1 b2 acc fl' v1 v2 u1 u2' W':=by
 have hm:∀ g,g<m->g∉[m]:=fun g hg hx=>by have:=yf.1 hx;omega
 exact⟨ha.kp hk (hm q h.qm) (fun g hg=>hm g (h.e1 g hg)) (fun g hg=>hm g (h.e2 g hg).2),hr,hb.trans (hk.below (fun g hg=>by rw[yf.1 hg];exact Nat.le_of_lt (Nat.lt_of_le_of_lt h.q1 h.qm)) hb.size),h.q1,h.qm,h.mb,h.e1,h.e2,yv hz hk.size⟩
set_option maxRecDepth 1000000 in
theorem vD(A D:Option Addr)(cap capd:Nat)(ids dead:List IdR)(w:World)(hA:kF w A ids)(hD:kF w D dead)(hn:ids.length<=300)(hnd:dead.length<=300)(hf:∀ y∈ids,y.fits) :
  Calls Tryz.prog 10 #[.slice A ids.length cap,.slice D dead.length capd] w fun e w'=>∃ m b1 b2 v1 v2 u1 u2,e=.returned (.tuple #[.pointer (some ⟨w.heap.size,0,none⟩),.pointer (some ⟨m,0,none⟩)])/\TwoAx w w.heap.size m b1 b2 (bU ids) (fT (bU ids) dead) v1 v2 u1 u2 w':=by
 have CA:=zh (uGS A cap ids w hA hn hf);have CR:=zh (fun W h=>rnew_any A cap ids W h hn);have HA:=zh hA;have HD:=zh hD;have HND:=zh hnd;obtain⟨k1,k2,k3,k4⟩:=gV ids;have fb:Hid ((bU ids).length<=300):=zh (yv k3 hn);have HSu:=zh (qG (bU ids) dead);have ww:=zh (sC (bU ids) dead);have H0:Hid (fT (bU ids) (dead.take 0)=List.replicate (bU ids).length true):=zh rfl;have rq:Hid (fT (bU ids) (dead.take dead.length)=fT (bU ids) dead):=zh (by rw[List.take_length]);obtain⟨n,kx⟩:∃ n,n=dead.length:=⟨_,rfl⟩
 have HN:=zh kx;rw[<- kx];generalize bU ids=acc at *;clear hA hD k1 k2 k3 k4 hf hnd kx
 go_enter Tryz.func10,Tryz.ntmps10
 go_wp2_with fail
 refine CA.out.mono ?_;rintro e w1 ⟨v1,v2,rfl,h1,af⟩;have CR1:=zh (CR.out w1 (fun h0=>by obtain⟨g,o,e,hr⟩:=HA.out h0;exact⟨g,o,e,hr.at af.size (af.block g hr.1)⟩));have H1:=zh h1;have dy:=zh af;clear h1 af CA CR HA
 go_wp2_with fail
 refine CR1.out.mono ?_;rintro e w2 ⟨u1,u2,rfl,h2,ay⟩;have HT:Hid (TwoAx w w.heap.size w1.heap.size (w.heap.size+2) (w1.heap.size+1) acc (fT acc (dead.take 0)) v1 v2 u1 u2 w2):=zh (by
  rw[H0.out];have ha:=H1.out.next ay;refine⟨⟨ha.ax,ha.r1,?_⟩,h2,dy.out.trans (ay.mono dy.out.size),zr,H1.out.ax.lt,Nat.le_succ _,fun g hg=>(bH H1.out.r1 g hg).2,fun g hg=>⟨by have:=(bH H1.out.r2 g hg).1;omega,(bH H1.out.r2 g hg).2⟩,h2.ax.lt⟩;rw[List.length_replicate];unfold yL;rw[List.map_replicate];exact ha.r2)
 generalize hm:w1.heap.size=m at *;clear h2 ay CR1 H1 dy
 go_wp2_with fail
 go_loopw [8] (fun v wr=>∃ (k:Nat) (u2':Value),k<=n/\v=.int .i64 (k:Int)/\Hid (TwoAx w w.heap.size m (w.heap.size+2) (m+1) acc (fT acc (dead.take k)) v1 v2 u1 u2' wr)) (fun v _=>n-(intOf v).toNat)
 case atStart=>exact⟨0,_,zm _,rfl,HT⟩
 case round=>
  obtain⟨k,u2',hk,rfl,hT⟩:=hrel;clear HT;generalize en:w.heap.size=q at *;have HQ:=zh en;clear en;have ll:(k:Int)<=300:=by have:=HND.out;have:=HN.out;omega
  by_cases hlt:k<n
  ·have ja:k<dead.length:=by rw[<- HN.out];exact hlt
   have hkn:(k:Int)<(n:Int):=by omega
   obtain⟨ga,oa,rfl,kl,bi⟩:=HD.out (by omega);obtain⟨c0,c1⟩:=bi k ja;have vg:=zh (HSu.out k ja);have HLk:=zh (ww.out k (by omega));have m4:Below q w wr:=by have h:=hT.out.b;rw[HQ.out]at h;exact h
   have d0:wr.cell? ⟨ga,oa+k*2,none⟩=some (.int .i64 dead[k].a):=(m4.cell (p:=⟨ga,_,none⟩) (by rw[<- HQ.out];exact kl)).trans c0;have d1:wr.cell? ⟨ga,oa+k*2+1,none⟩=some (.int .i64 dead[k].n):=(m4.cell (p:=⟨ga,_,none⟩) (by rw[<- HQ.out];exact kl)).trans c1;have HGa:Hid (ga<q):=zh (by rw[<- HQ.out];exact kl);have s9:Hid (∀ W,Below w.heap.size w W->W.cell? ⟨ga,oa+k*2,none⟩=some (.int .i64 dead[k].a)/\W.cell? ⟨ga,oa+k*2+1,none⟩=some (.int .i64 dead[k].n)):=zh (fun W hb=>⟨(hb.cell (p:=⟨ga,_,none⟩) kl).trans c0,(hb.cell (p:=⟨ga,_,none⟩) kl).trans c1⟩);clear c0 c1 bi m4;generalize dead[k]=x at *;obtain⟨xa,xn⟩:=x;dsimp only at d0 d1;generalize fT acc (dead.take k)=fl at *
   go_wp2_with fail
   refine(uCK q (q+2) acc fl v1 v2 ⟨xa,xn⟩ wr hT.out.a HLk.out.symm (by have:=fb.out;omega)).mono ?_;rintro e w3 ⟨⟨n3,rfl⟩,h3,k3⟩;have HDl:=zh (hT.out.del k3 h3);obtain⟨e0,e1⟩:=s9.out w3 HDl.out.2.2.1;clear h3 k3 d0 d1
   go_wp2_with fail
   refine(rset_any m (m+1) acc fl u1 u2' ⟨xa,xn⟩ false w3 HDl.out.2.1 HLk.out.symm (by have:=fb.out;omega) HDl.out.2.2.2).mono ?_;rintro e w4 ⟨⟨n4,rfl⟩,⟨u2'',h4⟩,k4⟩;have HT4:=zh (hT.out.set HDl.out.1 HDl.out.2.2.1 HDl.out.2.2.2 k4 h4);clear h4 k4 HDl e0 e1
   go_wp2_with fail
   go_roundw
   case rel=>exact⟨k+1,u2'',by omega,by go_num,zh (by rw[vg.out];exact HT4.out)⟩
   case measure=>first |(simp[intOf];done) |(simp[intOf];omega)
  obtain rfl:k=n:=by omega
  go_wp2_with fail
  (try simp only[Exit.inBlock,Exit.then])
  refine yt (results_tmp2 rfl _ _ _) rfl ?_;exact⟨_,_,_,_,_,_,_,by first|rfl |(rw[HQ.out];rfl),by have h:=hT.out;rw[HN.out,rq.out]at h;first|exact h |(rw[HQ.out];exact h)⟩
theorem mB:∀ (a b:List IdR),bL (a++b)=bL a++bL b
 | [],_=>rfl
 |x::a,b=>by
  show _::_::bL (a++b)=_;rw[mB a b];rfl
theorem rJ{W W4:World}{B n sz:Nat}{e:TypeId}{v:Value}{xs:List Value}(ho:W.ownsRow B e sz v n xs)(h:W.grownBy W4 v.ownBlock)(hB:B<=W.heap.size):Below B W W4 :=
 ((Kp.refl v.ownBlock.toList W).grown h (fun y hy=>.inl (by rw[hy];exact .head _))).below (fun y hy=>(bH ho y (by simpa using hy)).1) hB
theorem qE{ops:Array Oper}{rest:List Oper}{o:Oper}{a:Act}{w:World}{Q:Exit->Act->World->Prop}(s5:o.guard=none)(s x:Operand)(ho:o.op=.call { callee:=.builtin .append,args:=#[s,x],argTypes:=#[22,22] })
  (base n:Nat) (v:Value) (xs:List Value) (hs:a.eval s=v) (aj:w.ownsRow base 34 2 v n xs) (hn:n<=1000000) (cv:base<=w.heap.size)
  (z:Nat) (y:IdR) (hx:a.eval x=.slice (some ⟨z,0,none⟩) 1 1) (hz:Lies w z 34 #[.int .i64 y.a,.int .i64 y.n])
  (h:∀ A' c' w',w'.ownsRow base 34 2 (.slice A' (n+1) c') (n+1) (xs++bL [y])->w.grownBy w' v.ownBlock->wpList Tryz.prog ops Q rest (a.put o.dst (.slice A' (n+1) c')) w'):wpList Tryz.prog ops Q (o::rest) a w:=by
 obtain⟨i1,gi,gz0,gz1,gz2⟩:=info_parts xJ;have h0:w.cell? ⟨z,0,none⟩=some (.int .i64 y.a):=hz.cell 0;have h1:w.cell? ⟨z,1,none⟩=some (.int .i64 y.n):=hz.cell 1;refine wpList_append_own (P:=Tryz.prog) w s5 s x 22 ho base 34 i1 (.agg #[.int .i64 0,.int .i64 0]) 2 16 Tryz.underlying22 gi gz0 gz1 gz2 rfl (by decide) v n xs hs aj ⟨z,0,none⟩ 1 1 (bL [y]) hx rfl (fun j u hj=>?_) (fun u hu=>?_) (by unfold maxLen;omega) (by omega) cv (fun v' w' k1 k2 _=>?_)
 ·match j,hj with
  |0,hj=>cases hj;exact h0
  |1,hj=>cases hj;simpa [Addr.add] using h1
 ·rcases ym.1 hu with rfl|hu
  ·rfl
  rw[yf.1 hu];rfl
 obtain⟨A',c',rfl⟩:=cS k1;exact h A' c' w' k1 k2
set_option maxRecDepth 1000000 in
theorem uEO(q base:Nat)(l:List IdR)(fl:List Bool)(v1 v2:Value)(w:World)(hM:RfMk q base l fl v1 v2 w)(hl:l.length=fl.length)(hn:l.length<=300) :
  Calls Tryz.prog 31 #[.pointer (some ⟨q,0,none⟩)] w fun e w'=>∃ A c,e=.returned (.slice A (bJ l fl).length c)/\w'.ownsRow w.heap.size 34 2 (.slice A (bJ l fl).length c) (bJ l fl).length (bL (bJ l fl))/\Below w.heap.size w w':=by
 have HM:=zh hM;have HL:=zh hl;have HN:=zh hn;have HSu:Hid (∀ k (hk:k<l.length) (mg:k<fl.length),bJ (l.take (k+1)) (fl.take (k+1))=bJ (l.take k) (fl.take k)++(if fl[k] then [l[k]] else [])):=zh (fun k hk _=>qO l fl k hl hk);have rq:Hid (bJ (l.take l.length) (fl.take l.length)=bJ l fl):=zh (by rw[List.take_length,hl,List.take_length]);have ww:Hid (∀ k,(bJ (l.take k) (fl.take k)).length<=300):=zh (fun k=>yv (lG _ _) (by rw[zc];omega));clear hM hl hn
 go_enter Tryz.func31,Tryz.ntmps31
 go_wp2_with fail
 go_loopw [3,4] (fun v3 v4 wr=>∃ k:Nat,k<=l.length/\v4=.int .i64 (k:Int)/\Hid (wr.ownsRow w.heap.size 34 2 v3 (bJ (l.take k) (fl.take k)).length (bL (bJ (l.take k) (fl.take k))))/\Hid (Below w.heap.size w wr)) (fun _ v _=>l.length-(intOf v).toNat)
 case atStart=>exact⟨0,zm _,rfl,zh ⟨rfl,.inl ⟨rfl,rfl⟩⟩,zh (Below.refl _ _)⟩
 case round=>
  obtain⟨k,hk,rfl,hO,hB⟩:=hrel;have oj:=zh (HM.out.next hB.out);obtain⟨A1,cap1,rfl⟩:=cS oj.out.r1;obtain⟨A2,cap2,rfl⟩:=cS oj.out.r2;have a0:=oj.out.ax.cell 0;have a1:=oj.out.ax.cell 1;simp only[za,zb,zf]at a0 a1;have ll:(k:Int)<=300:=by have:=HN.out;omega
  by_cases hlt:k<l.length
  ·have ja:(k:Int)<(l.length:Int):=by omega
   have mg:k<fl.length:=by rw[<- HL.out];exact hlt
   obtain⟨g1,c1,hv1,_,mh⟩:=oj.out.r1.form (by omega);cases hv1;obtain⟨g2,c2,hv2,_,qv⟩:=oj.out.r2.form (by omega);cases hv2;have hc:wr.cell? ⟨g2,k,none⟩=some (.bool fl[k]):=by
    rw[oj.out.r2.cellAt k (by omega),List.getElem?_map,List.getElem?_eq_getElem mg];rfl
   have vg:=zh (HSu.out k hlt mg);have hrg:=oZ oj.out.r1 k hlt;have d0:wr.cell? ⟨g1,k*2,none⟩=some (.int .i64 l[k].a):=hrg 0 _ rfl;have d1:wr.cell? ⟨g1,k*2+1,none⟩=some (.int .i64 l[k].n):=hrg 1 _ rfl;clear hrg;generalize l[k]=x at *;generalize fl[k]=c at *;obtain⟨xa,xn⟩:=x;dsimp only at d0 d1;have HLk:=zh (ww.out k);generalize rr:bJ (l.take k) (fl.take k)=acc at *;clear rr;cases c
   ·go_wp2_with fail
    go_roundw
    case rel=>exact⟨k+1,by omega,by go_num,by rw[vg.out];simp only[Bool.false_eq_true,if_false,List.append_nil];exact hO,hB⟩
    case measure=>first |(simp[intOf];done) |(simp[intOf];omega)
   have HOa:=zh (hO.out.alloc (.cells #[.int .i64 xa,.int .i64 xn] 34));have HZa:Hid (w.heap.size<=(wr.alloc (.cells #[.int .i64 xa,.int .i64 xn] 34)).heap.size):=zh (by rw[World.size_alloc];exact Nat.le_succ_of_le hB.out.size);have HLz:=zh (Lies.new wr 34 #[.int .i64 xa,.int .i64 xn])
   go_wp2_with (at_builtin;refine qE rfl _ _ rfl w.heap.size acc.length _ _ rfl HOa.out (by have:=HLk.out;omega) HZa.out wr.heap.size ⟨xa,xn⟩ rfl HLz.out ?_;intro A4 c4 w4 k4 g4;have K4:=zh k4;have G4:=zh g4;clear k4 g4)
   go_roundw
   case rel=>
    refine⟨k+1,by omega,by go_num,?_,zh ?_⟩
    ·rw[vg.out];simp only[if_true];rw[mB,yl];exact K4
    exact(hB.out.alloc hB.out.size _).trans (rJ HOa.out G4.out HZa.out)
   case measure=>first |(simp[intOf];done) |(simp[intOf];omega)
  obtain rfl:k=l.length:=by omega
  go_wp2_with fail
  go_ret
  rw[rq.out]at hO;obtain⟨A3,c3,rfl⟩:=cS hO.out;exact⟨A3,c3,rfl,hO.out,hB.out⟩
set_option maxRecDepth 1000000 in
theorem uEP(q base:Nat)(ids:List IdR)(fl:List Bool)(v1 v2:Value)(x:IdR)(w:World)(hM:RfMk q base ids fl v1 v2 w)(hl:ids.length=fl.length)(hn:ids.length<=300) :
  Calls Tryz.prog 15 #[.pointer (some ⟨q,0,none⟩),idV x] w fun e w'=>e=.returned (.int .i64 (dO (bJ ids fl) x))/\Below w.heap.size w w':=by
 obtain⟨W1,bt⟩:∃ W1,W1=w.alloc (.cells #[.int .i64 x.a,.int .i64 x.n] 34):=⟨_,rfl⟩
 have bu:=zh bt;have kj:Hid (Lies W1 w.heap.size 34 #[.int .i64 x.a,.int .i64 x.n]):=zh (by rw[bt];exact Lies.new _ _ _);have af:Below w.heap.size w W1:=by rw[bt];exact(zp _)
 have dy:=zh af;have CO:=zh (uEO q base ids fl v1 v2 W1 (hM.next af) hl hn);have tf:Hid ((bJ ids fl).length<=300):=zh (yv (lG _ _) hn);clear bt af hM hl hn;generalize bJ ids fl=l at *
 go_enter Tryz.func15,Tryz.ntmps15
 go_upto_region 1 with fail
 rw[<- bu.out];generalize hq:w.heap.size=qb at *;clear bu
 go_wp2_with fail
 refine CO.out.mono ?_;rintro e W2 ⟨A,cap,rfl,hM2,ay⟩;have HM:=zh hM2;have HL:=zh (kj.out.next ay);have HB:=zh (dy.out.trans (ay.mono (by rw[<- hq];exact dy.out.size)));have HQ2:Hid (qb<=W2.heap.size):=zh (by rw[<- hq];have:=dy.out.size;have:=ay.size;omega);clear hM2 ay kj CO dy;obtain⟨n,kx⟩:∃ n,n=l.length:=⟨_,rfl⟩
 have HN:=zh kx;rw[<- kx]at HM ⊢;clear kx
 go_wp2_with fail
 go_loopw [6] (fun v wr=>∃ k:Nat,k<=n/\v=.int .i64 (k:Int)/\Hid (x∉l.take k)/\Hid (Below W2.heap.size W2 wr)) (fun v _=>n-(intOf v).toNat)
 case atStart=>exact⟨0,zm _,rfl,zh (by simp),zh (Below.refl _ _)⟩
 case round=>
  obtain⟨k,hk,rfl,l8,ka⟩:=hrel;have oj:=zh (cW ka.out HM.out);have ll:(k:Int)<=300:=by have:=tf.out;have:=HN.out;omega
  by_cases hlt:k<n
  ·have ja:(k:Int)<(n:Int):=by omega
   have lg:k<l.length:=by rw[<- HN.out];exact hlt
   obtain⟨g,gu,hv,nk,km⟩:=oj.out.form (by omega);cases hv;have ee:=zh (oZ oj.out k lg);obtain⟨y,hy⟩:∃ y,l[k]=y:=⟨_,rfl⟩
   rw[hy]at ee;have HY:=zh hy;clear hy;obtain⟨b,hb⟩:∃ b,decide (y=x)=b:=⟨_,rfl⟩
   have mn:=zh hb;clear hb;have HLr:=zh (HL.out.next ka.out);obtain⟨Wr,hWr⟩:∃ Wr,Wr=wr:=⟨_,rfl⟩
   subst hWr
   go_upto_region 5 with fail
   go_cut [20] (fun v wx=>v=.bool b/\Hid (Below Wr.heap.size Wr wx))
   case first=>
    obtain⟨TT,ae⟩:∃ TT:List (Nat×Nat×Value),TT=((0,15,.slice (some ⟨g,0,none⟩) n cap)::(1,16,.int .i64 (k:Int))::(2,17,.pointer (some ⟨g,k*2,none⟩))::(3,18,idV y)::(4,19,idV x)::(5,20,.bool b)::[]):=⟨_,rfl⟩
    have am:=zh ae;clear ae;refine bC (fun a0=>22<=a0.tmps.size/\a0.eval (.tmp 3)=.pointer (some ⟨qb,0,none⟩)/\a0.eval (.tmp 5)=.slice (some ⟨g,0,none⟩) n cap/\a0.eval (.tmp 6)=.int .i64 (k:Int)) (15::16::17::18::19::20::[]) TT [] (fun w'=>Below Wr.heap.size Wr w') (by kernel_rfl) (by kernel_rfl) ⟨by simp,rfl,rfl,rfl⟩ (Below.refl _ _).drew ?_ ?_
    ·rintro a0 ⟨hs,j0,qo,mu⟩ zl a1 w1 zj o bg hI aa ho zd;have af:Below Wr.heap.size Wr w1:=hI.st;have ae:=am.out;have hk:okU (TT.map fun e=>(e.1,e.2.1)) (15::16::17::18::19::20::[]) 22=true:=by rw[ae];rfl
     subst ae;have e3x:=aE ((hI.off.eval (by decide)).trans j0);have e5x:=aE ((hI.off.eval (by decide)).trans qo);have e6x:=aE ((hI.off.eval (by decide)).trans mu);have hj:=Up.of_false aa;have hj12:zj<6:=by rw[bg]at hj;exact hj
     have G:RG _ _ _ _ _ _ _ _ _ _ _:=⟨hk,hI,hs,aa,ho,zd⟩
     rcases(by omega:zj=0\/zj=1\/zj=2\/zj=3\/zj=4\/zj=5) with rfl|rfl|rfl|rfl|rfl|rfl<;>obtain rfl:=oi ho
     ·exact G.nl 0 rfl (by simp[execOp,go_sem,e5x])
     ·exact G.nl 1 rfl (by simp[execOp,go_sem,e6x])
     ·exact G.nl 2 rfl (by simp[execOp,go_sem,G.t 0 rfl,G.t 1 rfl,ja])
     ·have p2:=G.d 2 rfl;exact G.nl 3 rfl (aL 34 (.tmp 17) rfl g (k*2) p2 _ _ (fun j v hv=>(af.cell (p:=⟨g,k*2+j,none⟩) km).trans (ee.out j v hv)) Tryz.underlying34 rfl iA)
     ·exact G.nl 4 rfl (aL 34 (.tmp 3) rfl qb 0 ((hI.off.eval (by decide)).trans j0) _ _ ((HLr.out.next af).range) Tryz.underlying34 rfl iA)
     exact G.nl 5 rfl (by simp[execOp,go_sem,G.t 3 rfl,G.t 4 rfl];exact id_if mn.out w1)
    intro zl a1 w1 hI ap;have af:Below Wr.heap.size Wr w1:=hI.st;have ae:=am.out;subst ae;have z23:=hI.ptk 5 rfl (ap 5 (by decide));obtain⟨ff,rfl,hf⟩:=hI.off.forms;rw[<- hf 20]at z23;clear hI;simp only[List.foldl,Act.put,yz,List.set];rw[z23];simp only[Exit.then]
    go_step
    go_meet
    exact⟨rfl,zh af⟩
   case rest=>
    obtain⟨rfl,mw⟩:=hcut;have ri:=zh (ka.out.trans (mw.out.mono ka.out.size));clear mw;cases b
    ·have wu:y≠x:=of_decide_eq_false mn.out
     go_wp2_with fail
     go_roundw
     case rel=>exact⟨k+1,by omega,by go_num,zh (by rw[yw lg,HY.out,List.mem_append,not_or];exact⟨l8.out,fun h=>wu (yf.1 h).symm⟩),ri⟩
     case measure=>first |(simp[intOf];done) |(simp[intOf];omega)
    have wu:y=x:=of_decide_eq_true mn.out
    go_wp2_with fail
    go_ret
    exact⟨by rw[show dO l x=(k:Int) from(mR x l 0 k l8.out (by rw[List.getElem?_eq_getElem lg,HY.out,wu])).trans (by rw[Nat.zero_add])];rfl,by first|exact HB.out.trans (ri.out.mono HQ2.out) |(rw[hq];exact HB.out.trans (ri.out.mono HQ2.out))⟩
  obtain rfl:k=n:=by omega
  go_wp2_with fail
  go_ret
  exact⟨by rw[show dO l x=-1 from iV x l 0 (by have:=l8.out;rwa [HN.out,List.take_length]at this)];rfl,by first|exact HB.out.trans (ka.out.mono HQ2.out) |(rw[hq];exact HB.out.trans (ka.out.mono HQ2.out))⟩
end Go.Proofs.YtmgjidnalpgegaaGreatDoor
