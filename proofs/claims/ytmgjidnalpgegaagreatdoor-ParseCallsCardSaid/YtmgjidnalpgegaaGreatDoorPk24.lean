/-
  Lemmas, part 24: PaU PaX RkO.
-/
import Derived.Test.YtmgjidnalpgegaaGreatDoorPk23
set_option maxHeartbeats 100000000
namespace Go.Proofs.YtmgjidnalpgegaaGreatDoor
open Go.RowKit
theorem lP{fn:Func}{p u v:Tmp}{tmps:Array Value}{w:World}{g:Nat}{cs:Array Value}(h:fn.results=#[.cell p 41,.tmp u,.tmp v])(hp:tmps.getD p undef=.pointer (some ⟨g,0,none⟩))(hl:Lies w g 41 cs)(fb:cs.size=22) :
  (results fn tmps).run Tryz.prog w=.ok (.tuple #[.agg cs,tmps.getD u undef,tmps.getD v undef]) w:=by
 have hr:=run_loadVar_row (P:=Tryz.prog) w g 41 41 cs _ _ hl Tryz.underlying41 rfl (by rw[fb];exact aE);have h2:(results fn tmps).run Tryz.prog w=((asAddr (tmps.getD p undef)).run Tryz.prog w).andThen fun a w₁=>((loadVar 41 a).run Tryz.prog w₁).andThen fun x w₂=>.ok (.tuple #[x,tmps.getD u undef,tmps.getD v undef]) w₂:=by
  simp only[results,h];simp[Sem.run_bind,Result.andThen]
 rw[h2,hp];simp only[asAddr,Sem.run_pure,Result.andThen_ok,hr]
theorem wL(ts:List Tok)(j:Nat)(h:j<ts.length):(eL ts)[j*3]?=some (.int .i64 ts[j].kind)/\(eL ts)[j*3+1]?=some (.string ⟨ts[j].text.toArray⟩)/\(eL ts)[j*3+2]?=some (.int .i64 ts[j].place):=by
 induction ts generalizing j with
 |nil=>simp at h
 |cons t ts ih=>
  have e:eL (t::ts)=fJ t++eL ts:=by simp[eL]
  have hl:(fJ t).length=3:=rfl;cases j with
  |zero=>rw[e];exact⟨rfl,rfl,rfl⟩
  |succ j=>
   have:=ih j (by simpa using h);rw[e];rw[List.getElem?_append_right (by omega),List.getElem?_append_right (by omega),List.getElem?_append_right (by omega),hl];rw[show (j+1)*3-3=j*3 by omega,show (j+1)*3+1-3=j*3+1 by omega,show (j+1)*3+2-3=j*3+2 by omega];simpa using this
theorem toks_in{w:World}{base:Nat}{e:TypeId}{v:Value}{n:Nat}{ts:List Tok}(hn:n=ts.length)(h0:0<n)(h:w.ownsRow base e 3 v n (eL ts)):∃ g cap,v=.slice (some ⟨g,0,none⟩) ts.length cap/\base<=g/\TokIn w g ts:=by
 subst hn;obtain⟨g,cap,rfl,hb,hlt⟩:=h.form h0;refine⟨g,cap,rfl,hb,hlt,fun j hj=>?_⟩;have hc:=h.cells (g:=g) rfl;obtain⟨h1,h2,h3⟩:=wL ts j hj;have k1:=hc _ _ h1;have k2:=hc _ _ h2;have k3:=hc _ _ h3;rw[Addr.add_mid,Nat.zero_add]at k1 k2 k3;exact⟨k1,k2,k3⟩
theorem lex_len2(s:Bs)(ts:List Tok)(h:jH s=.ok ts):ts.length<=s.length:=yW _ _ _ _ h
def nO:Except (Nat×Nat) Tree->Tree
 | .ok t=>t
 | .error _=>tree0
def uCT:Except (Nat×Nat) Tree->Nat
 | .ok _=>0
 | .error x=>x.2
def uCS:Except (Nat×Nat) Tree->Nat
 | .ok _=>0
 | .error x=>x.1
def FPost(ax:Ax)(pa pb:Option Nat)(w:World)(r:Except (Nat×Nat) Tree)(e:Ending)(w':World):Prop :=
 AxIn w' pa ax.rows/\AxIn w' pb ax.cols/\Kp (pa.toList++pb.toList) w w'/\(∀ t,r=.ok t->t.right 6=true/\t.size<=256) /\
  ∃ A cp,e=.returned (.tuple #[dO (nO r).h A (nO r).l.length cp,.int .i64 (uCT r:Nat),.int .i64 (uCS r:Nat)])/\KidsOk w' (List.range w.heap.size) A (nO r).l
theorem dM{W W':World}{p:Option Nat}{l:List IdR}(h:AxIn W p l)(hb:Below W.heap.size W W'):AxIn W' p l:=h.kp (Y:=[]) (Kp.of_below hb) (fun y hy=>by cases hy)
theorem lH{ax:Ax}{pa pb:Option Nat}{w w':World}{x:Nat×Nat}(h1:AxIn w' pa ax.rows)(h2:AxIn w' pb ax.cols)(h3:Kp (pa.toList++pb.toList) w w'):FPost ax pa pb w (.error x) (.returned (.tuple #[.agg aA.toArray,.int .i64 (x.2:Nat),.int .i64 (x.1:Nat)])) w' :=
 ⟨h1,h2,h3,fun t e=>(by cases e),none,0,rfl,.inl rfl⟩
theorem kT{p:Option Nat}{x:Nat}(h:x∈p.toList):p=some x:=by
 cases p with
 |none=>cases h
 |some b=>rw[yf.1 (by simpa using h:x∈[b])]
theorem KidsOk.anti{W:World}{X Y:List Nat}(hs:∀ y∈Y,y<W.heap.size->y∈X){A:Option Addr}{l:List Tree}(h:KidsOk W X A l):KidsOk W Y A l:=by
 rcases h with h|⟨g,hA,hx,hg,hk⟩
 ·exact .inl h
 exact .inr ⟨g,hA,fun hm=>hx (hs g hm hg),hg,KidsAt.anti hs hk⟩
theorem cU{W W':World}(h:Kp [] W W'):Below W.heap.size W W':=h.below (fun k hk=>by cases hk) zr
theorem zZ{W:World}{p:Option Nat}{l:List IdR}{q:Nat}{C0:Array Value}{C:List Value}(h:AxIn W p l)(hl:Lies W q 41 C0)(hp:p≠some q):AxIn (W.setCells q 0 C) p l :=
 h.kp (Y:=[q]) (aQ (.inl (.head _)) C 0 (Kp.refl _ _)) (fun y hy=>by rw[yf.1 hy];exact⟨fun e=>hp e.symm,_,_,hl,by decide,by decide⟩)
structure FSt(ax:Ax)(pa pb:Option Nat)(w:World)(q:Nat)(C:Array Value)(W:World):Prop where
 a:AxIn W pa ax.rows
 b:AxIn W pb ax.cols
 box:Lies W q 41 C
 kp:Kp (pa.toList++pb.toList) w W
theorem FSt.put{ax:Ax}{pa pb:Option Nat}{w W:World}{q:Nat}{C0:Array Value}(h:FSt ax pa pb w q C0 W)(C:List Value)(hC:C.length=C0.size)(ha:pa≠some q)(hb:pb≠some q)(hq:w.heap.size<=q):FSt ax pa pb w q C.toArray (W.setCells q 0 C) :=
 ⟨zZ h.a h.box ha,zZ h.b h.box hb,h.box.putAll hC,aQ (.inr hq) C 0 h.kp⟩
theorem FSt.next{ax:Ax}{pa pb:Option Nat}{w W W':World}{q:Nat}{C:Array Value}(h:FSt ax pa pb w q C W)(hb:Below W.heap.size W W'):FSt ax pa pb w q C W' :=
 ⟨dM h.a hb,dM h.b hb,h.box.next hb,h.kp.trans (Kp.of_below hb)⟩
structure AxB(pa pb:Option Nat)(lo:Nat):Prop where
 tb:0<lo
 a:∀ b,pa=some b->lo<=b
 b:∀ b,pb=some b->lo<=b
 ne:∀ b,pa=some b->pb≠some b
set_option maxRecDepth 100000 in
theorem rV(ax:Ax)(ha:lU ax)(pa pb:Option Nat)(lo:Nat)(s:Bs)(w:World)(hs:s.length<=50000)(hT:Tab w)(har:AxIn w pa ax.rows)(hac:AxIn w pb ax.cols)(hlo:lo<=w.heap.size)(hB:AxB pa pb lo) :
  Calls Tryz.prog 11 #[.string ⟨s.toArray⟩,.pointer (ptr pa),.pointer (ptr pb)] w (FPost ax pa pb w (aR ax s)):=by
 obtain⟨W1,dv⟩:∃ W1,W1=w.alloc (.cells aA.toArray 41):=⟨_,rfl⟩
 have af:Below w.heap.size w W1:=by rw[dv];exact(zp _)
 have nf:Hid (Lies W1 w.heap.size 41 aA.toArray):=zh (by rw[dv];exact Lies.new _ _ _);have jh:=zh (dM har af);have dx:=zh (dM hac af);have vr:=zh (hT.next af);have eo:=zh af;have cy:=zh dv;have HBX:Hid ((∀ b,pa=some b->b<w.heap.size)/\(∀ b,pb=some b->b<w.heap.size)):=zh ⟨fun b e=>by obtain⟨cs,hc⟩:=har.box b e;exact hc.lt,fun b e=>by obtain⟨cs,hc⟩:=hac.box b e;exact hc.lt⟩;have HPA:Hid (pa≠some w.heap.size):=zh (fun e=>by have:=HBX.out.1 _ e;omega);have HPB:Hid (pb≠some w.heap.size):=zh (fun e=>by have:=HBX.out.2 _ e;omega);have HLO:Hid (lo<=w.heap.size):=zh hlo;have rf:=zh hB;have HAx:=zh ha;have HS:=zh hs;have CL:=zh (lex_any s W1 (by omega) (hT.next af));obtain⟨O,hO⟩:∃ O,aR ax s=O:=⟨_,rfl⟩
 rw[hO];have HO:=zh hO;clear dv af har hac hT hlo hB ha hs hO
 go_enter Tryz.func11,Tryz.ntmps11
 go_upto_region 1 with fail
 rw[<- cy.out];generalize hq:w.heap.size=q at *;clear cy
 go_wp2_with fail
 refine CL.out.mono ?_;cases hl:jH s with
 |error k=>
  rintro e W2 ⟨rfl,bf⟩;have gy:Hid (O=.error (7,k)):=zh (by rw[<- HO.out];unfold aR;rw[hl]);have ju:=zh (nf.out.next bf);have co:=zh (eo.out.trans (bf.mono (by have:=eo.out.size;omega)));have bq:=zh (dM jh.out bf);have HC2:=zh (dM dx.out bf);clear bf CL HO nf jh dx vr;have HFS:Hid (FSt ax pa pb w q aA.toArray W2):=zh ⟨bq.out,HC2.out,ju.out,Kp.of_below (by rw[hq];exact co.out)⟩;clear ju co bq HC2;have HT:=zh HFS.out.box.thereA;have ag:=zh (HFS.out.put aA rfl HPA.out HPB.out (Nat.le_of_eq hq))
  go_wp2_with (first |(refine yq rfl 41 (.tmp 6) (.tmp 24) rfl q 0 aA.toArray rfl rfl HT.out aE bB ?_;change wpList _ _ _ _ _ (World.setCells _ q 0 aA);generalize World.setCells _ _ _ _=wz at ag ⊢))
  refine yt (lP rfl rfl ag.out.box rfl) rfl ?_;rw[gy.out];exact lH ag.out.a ag.out.b ag.out.kp
 |ok ts=>
  rintro e W2 ⟨v,rfl,al,bf⟩;obtain⟨g,cap,rfl,tm,hti⟩:=toks_in (by simp) (by omega) al;have HFS2:Hid (FSt ax pa pb w q aA.toArray W2):=zh ⟨dM jh.out bf,dM dx.out bf,nf.out.next bf,Kp.of_below (by rw[hq];exact eo.out.trans (bf.mono (by have:=eo.out.size;omega)))⟩;have HT2:=zh (vr.out.next bf);have HG:Hid (g<W2.heap.size/\TokIn W2 g (ts++[bA s.length])/\W1.heap.size<=g):=zh ⟨hti.1,hti,tm⟩;have dt:q<W1.heap.size:=nf.out.lt;have qq:=bf.size;have CS:=zh (uDA W2);clear al bf tm hti CL nf jh dx vr eo
  go_wp2_with fail
  refine CS.out.mono ?_;rintro e W3 ⟨rfl,ik,bu⟩;obtain⟨E,hE⟩:∃ E:Env,E=⟨W3.heap.size,g,cap,ts++[bA s.length],pa,pb,W2.heap.size,ax,lo⟩:=⟨_,rfl⟩
  obtain⟨W4,i9⟩:∃ W4,W4=W3.alloc (.cells (rdC E 0 0 0 0 0) 66):=⟨_,rfl⟩
  have lp:Below W3.heap.size W3 W4:=by rw[i9];exact(zp _)
  have sf:Below W2.heap.size W2 W4:=bu.trans (lp.mono bu.size);have ni:(∀ b,pa=some b->b<q)/\(∀ b,pb=some b->b<q):=HBX.out;have hs3:=bu.size;have HEok:Hid E.ok:=zh (by
   rw[hE];refine⟨?_,?_,?_,rf.out.tb,?_,?_,rf.out.ne⟩
   ·intro hm;have hg:=HG.out;rcases ym.1 hm with hm|hm
    ·have:g=W3.heap.size:=hm;omega
    rcases List.mem_append.1 hm with hm|hm
    ·have:=ni.1 g (kT hm);omega
    have:=ni.2 g (kT hm);omega
   ·intro i hi hm;have jx:=ik.lt i hi;rcases ym.1 hm with hm|hm
    ·have:W2.heap.size+i=W3.heap.size:=hm;omega
    rcases List.mem_append.1 hm with hm|hm
    ·have:=ni.1 (W2.heap.size+i) (kT hm);omega
    have:=ni.2 (W2.heap.size+i) (kT hm);omega
   ·intro x hm;rcases ym.1 hm with hm|hm
    ·have h0:x=W3.heap.size:=hm;have:=HLO.out;show lo<=x;omega
    rcases List.mem_append.1 hm with hm|hm
    ·exact rf.out.a x (kT hm)
    exact rf.out.b x (kT hm)
   ·intro b hb;have:=ni.1 b hb;show b≠W3.heap.size;omega
   intro b hb;have:=ni.2 b hb;show b≠W3.heap.size;omega)
  have kv:Hid (InE E 0 0 0 0 0 W4):=zh (by
   have e1:E.r=W3.heap.size:=by rw[hE]
   refine⟨by rw[e1,i9];exact Lies.new _ _ _,?_,?_,?_,?_,HT2.out.next sf,?_⟩
   ·rw[hE];exact TokIn.kp (Y:=[]) HG.out.2.1 (Kp.of_below sf) (by simp)
   ·rw[hE];exact dM HFS2.out.a sf
   ·rw[hE];exact dM HFS2.out.b sf
   ·rw[hE];exact SgIn.kp (Y:=[]) ik (Kp.of_below lp) (fun _ _=>by simp)
   rw[hE];have:=HLO.out;have:=lp.size;show lo<=W4.heap.size;omega)
  have hL:E.L=ts++[bA s.length]:=by rw[hE]
  have kf:=kB s ts hl;have htx:=text_le2 s ts hl;have td:E.ends:=by
   refine⟨by rw[hL];simp,fun k hk=>?_⟩;unfold Env.at;rw[hL]at hk ⊢;rw[show hd ((ts++[bA s.length]).drop k)=(ts++[bA s.length])[k]'hk from by unfold hd;rw[yx hk];rfl];simp only[yl,List.length_singleton]at hk ⊢;by_cases hkt:k<ts.length
   ·rw[List.getElem_append_left hkt];have:=(kf.1 _ (List.getElem_mem hkt)).k0;exact⟨fun h=>absurd h this,fun h=>by omega⟩
   rw[List.getElem_append_right (by omega)];have h0:k-ts.length=0:=by omega
   simp only[h0,List.getElem_cons_zero];exact⟨fun _=>by omega,fun _=>rfl⟩
  have zs:E.short:=by
   intro k;by_cases hk:k<E.L.length
   ·rw[E.at_lt hk];have hm:E.L[k]∈ts++[bA s.length]:=by rw[<- hL];exact List.getElem_mem hk
    rcases List.mem_append.1 hm with hm|hm
    ·have:=htx _ hm;have:=HS.out;omega
    rw[yf.1 hm];exact zm _
   unfold Env.at hd;rw[List.drop_of_length_le (by omega)];exact zm _
  have hLen:E.L.length<=1000000:=by rw[hL];have:=lex_len2 s ts hl;have:=HS.out;simp;omega
  have HEL:=zh hL;have CW:=zh (uDO E HEok.out td hLen zs chkLeaf 64 0 rfl 0 0 0 0 W4 kv.out td.1 zr);have oq:Hid (E.ax=ax/\E.r=W3.heap.size/\E.pa=pa/\E.pb=pb):=zh (by rw[hE];exact⟨rfl,rfl,rfl,rfl⟩);have HFin:Hid (∀ t rest c,bY 65 ax 0 (ts++[bA s.length]) 0=.ok t rest c->c=t.size/\t.right 6=true):=zh (fun t rest c h=>uGZ HAx.out (lex_ends hl) h);have HFS4:=zh (HFS2.out.next sf);have gy:Hid (O=eS ax (ts++[bA s.length])):=zh (by rw[<- HO.out];unfold aR;rw[hl]);have kx:q<W4.heap.size:=by have:=sf.size;omega
  have hqr:q≠E.r:=by rw[oq.out.2.1];omega
  have HXF:Hid (∀ W k op nd pl er,Kp E.X W4 W->InE E k op nd pl er W->FSt ax pa pb w q aA.toArray W):=zh (fun W k op nd pl er hk hi=>by
   have hX:E.X=E.r::(pa.toList++pb.toList):=by unfold Env.X;rw[oq.out.2.2.1,oq.out.2.2.2]
   have h1:=hi.ar;have h2:=hi.ac;rw[oq.out.2.2.1,oq.out.1]at h1;rw[oq.out.2.2.2,oq.out.1]at h2;refine⟨h1,h2,hk.lies HFS4.out.box (fun hm=>?_),HFS4.out.kp.andThen hk (fun g hg=>?_)⟩
   ·rw[hX]at hm;rcases ym.1 hm with hm|hm
    ·exact hqr hm
    rcases List.mem_append.1 hm with hm|hm
    ·exact HPA.out (kT hm)
    exact HPB.out (kT hm)
   rw[hX]at hg;rcases ym.1 hg with hg|hg
   ·right;rw[hg,oq.out.2.1];omega
   exact .inl hg)
  rw[List.drop_zero,oq.out.1,HEL.out]at CW;have hrdc:rdC E 0 0 0 0 0=#[.slice (some ⟨g,0,none⟩) (ts.length+1) cap,.int .i64 0,.int .i64 0,.int .i64 0,.pointer (ptr pa),.pointer (ptr pb),.map (some W2.heap.size),.int .i64 0,.int .i64 0]:=by rw[show ts.length+1=(ts++[bA s.length]).length by simp];subst hE;rfl
  rw[hrdc]at i9;have HW4:=zh i9;have hr3:W3.heap.size=E.r:=oq.out.2.1.symm;have HLn:=zh hLen;have HWs:Hid (w.heap.size<=W3.heap.size):=zh (by omega);clear hE hrdc i9 hL kf htx zs hLen ik bu lp sf CS HFS2 HT2 HG HO qq hs3 ni dt
  go_upto_region 5 with fail
  rw[<- HW4.out];clear HW4 hr3;have HEE:=zh td;clear td
  go_wp2_with fail
  refine CW.out.mono ?_;obtain⟨R,hR⟩:∃ R,bY 65 ax 0 (ts++[bA s.length]) 0=R:=⟨_,rfl⟩
  rw[hR];have HR:=zh hR;clear hR CW;cases R with
  |bad er' p=>
   rintro e W5 ⟨cs,k',op',nd',rfl,g1,g2,g3,g4,g5,g6,g7⟩;obtain⟨C,rfl⟩:∃ C:List Value,cs=C.toArray:=⟨cs.toList,by simp⟩
   have yC:Hid (C.length=22):=zh (by rwa [yd]at g1);have yo:=zh g2;have zi:=fv yC.out;have hkx:Kp E.X W4 W5:=g7;have od:Hid (FSt ax pa pb w q aA.toArray W5/\InE E k' op' nd' p er' W5):=zh ⟨HXF.out W5 _ _ _ _ _ hkx g6,g6⟩;have HX9:Hid (∀ Wz,Below W5.heap.size W5 Wz->FSt ax pa pb w q aA.toArray Wz/\Lies Wz E.r 66 (rdC E k' op' nd' p er')):=zh (fun Wz hk=>⟨od.out.1.next hk,(od.out.2.next hk).rd⟩);have ug:Hid (Below W5.heap.size W5 (World.setCells (W5.alloc (.cells aA.toArray 41)) W5.heap.size 0 C)):=zh (cU (aQ (.inr zr) C 0 ((Kp.refl _ _).alloc _)));have HT:Hid (World.there (W5.alloc (.cells aA.toArray 41)) W5.heap.size 0 C.toArray.size):=zh (by have:=(Lies.new W5 41 aA.toArray).thereA;have h0:C.toArray.size=22:=(by rw[yd,yC.out]);rw[h0];exact this)
   have iq:Hid (O=.error (er',p)):=zh (by rw[gy.out];unfold eS;rw[HR.out]);simp only[aA]at ug;clear g1 g2 g3 g4 g5 g6 g7 hkx od gy HR
   go_wp2_with (first |(refine yq rfl 41 (.tmp 13) (.tmp 36) rfl W5.heap.size 0 C.toArray rfl rfl HT.out zi yo.out ?_;change wpList _ _ _ _ _ (World.setCells _ W5.heap.size 0 C);generalize World.setCells _ _ _ _=wz at ug ⊢))
   obtain⟨P0,kh⟩:∃ R:World->Prop,∀ w',R w'↔(FSt ax pa pb w q aA.toArray w'/\Lies w' E.r 66 (rdC E k' op' nd' p er')):=⟨_,fun _=>Iff.rfl⟩
   have fs:=zh kh;clear kh;obtain⟨P1,qc⟩:∃ R:World->Prop,∀ w',R w'↔(FSt ax pa pb w q aA.toArray w'/\Lies w' E.r 66 (rdC E k' op' nd' p er')):=⟨_,fun _=>Iff.rfl⟩
   have ki:=zh qc;clear qc;have HQ:=zh hq;clear hq;obtain⟨TT,ae⟩:∃ TT:List (Nat×Nat×Value),TT=[(0,49,.agg aA.toArray),(1,50,.pointer (some ⟨E.r,0,none⟩)),(2,51,.pointer (some ⟨E.r,0,none⟩)),(3,52,.pointer (some ⟨E.r,7,none⟩)),(4,53,.int .i64 (p:Nat)),(5,54,.pointer (some ⟨E.r,0,none⟩)),(6,55,.pointer (some ⟨E.r,0,none⟩)),(7,56,.pointer (some ⟨E.r,8,none⟩)),(8,57,.int .i64 (er':Nat)),(10,7,.int .i64 (p:Nat)),(11,8,.int .i64 (er':Nat))]:=⟨_,rfl⟩
   have aq:=zh ae;clear ae;refine bO (fun a0=>71<=a0.tmps.size/\a0.eval (.tmp 6)=.pointer (some ⟨q,0,none⟩)/\a0.eval (.tmp 12)=.pointer (some ⟨E.r,0,none⟩)) [49,50,51,52,53,54,55,56,57,7,8] TT [(9,P1)] P0 (by kernel_rfl) (by kernel_rfl) ⟨by simp,rfl,rfl⟩ ((fs.out _).2 (HX9.out _ ug.out.drew)) ?_ ?_
   ·rintro a0 ⟨hs,ny,hq12⟩ zl a1 w1 zj o bg hI aa ho zd;have ae:=aq.out;subst ae;have hk:okU (([(0,49,.agg aA.toArray),(1,50,.pointer (some ⟨E.r,0,none⟩)),(2,51,.pointer (some ⟨E.r,0,none⟩)),(3,52,.pointer (some ⟨E.r,7,none⟩)),(4,53,.int .i64 (p:Nat)),(5,54,.pointer (some ⟨E.r,0,none⟩)),(6,55,.pointer (some ⟨E.r,0,none⟩)),(7,56,.pointer (some ⟨E.r,8,none⟩)),(8,57,.int .i64 (er':Nat)),(10,7,.int .i64 (p:Nat)),(11,8,.int .i64 (er':Nat))]:List (Nat×Nat×Value)).map fun e=>(e.1,e.2.1)) [49,50,51,52,53,54,55,56,57,7,8] 71=true:=by rfl
    have hj:=Up.of_false aa;have hj12:zj<12:=by rw[bg]at hj;exact hj
    have e6x:a1.eval (.tmp 6)=.pointer (some ⟨q,0,none⟩):=(hI.off.eval (by decide)).trans ny;have e12x:a1.eval (.tmp 12)=.pointer (some ⟨E.r,0,none⟩):=(hI.off.eval (by decide)).trans hq12;(iterate 11 rcases zq hj12 with hj12|rfl);obtain rfl:=cz hj12;all_goals obtain rfl:=oi ho
    ·exact aX hk hI hs (.head _) (by simp) aa ho zd (aD rfl) rfl (by simp[execOp,go_sem,aA])
    ·exact aX hk hI hs (.tail _ (.head _)) (by simp) aa ho zd (aD rfl) rfl (by simp[execOp,go_sem,aF e12x])
    ·have d1:=ud zd 1;have p1:=pk hI.pt 1 rfl d1;exact aX hk hI hs (mm 2 rfl) (by simp) aa ho zd (aD rfl) rfl (by simp[execOp,go_sem,aF p1])
    ·have d2:=ud zd 2;have p2:=pk hI.pt 2 rfl d2;exact aX hk hI hs (mm 3 rfl) (by simp) aa ho zd (aD rfl) rfl (by simp[execOp,go_sem,aF p2])
    ·have d3:=ud zd 3;have p3:=pk hI.pt 3 rfl d3;have hq:w1.cell? ⟨E.r,7,none⟩=some (.int .i64 (p:Nat)):=by
      obtain⟨jj,re,hP⟩:=hI.low 1 (by simp) (fun m hm=>by cases hm) aa;rcases(by omega:jj=0\/jj=1) with rfl|rfl
      ·have hP:P0 w1:=hP;exact((fs.out _).1 hP).2.cell 7
      have hP:P1 w1:=hP;exact((ki.out _).1 hP).2.cell 7
     exact aX hk hI hs (mm 4 rfl) (by simp) aa ho zd (aD rfl) rfl (by simp[execOp,go_sem,aF p3,hq])
    ·exact aX hk hI hs (mm 5 rfl) (by simp) aa ho zd (aD rfl) rfl (by simp[execOp,go_sem,aF e12x])
    ·have d5:=ud zd 5;have p5:=pk hI.pt 5 rfl d5;exact aX hk hI hs (mm 6 rfl) (by simp) aa ho zd (aD rfl) rfl (by simp[execOp,go_sem,aF p5])
    ·have d6:=ud zd 6;have p6:=pk hI.pt 6 rfl d6;exact aX hk hI hs (mm 7 rfl) (by simp) aa ho zd (aD rfl) rfl (by simp[execOp,go_sem,aF p6])
    ·have d7:=ud zd 7;have p7:=pk hI.pt 7 rfl d7;have hq:w1.cell? ⟨E.r,8,none⟩=some (.int .i64 (er':Nat)):=by
      obtain⟨jj,re,hP⟩:=hI.low 1 (by simp) (fun m hm=>by cases hm) aa;rcases(by omega:jj=0\/jj=1) with rfl|rfl
      ·have hP:P0 w1:=hP;exact((fs.out _).1 hP).2.cell 8
      have hP:P1 w1:=hP;exact((ki.out _).1 hP).2.cell 8
     exact aX hk hI hs (mm 8 rfl) (by simp) aa ho zd (aD rfl) rfl (by simp[execOp,go_sem,aF p7,hq])
    ·have d0:=ud zd 0;have p0:=pk hI.pt 0 rfl d0;refine lI hI (by simp) (by kernel_rfl) [] [] P1 rfl aa ho zd (aD rfl) rfl (fun hP=>?_);have hP:P0 w1:=hP;have h:=((fs.out _).1 hP).1;have hl:=((fs.out _).1 hP).2;exact⟨w1.setCells q 0 aA,eW 41 (.tmp 6) (.tmp 49) rfl q 0 aA.toArray e6x p0 h.box.thereA aE bB,(ki.out _).2 ⟨h.put aA rfl HPA.out HPB.out (Nat.le_of_eq HQ.out),fK (Ne.symm hqr) aA 0 hl⟩⟩
    ·have d4:=ud zd 4;have p4:=pk hI.pt 4 rfl d4;exact aX hk hI hs (mm 9 rfl) (by simp) aa ho zd (aD rfl) rfl (by simp[execOp,go_sem,aF p4])
    have d8:=ud zd 8;have p8:=pk hI.pt 8 rfl d8;exact aX hk hI hs (mm 10 rfl) (by simp) aa ho zd (aD rfl) rfl (by simp[execOp,go_sem,aF p8])
   intro zl a1 w1 hI aw;have ae:=aq.out;subst ae;have hF:P1 w1:=hI.st.last (fun m hm=>aw m.1 (by simp only[ym,List.not_mem_nil,or_false]at hm;rcases hm with rfl;all_goals simp));have z7:a1.eval (.tmp 7)=.int .i64 (p:Nat):=hI.pt (10,7,.int .i64 (p:Nat)) (mm 9 rfl) (aw 10 (by decide));have z8:a1.eval (.tmp 8)=.int .i64 (er':Nat):=hI.pt (11,8,.int .i64 (er':Nat)) (mm 10 rfl) (aw 11 (by decide));obtain⟨ff,rfl,hf⟩:=hI.off.forms;rw[<- hf 7]at z7;rw[<- hf 8]at z8;clear hI;simp only[List.foldl,Act.put,yz,List.set];rw[z7,z8];have h:=((ki.out _).1 hF).1;simp only[Exit.then]
   go_step
   repeat go_step
   refine yt (lP rfl rfl h.box rfl) rfl ?_;rw[iq.out];exact lH h.a h.b h.kp
  |ok t rest c=>
   rintro e W5 ⟨k',cs,rfl,g1,g2,g3,g4,g5,g6,g7,g8⟩;obtain⟨C,rfl⟩:∃ C:List Value,cs=C.toArray:=⟨cs.toList,by simp⟩
   have yC:Hid (C.length=22):=zh (by have:=g8.1;rwa [yd]at this);have yo:=zh g8.2.1;have zi:=fv yC.out;have gr:(Tryz.prog.info? 41).map (·.size)=some C.length:=by rw[yC.out];exact aE
   have hkx:Kp E.X W4 W5:=g7;have od:Hid (FSt ax pa pb w q aA.toArray W5/\InE E k' 0 c 0 0 W5):=zh ⟨HXF.out W5 _ _ _ _ _ hkx g6,g6⟩;obtain⟨hct,hrt⟩:=HFin.out t rest c HR.out;have vm:Hid (c=t.size/\t.right 6=true/\c<=1000000/\k'<E.L.length/\rest=E.L.drop k'):=zh ⟨hct,hrt,by have:=HLn.out;omega,g2,by rw[g3]⟩;have HNV:=zh g8;have ug:Hid (Below W5.heap.size W5 (World.setCells (W5.alloc (.cells aA.toArray 41)) W5.heap.size 0 C)/\Lies (World.setCells (W5.alloc (.cells aA.toArray 41)) W5.heap.size 0 C) W5.heap.size 41 C.toArray):=zh ⟨cU (aQ (.inr zr) C 0 ((Kp.refl _ _).alloc _)),(Lies.new W5 41 aA.toArray).putAll (by rw[yC.out];rfl)⟩;have HT:Hid (World.there (W5.alloc (.cells aA.toArray 41)) W5.heap.size 0 C.toArray.size):=zh (by have:=(Lies.new W5 41 aA.toArray).thereA;have h0:C.toArray.size=22:=(by rw[yd,yC.out]);rw[h0];exact this)
   simp only[aA]at ug;clear g1 g2 g3 g4 g5 g6 g7 g8 hkx hct hrt HFin;obtain⟨tk,htk⟩:∃ tk,E.at k'=tk:=⟨_,rfl⟩
   have HTK:Hid (hd rest=tk):=zh (by rw[<- htk,vm.out.2.2.2.2];rfl)
   go_upto_region 6 with(first |(refine yq rfl 41 (.tmp 13) (.tmp 36) rfl W5.heap.size 0 C.toArray rfl rfl HT.out zi yo.out ?_;change wpList _ _ _ _ _ (World.setCells _ W5.heap.size 0 C);generalize World.setCells _ _ _ _=wz at ug ⊢))
   have HIz:=zh (od.out.2.next ug.out.1);have CT:=zh (cE E k' 0 c 0 0 wz HIz.out vm.out.2.2.2.1);rw[htk]at CT;obtain⟨kk,tx,pl⟩:=tk
   go_wp2_with fail
   refine CT.out.mono ?_;rintro e W7 ⟨rfl,hb7⟩;have gq:=zh (HIz.out.next hb7);have hb57:Below W5.heap.size W5 W7:=ug.out.1.trans (hb7.mono ug.out.1.size);have HF7:=zh (od.out.1.next hb57);have HB57:=zh hb57;have uz:=zh (ug.out.2.next hb7);clear HT ug HIz CT od hb7 hb57 htk;have hf0:=fun W=>mN (kk:Int) ⟨tx.toArray⟩ (pl:Int) W
   by_cases hk0:kk=0
   ·subst hk0;have r3:W7.cell? ⟨E.r,3,none⟩=some (.int .i64 (c:Int)):=gq.out.rd.cell 3;have hHO3:O=(if 256<c then .error (5,0) else if cK t≠0 then .error (cK t,0) else .ok t):=by rw[gy.out];unfold eS;rw[HR.out];dsimp only;rw[HTK.out,if_neg (by simp)]
    have iq:=zh hHO3;clear hHO3 gy HR;by_cases hc:256<c
    ·have my:(256:Int)<(c:Int):=by omega
     have HO4:Hid (O=.error (5,0)):=zh (by rw[iq.out,if_pos hc]);have HT:=zh HF7.out.box.thereA;have ag:=zh (HF7.out.put aA rfl HPA.out HPB.out (Nat.le_of_eq hq))
     go_wp2_with (first |(refine yq rfl 41 (.tmp 6) (.tmp 63) rfl q 0 aA.toArray rfl rfl HT.out aE bB ?_;change wpList _ _ _ _ _ (World.setCells _ q 0 aA);generalize World.setCells _ _ _ _=wz at ag ⊢))
     refine yt (lP rfl rfl ag.out.box rfl) rfl ?_;rw[HO4.out];exact lH ag.out.a ag.out.b ag.out.kp
    have my:¬ (256:Int)<(c:Int):=by omega
    obtain⟨A,cpp,hCC,hkids⟩:=HNV.out.2.2 (by omega);have HKx:=zh (KidsOk.kp (Kp.of_below HB57.out) hkids);have HCC:=zh hCC;clear hkids hCC;have fm:=zh (uz.out.range);have fm:Hid (W7.rangeAt W5.heap.size 0 C):=zh uz.out.range;have CC:=zh (tM t C.toArray W7 ⟨A,cpp,HCC.out,KidsOk.anti (Y:=[]) (fun y hy _=>by cases hy) HKx.out⟩ (by have:=vm.out;omega) (vM t 6 vm.out.2.1))
    go_wp2_with (first |(refine yr rfl 41 (.tmp 13) rfl W5.heap.size 0 rfl C _ fm.out Tryz.underlying41 rfl gr ?_))
    refine CC.out.mono ?_;rintro e W8 ⟨rfl,zt⟩;have HF8:=zh (HF7.out.next zt);have HL8:=zh (uz.out.next zt);have ls:=zh (KidsOk.kp (Kp.of_below zt) HKx.out);clear zt CC HF7 uz HKx fm r3;by_cases hp0:cK t=0
    ·rw[hp0];have HO4:Hid (O=.ok t):=zh (by rw[iq.out,if_neg hc,if_neg (by simp[hp0])]);have fm:Hid (W8.rangeAt W5.heap.size 0 C):=zh HL8.out.range;have HT:Hid (W8.there q 0 C.toArray.size):=zh (by have:=HF8.out.box.thereA;have h0:C.toArray.size=22:=(by rw[yd,yC.out]);rw[h0];exact this);have ag:=zh (And.intro (HF8.out.put C (by rw[yC.out];rfl) HPA.out HPB.out (Nat.le_of_eq hq)) (KidsOk.kp (X:=List.range W4.heap.size) (aQ (W:=W8) (a:=W8) (bx:=q) (.inl (yg.2 kx)) C 0 (Kp.refl _ _)) ls.out))
     go_wp2_with (first |(refine yr rfl 41 (.tmp 13) rfl W5.heap.size 0 rfl C _ fm.out Tryz.underlying41 rfl gr ?_) |(refine yq rfl 41 (.tmp 6) (.tmp 70) rfl q 0 C.toArray rfl rfl HT.out zi yo.out ?_;change wpList _ _ _ _ _ (World.setCells _ q 0 C);generalize World.setCells _ _ _ _=wz2 at ag ⊢))
     refine yt (lP rfl rfl ag.out.1.box (by rw[yd,yC.out])) rfl ?_;rw[HO4.out];refine⟨ag.out.1.a,ag.out.1.b,ag.out.1.kp,fun t' e=>(by cases e;exact⟨vm.out.2.1,by have:=vm.out;omega⟩),A,cpp,by rw[HCC.out];rfl,KidsOk.anti (fun y hy _=>by have:=yg.1 hy;exact yg.2 (by omega)) ag.out.2⟩
    have hpi:((cK t:Nat):Int)≠0:=by omega
    have HO4:Hid (O=.error (cK t,0)):=zh (by rw[iq.out,if_neg hc,if_pos hp0]);generalize cK t=pc at *;have HT:=zh HF8.out.box.thereA;have ag:=zh (HF8.out.put aA rfl HPA.out HPB.out (Nat.le_of_eq hq))
    go_wp2_with (first |(refine yq rfl 41 (.tmp 6) (.tmp 68) rfl q 0 aA.toArray rfl rfl HT.out aE bB ?_;change wpList _ _ _ _ _ (World.setCells _ q 0 aA);generalize World.setCells _ _ _ _=wz at ag ⊢))
    refine yt (lP rfl rfl ag.out.box rfl) rfl ?_;rw[HO4.out];exact lH ag.out.a ag.out.b ag.out.kp
   have HO4:Hid (O=.error (6,pl)):=zh (by rw[gy.out];unfold eS;rw[HR.out];dsimp only;rw[HTK.out,if_pos (by simpa using hk0)]);have lh:(kk:Int)≠0:=by omega
   have CWr:=zh (fB E HEok.out k' 0 c 0 0 6 W7 gq.out vm.out.2.2.2.1);have hpl:(E.at k').place=pl:=by have:=HTK.out;rw[vm.out.2.2.2.2]at this;show (hd (E.L.drop k')).place=pl;rw[this]
   rw[hpl]at CWr;have HXW:Hid (∀ W,Kp [E.r] W7 W->InE E k' 0 c pl 6 W->FSt ax pa pb w q aA.toArray W/\Lies W E.r 66 (rdC E k' 0 c pl 6)):=zh (fun W hk hi=>by
    have h1:=hi.ar;have h2:=hi.ac;rw[oq.out.2.2.1,oq.out.1]at h1;rw[oq.out.2.2.2,oq.out.1]at h2;exact⟨⟨h1,h2,hk.lies HF7.out.box (fun hm=>hqr (yf.1 hm)),HF7.out.kp.andThen hk (fun g hg=>.inr (by rw[yf.1 hg,oq.out.2.1];have:=HWs.out;omega))⟩,hi.rd⟩)
   go_wp2_with fail
   refine CWr.out.mono ?_;rintro e W8 ⟨rfl,g8,g9⟩;have HX9:=zh (HXW.out W8 g9 g8);clear HXW g8 g9 CWr HF7 uz gq;have HX9:Hid (∀ Wz,Below W8.heap.size W8 Wz->FSt ax pa pb w q aA.toArray Wz/\Lies Wz E.r 66 (rdC E k' 0 c pl 6)):=zh (fun Wz hk=>⟨HX9.out.1.next hk,HX9.out.2.next hk⟩);have ug:Hid (Below W8.heap.size W8 W8):=zh (Below.refl _ _)
   go_wp2_with fail
   obtain⟨P0,kh⟩:∃ R:World->Prop,∀ w',R w'↔(FSt ax pa pb w q aA.toArray w'/\Lies w' E.r 66 (rdC E k' 0 c pl 6)):=⟨_,fun _=>Iff.rfl⟩
   have fs:=zh kh;clear kh;obtain⟨P1,qc⟩:∃ R:World->Prop,∀ w',R w'↔(FSt ax pa pb w q aA.toArray w'/\Lies w' E.r 66 (rdC E k' 0 c pl 6)):=⟨_,fun _=>Iff.rfl⟩
   have ki:=zh qc;clear qc;have HQ:=zh hq;clear hq;obtain⟨TT,ae⟩:∃ TT:List (Nat×Nat×Value),TT=[(0,49,.agg aA.toArray),(1,50,.pointer (some ⟨E.r,0,none⟩)),(2,51,.pointer (some ⟨E.r,0,none⟩)),(3,52,.pointer (some ⟨E.r,7,none⟩)),(4,53,.int .i64 (pl:Nat)),(5,54,.pointer (some ⟨E.r,0,none⟩)),(6,55,.pointer (some ⟨E.r,0,none⟩)),(7,56,.pointer (some ⟨E.r,8,none⟩)),(8,57,.int .i64 (6:Nat)),(10,7,.int .i64 (pl:Nat)),(11,8,.int .i64 (6:Nat))]:=⟨_,rfl⟩
   have aq:=zh ae;clear ae;refine bO (fun a0=>71<=a0.tmps.size/\a0.eval (.tmp 6)=.pointer (some ⟨q,0,none⟩)/\a0.eval (.tmp 12)=.pointer (some ⟨E.r,0,none⟩)) [49,50,51,52,53,54,55,56,57,7,8] TT [(9,P1)] P0 (by kernel_rfl) (by kernel_rfl) ⟨by simp,rfl,rfl⟩ ((fs.out _).2 (HX9.out _ ug.out.drew)) ?_ ?_
   ·rintro a0 ⟨hs,ny,hq12⟩ zl a1 w1 zj o bg hI aa ho zd;have ae:=aq.out;subst ae;have hk:okU (([(0,49,.agg aA.toArray),(1,50,.pointer (some ⟨E.r,0,none⟩)),(2,51,.pointer (some ⟨E.r,0,none⟩)),(3,52,.pointer (some ⟨E.r,7,none⟩)),(4,53,.int .i64 (pl:Nat)),(5,54,.pointer (some ⟨E.r,0,none⟩)),(6,55,.pointer (some ⟨E.r,0,none⟩)),(7,56,.pointer (some ⟨E.r,8,none⟩)),(8,57,.int .i64 (6:Nat)),(10,7,.int .i64 (pl:Nat)),(11,8,.int .i64 (6:Nat))]:List (Nat×Nat×Value)).map fun e=>(e.1,e.2.1)) [49,50,51,52,53,54,55,56,57,7,8] 71=true:=by rfl
    have hj:=Up.of_false aa;have hj12:zj<12:=by rw[bg]at hj;exact hj
    have e6x:a1.eval (.tmp 6)=.pointer (some ⟨q,0,none⟩):=(hI.off.eval (by decide)).trans ny;have e12x:a1.eval (.tmp 12)=.pointer (some ⟨E.r,0,none⟩):=(hI.off.eval (by decide)).trans hq12;(iterate 11 rcases zq hj12 with hj12|rfl);obtain rfl:=cz hj12;all_goals obtain rfl:=oi ho
    ·exact aX hk hI hs (.head _) (by simp) aa ho zd (aD rfl) rfl (by simp[execOp,go_sem,aA])
    ·exact aX hk hI hs (.tail _ (.head _)) (by simp) aa ho zd (aD rfl) rfl (by simp[execOp,go_sem,aF e12x])
    ·have d1:=ud zd 1;have p1:=pk hI.pt 1 rfl d1;exact aX hk hI hs (mm 2 rfl) (by simp) aa ho zd (aD rfl) rfl (by simp[execOp,go_sem,aF p1])
    ·have d2:=ud zd 2;have p2:=pk hI.pt 2 rfl d2;exact aX hk hI hs (mm 3 rfl) (by simp) aa ho zd (aD rfl) rfl (by simp[execOp,go_sem,aF p2])
    ·have d3:=ud zd 3;have p3:=pk hI.pt 3 rfl d3;have hq:w1.cell? ⟨E.r,7,none⟩=some (.int .i64 (pl:Nat)):=by
      obtain⟨jj,re,hP⟩:=hI.low 1 (by simp) (fun m hm=>by cases hm) aa;rcases(by omega:jj=0\/jj=1) with rfl|rfl
      ·have hP:P0 w1:=hP;exact((fs.out _).1 hP).2.cell 7
      have hP:P1 w1:=hP;exact((ki.out _).1 hP).2.cell 7
     exact aX hk hI hs (mm 4 rfl) (by simp) aa ho zd (aD rfl) rfl (by simp[execOp,go_sem,aF p3,hq])
    ·exact aX hk hI hs (mm 5 rfl) (by simp) aa ho zd (aD rfl) rfl (by simp[execOp,go_sem,aF e12x])
    ·have d5:=ud zd 5;have p5:=pk hI.pt 5 rfl d5;exact aX hk hI hs (mm 6 rfl) (by simp) aa ho zd (aD rfl) rfl (by simp[execOp,go_sem,aF p5])
    ·have d6:=ud zd 6;have p6:=pk hI.pt 6 rfl d6;exact aX hk hI hs (mm 7 rfl) (by simp) aa ho zd (aD rfl) rfl (by simp[execOp,go_sem,aF p6])
    ·have d7:=ud zd 7;have p7:=pk hI.pt 7 rfl d7;have hq:w1.cell? ⟨E.r,8,none⟩=some (.int .i64 (6:Nat)):=by
      obtain⟨jj,re,hP⟩:=hI.low 1 (by simp) (fun m hm=>by cases hm) aa;rcases(by omega:jj=0\/jj=1) with rfl|rfl
      ·have hP:P0 w1:=hP;exact((fs.out _).1 hP).2.cell 8
      have hP:P1 w1:=hP;exact((ki.out _).1 hP).2.cell 8
     exact aX hk hI hs (mm 8 rfl) (by simp) aa ho zd (aD rfl) rfl (by simp[execOp,go_sem,aF p7,hq])
    ·have d0:=ud zd 0;have p0:=pk hI.pt 0 rfl d0;refine lI hI (by simp) (by kernel_rfl) [] [] P1 rfl aa ho zd (aD rfl) rfl (fun hP=>?_);have hP:P0 w1:=hP;have h:=((fs.out _).1 hP).1;have hl:=((fs.out _).1 hP).2;exact⟨w1.setCells q 0 aA,eW 41 (.tmp 6) (.tmp 49) rfl q 0 aA.toArray e6x p0 h.box.thereA aE bB,(ki.out _).2 ⟨h.put aA rfl HPA.out HPB.out (Nat.le_of_eq HQ.out),fK (Ne.symm hqr) aA 0 hl⟩⟩
    ·have d4:=ud zd 4;have p4:=pk hI.pt 4 rfl d4;exact aX hk hI hs (mm 9 rfl) (by simp) aa ho zd (aD rfl) rfl (by simp[execOp,go_sem,aF p4])
    have d8:=ud zd 8;have p8:=pk hI.pt 8 rfl d8;exact aX hk hI hs (mm 10 rfl) (by simp) aa ho zd (aD rfl) rfl (by simp[execOp,go_sem,aF p8])
   intro zl a1 w1 hI aw;have ae:=aq.out;subst ae;have hF:P1 w1:=hI.st.last (fun m hm=>aw m.1 (by simp only[ym,List.not_mem_nil,or_false]at hm;rcases hm with rfl;all_goals simp));have z7:a1.eval (.tmp 7)=.int .i64 (pl:Nat):=hI.pt (10,7,.int .i64 (pl:Nat)) (mm 9 rfl) (aw 10 (by decide));have z8:a1.eval (.tmp 8)=.int .i64 (6:Nat):=hI.pt (11,8,.int .i64 (6:Nat)) (mm 10 rfl) (aw 11 (by decide));obtain⟨ff,rfl,hf⟩:=hI.off.forms;rw[<- hf 7]at z7;rw[<- hf 8]at z8;clear hI;simp only[List.foldl,Act.put,yz,List.set];rw[z7,z8];have h:=((ki.out _).1 hF).1;simp only[Exit.then]
   go_step
   repeat go_step
   refine yt (lP rfl rfl h.box rfl) rfl ?_;rw[HO4.out];exact lH h.a h.b h.kp
theorem pAxis_nd(ids:List IdR):∀ k,k<=ids.length->(fR (ids.take k)).Nodup/\id0∉fR (ids.take k):=by
 intro k
 induction k with
 |zero=>intro _;exact⟨List.nodup_nil,by simp[fR]⟩
 |succ k ih=>
  intro h;obtain⟨h1,h2⟩:=ih (by omega);rw[oX ids k h];unfold kY
  split
  ·exact⟨h1,h2⟩
  rename_i hn
  rw[not_or]at hn;refine⟨?_,?_⟩
  ·rw[List.nodup_append];refine⟨h1,by simp,fun a ha b hb=>?_⟩;rw[yf.1 hb];exact fun e=>hn.2 (e ▸ ha)
  rw[List.mem_append,not_or];exact⟨h2,fun h=>hn.1 (yf.1 h).symm⟩
theorem rH(ids:List IdR):(fR ids).Nodup/\id0∉fR ids/\(fR ids).length<=ids.length/\∀ y∈fR ids,y∈ids:=by
 have h1:=pAxis_nd ids ids.length zr;have h2:=uJZ ids ids.length zr;have h3:=uKA ids ids.length zr;rw[List.take_length]at h1 h2 h3;exact⟨h1.1,h1.2,h2,h3⟩
theorem yI(r c:List IdR):lU ⟨fR r,fR c⟩:=⟨fun _ hx e=>(rH r).2.1 (e ▸ hx),fun _ hx e=>(rH c).2.1 (e ▸ hx)⟩
theorem AxMk.axIn{q base:Nat}{acc:List IdR}{v1 v2:Value}{W:World}(h:AxMk q base acc v1 v2 W)(hl:acc.length<=300)(hf:∀ y∈acc,y.fits)(hn:acc.Nodup):AxIn W (some q) acc:=by
 refine .inl ⟨base,acc,List.replicate acc.length true,v1,v2,?_,by simp,hl,hf,hn,?_⟩
 ·exact⟨h.ax,h.r1,by rw[List.length_replicate];unfold bools;rw[List.map_replicate];exact h.r2⟩
 exact(uM acc).symm
def eR(acc:List IdR)(x:IdR):List IdR:=if 1000<=acc.length\/x=id0\/x∈acc then acc else acc++[x]
def cY(ids:List IdR):List IdR:=ids.foldl eR []
theorem nL(ids:List IdR)(k:Nat)(h:k<ids.length):cY (ids.take (k+1))=eR (cY (ids.take k)) ids[k]:=by
 unfold cY;rw[yw h,List.foldl_append];rfl
theorem uDU(acc:List IdR)(x:IdR)(h:acc.length<=1000):(eR acc x).length<=1000:=by
 unfold eR
 split
 ·exact h
 rename_i h2
 rw[yl];have:¬ 1000<=acc.length:=fun h=>h2 (.inl h)
 simp;omega
theorem uAU:∀ (ids acc:List IdR),acc.length<=1000->(ids.foldl eR acc).length<=1000
 | [],_,h=>h
 |x::l,acc,h=>uAU l _ (uDU acc x h)
theorem xJ(ids:List IdR):(cY ids).length<=1000:=uAU ids [] (by simp)
theorem uA:∀ (ids acc:List IdR),acc.length=1000->ids.foldl eR acc=acc
 | [],_,_=>rfl
 |x::l,acc,h=>by
  have e:eR acc x=acc:=by unfold eR;rw[if_pos (.inl (by omega))]
  rw[List.foldl_cons,e];exact uA l acc h
theorem uBZ(ids:List IdR)(k:Nat)(h:(cY (ids.take k)).length=1000):cY ids=cY (ids.take k):=by
 have e:cY ids=(ids.drop k).foldl eR (cY (ids.take k)):=by
  unfold cY;rw[<- List.foldl_append,List.take_append_drop]
 rw[e];exact uA _ _ h
theorem uAB(acc:List IdR)(x y:IdR)(h:y∈eR acc x):y∈acc\/y=x:=by
 unfold eR at h
 split at h
 ·exact .inl h
 rcases List.mem_append.1 h with h|h
 ·exact .inl h
 exact .inr (yf.1 h)
theorem uFR(ids:List IdR):∀ k,k<=ids.length->∀ y∈cY (ids.take k),y∈ids:=by
 intro k
 induction k with
 |zero=>intro _ y hy;cases hy
 |succ k ih=>
  intro h y hy;rw[nL ids k h]at hy;rcases uAB _ _ _ hy with h1|h1
  ·exact ih (by omega) y h1
  rw[h1];exact List.getElem_mem h
theorem rU:∀ (ids acc:List IdR),acc.length+ids.length<=1000->ids.foldl eR acc=ids.foldl kY acc
 | [],_,_=>rfl
 |x::l,acc,h=>by
  have e:eR acc x=kY acc x:=by
   unfold eR kY;rw[yi]at h;have h1:¬ 1000<=acc.length:=by omega
   simp only[h1,false_or]
  rw[List.foldl_cons,List.foldl_cons,e];have:=tI acc x;rw[yi]at h;exact rU l _ (by omega)
theorem zF(ids:List IdR)(h:ids.length<=1000):cY ids=fR ids:=rU ids [] (by simpa using h)
set_option maxRecDepth 100000 in
theorem uDS(A:Option Addr)(cap:Nat)(ids:List IdR)(w:World)(hA:mR w A ids)(hn:ids.length<=maxLen)(hf:∀ y∈ids,y.fits) :
  Calls Tryz.prog 18 #[.slice A ids.length cap] w fun e w'=>∃ v1 v2,e=.returned (.pointer (some ⟨w.heap.size,0,none⟩))/\AxMk w.heap.size (w.heap.size+2) (cY ids) v1 v2 w'/\Below w.heap.size w w':=by
 have hmm:=@run_makeMap Tryz.prog;have HF:=zh hf;have HA:=zh hA;have HS:=zh (nL ids);have HMm:=zh (uFR ids);have HAll:Hid (cY (ids.take ids.length)=cY ids):=zh (by rw[List.take_length]);obtain⟨n,s6⟩:∃ n,n=ids.length:=⟨_,rfl⟩
 have HN:=zh s6;rw[<- s6]at hn ⊢;unfold maxLen at hn;clear hf hA s6
 go_enter Tryz.func18,Tryz.ntmps18
 go_upto_region 4 with fail
 generalize kq:(w.alloc (.cells #[.slice none 0 0,.slice none 0 0,.map none,.slice none 0 0,.slice none 0 0] 82)).alloc (.map #[] 0)=W2 at *;have HM0:Hid (AxMk w.heap.size (w.heap.size+2) [] (.slice none 0 0) (.slice none 0 0) W2):=zh (by
  rw[<- kq];exact⟨(Lies.new w _ _).alloc _,⟨rfl,.inl ⟨rfl,rfl⟩⟩,⟨rfl,.inl ⟨rfl,rfl⟩⟩⟩)
 have cf:Hid (KMap W2 (w.heap.size+1) [] (fun v=>v=.bool true)):=zh (by
  rw[<- kq];refine⟨#[],0,?_,rfl,fun e he=>by cases he⟩;have h:=heap_alloc_new (w.alloc (.cells #[.slice none 0 0,.slice none 0 0,.map none,.slice none 0 0,.slice none 0 0] 82)) (.map #[] 0);rw[World.size_alloc]at h;exact h)
 have HB0:Hid (Below w.heap.size w W2):=zh (by rw[<- kq];exact((Below.refl _ w).alloc zr _).alloc (by simp) _);have HZ0:Hid (w.heap.size+2<=W2.heap.size):=zh (by rw[<- kq];simp);clear kq
 go_loopw [12] (fun v12 wx=>∃ (k:Nat) (v1 v2:Value),v12=.int .i64 (k:Int)/\k<=n/\Hid (AxMk w.heap.size (w.heap.size+2) (cY (ids.take k)) v1 v2 wx)/\Hid (KMap wx (w.heap.size+1) (cY (ids.take k)) (fun v=>v=.bool true))/\Hid (Below w.heap.size w wx)/\Hid (w.heap.size+2<=wx.heap.size)) (fun v12 _=>n-(intOf v12).toNat)
 case atStart=>exact⟨0,_,_,rfl,zm _,HM0,cf,HB0,HZ0⟩
 case round=>
  obtain⟨k,v1,v2,rfl,hk,hM,hK,hB,hZ⟩:=hrel;generalize fa:w.heap.size=q at *;have HQ:=zh fa;clear fa;clear HM0 cf HB0 HZ0;by_cases hlt:k<n
  ·have lh:k<ids.length:=by rw[<- HN.out];exact hlt
   obtain⟨ga,oa,rfl,m5,bj⟩:=HA.out (by omega);obtain⟨c0,c1⟩:=bj k lh;have hxf:=HF.out _ (List.getElem_mem lh);have hacc:=xJ (ids.take k);have HFl:=zh (fun h=>uBZ ids k h);have s7:=zh (fun y hy=>HF.out y (HMm.out k (by omega) y hy));have HSt:=zh (HS.out k lh);have d0:wr.cell? ⟨ga,oa+k*2,none⟩=some (.int .i64 ids[k].a):=(hB.out.cell (p:=⟨ga,_,none⟩) (by rw[<- HQ.out];exact m5)).trans c0;have d1:wr.cell? ⟨ga,oa+k*2+1,none⟩=some (.int .i64 ids[k].n):=(hB.out.cell (p:=⟨ga,_,none⟩) (by rw[<- HQ.out];exact m5)).trans c1;generalize ids[k]=x at *;generalize cY (ids.take k)=acc at *;generalize o6:cY (ids.take (k+1))=acc' at *;have j0:=zh o6;clear o6 c0 c1 bj;obtain⟨xa,xn⟩:=x;dsimp only at d0 d1;obtain⟨A1,ap,rfl⟩:=fE hM.out.r1;obtain⟨A2,cap2,rfl⟩:=fE hM.out.r2;generalize hle:acc.length=m at *
   go_upto_region 6 with fail
   have s8:=zh (hM.out.next ((Below.refl _ wr).alloc zr (.cells #[.int .i64 xa,.int .i64 xn] 34)));have hK3:=zh (hK.out.at (Below.heap_alloc wr (.cells #[.int .i64 xa,.int .i64 xn] 34) (q+1) hK.out.lt));have hB3:=zh (hB.out.alloc (yv (Nat.le_add_right q 2) hZ.out) (.cells #[.int .i64 xa,.int .i64 xn] 34));have rp:=zh (Lies.new wr 34 #[.int .i64 xa,.int .i64 xn]);have hZ3:Hid (q+2<=(wr.alloc (.cells #[.int .i64 xa,.int .i64 xn] 34)).heap.size):=zh (by rw[World.size_alloc];have:=hZ.out;omega);have hbq:q+2<=wr.heap.size:=hZ.out;have hbo:Hid (∀ g,(Value.slice A1 m ap).ownBlock=some g->g<wr.heap.size):=zh (fun g hg=>(cV hM.out.r1 g hg).2);generalize wr.alloc (.cells #[.int .i64 xa,.int .i64 xn] 34)=W3 at *;generalize wr.heap.size=bx at *;clear d0 d1 hM hK hB hZ;have a0:=s8.out.ax.cell 0;have a1:=s8.out.ax.cell 1;have b0:=rp.out.cell 0;have b1:=rp.out.cell 1
   simp only[za,zb,zf]at a0 a1 b0 b1;have hb10:=HFl;clear HFl;by_cases zu:m=1000
   ·have tj:((m:Int)==1000)=true:=by rw[zu];rfl
    have HFU:=zh (hb10.out zu);clear hb10 zu
    go_wp2_with fail
    go_ret
    exact⟨.slice A1 m ap,.slice A2 m cap2,by rw[HQ.out];rfl,by rw[HQ.out,HFU.out];exact s8.out,by rw[HQ.out];exact hB3.out⟩
   clear hb10;have hm1000:((m:Int)==1000)=false:=by simp;omega
   have hlk0:=hK3.out.look (t:=83) (et:=4) Tryz.underlying83 (z:=.bool false) (by kernel_rfl) s7.out ⟨xa,xn⟩ hxf;have mo:∀ a' n',a'=xa->n'=xn->(Instr.lookup 83 (.map (some (q+1))) (.agg #[.int .i64 a',.int .i64 n']) false).run Tryz.prog W3=.ok (.bool (decide ((⟨xa,xn⟩:IdR)∈acc))) W3:=by
    intro a' n' e1 e2;rw[e1,e2];refine hlk0.trans ?_;by_cases h:(⟨xa,xn⟩:IdR)∈acc <;> simp[h]
   have HD:Hid (∀ d,(d=true↔((⟨xa,xn⟩:IdR)=id0\/(⟨xa,xn⟩:IdR)∈acc))->acc'=if d then acc else acc++[⟨xa,xn⟩]):=zh (by
    intro d hd;rw[HSt.out,eR];cases d
    ·rw[if_neg (fun h=>h.elim (fun h=>by omega) (fun h=>by have:=hd.2 h;cases this))];rfl
    rw[if_pos (.inr (hd.1 rfl))];rfl)
   clear hlk0
   go_upto_region 7 with fail
   go_cut [29] (fun v29 wx=>∃ d:Bool,v29=.bool d/\Hid (d=true↔((⟨xa,xn⟩:IdR)=id0\/(⟨xa,xn⟩:IdR)∈acc))/\Hid (wx=W3))
   case first=>
    by_cases hxa:xa=0
    ·subst hxa;by_cases hxn:xn=0
     ·subst hxn
      go_wp2_with fail
      go_meet
      exact⟨true,rfl,zh (by simp),zh rfl⟩
     have hxb:(xn==0)=false:=by simpa using hxn
     have hid:¬ (⟨0,xn⟩:IdR)=id0:=fun h=>hxn (congrArg IdR.n h)
     clear hxn
     go_wp2_with fail
     all_goals go_meet
     all_goals exact⟨_,rfl,zh (by simp[hid]),zh rfl⟩
    have hxb:(xa==0)=false:=by simpa using hxa
    have hid:¬ (⟨xa,xn⟩:IdR)=id0:=fun h=>hxa (congrArg IdR.a h)
    clear hxa
    go_wp2_with fail
    all_goals go_meet
    all_goals exact⟨_,rfl,zh (by simp[hid]),zh rfl⟩
   case rest=>
    obtain⟨d,rfl,hd,hw⟩:=hcut;obtain rfl:=hw.out;clear hw mo;have el:=HD.out d hd.out;cases d
    ·rw[if_neg (by decide)]at el;have hin:¬ (⟨xa,xn⟩:IdR)∈acc:=fun h=>by have:=hd.out.2 (.inr h);cases this
     obtain⟨W4,aw,hK4,qv⟩:=hK3.out.put (t:=83) (et:=4) Tryz.underlying83 s7.out ⟨xa,xn⟩ hxf hin (.bool true) rfl;dsimp only[idV]at aw;clear hd HD hin
     go_upto_region 9 with fail
     clear a0 a1 b0 b1;have mt:=qv.kp;have hL4:Lies W4 bx 34 #[.int .i64 xa,.int .i64 xn]:=mt.lies rp.out (by simp;omega);have hX4:Lies W4 q 82 #[.slice A1 m ap,.slice A2 m cap2,.map none,.slice none 0 0,.slice none 0 0]:=mt.lies s8.out.ax (by simp);have hR1:W4.ownsRow (q+2) 34 2 (.slice A1 m ap) m (cT acc):=kD (hle ▸ s8.out.r1) mt (fun g hg=>by have:=(cV s8.out.r1 g hg).1;simp;omega);have xp:W4.ownsRow (q+2) 4 1 (.slice A2 m cap2) m (List.replicate m (.bool true)):=kD (hle ▸ s8.out.r2) mt (fun g hg=>by have:=(cV s8.out.r2 g hg).1;simp;omega);have pf:=zh (hB3.out.trans ((mt.below (B:=q) (by simp) (by have:=hZ3.out;omega))));have HY:Hid (∀ g,(Value.slice A1 m ap).ownBlock=some g->g∈q::(Value.slice A1 m ap).ownBlock.toList):=zh (fun g hg=>by rw[hg];simp);have qh:=zh hL4;have HX4:=zh hX4;have de:=zh hR1;have ce:=zh xp;have j9:=zh hK4
     have HZ4:Hid (q+2<=W4.heap.size):=zh (by rw[qv.size];exact hZ3.out);clear aw qv mt hL4 hX4 hR1 xp hK4 s8 hK3 hB3 rp hZ3;have bf:bx≠q:=by omega
     have hbY:Hid (bx∉q::(Value.slice A1 m ap).ownBlock.toList):=zh (fun h=>by
      rcases ym.1 h with h|h
      ·exact bf h
      have:=hbo.out bx (by simpa using h);omega)
     go_cut [39] (fun v39 wx=>∃ v1',Hid (Lies wx q 82 #[v1',.slice A2 m cap2,.map none,.slice none 0 0,.slice none 0 0])/\Hid (wx.ownsRow (q+2) 34 2 v1' (m+1) (cT acc++[.int .i64 xa,.int .i64 xn]))/\Hid (Kp (q::(Value.slice A1 m ap).ownBlock.toList) W4 wx))
     case first=>
      obtain⟨TT,ae⟩:∃ TT:List (Nat×Nat×Value),TT=[(0,32,.pointer (some ⟨q,0,none⟩)),(1,33,.pointer (some ⟨q,0,none⟩)),(2,34,.pointer (some ⟨q,0,none⟩)),(3,35,.pointer (some ⟨q,0,none⟩)),(4,36,.slice A1 m ap),(5,37,.agg #[.int .i64 xa,.int .i64 xn]),(8,40,.pointer (some ⟨q,0,none⟩)),(9,41,.pointer (some ⟨q,0,none⟩))]:=⟨_,rfl⟩
      have aq:=zh ae;clear ae;refine gC (by kernel_rfl) (by kernel_rfl) (fun a0=>53<=a0.tmps.size/\a0.eval (.tmp 3)=.pointer (some ⟨q,0,none⟩)/\a0.eval (.tmp 6)=.pointer (some ⟨bx,0,none⟩)) (GA [32,33,34,35,36,37,38,39,40,41] TT (q::(Value.slice A1 m ap).ownBlock.toList) W4 4 6 38 7 39 10 q 0 34 82 #[.slice A1 m ap,.slice A2 m cap2,.map none,.slice none 0 0,.slice none 0 0] (q+2) 2 m (.slice A1 m ap) (cT acc) [.int .i64 xa,.int .i64 xn]) ⟨by simp,rfl,rfl⟩ (GA.start _ _ (Kp.refl _ _).drew de.out HX4.out) ?_ ?_
      ·rintro a0 ⟨hs,mu,ny⟩ zl a1 w1 j o bg hI aa ho zd;have ae:=aq.out;subst ae;have hk:GAk [32,33,34,35,36,37,38,39,40,41] [(0,32,.pointer (some ⟨q,0,none⟩)),(1,33,.pointer (some ⟨q,0,none⟩)),(2,34,.pointer (some ⟨q,0,none⟩)),(3,35,.pointer (some ⟨q,0,none⟩)),(4,36,.slice A1 m ap),(5,37,.agg #[.int .i64 xa,.int .i64 xn]),(8,40,.pointer (some ⟨q,0,none⟩)),(9,41,.pointer (some ⟨q,0,none⟩))] (q::(Value.slice A1 m ap).ownBlock.toList) 6 38 7 39 10 q 34 82 (.slice A1 m ap) 53:=⟨rfl,by decide,HY.out,.head _⟩
       have hj:=Up.of_false aa;have hj12:j<11:=by rw[bg]at hj;exact hj
       have e3x:a1.eval (.tmp 3)=.pointer (some ⟨q,0,none⟩):=(hI.off.eval (by decide)).trans mu;have e6x:a1.eval (.tmp 6)=.pointer (some ⟨bx,0,none⟩):=(hI.off.eval (by decide)).trans ny;rcases(by omega:j=0\/j=1\/j=2\/j=3\/j=4\/j=5\/j=6\/j=7\/j=8\/j=9\/j=10) with rfl|rfl|rfl|rfl|rfl|rfl|rfl|rfl|rfl|rfl|rfl<;>obtain rfl:=oi ho
       ·exact cG hk hI hs (.head _) aa ho rfl rfl (by simp[execOp,go_sem,aF e3x])
       ·exact cG hk hI hs (.tail _ (.head _)) aa ho rfl rfl (by simp[execOp,go_sem,aF e3x])
       ·have d1:=ud zd 1;have p1:=pk hI.pt 1 rfl d1;exact cG hk hI hs (mm 2 rfl) aa ho rfl rfl (by simp[execOp,go_sem,aF p1])
       ·have d2:=ud zd 2;have p2:=pk hI.pt 2 rfl d2;exact cG hk hI hs (mm 3 rfl) aa ho rfl rfl (by simp[execOp,go_sem,aF p2])
       ·have d3:=ud zd 3;have p3:=pk hI.pt 3 rfl d3;have c0:=(hI.unl aa).cell 0;simp only[za,zb]at c0;exact cG hk hI hs (mm 4 rfl) aa ho rfl rfl (by simp[execOp,go_sem,aF p3,c0])
       ·have hLb:=hI.kp.lies qh.out hbY.out;have l0:=hLb.cell 0;have l1:=hLb.cell 1;simp only[za,zb,zf]at l0 l1;exact cG hk hI hs (mm 5 rfl) aa ho rfl rfl (by simp[execOp,go_sem,aF e6x,l0,l1])
       ·have d5:=ud zd 5;have p5:=pk hI.pt 5 rfl d5;exact uB hk hI hs aa ho rfl rfl (by simp[execOp,go_sem,aF p5])
       ·have d4:=ud zd 4;have p4:=pk hI.pt 4 rfl d4;have d6:=ud zd 6;obtain⟨i1,gi,gz0,gz1,gz2⟩:=info_parts uEV;exact uET hk hI hs aa ho rfl rfl d4 d6 22 36 rfl p4 i1 (.agg #[.int .i64 0,.int .i64 0]) 16 Tryz.underlying22 gi gz0 gz1 gz2 rfl (by decide) rfl (by intro u hu;simp at hu;rcases hu with rfl|rfl <;> rfl) (by unfold maxLen;omega) (by omega) (yv HZ4.out hI.kp.size)
       ·have d0:=ud zd 0;have p0:=pk hI.pt 0 rfl d0;exact cG hk hI hs (mm 6 rfl) aa ho rfl rfl (by simp[execOp,go_sem,aF p0])
       ·have d8:=ud zd 8;have p8:=pk hI.pt 6 rfl d8;exact cG hk hI hs (mm 7 rfl) aa ho rfl rfl (by simp[execOp,go_sem,aF p8])
       have d9:=ud zd 9;have p9:=pk hI.pt 7 rfl d9;have d7:=ud zd 7;exact uC hk hI aa ho rfl rfl d7 (fun hL jx=>by
        obtain⟨gs,cs,jx⟩:=jx;have c0:=hL.cell 0;have k0:=hL.frozen 0;simp at c0;rw[jx];simp[execOp,go_sem,aF p9,aF jx,c0,k0])
      intro zl a1 w1 hI aw;have ae:=aq.out;subst ae;have jn:=hI.kp;have al:=hI.o2 (aw 7 (by decide));have j1:=(hI.b2 (aw 10 (by decide))).2;obtain⟨ff,rfl,hf⟩:=hI.off.forms;rw[<- hf 39]at al j1;clear hI;generalize ff 39=v' at *;simp only[List.foldl,Act.put,yz,List.set];simp only[Exit.then]
      go_step
      go_meet
      exact⟨v',zh j1,zh al,zh jn⟩
     case rest=>
      obtain⟨v1',od,tg,j3⟩:=hcut;obtain⟨A1',qi,rfl⟩:=fE tg.out;have la:=zh (kD ce.out j3.out (fun g hg=>by
       intro hm;rcases ym.1 hm with h|h
       ·subst h;exact gT (by decide) ce.out HX4.out hg.symm
       exact qD (by decide) ce.out de.out g hg (by simpa using h)))
      have HK52:=zh (j9.out.at (j3.out.block (q+1) j9.out.lt (fun hm=>by
       rcases ym.1 hm with h|h
       ·omega
       have:=(cV de.out (q+1) (by simpa using h)).1;omega)))
      have di:=zh (pf.out.trans (j3.out.below (B:=q) (fun g hg=>by
       rcases ym.1 hg with h|h
       ·omega
       have:=(cV de.out g (by simpa using h)).1;omega) (by have:=HZ4.out;omega)))
      have zw:Hid (q+2<=wc.heap.size):=zh (yv HZ4.out j3.out.size);clear HX4 de ce j9 j3 qh pf HZ4 HY hbY;have x1:=od.out.cell 1;have f1:=od.out.frozen 1;simp only[za,zb,zf]at x1;have hqz:q<wc.heap.size:=by have:=zw.out;omega
      obtain⟨i1,gi,gz0,gz1,gz2⟩:=info_parts uAZ
      go_wp2_with (at_builtin;refine wpList_append_own _ rfl _ _ 78 rfl (q+2) 4 i1 (.bool false) 1 1 Tryz.underlying78 gi gz0 gz1 gz2 rfl (by decide) _ _ _ rfl (World.ownsRow.alloc la.out _) ⟨wc.heap.size,0,none⟩ 1 1 [.bool true] rfl rfl ?c1 ?c2 ?c3 ?c4 ?c5 ?_)
      case c1=>
       intro j u hj
       match j,hj with
       |0,hj=>simp at hj;subst hj;simp[Addr.add]
      case c2=>intro u hu;simp at hu;subst hu;rfl
      case c3=>unfold maxLen;omega
      case c4=>omega
      case c5=>have:=zw.out;rw[World.size_alloc];omega
      intro v2' W6 dm cu _;obtain⟨A2',qj,rfl⟩:=fE dm;have m5:wc.grownBy W6 (Value.slice A2 m cap2).ownBlock:=(World.grownBy_alloc wc _ _).trans cu;have tn:=zh (od.out.grownA m5 (gT (by decide) la.out od.out));have HR6:=zh (World.ownsRow.kept tg.out m5 (by
       cases hv:(Value.slice A1' (m+1) qi).ownBlock with
       |none=>exact .inl rfl
       |some g=>exact .inr (fun e=>qD (by decide) tg.out la.out g hv e.symm)))
      have HR62:=zh dm;have iv:=zh (HK52.out.at (m5.block (q+1) HK52.out.lt (fun e=>by have:=(cV la.out (q+1) e.symm).1;omega)));have HB6:=zh (di.out.grown m5 (by have:=zw.out;omega) (fun g hg=>by have:=(cV la.out g hg).1;omega));have HZ6:Hid (q+2<=W6.heap.size):=zh (yv zw.out m5.size);clear m5 cu dm od tg la HK52 di zw x1 f1 hqz;have x1:=tn.out.cell 1;have f1:=tn.out.frozen 1;simp only[za,zb,zf]at x1
      go_wp2_with fail
      go_roundw
      case rel=>
       refine⟨k+1,.slice A1' (m+1) qi,.slice A2' (m+1) qj,by go_num,by omega,zh ⟨tn.out.put 1 _,?_,?_⟩,zh ?_,zh (HB6.out.setCell (p:=⟨q,1,none⟩) (Nat.le_refl q) _),zh (by rw[World.size_setCell];exact HZ6.out)⟩
       ·rw[j0.out,el,mG,yl,hle];exact nY (by decide) HR6.out tn.out 1 _
       ·rw[j0.out,el,yl,hle];have h:=nY (by decide) HR62.out tn.out 1 (.slice A2' (m+1) qj);rw[<- List.replicate_succ']at h;exact h
       rw[j0.out,el];exact iv.out.at (Below.heap_setCell _ _ _ _ (by show q+1≠q;omega))
      case measure=>simp[intOf];omega
    rw[if_pos rfl]at el
    go_wp2_with fail
    go_roundw
    case rel=>exact⟨k+1,_,_,by go_num,by omega,by rw[j0.out,el];exact s8,by rw[j0.out,el];exact hK3,hB3,hZ3⟩
    case measure=>simp[intOf];omega
  obtain rfl:k=n:=by omega
  rw[HN.out,HAll.out]at hM
  go_wp2_with fail
  go_ret
  exact⟨v1,v2,by rw[HQ.out];rfl,by rw[HQ.out];exact hM.out,by rw[HQ.out];exact hB.out⟩
end Go.Proofs.YtmgjidnalpgegaaGreatDoor
