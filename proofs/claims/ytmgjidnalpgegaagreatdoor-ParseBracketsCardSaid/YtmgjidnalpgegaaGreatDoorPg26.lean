/-
  Lemmas, part 26: PaU PaX.
-/
import Derived.Test.YtmgjidnalpgegaaGreatDoorPg25
namespace Go.Proofs.YtmgjidnalpgegaaGreatDoor
open Go.RowKit
theorem kV{fn:Func}{p u v:Tmp}{tmps:Array Value}{w:World}{g:Nat}{cs:Array Value}(h:fn.results=#[.cell p 41,.tmp u,.tmp v])(hp:tmps.getD p undef=.pointer (some ⟨g,0,none⟩))(hl:Lies w g 41 cs)(h22:cs.size=22) :
  (results fn tmps).run Tryz.prog w=.ok (.tuple #[.agg cs,tmps.getD u undef,tmps.getD v undef]) w:=by
 have hr:=run_loadVar_row (P:=Tryz.prog) w g 41 41 cs _ _ hl Tryz.underlying41 rfl (by rw[h22];exact aE);have h2:(results fn tmps).run Tryz.prog w=((asAddr (tmps.getD p undef)).run Tryz.prog w).andThen fun a w₁=>((loadVar 41 a).run Tryz.prog w₁).andThen fun x w₂=>.ok (.tuple #[x,tmps.getD u undef,tmps.getD v undef]) w₂:=by
  simp only[results,h];simp[Sem.run_bind,Result.andThen]
 rw[h2,hp];simp only[asAddr,Sem.run_pure,Result.andThen_ok,hr]
theorem vF(ts:List Tok)(j:Nat)(h:j<ts.length):(eA ts)[j*3]?=some (.int .i64 ts[j].kind)∧(eA ts)[j*3+1]?=some (.string ⟨ts[j].text.toArray⟩)∧(eA ts)[j*3+2]?=some (.int .i64 ts[j].place):=by
 induction ts generalizing j with
 | nil=>simp at h
 | cons t ts ih=>
  have e:eA (t::ts)=eX t++eA ts:=by simp[eA]
  have hl:(eX t).length=3:=rfl;cases j with
  | zero=>rw[e];exact⟨rfl,rfl,rfl⟩
  | succ j=>
   have:=ih j (by simpa using h);rw[e];rw[List.getElem?_append_right (by omega),List.getElem?_append_right (by omega),List.getElem?_append_right (by omega),hl];rw[show (j+1)*3-3=j*3 by omega,show (j+1)*3+1-3=j*3+1 by omega,show (j+1)*3+2-3=j*3+2 by omega];simpa using this
theorem toks_in{w:World}{base:Nat}{e:TypeId}{v:Value}{n:Nat}{ts:List Tok}(hn:n=ts.length)(h0:0<n)(h:w.ownsRow base e 3 v n (eA ts)):∃ g cap,v=.slice (some ⟨g,0,none⟩) ts.length cap∧base≤g∧TokIn w g ts:=by
 subst hn;obtain⟨g,cap,rfl,hb,hlt⟩:=h.form h0;refine⟨g,cap,rfl,hb,hlt,fun j hj=>?_⟩;have hc:=h.cells (g:=g) rfl;obtain⟨h1,h2,h3⟩:=vF ts j hj;have k1:=hc _ _ h1;have k2:=hc _ _ h2;have k3:=hc _ _ h3;rw[Addr.add_mid,Nat.zero_add]at k1 k2 k3;exact⟨k1,k2,k3⟩
theorem lex_len2(s:Bs)(ts:List Tok)(h:iG s=.ok ts):ts.length≤s.length:=xQ _ _ _ _ h
def nH:Except (Nat×Nat) Tree→Tree
 | .ok t=>t
 | .error _=>lX
def uDY:Except (Nat×Nat) Tree→Nat
 | .ok _=>0
 | .error x=>x.2
def uDX:Except (Nat×Nat) Tree→Nat
 | .ok _=>0
 | .error x=>x.1
def FPost(ax:Ax)(pa pb:Option Nat)(w:World)(r:Except (Nat×Nat) Tree)(e:Ending)(w':World):Prop :=
 AxIn w' pa ax.rows∧AxIn w' pb ax.cols∧Kp (pa.toList++pb.toList) w w'∧(∀ t,r=.ok t→t.right 6=true∧t.size≤256) ∧
  ∃ A cp,e=.returned (.tuple #[dS (nH r).h A (nH r).l.length cp,.int .i64 (uDY r:Nat),.int .i64 (uDX r:Nat)])∧KidsOk w' (List.range w.heap.size) A (nH r).l
theorem dE{W W':World}{p:Option Nat}{l:List IdR}(h:AxIn W p l)(hb:Below W.heap.size W W'):AxIn W' p l:=h.kp (Y:=[]) (Kp.of_below hb) (fun y hy=>by cases hy)
theorem kK{ax:Ax}{pa pb:Option Nat}{w w':World}{x:Nat×Nat}(h1:AxIn w' pa ax.rows)(h2:AxIn w' pb ax.cols)(h3:Kp (pa.toList++pb.toList) w w'):FPost ax pa pb w (.error x) (.returned (.tuple #[.agg aB.toArray,.int .i64 (x.2:Nat),.int .i64 (x.1:Nat)])) w' :=
 ⟨h1,h2,h3,fun t e=>(by cases e),none,0,rfl,.inl rfl⟩
theorem jX{p:Option Nat}{x:Nat}(h:x∈p.toList):p=some x:=by
 cases p with
 | none=>cases h
 | some b=>rw[List.mem_singleton.1 (by simpa using h:x∈[b])]
theorem KidsOk.anti{W:World}{X Y:List Nat}(hs:∀ y∈Y,y<W.heap.size→y∈X){A:Option Addr}{l:List Tree}(h:KidsOk W X A l):KidsOk W Y A l:=by
 rcases h with h | ⟨g,hA,hx,hg,hk⟩
 ·exact .inl h
 ·exact .inr ⟨g,hA,fun hm=>hx (hs g hm hg),hg,KidsAt.anti hs hk⟩
theorem mI{W W':World}(h:Kp [] W W'):Below W.heap.size W W':=h.below (fun k hk=>by cases hk) (Nat.le_refl _)
theorem yR{W:World}{p:Option Nat}{l:List IdR}{q:Nat}{C0:Array Value}{C:List Value}(h:AxIn W p l)(hl:Lies W q 41 C0)(hp:p≠some q):AxIn (W.setCells q 0 C) p l :=
 h.kp (Y:=[q]) (aU (.inl (.head _)) C 0 (Kp.refl _ _)) (fun y hy=>by rw[List.mem_singleton.1 hy];exact⟨fun e=>hp e.symm,_,_,hl,by decide,by decide⟩)
structure FSt(ax:Ax)(pa pb:Option Nat)(w:World)(q:Nat)(C:Array Value)(W:World):Prop where
 a:AxIn W pa ax.rows
 b:AxIn W pb ax.cols
 box:Lies W q 41 C
 kp:Kp (pa.toList++pb.toList) w W
theorem FSt.put{ax:Ax}{pa pb:Option Nat}{w W:World}{q:Nat}{C0:Array Value}(h:FSt ax pa pb w q C0 W)(C:List Value)(hC:C.length=C0.size)(ha:pa≠some q)(hb:pb≠some q)(hq:w.heap.size≤q):FSt ax pa pb w q C.toArray (W.setCells q 0 C) :=
 ⟨yR h.a h.box ha,yR h.b h.box hb,h.box.putAll hC,aU (.inr hq) C 0 h.kp⟩
theorem FSt.next{ax:Ax}{pa pb:Option Nat}{w W W':World}{q:Nat}{C:Array Value}(h:FSt ax pa pb w q C W)(hb:Below W.heap.size W W'):FSt ax pa pb w q C W' :=
 ⟨dE h.a hb,dE h.b hb,h.box.next hb,h.kp.trans (Kp.of_below hb)⟩
structure AxB(pa pb:Option Nat)(lo:Nat):Prop where
 tb:0<lo
 a:∀ b,pa=some b→lo≤b
 b:∀ b,pb=some b→lo≤b
 ne:∀ b,pa=some b→pb≠some b
set_option maxRecDepth 100000 in
set_option maxHeartbeats 6400000 in
theorem qQ(ax:Ax)(ha:lD ax)(pa pb:Option Nat)(lo:Nat)(s:Bs)(w:World)(hs:s.length≤50000)(hT:Tab w)(har:AxIn w pa ax.rows)(hac:AxIn w pb ax.cols)(hlo:lo≤w.heap.size)(hB:AxB pa pb lo) :
  Calls Tryz.prog 11 #[.string ⟨s.toArray⟩,.pointer (ptr pa),.pointer (ptr pb)] w (FPost ax pa pb w (aY ax s)):=by
 obtain⟨W1,hW1⟩:∃ W1,W1=w.alloc (.cells aB.toArray 41):=⟨_,rfl⟩
 have hb1:Below w.heap.size w W1:=by rw[hW1];exact(Below.refl _ _).alloc (Nat.le_refl _) _
 have HL1:Hid (Lies W1 w.heap.size 41 aB.toArray):=zh (by rw[hW1];exact Lies.new _ _ _);have HA1:=zh (dE har hb1);have HC1:=zh (dE hac hb1);have HT1:=zh (hT.next hb1);have HB1:=zh hb1;have HW1:=zh hW1;have HBX:Hid ((∀ b,pa=some b→b<w.heap.size)∧(∀ b,pb=some b→b<w.heap.size)):=zh ⟨fun b e=>by obtain⟨cs,hc⟩:=har.box b e;exact hc.lt,fun b e=>by obtain⟨cs,hc⟩:=hac.box b e;exact hc.lt⟩;have HPA:Hid (pa≠some w.heap.size):=zh (fun e=>by have:=HBX.out.1 _ e;omega);have HPB:Hid (pb≠some w.heap.size):=zh (fun e=>by have:=HBX.out.2 _ e;omega);have HLO:Hid (lo≤w.heap.size):=zh hlo;have HBB:=zh hB;have HAx:=zh ha;have HS:=zh hs;have CL:=zh (lex_any s W1 (by omega) (hT.next hb1));obtain⟨O,hO⟩:∃ O,aY ax s=O:=⟨_,rfl⟩
 rw[hO];have HO:=zh hO;clear hW1 hb1 har hac hT hlo hB ha hs hO
 go_enter Tryz.func11,Tryz.ntmps11
 go_upto_region 1 with fail
 rw[← HW1.out];generalize hq:w.heap.size=q at *;clear HW1
 go_wp2_with fail
 refine CL.out.mono ?_;cases hl:iG s with
 | error k=>
  rintro e W2 ⟨rfl,hb2⟩;have HO2:Hid (O=.error (7,k)):=zh (by rw[← HO.out];unfold aY;rw[hl]);have HL2:=zh (HL1.out.next hb2);have HB2:=zh (HB1.out.trans (hb2.mono (by have:=HB1.out.size;omega)));have HA2:=zh (dE HA1.out hb2);have HC2:=zh (dE HC1.out hb2);clear hb2 CL HO HL1 HA1 HC1 HT1;have HFS:Hid (FSt ax pa pb w q aB.toArray W2):=zh ⟨HA2.out,HC2.out,HL2.out,Kp.of_below (by rw[hq];exact HB2.out)⟩;clear HL2 HB2 HA2 HC2;have HT:=zh HFS.out.box.thereA;have HSz:=zh (HFS.out.put aB rfl HPA.out HPB.out (Nat.le_of_eq hq))
  go_wp2_with (first |(refine wpList_store_mid rfl 41 (.tmp 6) (.tmp 24) rfl q 0 aB.toArray rfl rfl HT.out aE aT ?_;change wpList _ _ _ _ _ (World.setCells _ q 0 aB);generalize World.setCells _ _ _ _=wz at HSz ⊢))
  refine bodyPost_ret (kV rfl rfl HSz.out.box rfl) rfl ?_;rw[HO2.out];exact kK HSz.out.a HSz.out.b HSz.out.kp
 | ok ts=>
  rintro e W2 ⟨v,rfl,hown,hb2⟩;obtain⟨g,cap,rfl,hgb,hti⟩:=toks_in (by simp) (by omega) hown;have HFS2:Hid (FSt ax pa pb w q aB.toArray W2):=zh ⟨dE HA1.out hb2,dE HC1.out hb2,HL1.out.next hb2,Kp.of_below (by rw[hq];exact HB1.out.trans (hb2.mono (by have:=HB1.out.size;omega)))⟩;have HT2:=zh (HT1.out.next hb2);have HG:Hid (g<W2.heap.size∧TokIn W2 g (ts++[aW s.length])∧W1.heap.size≤g):=zh ⟨hti.1,hti,hgb⟩;have hq1:q<W1.heap.size:=HL1.out.lt;have hs2:=hb2.size;have CS:=zh (uBH W2);clear hown hb2 hgb hti CL HL1 HA1 HC1 HT1 HB1
  go_wp2_with fail
  refine CS.out.mono ?_;rintro e W3 ⟨rfl,hsg,hb3⟩;obtain⟨E,hE⟩:∃ E:Env,E=⟨W3.heap.size,g,cap,ts++[aW s.length],pa,pb,W2.heap.size,ax,lo⟩:=⟨_,rfl⟩
  obtain⟨W4,hW4⟩:∃ W4,W4=W3.alloc (.cells (rdC E 0 0 0 0 0) 66):=⟨_,rfl⟩
  have hb4:Below W3.heap.size W3 W4:=by rw[hW4];exact(Below.refl _ _).alloc (Nat.le_refl _) _
  have hb34:Below W2.heap.size W2 W4:=hb3.trans (hb4.mono hb3.size);have hbox:(∀ b,pa=some b→b<q)∧(∀ b,pb=some b→b<q):=HBX.out;have hs3:=hb3.size;have HEok:Hid E.ok:=zh (by
   rw[hE];refine⟨?_,?_,?_,HBB.out.tb,?_,?_,HBB.out.ne⟩
   ·intro hm;have hg:=HG.out;rcases List.mem_cons.1 hm with hm | hm
    ·have:g=W3.heap.size:=hm;omega
    ·rcases List.mem_append.1 hm with hm | hm
     ·have:=hbox.1 g (jX hm);omega
     ·have:=hbox.2 g (jX hm);omega
   ·intro i hi hm;have hsl:=hsg.lt i hi;rcases List.mem_cons.1 hm with hm | hm
    ·have:W2.heap.size+i=W3.heap.size:=hm;omega
    ·rcases List.mem_append.1 hm with hm | hm
     ·have:=hbox.1 (W2.heap.size+i) (jX hm);omega
     ·have:=hbox.2 (W2.heap.size+i) (jX hm);omega
   ·intro x hm;rcases List.mem_cons.1 hm with hm | hm
    ·have h0:x=W3.heap.size:=hm;have:=HLO.out;show lo≤x;omega
    ·rcases List.mem_append.1 hm with hm | hm
     ·exact HBB.out.a x (jX hm)
     ·exact HBB.out.b x (jX hm)
   ·intro b hb;have:=hbox.1 b hb;show b≠W3.heap.size;omega
   ·intro b hb;have:=hbox.2 b hb;show b≠W3.heap.size;omega)
  have HI4:Hid (InE E 0 0 0 0 0 W4):=zh (by
   have e1:E.r=W3.heap.size:=by rw[hE]
   refine⟨by rw[e1,hW4];exact Lies.new _ _ _,?_,?_,?_,?_,HT2.out.next hb34,?_⟩
   ·rw[hE];exact TokIn.kp (Y:=[]) HG.out.2.1 (Kp.of_below hb34) (by simp)
   ·rw[hE];exact dE HFS2.out.a hb34
   ·rw[hE];exact dE HFS2.out.b hb34
   ·rw[hE];exact SgIn.kp (Y:=[]) hsg (Kp.of_below hb4) (fun _ _=>by simp)
   ·rw[hE];have:=HLO.out;have:=hb4.size;show lo≤W4.heap.size;omega)
  have hL:E.L=ts++[aW s.length]:=by rw[hE]
  have hfine:=mL s ts hl;have htx:=text_le2 s ts hl;have hEnds:E.ends:=by
   refine⟨by rw[hL];simp,fun k hk=>?_⟩;unfold Env.at;rw[hL]at hk ⊢;rw[show hd ((ts++[aW s.length]).drop k)=(ts++[aW s.length])[k]'hk from by unfold hd;rw[List.drop_eq_getElem_cons hk];rfl];simp only[List.length_append,List.length_singleton]at hk ⊢;by_cases hkt:k<ts.length
   ·rw[List.getElem_append_left hkt];have:=(hfine.1 _ (List.getElem_mem hkt)).k0;exact⟨fun h=>absurd h this,fun h=>by omega⟩
   ·rw[List.getElem_append_right (by omega)];have h0:k-ts.length=0:=by omega
    simp only[h0,List.getElem_cons_zero];exact⟨fun _=>by omega,fun _=>rfl⟩
  have hShort:E.short:=by
   intro k;by_cases hk:k<E.L.length
   ·rw[E.at_lt hk];have hm:E.L[k]∈ts++[aW s.length]:=by rw[← hL];exact List.getElem_mem hk
    rcases List.mem_append.1 hm with hm | hm
    ·have:=htx _ hm;have:=HS.out;omega
    ·rw[List.mem_singleton.1 hm];exact Nat.zero_le _
   ·unfold Env.at hd;rw[List.drop_of_length_le (by omega)];exact Nat.zero_le _
  have hLen:E.L.length≤1000000:=by rw[hL];have:=lex_len2 s ts hl;have:=HS.out;simp;omega
  have HEL:=zh hL;have CW:=zh (uBU E HEok.out hEnds hLen hShort chkLeaf 64 0 rfl 0 0 0 0 W4 HI4.out hEnds.1 (Nat.le_refl _));have HEA:Hid (E.ax=ax∧E.r=W3.heap.size∧E.pa=pa∧E.pb=pb):=zh (by rw[hE];exact⟨rfl,rfl,rfl,rfl⟩);have HFin:Hid (∀ t rest c,cD 65 ax 0 (ts++[aW s.length]) 0=.ok t rest c→c=t.size∧t.right 6=true):=zh (fun t rest c h=>uET HAx.out (lex_ends hl) h);have HFS4:=zh (HFS2.out.next hb34);have HO2:Hid (O=dT ax (ts++[aW s.length])):=zh (by rw[← HO.out];unfold aY;rw[hl]);have hq4:q<W4.heap.size:=by have:=hb34.size;omega
  have hqr:q≠E.r:=by rw[HEA.out.2.1];omega
  have HXF:Hid (∀ W k op nd pl er,Kp E.X W4 W→InE E k op nd pl er W→FSt ax pa pb w q aB.toArray W):=zh (fun W k op nd pl er hk hi=>by
   have hX:E.X=E.r::(pa.toList++pb.toList):=by unfold Env.X;rw[HEA.out.2.2.1,HEA.out.2.2.2]
   have h1:=hi.ar;have h2:=hi.ac;rw[HEA.out.2.2.1,HEA.out.1]at h1;rw[HEA.out.2.2.2,HEA.out.1]at h2;refine⟨h1,h2,hk.lies HFS4.out.box (fun hm=>?_),HFS4.out.kp.andThen hk (fun g hg=>?_)⟩
   ·rw[hX]at hm;rcases List.mem_cons.1 hm with hm | hm
    ·exact hqr hm
    ·rcases List.mem_append.1 hm with hm | hm
     ·exact HPA.out (jX hm)
     ·exact HPB.out (jX hm)
   ·rw[hX]at hg;rcases List.mem_cons.1 hg with hg | hg
    ·right;rw[hg,HEA.out.2.1];omega
    ·exact .inl hg)
  rw[List.drop_zero,HEA.out.1,HEL.out]at CW;have hrdc:rdC E 0 0 0 0 0=#[.slice (some ⟨g,0,none⟩) (ts.length+1) cap,.int .i64 0,.int .i64 0,.int .i64 0,.pointer (ptr pa),.pointer (ptr pb),.map (some W2.heap.size),.int .i64 0,.int .i64 0]:=by rw[show ts.length+1=(ts++[aW s.length]).length by simp];subst hE;rfl
  rw[hrdc]at hW4;have HW4:=zh hW4;have hr3:W3.heap.size=E.r:=HEA.out.2.1.symm;have HLn:=zh hLen;have HWs:Hid (w.heap.size≤W3.heap.size):=zh (by omega);clear hE hrdc hW4 hL hfine htx hShort hLen hsg hb3 hb4 hb34 CS HFS2 HT2 HG HO hs2 hs3 hbox hq1
  go_upto_region 5 with fail
  rw[← HW4.out];clear HW4 hr3;have HEE:=zh hEnds;clear hEnds
  go_wp2_with fail
  refine CW.out.mono ?_;obtain⟨R,hR⟩:∃ R,cD 65 ax 0 (ts++[aW s.length]) 0=R:=⟨_,rfl⟩
  rw[hR];have HR:=zh hR;clear hR CW;cases R with
  | bad er' p=>
   rintro e W5 ⟨cs,k',op',nd',rfl,g1,g2,g3,g4,g5,g6,g7⟩;obtain⟨C,rfl⟩:∃ C:List Value,cs=C.toArray:=⟨cs.toList,by simp⟩
   have yC:Hid (C.length=22):=zh (by rwa [List.size_toArray]at g1);have yo:=zh g2;have zi:=hfN yC.out;have hkx:Kp E.X W4 W5:=g7;have HX5:Hid (FSt ax pa pb w q aB.toArray W5∧InE E k' op' nd' p er' W5):=zh ⟨HXF.out W5 _ _ _ _ _ hkx g6,g6⟩;have HX9:Hid (∀ Wz,Below W5.heap.size W5 Wz→FSt ax pa pb w q aB.toArray Wz∧Lies Wz E.r 66 (rdC E k' op' nd' p er')):=zh (fun Wz hk=>⟨HX5.out.1.next hk,(HX5.out.2.next hk).rd⟩);have HBz:Hid (Below W5.heap.size W5 (World.setCells (W5.alloc (.cells aB.toArray 41)) W5.heap.size 0 C)):=zh (mI (aU (.inr (Nat.le_refl _)) C 0 ((Kp.refl _ _).alloc _)));have HT:Hid (World.there (W5.alloc (.cells aB.toArray 41)) W5.heap.size 0 C.toArray.size):=zh (by have:=(Lies.new W5 41 aB.toArray).thereA;have h0:C.toArray.size=22:=(by rw[List.size_toArray,yC.out]);rw[h0];exact this)
   have HO3:Hid (O=.error (er',p)):=zh (by rw[HO2.out];unfold dT;rw[HR.out]);simp only[aB]at HBz;clear g1 g2 g3 g4 g5 g6 g7 hkx HX5 HO2 HR
   go_wp2_with (first |(refine wpList_store_mid rfl 41 (.tmp 13) (.tmp 36) rfl W5.heap.size 0 C.toArray rfl rfl HT.out zi yo.out ?_;change wpList _ _ _ _ _ (World.setCells _ W5.heap.size 0 C);generalize World.setCells _ _ _ _=wz at HBz ⊢))
   obtain⟨P0,hP0⟩:∃ R:World→Prop,∀ w',R w'↔(FSt ax pa pb w q aB.toArray w'∧Lies w' E.r 66 (rdC E k' op' nd' p er')):=⟨_,fun _=>Iff.rfl⟩
   have HP0:=zh hP0;clear hP0;obtain⟨P1,hP1⟩:∃ R:World→Prop,∀ w',R w'↔(FSt ax pa pb w q aB.toArray w'∧Lies w' E.r 66 (rdC E k' op' nd' p er')):=⟨_,fun _=>Iff.rfl⟩
   have HP1:=zh hP1;clear hP1;have HQ:=zh hq;clear hq;obtain⟨TT,hTT⟩:∃ TT:List (Nat×Nat×Value),TT=[(0,49,.agg aB.toArray),(1,50,.pointer (some ⟨E.r,0,none⟩)),(2,51,.pointer (some ⟨E.r,0,none⟩)),(3,52,.pointer (some ⟨E.r,7,none⟩)),(4,53,.int .i64 (p:Nat)),(5,54,.pointer (some ⟨E.r,0,none⟩)),(6,55,.pointer (some ⟨E.r,0,none⟩)),(7,56,.pointer (some ⟨E.r,8,none⟩)),(8,57,.int .i64 (er':Nat)),(10,7,.int .i64 (p:Nat)),(11,8,.int .i64 (er':Nat))]:=⟨_,rfl⟩
   have HTT:=zh hTT;clear hTT;refine bJ (fun a0=>71≤a0.tmps.size∧a0.eval (.tmp 6)=.pointer (some ⟨q,0,none⟩)∧a0.eval (.tmp 12)=.pointer (some ⟨E.r,0,none⟩)) [49,50,51,52,53,54,55,56,57,7,8] TT [(9,P1)] P0 (by kernel_rfl) (by kernel_rfl) ⟨by simp,rfl,rfl⟩ ((HP0.out _).2 (HX9.out _ HBz.out.drew)) ?_ ?_
   ·rintro a0 ⟨hs,hq6,hq12⟩ zl a1 w1 zj o hsz hI hun ho zd;have hTT:=HTT.out;subst hTT;have hk:okU (([(0,49,.agg aB.toArray),(1,50,.pointer (some ⟨E.r,0,none⟩)),(2,51,.pointer (some ⟨E.r,0,none⟩)),(3,52,.pointer (some ⟨E.r,7,none⟩)),(4,53,.int .i64 (p:Nat)),(5,54,.pointer (some ⟨E.r,0,none⟩)),(6,55,.pointer (some ⟨E.r,0,none⟩)),(7,56,.pointer (some ⟨E.r,8,none⟩)),(8,57,.int .i64 (er':Nat)),(10,7,.int .i64 (p:Nat)),(11,8,.int .i64 (er':Nat))]:List (Nat×Nat×Value)).map fun e=>(e.1,e.2.1)) [49,50,51,52,53,54,55,56,57,7,8] 71=true:=by rfl
    have hj:=Up.of_false hun;have hj12:zj<12:=by rw[hsz]at hj;exact hj
    have e6x:a1.eval (.tmp 6)=.pointer (some ⟨q,0,none⟩):=(hI.off.eval (by decide)).trans hq6;have e12x:a1.eval (.tmp 12)=.pointer (some ⟨E.r,0,none⟩):=(hI.off.eval (by decide)).trans hq12;rcases(by omega:zj=0∨zj=1∨zj=2∨zj=3∨zj=4∨zj=5∨zj=6∨zj=7∨zj=8∨zj=9∨zj=10∨zj=11) with rfl | rfl | rfl | rfl | rfl | rfl | rfl | rfl | rfl | rfl | rfl | rfl
    ·obtain rfl:=oi ho;exact aQ hk hI hs (.head _) (by simp) hun ho zd (aD rfl) rfl (by simp[execOp,go_sem,aB])
    ·obtain rfl:=oi ho;exact aQ hk hI hs (.tail _ (.head _)) (by simp) hun ho zd (aD rfl) rfl (by simp[execOp,go_sem,aA e12x])
    ·obtain rfl:=oi ho;have d1:=ud zd 1;have p1:=pk hI.pt 1 rfl d1;exact aQ hk hI hs (mm 2 rfl) (by simp) hun ho zd (aD rfl) rfl (by simp[execOp,go_sem,aA p1])
    ·obtain rfl:=oi ho;have d2:=ud zd 2;have p2:=pk hI.pt 2 rfl d2;exact aQ hk hI hs (mm 3 rfl) (by simp) hun ho zd (aD rfl) rfl (by simp[execOp,go_sem,aA p2])
    ·obtain rfl:=oi ho;have d3:=ud zd 3;have p3:=pk hI.pt 3 rfl d3;have hq:w1.cell? ⟨E.r,7,none⟩=some (.int .i64 (p:Nat)):=by
      obtain⟨jj,hjj,hP⟩:=hI.low 1 (by simp) (fun m hm=>by cases hm) hun;rcases(by omega:jj=0∨jj=1) with rfl | rfl
      ·have hP:P0 w1:=hP;exact((HP0.out _).1 hP).2.cell 7
      ·have hP:P1 w1:=hP;exact((HP1.out _).1 hP).2.cell 7
     exact aQ hk hI hs (mm 4 rfl) (by simp) hun ho zd (aD rfl) rfl (by simp[execOp,go_sem,aA p3,hq])
    ·obtain rfl:=oi ho;exact aQ hk hI hs (mm 5 rfl) (by simp) hun ho zd (aD rfl) rfl (by simp[execOp,go_sem,aA e12x])
    ·obtain rfl:=oi ho;have d5:=ud zd 5;have p5:=pk hI.pt 5 rfl d5;exact aQ hk hI hs (mm 6 rfl) (by simp) hun ho zd (aD rfl) rfl (by simp[execOp,go_sem,aA p5])
    ·obtain rfl:=oi ho;have d6:=ud zd 6;have p6:=pk hI.pt 6 rfl d6;exact aQ hk hI hs (mm 7 rfl) (by simp) hun ho zd (aD rfl) rfl (by simp[execOp,go_sem,aA p6])
    ·obtain rfl:=oi ho;have d7:=ud zd 7;have p7:=pk hI.pt 7 rfl d7;have hq:w1.cell? ⟨E.r,8,none⟩=some (.int .i64 (er':Nat)):=by
      obtain⟨jj,hjj,hP⟩:=hI.low 1 (by simp) (fun m hm=>by cases hm) hun;rcases(by omega:jj=0∨jj=1) with rfl | rfl
      ·have hP:P0 w1:=hP;exact((HP0.out _).1 hP).2.cell 8
      ·have hP:P1 w1:=hP;exact((HP1.out _).1 hP).2.cell 8
     exact aQ hk hI hs (mm 8 rfl) (by simp) hun ho zd (aD rfl) rfl (by simp[execOp,go_sem,aA p7,hq])
    ·obtain rfl:=oi ho;have d0:=ud zd 0;have p0:=pk hI.pt 0 rfl d0;refine kL hI (by simp) (by kernel_rfl) [] [] P1 rfl hun ho zd (aD rfl) rfl (fun hP=>?_);have hP:P0 w1:=hP;have h:=((HP0.out _).1 hP).1;have hl:=((HP0.out _).1 hP).2;exact⟨w1.setCells q 0 aB,eK 41 (.tmp 6) (.tmp 49) rfl q 0 aB.toArray e6x p0 h.box.thereA aE aT,(HP1.out _).2 ⟨h.put aB rfl HPA.out HPB.out (Nat.le_of_eq HQ.out),fV (Ne.symm hqr) aB 0 hl⟩⟩
    ·obtain rfl:=oi ho;have d4:=ud zd 4;have p4:=pk hI.pt 4 rfl d4;exact aQ hk hI hs (mm 9 rfl) (by simp) hun ho zd (aD rfl) rfl (by simp[execOp,go_sem,aA p4])
    ·obtain rfl:=oi ho;have d8:=ud zd 8;have p8:=pk hI.pt 8 rfl d8;exact aQ hk hI hs (mm 10 rfl) (by simp) hun ho zd (aD rfl) rfl (by simp[execOp,go_sem,aA p8])
   ·intro zl a1 w1 hI hup;have hTT:=HTT.out;subst hTT;have hF:P1 w1:=hI.st.last (fun m hm=>hup m.1 (by simp only[List.mem_cons,List.not_mem_nil,or_false]at hm;rcases hm with rfl;all_goals simp));have z7:a1.eval (.tmp 7)=.int .i64 (p:Nat):=hI.pt (10,7,.int .i64 (p:Nat)) (mm 9 rfl) (hup 10 (by decide));have z8:a1.eval (.tmp 8)=.int .i64 (er':Nat):=hI.pt (11,8,.int .i64 (er':Nat)) (mm 10 rfl) (hup 11 (by decide));obtain⟨ff,rfl,hf⟩:=hI.off.forms;rw[← hf 7]at z7;rw[← hf 8]at z8;clear hI;simp only[List.foldl,Act.put,List.setIfInBounds_toArray,List.set];rw[z7,z8];have h:=((HP1.out _).1 hF).1;simp only[Exit.then]
    go_step
    repeat go_step
    refine bodyPost_ret (kV rfl rfl h.box rfl) rfl ?_;rw[HO3.out];exact kK h.a h.b h.kp
  | ok t rest c=>
   rintro e W5 ⟨k',cs,rfl,g1,g2,g3,g4,g5,g6,g7,g8⟩;obtain⟨C,rfl⟩:∃ C:List Value,cs=C.toArray:=⟨cs.toList,by simp⟩
   have yC:Hid (C.length=22):=zh (by have:=g8.1;rwa [List.size_toArray]at this);have yo:=zh g8.2.1;have zi:=hfN yC.out;have hinfl:(Tryz.prog.info? 41).map (·.size)=some C.length:=by rw[yC.out];exact aE
   have hkx:Kp E.X W4 W5:=g7;have HX5:Hid (FSt ax pa pb w q aB.toArray W5∧InE E k' 0 c 0 0 W5):=zh ⟨HXF.out W5 _ _ _ _ _ hkx g6,g6⟩;obtain⟨hct,hrt⟩:=HFin.out t rest c HR.out;have HRt:Hid (c=t.size∧t.right 6=true∧c≤1000000∧k'<E.L.length∧rest=E.L.drop k'):=zh ⟨hct,hrt,by have:=HLn.out;omega,g2,by rw[g3]⟩;have HNV:=zh g8;have HBz:Hid (Below W5.heap.size W5 (World.setCells (W5.alloc (.cells aB.toArray 41)) W5.heap.size 0 C)∧Lies (World.setCells (W5.alloc (.cells aB.toArray 41)) W5.heap.size 0 C) W5.heap.size 41 C.toArray):=zh ⟨mI (aU (.inr (Nat.le_refl _)) C 0 ((Kp.refl _ _).alloc _)),(Lies.new W5 41 aB.toArray).putAll (by rw[yC.out];rfl)⟩;have HT:Hid (World.there (W5.alloc (.cells aB.toArray 41)) W5.heap.size 0 C.toArray.size):=zh (by have:=(Lies.new W5 41 aB.toArray).thereA;have h0:C.toArray.size=22:=(by rw[List.size_toArray,yC.out]);rw[h0];exact this)
   simp only[aB]at HBz;clear g1 g2 g3 g4 g5 g6 g7 g8 hkx hct hrt HFin;obtain⟨tk,htk⟩:∃ tk,E.at k'=tk:=⟨_,rfl⟩
   have HTK:Hid (hd rest=tk):=zh (by rw[← htk,HRt.out.2.2.2.2];rfl)
   go_upto_region 6 with(first |(refine wpList_store_mid rfl 41 (.tmp 13) (.tmp 36) rfl W5.heap.size 0 C.toArray rfl rfl HT.out zi yo.out ?_;change wpList _ _ _ _ _ (World.setCells _ W5.heap.size 0 C);generalize World.setCells _ _ _ _=wz at HBz ⊢))
   have HIz:=zh (HX5.out.2.next HBz.out.1);have CT:=zh (bT E k' 0 c 0 0 wz HIz.out HRt.out.2.2.2.1);rw[htk]at CT;obtain⟨kk,tx,pl⟩:=tk
   go_wp2_with fail
   refine CT.out.mono ?_;rintro e W7 ⟨rfl,hb7⟩;have HI7:=zh (HIz.out.next hb7);have hb57:Below W5.heap.size W5 W7:=HBz.out.1.trans (hb7.mono HBz.out.1.size);have HF7:=zh (HX5.out.1.next hb57);have HB57:=zh hb57;have HL7:=zh (HBz.out.2.next hb7);clear HT HBz HIz CT HX5 hb7 hb57 htk;have hf0:=fun W=>lU (kk:Int) ⟨tx.toArray⟩ (pl:Int) W
   by_cases hk0:kk=0
   ·subst hk0;have r3:W7.cell? ⟨E.r,3,none⟩=some (.int .i64 (c:Int)):=HI7.out.rd.cell 3;have hHO3:O=(if 256<c then .error (5,0) else if dV t≠0 then .error (dV t,0) else .ok t):=by rw[HO2.out];unfold dT;rw[HR.out];dsimp only;rw[HTK.out,if_neg (by simp)]
    have HO3:=zh hHO3;clear hHO3 HO2 HR;by_cases hc:256<c
    ·have hci:(256:Int)<(c:Int):=by omega
     have HO4:Hid (O=.error (5,0)):=zh (by rw[HO3.out,if_pos hc]);have HT:=zh HF7.out.box.thereA;have HSz:=zh (HF7.out.put aB rfl HPA.out HPB.out (Nat.le_of_eq hq))
     go_wp2_with (first |(refine wpList_store_mid rfl 41 (.tmp 6) (.tmp 63) rfl q 0 aB.toArray rfl rfl HT.out aE aT ?_;change wpList _ _ _ _ _ (World.setCells _ q 0 aB);generalize World.setCells _ _ _ _=wz at HSz ⊢))
     refine bodyPost_ret (kV rfl rfl HSz.out.box rfl) rfl ?_;rw[HO4.out];exact kK HSz.out.a HSz.out.b HSz.out.kp
    ·have hci:¬ (256:Int)<(c:Int):=by omega
     obtain⟨A,cpp,hCC,hkids⟩:=HNV.out.2.2 (by omega);have HKx:=zh (KidsOk.kp (Kp.of_below HB57.out) hkids);have HCC:=zh hCC;clear hkids hCC;have HRg:=zh (HL7.out.range);have HRg:Hid (W7.rangeAt W5.heap.size 0 C):=zh HL7.out.range;have CC:=zh (sI t C.toArray W7 ⟨A,cpp,HCC.out,KidsOk.anti (Y:=[]) (fun y hy _=>by cases hy) HKx.out⟩ (by have:=HRt.out;omega) (uH t 6 HRt.out.2.1))
     go_wp2_with (first |(refine wpList_load_mid rfl 41 (.tmp 13) rfl W5.heap.size 0 rfl C _ HRg.out Tryz.underlying41 rfl hinfl ?_))
     refine CC.out.mono ?_;rintro e W8 ⟨rfl,hb8⟩;have HF8:=zh (HF7.out.next hb8);have HL8:=zh (HL7.out.next hb8);have HK8:=zh (KidsOk.kp (Kp.of_below hb8) HKx.out);clear hb8 CC HF7 HL7 HKx HRg r3;by_cases hp0:dV t=0
     ·rw[hp0];have HO4:Hid (O=.ok t):=zh (by rw[HO3.out,if_neg hc,if_neg (by simp[hp0])]);have HRg:Hid (W8.rangeAt W5.heap.size 0 C):=zh HL8.out.range;have HT:Hid (W8.there q 0 C.toArray.size):=zh (by have:=HF8.out.box.thereA;have h0:C.toArray.size=22:=(by rw[List.size_toArray,yC.out]);rw[h0];exact this);have HSz:=zh (And.intro (HF8.out.put C (by rw[yC.out];rfl) HPA.out HPB.out (Nat.le_of_eq hq)) (KidsOk.kp (X:=List.range W4.heap.size) (aU (W:=W8) (a:=W8) (bx:=q) (.inl (List.mem_range.2 hq4)) C 0 (Kp.refl _ _)) HK8.out))
      go_wp2_with (first |(refine wpList_load_mid rfl 41 (.tmp 13) rfl W5.heap.size 0 rfl C _ HRg.out Tryz.underlying41 rfl hinfl ?_) |(refine wpList_store_mid rfl 41 (.tmp 6) (.tmp 70) rfl q 0 C.toArray rfl rfl HT.out zi yo.out ?_;change wpList _ _ _ _ _ (World.setCells _ q 0 C);generalize World.setCells _ _ _ _=wz2 at HSz ⊢))
      refine bodyPost_ret (kV rfl rfl HSz.out.1.box (by rw[List.size_toArray,yC.out])) rfl ?_;rw[HO4.out];refine⟨HSz.out.1.a,HSz.out.1.b,HSz.out.1.kp,fun t' e=>(by cases e;exact⟨HRt.out.2.1,by have:=HRt.out;omega⟩),A,cpp,by rw[HCC.out];rfl,KidsOk.anti (fun y hy _=>by have:=List.mem_range.1 hy;exact List.mem_range.2 (by omega)) HSz.out.2⟩
     ·have hpi:((dV t:Nat):Int)≠0:=by omega
      have HO4:Hid (O=.error (dV t,0)):=zh (by rw[HO3.out,if_neg hc,if_pos hp0]);generalize dV t=pc at *;have HT:=zh HF8.out.box.thereA;have HSz:=zh (HF8.out.put aB rfl HPA.out HPB.out (Nat.le_of_eq hq))
      go_wp2_with (first |(refine wpList_store_mid rfl 41 (.tmp 6) (.tmp 68) rfl q 0 aB.toArray rfl rfl HT.out aE aT ?_;change wpList _ _ _ _ _ (World.setCells _ q 0 aB);generalize World.setCells _ _ _ _=wz at HSz ⊢))
      refine bodyPost_ret (kV rfl rfl HSz.out.box rfl) rfl ?_;rw[HO4.out];exact kK HSz.out.a HSz.out.b HSz.out.kp
   ·have HO4:Hid (O=.error (6,pl)):=zh (by rw[HO2.out];unfold dT;rw[HR.out];dsimp only;rw[HTK.out,if_pos (by simpa using hk0)]);have hki:(kk:Int)≠0:=by omega
    have CWr:=zh (eQ E HEok.out k' 0 c 0 0 6 W7 HI7.out HRt.out.2.2.2.1);have hpl:(E.at k').place=pl:=by have:=HTK.out;rw[HRt.out.2.2.2.2]at this;show (hd (E.L.drop k')).place=pl;rw[this]
    rw[hpl]at CWr;have HXW:Hid (∀ W,Kp [E.r] W7 W→InE E k' 0 c pl 6 W→FSt ax pa pb w q aB.toArray W∧Lies W E.r 66 (rdC E k' 0 c pl 6)):=zh (fun W hk hi=>by
     have h1:=hi.ar;have h2:=hi.ac;rw[HEA.out.2.2.1,HEA.out.1]at h1;rw[HEA.out.2.2.2,HEA.out.1]at h2;exact⟨⟨h1,h2,hk.lies HF7.out.box (fun hm=>hqr (List.mem_singleton.1 hm)),HF7.out.kp.andThen hk (fun g hg=>.inr (by rw[List.mem_singleton.1 hg,HEA.out.2.1];have:=HWs.out;omega))⟩,hi.rd⟩)
    go_wp2_with fail
    refine CWr.out.mono ?_;rintro e W8 ⟨rfl,g8,g9⟩;have HX9:=zh (HXW.out W8 g9 g8);clear HXW g8 g9 CWr HF7 HL7 HI7;have HX9:Hid (∀ Wz,Below W8.heap.size W8 Wz→FSt ax pa pb w q aB.toArray Wz∧Lies Wz E.r 66 (rdC E k' 0 c pl 6)):=zh (fun Wz hk=>⟨HX9.out.1.next hk,HX9.out.2.next hk⟩);have HBz:Hid (Below W8.heap.size W8 W8):=zh (Below.refl _ _)
    go_wp2_with fail
    obtain⟨P0,hP0⟩:∃ R:World→Prop,∀ w',R w'↔(FSt ax pa pb w q aB.toArray w'∧Lies w' E.r 66 (rdC E k' 0 c pl 6)):=⟨_,fun _=>Iff.rfl⟩
    have HP0:=zh hP0;clear hP0;obtain⟨P1,hP1⟩:∃ R:World→Prop,∀ w',R w'↔(FSt ax pa pb w q aB.toArray w'∧Lies w' E.r 66 (rdC E k' 0 c pl 6)):=⟨_,fun _=>Iff.rfl⟩
    have HP1:=zh hP1;clear hP1;have HQ:=zh hq;clear hq;obtain⟨TT,hTT⟩:∃ TT:List (Nat×Nat×Value),TT=[(0,49,.agg aB.toArray),(1,50,.pointer (some ⟨E.r,0,none⟩)),(2,51,.pointer (some ⟨E.r,0,none⟩)),(3,52,.pointer (some ⟨E.r,7,none⟩)),(4,53,.int .i64 (pl:Nat)),(5,54,.pointer (some ⟨E.r,0,none⟩)),(6,55,.pointer (some ⟨E.r,0,none⟩)),(7,56,.pointer (some ⟨E.r,8,none⟩)),(8,57,.int .i64 (6:Nat)),(10,7,.int .i64 (pl:Nat)),(11,8,.int .i64 (6:Nat))]:=⟨_,rfl⟩
    have HTT:=zh hTT;clear hTT;refine bJ (fun a0=>71≤a0.tmps.size∧a0.eval (.tmp 6)=.pointer (some ⟨q,0,none⟩)∧a0.eval (.tmp 12)=.pointer (some ⟨E.r,0,none⟩)) [49,50,51,52,53,54,55,56,57,7,8] TT [(9,P1)] P0 (by kernel_rfl) (by kernel_rfl) ⟨by simp,rfl,rfl⟩ ((HP0.out _).2 (HX9.out _ HBz.out.drew)) ?_ ?_
    ·rintro a0 ⟨hs,hq6,hq12⟩ zl a1 w1 zj o hsz hI hun ho zd;have hTT:=HTT.out;subst hTT;have hk:okU (([(0,49,.agg aB.toArray),(1,50,.pointer (some ⟨E.r,0,none⟩)),(2,51,.pointer (some ⟨E.r,0,none⟩)),(3,52,.pointer (some ⟨E.r,7,none⟩)),(4,53,.int .i64 (pl:Nat)),(5,54,.pointer (some ⟨E.r,0,none⟩)),(6,55,.pointer (some ⟨E.r,0,none⟩)),(7,56,.pointer (some ⟨E.r,8,none⟩)),(8,57,.int .i64 (6:Nat)),(10,7,.int .i64 (pl:Nat)),(11,8,.int .i64 (6:Nat))]:List (Nat×Nat×Value)).map fun e=>(e.1,e.2.1)) [49,50,51,52,53,54,55,56,57,7,8] 71=true:=by rfl
     have hj:=Up.of_false hun;have hj12:zj<12:=by rw[hsz]at hj;exact hj
     have e6x:a1.eval (.tmp 6)=.pointer (some ⟨q,0,none⟩):=(hI.off.eval (by decide)).trans hq6;have e12x:a1.eval (.tmp 12)=.pointer (some ⟨E.r,0,none⟩):=(hI.off.eval (by decide)).trans hq12;rcases(by omega:zj=0∨zj=1∨zj=2∨zj=3∨zj=4∨zj=5∨zj=6∨zj=7∨zj=8∨zj=9∨zj=10∨zj=11) with rfl | rfl | rfl | rfl | rfl | rfl | rfl | rfl | rfl | rfl | rfl | rfl
     ·obtain rfl:=oi ho;exact aQ hk hI hs (.head _) (by simp) hun ho zd (aD rfl) rfl (by simp[execOp,go_sem,aB])
     ·obtain rfl:=oi ho;exact aQ hk hI hs (.tail _ (.head _)) (by simp) hun ho zd (aD rfl) rfl (by simp[execOp,go_sem,aA e12x])
     ·obtain rfl:=oi ho;have d1:=ud zd 1;have p1:=pk hI.pt 1 rfl d1;exact aQ hk hI hs (mm 2 rfl) (by simp) hun ho zd (aD rfl) rfl (by simp[execOp,go_sem,aA p1])
     ·obtain rfl:=oi ho;have d2:=ud zd 2;have p2:=pk hI.pt 2 rfl d2;exact aQ hk hI hs (mm 3 rfl) (by simp) hun ho zd (aD rfl) rfl (by simp[execOp,go_sem,aA p2])
     ·obtain rfl:=oi ho;have d3:=ud zd 3;have p3:=pk hI.pt 3 rfl d3;have hq:w1.cell? ⟨E.r,7,none⟩=some (.int .i64 (pl:Nat)):=by
       obtain⟨jj,hjj,hP⟩:=hI.low 1 (by simp) (fun m hm=>by cases hm) hun;rcases(by omega:jj=0∨jj=1) with rfl | rfl
       ·have hP:P0 w1:=hP;exact((HP0.out _).1 hP).2.cell 7
       ·have hP:P1 w1:=hP;exact((HP1.out _).1 hP).2.cell 7
      exact aQ hk hI hs (mm 4 rfl) (by simp) hun ho zd (aD rfl) rfl (by simp[execOp,go_sem,aA p3,hq])
     ·obtain rfl:=oi ho;exact aQ hk hI hs (mm 5 rfl) (by simp) hun ho zd (aD rfl) rfl (by simp[execOp,go_sem,aA e12x])
     ·obtain rfl:=oi ho;have d5:=ud zd 5;have p5:=pk hI.pt 5 rfl d5;exact aQ hk hI hs (mm 6 rfl) (by simp) hun ho zd (aD rfl) rfl (by simp[execOp,go_sem,aA p5])
     ·obtain rfl:=oi ho;have d6:=ud zd 6;have p6:=pk hI.pt 6 rfl d6;exact aQ hk hI hs (mm 7 rfl) (by simp) hun ho zd (aD rfl) rfl (by simp[execOp,go_sem,aA p6])
     ·obtain rfl:=oi ho;have d7:=ud zd 7;have p7:=pk hI.pt 7 rfl d7;have hq:w1.cell? ⟨E.r,8,none⟩=some (.int .i64 (6:Nat)):=by
       obtain⟨jj,hjj,hP⟩:=hI.low 1 (by simp) (fun m hm=>by cases hm) hun;rcases(by omega:jj=0∨jj=1) with rfl | rfl
       ·have hP:P0 w1:=hP;exact((HP0.out _).1 hP).2.cell 8
       ·have hP:P1 w1:=hP;exact((HP1.out _).1 hP).2.cell 8
      exact aQ hk hI hs (mm 8 rfl) (by simp) hun ho zd (aD rfl) rfl (by simp[execOp,go_sem,aA p7,hq])
     ·obtain rfl:=oi ho;have d0:=ud zd 0;have p0:=pk hI.pt 0 rfl d0;refine kL hI (by simp) (by kernel_rfl) [] [] P1 rfl hun ho zd (aD rfl) rfl (fun hP=>?_);have hP:P0 w1:=hP;have h:=((HP0.out _).1 hP).1;have hl:=((HP0.out _).1 hP).2;exact⟨w1.setCells q 0 aB,eK 41 (.tmp 6) (.tmp 49) rfl q 0 aB.toArray e6x p0 h.box.thereA aE aT,(HP1.out _).2 ⟨h.put aB rfl HPA.out HPB.out (Nat.le_of_eq HQ.out),fV (Ne.symm hqr) aB 0 hl⟩⟩
     ·obtain rfl:=oi ho;have d4:=ud zd 4;have p4:=pk hI.pt 4 rfl d4;exact aQ hk hI hs (mm 9 rfl) (by simp) hun ho zd (aD rfl) rfl (by simp[execOp,go_sem,aA p4])
     ·obtain rfl:=oi ho;have d8:=ud zd 8;have p8:=pk hI.pt 8 rfl d8;exact aQ hk hI hs (mm 10 rfl) (by simp) hun ho zd (aD rfl) rfl (by simp[execOp,go_sem,aA p8])
    ·intro zl a1 w1 hI hup;have hTT:=HTT.out;subst hTT;have hF:P1 w1:=hI.st.last (fun m hm=>hup m.1 (by simp only[List.mem_cons,List.not_mem_nil,or_false]at hm;rcases hm with rfl;all_goals simp));have z7:a1.eval (.tmp 7)=.int .i64 (pl:Nat):=hI.pt (10,7,.int .i64 (pl:Nat)) (mm 9 rfl) (hup 10 (by decide));have z8:a1.eval (.tmp 8)=.int .i64 (6:Nat):=hI.pt (11,8,.int .i64 (6:Nat)) (mm 10 rfl) (hup 11 (by decide));obtain⟨ff,rfl,hf⟩:=hI.off.forms;rw[← hf 7]at z7;rw[← hf 8]at z8;clear hI;simp only[List.foldl,Act.put,List.setIfInBounds_toArray,List.set];rw[z7,z8];have h:=((HP1.out _).1 hF).1;simp only[Exit.then]
     go_step
     repeat go_step
     refine bodyPost_ret (kV rfl rfl h.box rfl) rfl ?_;rw[HO4.out];exact kK h.a h.b h.kp
theorem pAxis_nd(ids:List IdR):∀ k,k≤ids.length→(cO (ids.take k)).Nodup∧id0∉cO (ids.take k):=by
 intro k
 induction k with
 | zero=>intro _;exact⟨List.nodup_nil,by simp[cO]⟩
 | succ k ih=>
  intro h;obtain⟨h1,h2⟩:=ih (by omega);rw[jG ids k h];unfold lE
  split
  ·exact⟨h1,h2⟩
  ·rename_i hn
   rw[not_or]at hn;refine⟨?_,?_⟩
   ·rw[List.nodup_append];refine⟨h1,by simp,fun a ha b hb=>?_⟩;rw[List.mem_singleton.1 hb];exact fun e=>hn.2 (e ▸ ha)
   ·rw[List.mem_append,not_or];exact⟨h2,fun h=>hn.1 (List.mem_singleton.1 h).symm⟩
theorem qH(ids:List IdR):(cO ids).Nodup∧id0∉cO ids∧(cO ids).length≤ids.length∧∀ y∈cO ids,y∈ids:=by
 have h1:=pAxis_nd ids ids.length (Nat.le_refl _);have h2:=qI ids ids.length (Nat.le_refl _);have h3:=wD ids ids.length (Nat.le_refl _);rw[List.take_length]at h1 h2 h3;exact⟨h1.1,h1.2,h2,h3⟩
theorem xA(r c:List IdR):lD ⟨cO r,cO c⟩:=⟨fun _ hx e=>(qH r).2.1 (e ▸ hx),fun _ hx e=>(qH c).2.1 (e ▸ hx)⟩
theorem AxMk.axIn{q base:Nat}{acc:List IdR}{v1 v2:Value}{W:World}(h:AxMk q base acc v1 v2 W)(hl:acc.length≤300)(hf:∀ y∈acc,y.fits)(hn:acc.Nodup):AxIn W (some q) acc:=by
 refine .inl ⟨base,acc,List.replicate acc.length true,v1,v2,?_,by simp,hl,hf,hn,?_⟩
 ·exact⟨h.ax,h.r1,by rw[List.length_replicate];unfold bools;rw[List.map_replicate];exact h.r2⟩
 ·exact(tI acc).symm
set_option maxRecDepth 1000000 in
set_option maxHeartbeats 3200000 in
theorem yT(A:Option Addr)(cap:Nat)(ids:List IdR)(w:World)(hA:lW w A ids)(hn:ids.length≤300)(hf:∀ y∈ids,y.fits) :
  Calls Tryz.prog 10 #[.slice A ids.length cap,.slice none 0 0] w fun e w'=>∃ u,e=.returned (.tuple #[.pointer (some ⟨w.heap.size,0,none⟩),u])∧AxIn w' (some w.heap.size) (cO ids)∧Below w.heap.size w w':=by
 have CA:=zh (uGG A cap ids w hA hn hf);have CR:=zh (fun W h=>rnew_any A cap ids W h hn);have HA:=zh hA;obtain⟨k1,k2,k3,k4⟩:=qH ids;have HP:Hid (∀ (b:Nat) v1 v2 W,AxMk w.heap.size b (cO ids) v1 v2 W→AxIn W (some w.heap.size) (cO ids)):=zh (fun b v1 v2 W h=>h.axIn (by omega) (fun y hy=>hf y (k4 y hy)) k1);clear hA k1 k2 k3 k4 hf
 go_enter Tryz.func10,Tryz.ntmps10
 go_wp2_with fail
 refine CA.out.mono ?_;rintro e w1 ⟨v1,v2,rfl,h1,hb1⟩;have H1:=zh (HP.out _ _ _ _ h1);have HB1:=zh hb1;have CR1:=zh (CR.out w1 (fun h0=>by obtain⟨g,o,e,hr⟩:=HA.out h0;exact⟨g,o,e,hr.at hb1.size (hb1.block g hr.1)⟩));clear h1 hb1 CA CR
 go_wp2_with fail
 refine CR1.out.mono ?_;rintro e w2 ⟨u1,u2,rfl,h2,hb2⟩;have H2:=zh (dE H1.out hb2);have HB2:=zh (HB1.out.trans (hb2.mono HB1.out.size));clear h2 hb2 CR1 H1 HB1
 go_wp2_with fail
 go_loopw [8] (fun v wr=>v=.int .i64 0∧Hid (wr=w2)) (fun _ _=>0)
 case atStart=>exact⟨rfl,zh rfl⟩
 case round=>
  obtain⟨rfl,hw⟩:=hrel;obtain rfl:=hw.out
  go_wp2_with fail
  (try simp only[Exit.inBlock,Exit.then])
  refine bodyPost_ret (results_tmp2 rfl _ _ _) rfl ?_;exact⟨⟨_,rfl⟩,H2.out,HB2.out⟩
end Go.Proofs.YtmgjidnalpgegaaGreatDoor
