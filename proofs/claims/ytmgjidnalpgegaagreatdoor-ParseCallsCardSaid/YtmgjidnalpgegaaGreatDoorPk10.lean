/-
  Lemmas, part 10: ParE ParF ParG ParH ParI ParJ.
-/
import Derived.Test.YtmgjidnalpgegaaGreatDoorPk9
set_option maxHeartbeats 100000000
namespace Go.Proofs.YtmgjidnalpgegaaGreatDoor
open Go.RowKit
theorem mP{ops:Array Oper}{rest:List Oper}{o:Oper}{a:Act}{w:World}{Q:Exit->Act->World->Prop}(hg:o.guard=none)(x:Operand)(ho:o.op=.buildSlice 39 1 #[(0,x)])(cs:List Value)(hx:a.eval x=.agg cs.toArray)(fb:cs.length=22)
  (N:Nat) (hN:w.heap.size=N) (d:Option Tmp) (hd:o.dst=d) (h:wpList Tryz.prog ops Q rest (a.put d (.slice (some ⟨N,0,none⟩) 1 1)) (w.alloc (.cells cs.toArray 41))):wpList Tryz.prog ops Q (o::rest) a w :=
 Great.wpList_buildSliceTo hg 39 41 1 #[(0,x)] ho N hN d hd nU cs.toArray (by simp only[List.map_toArray,List.map_cons,List.map_nil,hx];exact built1 cs fb) h
theorem mQ{ops:Array Oper}{rest:List Oper}{o:Oper}{a:Act}{w:World}{Q:Exit->Act->World->Prop}(hg:o.guard=none)(x y:Operand)(ho:o.op=.buildSlice 39 2 #[(0,x),(1,y)])(c1 c2:List Value)(hx:a.eval x=.agg c1.toArray)(hy:a.eval y=.agg c2.toArray)(h1:c1.length=22)(h2:c2.length=22)
  (N:Nat) (hN:w.heap.size=N) (d:Option Tmp) (hd:o.dst=d) (h:wpList Tryz.prog ops Q rest (a.put d (.slice (some ⟨N,0,none⟩) 2 2)) (w.alloc (.cells (c1++c2).toArray 41))):wpList Tryz.prog ops Q (o::rest) a w :=
 Great.wpList_buildSliceTo hg 39 41 2 #[(0,x),(1,y)] ho N hN d hd nU (c1++c2).toArray (by simp only[List.map_toArray,List.map_cons,List.map_nil,hx,hy];exact built2 c1 c2 h1 h2) h
def eE(E:Env)(f:Nat)(spec:List Tok->Nat->Out)(op:Nat):Prop:=∀ k nd pl er W,InE E k op nd pl er W->k<E.L.length->nd<=k->Calls Tryz.prog f #[.pointer (some ⟨E.r,0,none⟩)] W (NPost E W k op nd pl er (spec (E.L.drop k) nd))
def rdAt(W:World)(r:Nat):Nat:=match W.cell? ⟨r,1,none⟩ with
 |some (.int _ n)=>n.toNat
 |_=>0
theorem InE.rdAt{E:Env}{k op nd pl er:Nat}{W:World}(h:InE E k op nd pl er W):rdAt W E.r=k:=by
 unfold Go.Proofs.YtmgjidnalpgegaaGreatDoor.rdAt;have:=h.rd.cell 1;simp only[za,zb,zf]at this;rw[this];rfl
theorem eI{t:Tok}{s:Bs}(h:isS t s=true):t.kind≠0:=by
 unfold isS at h;simp at h;omega
abbrev unL(s:Bs)(A:Option Addr)(m n:Nat):List Value:=[.int .i64 5,.int .i64 0,.int .i64 0,.int .i64 0,.string ⟨#[]⟩,.bool false,.int .i64 0,.string ⟨s.toArray⟩,.int .i64 0,.int .i64 0,.int .i64 0,.int .i64 0,.bool false,.bool false,.int .i64 0,.int .i64 0,.int .i64 0,.int .i64 0,.bool false,.bool false,.int .i64 0,.slice A m n]
theorem tA(s:Bs)(A:Option Addr)(m n:Nat):(unL s A m n).toArray.all (·.oneCell')=true:=by simp[unL,Value.oneCell']
theorem eV{B bx:Nat}{a:World}(hb:B<=bx):∀ (r:List Value) (i:Nat) {W:World},Below B a W->Below B a (W.setCells bx i r)
 | [],_,_,h=>h
 |v::r,i,_,h=>eV hb r (i+1) (h.setCell (p:=⟨bx,i,none⟩) hb v)
theorem fN(bx:Nat):∀ (r:List Value) (i:Nat) (W:World),(W.setCells bx i r).heap.size=W.heap.size
 | [],_,_=>rfl
 |v::r,i,W=>by
  show ((W.setCell ⟨bx,i,none⟩ v).setCells bx (i+1) r).heap.size=_;rw[fN bx r (i+1),World.size_setCell]
structure Pct(E:Env)(w:World)(k op nd pl er q q4 m:Nat)(T:Out)(k':Nat)(l:List Value)(t:Tree)(c:Nat)(W:World):Prop where
 ine:InE E k' op c pl er W
 kp:Kp E.X w W
 own:Own1 E w W q 41 aA.toArray
 own4:Own1 E w W q4 41 l.toArray
 nv:NV W (q4::List.range m) c t l.toArray
 wm:w.heap.size<m
 qe:q=w.heap.size
 xm:∀ y∈E.X,y<m
 ms:m<=W.heap.size
 le:k<=k'
 lt:k'<E.L.length
 nc:c+k<=nd+k'
 nn:nd<=c
 go:fQ (E.L.length-k') t (E.L.drop k') c=T
theorem Pct.qin{E:Env}{w:World}{k op nd pl er q q4 m:Nat}{T:Out}{k':Nat}{l:List Value}{t:Tree}{c:Nat}{W:World}(h:Pct E w k op nd pl er q q4 m T k' l t c W):q∈q4::List.range m:=zg _ (yg.2 (by have:=h.wm;have:=h.qe;omega))
theorem Pct.next{E:Env}{w:World}{k op nd pl er q q4 m:Nat}{T:Out}{k':Nat}{l:List Value}{t:Tree}{c:Nat}{W W':World}(h:Pct E w k op nd pl er q q4 m T k' l t c W)(hb:Below W.heap.size W W'):Pct E w k op nd pl er q q4 m T k' l t c W' :=
 ⟨h.ine.next hb,h.kp.trans (Kp.of_below hb),h.own.next hb,h.own4.next hb,h.nv.kp (Kp.of_below hb),h.wm,h.qe,h.xm,yv h.ms hb.size,h.le,h.lt,h.nc,h.nn,h.go⟩
theorem Pct.len{E:Env}{w:World}{k op nd pl er q q4 m:Nat}{T:Out}{k':Nat}{l:List Value}{t:Tree}{c:Nat}{W:World}(h:Pct E w k op nd pl er q q4 m T k' l t c W):l.length=22:=by
 have:=h.nv.1
 rwa [yd]at this
theorem Pct.step{E:Env}(hE:E.ok){w:World}{k op nd pl er q q4 m:Nat}{T:Out}{k':Nat}{l:List Value}{t:Tree}{c:Nat}{W w9:World}(h:Pct E w k op nd pl er q q4 m T k' l t c W)(hk:k'+1<E.L.length)(hs:isS (E.at k') [37]=true)(hq:q≠q4){C:List Value}(fb:C.length=22)(h1:C.toArray.all (·.oneCell')=true)(hC:c+1<=256->C=unL [37] (some ⟨W.heap.size,0,none⟩) 1 1)
  (hi:InE E (k'+1) op (c+1) pl er w9) (jn:Kp [E.r] ((W.setCell ⟨E.r,1,none⟩ (.int .i64 ((k':Int)+1))).alloc (.cells l.toArray 41)) w9) :
  Pct E w k op nd pl er q q4 m T (k'+1) C (tUn [37] t) (c+1) (w9.setCells q4 0 C):=by
 have hr0:Kp [E.r] W (W.setCell ⟨E.r,1,none⟩ (.int .i64 ((k':Int)+1))):=(Kp.refl _ _).set (.inl (.head _)) 1 _;have hr:Kp [E.r] W w9:=(hr0.alloc _).trans jn;have ho:=h.own.kp hr.X;have qv:=h.own4.kp hr.X;have mt:Kp [q4] w9 (w9.setCells q4 0 C):=aQ (.inl (.head _)) C 0 (Kp.refl _ _);have bg:(W.setCell ⟨E.r,1,none⟩ (.int .i64 ((k':Int)+1))).heap.size=W.heap.size:=World.size_setCell ..;have hEr:E.r<W.heap.size:=h.ine.rd.lt;have uy:Lies w9 W.heap.size 41 l.toArray:=by
  have:=Lies.new (W.setCell ⟨E.r,1,none⟩ (.int .i64 ((k':Int)+1))) 41 l.toArray;rw[bg]at this;exact jn.lies this (fun hm=>by rw[yf.1 hm]at hEr;omega)
 have hg4:W.heap.size≠q4:=by have:=h.own4.li.lt;omega
 have hgl2:Lies (w9.setCells q4 0 C) W.heap.size 41 l.toArray:=mt.lies uy (fun hm=>hg4 (yf.1 hm));have hX:∀ y∈E.X,y∈q4::List.range m:=fun y hy=>zg _ (yg.2 (h.xm y hy))
 have hnv:NV (w9.setCells q4 0 C) (q4::List.range m) c t l.toArray:=(h.nv.kpX hr.X hX).kpX mt (fun y hy=>by rw[yf.1 hy];exact .head _);have jp:=h.go;refine⟨hi.own hE qv (by decide) (by decide) mt,(h.kp.trans hr.X).own qv mt,⟨ho.fr,ho.ge,mt.lies ho.li (fun hm=>hq (yf.1 hm))⟩,⟨qv.fr,qv.ge,qv.li.putAll (by rw[fb];exact h.nv.1.symm)⟩,⟨fb,h1,fun hn=>?_⟩,h.wm,h.qe,h.xm,yv h.ms (yv hr.size mt.size),by have:=h.le;omega,hk,by have:=h.nc;omega,by have:=h.nn;omega,?_⟩
 ·refine⟨some ⟨W.heap.size,0,none⟩,1,by rw[hC hn];rfl,KidsAt.one hgl2 hnv (by omega) ?_ _ rfl⟩;intro hm;rcases ym.1 hm with hm|hm
  ·exact hg4 hm
  have:=yg.1 hm;have:=h.ms;omega
 cases hf:E.L.length-k' with
 |zero=>omega
 |succ f=>
  rw[hf]at jp;unfold fQ at jp;rw[show isS (hd (E.L.drop k')) [37]=true from hs,if_pos rfl,List.tail_drop]at jp;rw[show E.L.length-(k'+1)=f by omega];exact jp
set_option maxRecDepth 100000 in
theorem uFX(E:Env)(hE:E.ok)(he:E.ends)(hL:E.L.length<=1000000)(part:List Tok->Nat->Out)(op:Nat)(hp:eE E 113 part op)(k nd pl er:Nat)(w:World)(hI:InE E k op nd pl er w)(hk:k<E.L.length)(hn:nd<=k)(t0:Tree)(wd:List Tok)(c0:Nat)(ho:part (E.L.drop k) nd=.ok t0 wd c0) :
  Calls Tryz.prog 111 #[.pointer (some ⟨E.r,0,none⟩)] w (NPost E w k op nd pl er (bM part (E.L.drop k) nd)):=by
 have hT:bM part (E.L.drop k) nd=fQ wd.length t0 wd c0:=by unfold bM;rw[ho]
 rw[hT];generalize ae:fQ wd.length t0 wd c0=T;have aq:=zh ae;clear ae;have cj:=zh (hI.next (zp (.cells aA.toArray 41)));have CP:=zh (hp k nd pl er _ cj.out hk hn);rw[ho]at CP;have cf:Hid (Kp E.X w (w.alloc (.cells aA.toArray 41))):=zh ((Kp.refl _ _).alloc _);have cd:=zh (Own1.new hI (Kp.refl E.X w) 41 aA.toArray);have HF:=zh hI;have cr:Hid (w.heap.size<(w.alloc (.cells aA.toArray 41)).heap.size):=zh (by simp);clear hI ho hT hp;simp only[aA]at cj cf cd CP cr
 go_enter Tryz.func111,Tryz.ntmps111
 go_upto_region 1 with fail
 generalize w.alloc (.cells zM 41)=W1 at cj cf cd CP cr ⊢;generalize fa:w.heap.size=q at cd ⊢;have qw:=zh fa;clear fa
 go_wp2_with fail
 refine CP.out.mono ?_;rintro e w2 ⟨k1,cs,rfl,h1,h2,rfl,h3,h4,h5,h6,h7⟩;obtain⟨l,rfl⟩:∃ l:List Value,cs=l.toArray:=⟨cs.toList,by simp⟩
 have we:l.length=22:=by have:=h7.1;rwa [yd]at this
 have HMS:=zh h6.size;have bq:=zh (cd.out.kp h6);have cq:=zh (cf.out.trans h6);have ct:=zh h5;have ft:=zh h7;have ph:=zh (⟨h1,h2,h3,h4⟩:k<=k1/\k1<E.L.length/\c0+k<=nd+k1/\nd<=c0);have aj:=zh we;have yo:=zh h7.2.1;clear h1 h2 h3 h4 h5 h6 h7 we cj cf cd CP;have au:Hid (Below w2.heap.size w2 (w2.alloc (.cells zM 41))):=zh (zp _)
 have iq:Hid (Own1 E w (w2.alloc (.cells zM 41)) w2.heap.size 41 zM):=zh (Own1.new HF.out cq.out 41 zM)
 have bp:q≠w2.heap.size:=by have:=bq.out.li.lt;omega
 have HC:Hid (∀ W3,W3=(w2.alloc (.cells zM 41)).setCells w2.heap.size 0 l->InE E k1 op c0 pl er W3/\Kp E.X w W3/\Own1 E w W3 q 41 aA.toArray/\Own1 E w W3 w2.heap.size 41 l.toArray/\NV W3 (w2.heap.size::List.range W1.heap.size) c0 t0 l.toArray):=zh (fun W3 e=>by
  subst e;have hb:Below w2.heap.size w2 ((w2.alloc (.cells zM 41)).setCells w2.heap.size 0 l):=eV zr l 0 au.out;exact⟨ct.out.next hb,cq.out.trans (Kp.of_below hb),bq.out.next hb,⟨iq.out.fr,iq.out.ge,iq.out.li.putAll aj.out⟩,(ft.out.fresh zr).kp (Kp.of_below hb)⟩)
 have HT:Hid ((w2.alloc (.cells zM 41)).there w2.heap.size 0 l.toArray.size):=zh (by have h:=iq.out.li.thereA;rw[show l.toArray.size=22 from aj.out];exact h);have zi:(Tryz.prog.info? 41).map (·.size)=some l.toArray.size:=by rw[yd,aj.out];exact aE
 go_wp2_with (first |(refine yq rfl 41 (.tmp 4) (.tmp 9) rfl w2.heap.size 0 l.toArray rfl rfl HT.out zi yo.out ?_;change wpList _ _ _ _ _ ((w2.alloc (.cells zM 41)).setCells w2.heap.size 0 l);generalize om:(w2.alloc (.cells zM 41)).setCells w2.heap.size 0 l=W3))
 obtain⟨g1,g2,g3,g4,g5⟩:=HC.out W3 om.symm;have HS:Hid (Pct E w k op nd pl er q w2.heap.size W1.heap.size T k1 l t0 c0 W3):=zh ⟨g1,g2,g3,g4,g5,cr.out,qw.out.symm,fun y hy=>Nat.lt_trans (HF.out.xlt y hy) cr.out,by rw[<- om,fN,World.size_alloc];have:=HMS.out;omega,ph.out.1,ph.out.2.1,ph.out.2.2.1,ph.out.2.2.2,by rw[<- yk];exact aq.out⟩;have hq:w2.heap.size=w2.heap.size:=rfl;clear g1 g2 g3 g4 g5 HC HT zi au iq bq cq ct ft aj yo om hq;generalize w2.heap.size=q4 at *;generalize W1.heap.size=m at *;have CT:=zh (fun k c W h hk=>cE E k op c pl er W h hk);have CS:=zh (fun k W=>dF (E.at k) [37] W)
 go_loopw [16] (fun _ wr=>Hid (∃ k' l t c,Pct E w k op nd pl er q q4 m T k' l t c wr)) (fun _ wr=>E.L.length-rdAt wr E.r)
 case atStart=>exact zh ⟨_,_,_,_,HS.out⟩
 case round=>
  obtain⟨k2,l2,t2,c2,hS⟩:=hrel.out;have dy:=zh hS;have HM:=zh hS.ine.rdAt;clear hS hrel HS;have CT2:=zh (CT.out k2 c2 _ dy.out.ine dy.out.lt);have CS2:=zh (CS.out k2);by_cases hs:isS (E.at k2) [37]=true
  ·rw[hs]at CS2;have wg:=E.more he dy.out.lt (eI hs);have ol:(k2:Int)<=1000000:=by have:=dy.out.lt;omega
   go_wp2_with fail
   refine CT2.out.mono ?_;rintro e w5 ⟨rfl,hb⟩;have di:=zh hb;clear hb CT2
   go_wp2_with fail
   refine(CS2.out w5).mono ?_;rintro e w6 ⟨rfl,hb⟩;have am:Hid (Pct E w k op nd pl er q q4 m T k2 l2 t2 c2 w6):=zh ((dy.out.next di.out).next hb);clear hb CS2 dy di;have r1:=am.out.ine.rd.cell 1;have fr1:=am.out.ine.rd.frozen 1;simp only[za,zb,zf]at r1;have mv:Hid (Kp [E.r] w6 (w6.setCell ⟨E.r,1,none⟩ (.int .i64 ((k2:Int)+1)))):=zh ((Kp.refl _ _).set (.inl (.head _)) 1 _);have gq:Hid (InE E (k2+1) op c2 pl er (w6.setCell ⟨E.r,1,none⟩ (.int .i64 ((k2:Int)+1)))):=zh (am.out.ine.wrote hE mv.out (am.out.ine.rd.put 1 _));have uz:Hid (Lies (w6.setCell ⟨E.r,1,none⟩ (.int .i64 ((k2:Int)+1))) q4 41 l2.toArray):=zh (am.out.own4.kp mv.out.X).li;have HZ7:Hid ((w6.setCell ⟨E.r,1,none⟩ (.int .i64 ((k2:Int)+1))).heap.size=w6.heap.size):=zh (World.size_setCell ..)
   have ij:=zh (fun w9 C=>am.out.step (w9:=w9) (C:=C) hE wg hs bp);have fi:c2<=1000000:=by have:=am.out.nc;have:=am.out.lt;omega
   have aj:Hid (l2.length=22):=zh am.out.len;have CN:=zh (fun W h=>iJ E hE (k2+1) op c2 pl er (unL [37] (some ⟨w6.heap.size,0,none⟩) 1 1) rfl (tA _ _ _ _) W h fi);obtain⟨C,hC,ai,ec,ii⟩:=fD (c2+1) (unL [37] (some ⟨w6.heap.size,0,none⟩) 1 1) rfl (tA _ _ _ _);rw[hC]at CN;have HST2:=zh (fun w9=>ij.out w9 C ai ec (fun h=>ii h));have yC:=zh ai;have dx:=zh ec;clear hC ai ec ii ij
   go_upto_region 4 with fail
   generalize hg:w6.heap.size=g at *;generalize w6.setCell ⟨E.r,1,none⟩ (.int .i64 ((k2:Int)+1))=w7 at *;have mh:Hid (w7.rangeAt q4 0 l2):=zh (by simpa using uz.out.range);have zi:(Tryz.prog.info? 41).map (·.size)=some l2.length:=by rw[aj.out];exact aE
   have v7:=zh (gq.out.next (zp (.cells l2.toArray 41)));have HO8:=zh ((uz.out.next (zp (.cells l2.toArray 41))));have HN4:Hid (q4≠E.r):=zh (fun e=>am.out.own4.fr.nx (by rw[e];exact .head _));clear hg r1 fr1
   go_wp2_with (first |(refine yr rfl 41 (.tmp 4) rfl q4 0 rfl l2 _ mh.out Tryz.underlying41 rfl zi ?_) |(refine mP rfl (.tmp 25) rfl l2 rfl aj.out g HZ7.out (some 26) rfl ?_;generalize w7.alloc (.cells l2.toArray 41)=w8 at v7 HST2 HO8 ⊢))
   refine(CN.out w8 v7.out).mono ?_;rintro e w9 ⟨rfl,h1,h2⟩;have HST3:=zh (HST2.out w9 h1 h2);have HO9:=zh (h2.lies HO8.out (fun hm=>HN4.out (yf.1 hm)));have HT:Hid (w9.there q4 0 C.toArray.size):=zh (by have h:=HO9.out.thereA;rw[show C.toArray.size=22 from yC.out];rw[show l2.toArray.size=22 from aj.out]at h;exact h);have pi:(Tryz.prog.info? 41).map (·.size)=some C.toArray.size:=by rw[show C.toArray.size=22 from yC.out];exact aE
   clear h1 h2 HST2 CN v7 gq mv zi
   go_wp2_with (first |(refine yq rfl 41 (.tmp 4) (.tmp 28) rfl q4 0 C.toArray rfl rfl HT.out pi dx.out ?_;change wpList _ _ _ _ _ (w9.setCells q4 0 C);generalize w9.setCells q4 0 C=w10 at HST3 ⊢;dsimp only[Act.put]))
   go_roundw
   case rel=>exact zh ⟨_,_,_,_,HST3.out⟩
   case measure=>rw[HM.out,HST3.out.ine.rdAt];omega
  have hs0:isS (E.at k2) [37]=false:=by simpa using hs
  rw[hs0]at CS2;have HG:Hid (T=.ok t2 (E.L.drop k2) c2):=zh (by
   have:=dy.out.go;rw[<- this];cases h:E.L.length-k2 with
   |zero=>have:=dy.out.lt;omega
   |succ f=>
    unfold fQ;rw[show isS (hd (E.L.drop k2)) [37]=false from hs0];rfl)
  clear hs hs0 CS CT
  go_wp2_with fail
  refine CT2.out.mono ?_;rintro e w5 ⟨rfl,hb⟩;have di:=zh hb;clear hb CT2
  go_wp2_with fail
  refine(CS2.out w5).mono ?_;rintro e w6 ⟨rfl,hb⟩;have am:Hid (Pct E w k op nd pl er q q4 m T k2 l2 t2 c2 w6):=zh ((dy.out.next di.out).next hb);clear hb CS2 dy di;have hne4:=bp;have HT:Hid (w6.there q 0 l2.toArray.size):=zh (by have h:=am.out.own.li.thereA;rw[show l2.toArray.size=22 from am.out.nv.1];exact h);have mh:Hid (w6.rangeAt q4 0 l2):=zh (by simpa using am.out.own4.li.range);have zi:(Tryz.prog.info? 41).map (·.size)=some l2.length:=by rw[show l2.length=22 from by have:=am.out.nv.1;rwa [yd]at this];exact aE
  have db:=zh am.out.nv.2.1
  go_wp2_with (first |(refine yr rfl 41 (.tmp 4) rfl q4 0 rfl l2 _ mh.out Tryz.underlying41 rfl zi ?_) |(refine yq rfl 41 (.tmp 2) (.tmp 29) rfl q 0 l2.toArray rfl rfl HT.out zi db.out ?_;change wpList _ _ _ _ _ (w6.setCells q 0 l2);generalize fo:w6.setCells q 0 l2=w7))
  have bn:Kp [q] w6 w7:=by rw[<- fo];exact aQ (.inl (.head _)) l2 0 (Kp.refl _ _)
  have dw:Hid (Lies w7 q 41 l2.toArray):=zh (by rw[<- fo];exact am.out.own.li.putAll (by have:=am.out.nv.1;rwa [yd]at this));refine yt (aO rfl rfl dw.out am.out.nv.1) rfl ?_;rw[HG.out];have nh:∀ y∈[q],y∈q4::List.range m:=fun y hy=>by rw[yf.1 hy];exact am.out.qin
  exact⟨k2,l2.toArray,rfl,am.out.le,am.out.lt,rfl,am.out.nc,am.out.nn,am.out.ine.own hE am.out.own (by decide) (by decide) bn,am.out.kp.own am.out.own bn,(am.out.nv.kpX bn nh).anti (fun y hy _=>zg _ (yg.2 (Nat.lt_trans (yg.1 hy) am.out.wm)))⟩
set_option maxRecDepth 100000 in
theorem uCI(E:Env)(hE:E.ok)(part:List Tok->Nat->Out)(op:Nat)(hp:eE E 113 part op)(k nd pl er:Nat)(w:World)(hI:InE E k op nd pl er w)(hk:k<E.L.length)(hn:nd<=k)(e0 p0:Nat)(ho:part (E.L.drop k) nd=.bad e0 p0) :
  Calls Tryz.prog 111 #[.pointer (some ⟨E.r,0,none⟩)] w (NPost E w k op nd pl er (bM part (E.L.drop k) nd)):=by
 have hT:bM part (E.L.drop k) nd=.bad e0 p0:=by unfold bM;rw[ho]
 rw[hT];have cj:=zh (hI.next (zp (.cells aA.toArray 41)));have CP:=zh (hp k nd pl er _ cj.out hk hn);rw[ho]at CP;have cf:Hid (Kp E.X w (w.alloc (.cells aA.toArray 41))):=zh ((Kp.refl _ _).alloc _);have cd:=zh (Own1.new hI (Kp.refl E.X w) 41 aA.toArray);have HF:=zh hI;clear hI ho hT hp;simp only[aA]at cj cf cd CP
 go_enter Tryz.func111,Tryz.ntmps111
 go_upto_region 1 with fail
 generalize w.alloc (.cells zM 41)=W1 at cj cf cd CP ⊢;generalize fa:w.heap.size=q at cd ⊢;clear fa
 go_wp2_with fail
 refine CP.out.mono ?_;rintro e w2 ⟨cs,k1,op1,nd1,rfl,h1,h2,h3,h4,h5,h6,h7⟩;obtain⟨l,rfl⟩:∃ l:List Value,cs=l.toArray:=⟨cs.toList,by simp⟩
 have aj:Hid (l.length=22):=zh (by rwa [yd]at h1);have yo:=zh h2;have bq:=zh (cd.out.kp h7);have cq:=zh (cf.out.trans h7);have ct:=zh h6;have ph:=zh (⟨h3,h4,h5⟩:k<=k1/\k1<E.L.length/\nd1+k<=nd+k1);clear h1 h2 h3 h4 h5 h6 h7 cj cf cd CP;have au:Hid (Below w2.heap.size w2 (w2.alloc (.cells zM 41))):=zh (zp _)
 have iq:Hid (Own1 E w (w2.alloc (.cells zM 41)) w2.heap.size 41 zM):=zh (Own1.new HF.out cq.out 41 zM)
 have bp:q≠w2.heap.size:=by have:=bq.out.li.lt;omega
 have HC:Hid (∀ W3,W3=(w2.alloc (.cells zM 41)).setCells w2.heap.size 0 l->InE E k1 op1 nd1 p0 e0 W3/\Kp E.X w W3/\Own1 E w W3 q 41 aA.toArray/\Own1 E w W3 w2.heap.size 41 l.toArray):=zh (fun W3 e=>by
  subst e;have hb:Below w2.heap.size w2 ((w2.alloc (.cells zM 41)).setCells w2.heap.size 0 l):=eV zr l 0 au.out;exact⟨ct.out.next hb,cq.out.trans (Kp.of_below hb),bq.out.next hb,⟨iq.out.fr,iq.out.ge,iq.out.li.putAll aj.out⟩⟩)
 have HT:Hid ((w2.alloc (.cells zM 41)).there w2.heap.size 0 l.toArray.size):=zh (by have h:=iq.out.li.thereA;rw[show l.toArray.size=22 from aj.out];exact h);have zi:(Tryz.prog.info? 41).map (·.size)=some l.toArray.size:=by rw[yd,aj.out];exact aE
 go_wp2_with (first |(refine yq rfl 41 (.tmp 4) (.tmp 9) rfl w2.heap.size 0 l.toArray rfl rfl HT.out zi yo.out ?_;change wpList _ _ _ _ _ ((w2.alloc (.cells zM 41)).setCells w2.heap.size 0 l);generalize om:(w2.alloc (.cells zM 41)).setCells w2.heap.size 0 l=W3))
 obtain⟨g1,g2,g3,g4⟩:=HC.out W3 om.symm;have fj:=zh g1;have ig:=zh g2;have iw:=zh g3;have HB3':=zh g4;clear g1 g2 g3 g4 HC HT zi au iq bq cq ct om;generalize w2.heap.size=q4 at *
 go_loopw [16] (fun _ wr=>Hid (wr=W3)) (fun _ _=>0)
 case atStart=>exact zh rfl
 case round=>
  have hwr:=hrel.out;subst hwr;have HT:Hid (wr.there q 0 l.toArray.size):=zh (by have h:=iw.out.li.thereA;rw[show l.toArray.size=22 from aj.out];exact h);have mh:Hid (wr.rangeAt q4 0 l):=zh (by simpa using HB3'.out.li.range);have zi:(Tryz.prog.info? 41).map (·.size)=some l.length:=by rw[aj.out];exact aE
  go_wp2_with (first |(refine yr rfl 41 (.tmp 4) rfl q4 0 rfl l _ mh.out Tryz.underlying41 rfl zi ?_) |(refine yq rfl 41 (.tmp 2) (.tmp 29) rfl q 0 l.toArray rfl rfl HT.out zi yo.out ?_;change wpList _ _ _ _ _ (wr.setCells q 0 l);generalize fo:wr.setCells q 0 l=w7))
  have bn:Kp [q] wr w7:=by rw[<- fo];exact aQ (.inl (.head _)) l 0 (Kp.refl _ _)
  have dw:Hid (Lies w7 q 41 l.toArray):=zh (by rw[<- fo];exact iw.out.li.putAll aj.out);refine yt (aO rfl rfl dw.out aj.out) rfl ?_;exact⟨l.toArray,k1,op1,nd1,rfl,aj.out,yo.out,ph.out.1,ph.out.2.1,ph.out.2.2,fj.out.own hE iw.out (by decide) (by decide) bn,ig.out.own iw.out bn⟩
theorem uCH(E:Env)(hE:E.ok)(he:E.ends)(hL:E.L.length<=1000000)(part:List Tok->Nat->Out)(op:Nat)(hp:eE E 113 part op):eE E 111 (bM part) op:=by
 intro k nd pl er w hI hk hn;cases ho:part (E.L.drop k) nd with
 |ok t ts c=>exact uFX E hE he hL part op hp k nd pl er w hI hk hn t ts c ho
 |bad e p=>
  have h:=uCI E hE part op hp k nd pl er w hI hk hn e p ho;have hT:bM part (E.L.drop k) nd=.bad e p:=by unfold bM;rw[ho]
  exact h
theorem ba_beq(a b:Array UInt8):((⟨a⟩:ByteArray)==⟨b⟩)=(a==b):=rfl
theorem tW(s:Bs):∀ (l:List Bs) (es:List MapEntry) (j:Nat),es.map (·.key)=l.map (fun(x:Bs)=>Value.string ⟨x.toArray⟩)->(∀ e∈es,e.val=.bool true)->∃ r,Instr.findNow .string (.string ⟨s.toArray⟩) es j=some r/\(l.contains s=true->∃ i,r=some (i,.bool true))/\(l.contains s=false->r=none)
 | [],es,j,h,_=>by
  have h0:es=[]:=by simpa using h
  subst h0;exact⟨none,rfl,fun h=>by simp at h,fun _=>rfl⟩
 |x::r,es,j,h,hv=>by
  cases es with
  |nil=>simp at h
  |cons e es=>
   simp only[List.map_cons,List.cons.injEq]at h;obtain⟨h1,h2⟩:=h;by_cases hx:s=x
   ·subst hx;refine⟨some (j,e.val),?_,fun _=>⟨j,by rw[hv e (by simp)]⟩,fun h=>by simp at h⟩;unfold Instr.findNow;rw[h1];simp[Instr.sameNow,ba_beq]
   obtain⟨q,g1,g2,g3⟩:=tW s r es (j+1) h2 (fun e he=>hv e (by simp[he]));refine⟨q,?_,fun hc=>g2 ?_,fun hc=>g3 ?_⟩
   ·unfold Instr.findNow;rw[h1];have bp:((⟨s.toArray⟩:ByteArray)==⟨x.toArray⟩)=false:=by
     rw[ba_beq];simpa using hx
    simp only[Instr.sameNow,bp];exact g1
   ·simpa [hx] using hc
   simpa [hx] using hc
theorem uGJ(l:List Bs):(jM l).toList.map (·.key)=l.map (fun(x:Bs)=>Value.string ⟨x.toArray⟩):=by
 unfold jM;apply List.ext_getElem?;intro i;simp;cases l[i]? <;> rfl
theorem uGL(l:List Bs):∀ e∈(jM l).toList,e.val=.bool true:=by
 intro e he;unfold jM at he;simp at he;obtain⟨i,h,rfl⟩:=he;rfl
theorem pY(l:List Bs)(r c:Nat)(W:World)(hb:W.heap[r]?=some (.map (jM l) c))(s:Bs) :
  (Instr.lookup 89 (.map (some r)) (.string ⟨s.toArray⟩) false).run Tryz.prog W=.ok (.bool (l.contains s)) W:=by
 obtain⟨q,h1,h2,h3⟩:=tW s l (jM l).toList 0 (uGJ l) (uGL l);have hc:(Instr.checkKey (jM l).isEmpty 10000 9 (.string ⟨s.toArray⟩)).run Tryz.prog W=.ok () W:=MapKept.run_checkKey (k:=.string ⟨s.toArray⟩) Tryz.underlying9 trivial _ 9999;have hz:(zeroValue 4).run Tryz.prog W=.ok (.bool false) W:=by kernel_rfl
 cases hl:l.contains s with
 |true=>
  obtain⟨i,rfl⟩:=h2 hl;simp[Instr.lookup,run_underlying uSgI,MapKept.run_getObj_map hb,hc,MapKept.run_findKey Tryz.underlying9 h1,Result.andThen]
 |false=>
  have:=h3 hl;subst this;simp[Instr.lookup,run_underlying uSgI,MapKept.run_getObj_map hb,hc,MapKept.run_findKey Tryz.underlying9 h1,Result.andThen,hz]
abbrev uDW(s:Bs)(A:Option Addr)(m n:Nat):List Value:=[.int .i64 6,.int .i64 0,.int .i64 0,.int .i64 0,.string ⟨#[]⟩,.bool false,.int .i64 0,.string ⟨s.toArray⟩,.int .i64 0,.int .i64 0,.int .i64 0,.int .i64 0,.bool false,.bool false,.int .i64 0,.int .i64 0,.int .i64 0,.int .i64 0,.bool false,.bool false,.int .i64 0,.slice A m n]
theorem pK(s:Bs)(A:Option Addr)(m n:Nat):(uDW s A m n).toArray.all (·.oneCell')=true:=by simp[uDW,Value.oneCell']
structure Lev(E:Env)(w:World)(k op nd pl er q q8 m:Nat)(next:List Tok->Nat->Out)(sg:List Bs)(T:Out)(k':Nat)(l:List Value)(t:Tree)(c:Nat)(W:World):Prop where
 ine:InE E k' op c pl er W
 kp:Kp E.X w W
 own:Own1 E w W q 41 aA.toArray
 own8:Own1 E w W q8 41 l.toArray
 nv:NV W (q8::List.range m) c t l.toArray
 wm:w.heap.size<m
 qe:q=w.heap.size
 xm:∀ y∈E.X,y<m
 ms:m<=W.heap.size
 le:k<=k'
 lt:k'<E.L.length
 nc:c+k<=nd+k'
 nn:nd<=c
 go:∃ f,E.L.length-k'<=f/\dX next sg f t (E.L.drop k') c=T
theorem Lev.len{E:Env}{w:World}{k op nd pl er q q8 m:Nat}{next:List Tok->Nat->Out}{sg:List Bs}{T:Out}{k':Nat}{l:List Value}{t:Tree}{c:Nat}{W:World}(h:Lev E w k op nd pl er q q8 m next sg T k' l t c W):l.length=22:=by
 have:=h.nv.1
 rwa [yd]at this
theorem Lev.qin{E:Env}{w:World}{k op nd pl er q q8 m:Nat}{next:List Tok->Nat->Out}{sg:List Bs}{T:Out}{k':Nat}{l:List Value}{t:Tree}{c:Nat}{W:World}(h:Lev E w k op nd pl er q q8 m next sg T k' l t c W):q∈q8::List.range m:=zg _ (yg.2 (by have:=h.wm;have:=h.qe;omega))
theorem Lev.next{E:Env}{w:World}{k op nd pl er q q8 m:Nat}{next:List Tok->Nat->Out}{sg:List Bs}{T:Out}{k':Nat}{l:List Value}{t:Tree}{c:Nat}{W W':World}(h:Lev E w k op nd pl er q q8 m next sg T k' l t c W)(hb:Below W.heap.size W W'):Lev E w k op nd pl er q q8 m next sg T k' l t c W' :=
 ⟨h.ine.next hb,h.kp.trans (Kp.of_below hb),h.own.next hb,h.own8.next hb,h.nv.kp (Kp.of_below hb),h.wm,h.qe,h.xm,yv h.ms hb.size,h.le,h.lt,h.nc,h.nn,h.go⟩
abbrev wG(E:Env)(k':Nat)(W:World):World:=(W.setCell ⟨E.r,1,none⟩ (.int .i64 ((k':Int)+1))).alloc (.cells aA.toArray 41)
theorem Lev.step{E:Env}(hE:E.ok){w:World}{k op nd pl er q q8 m:Nat}{next:List Tok->Nat->Out}{sg:List Bs}{T:Out}{k':Nat}{l:List Value}{t:Tree}{c:Nat}{W w9 w12:World}(h:Lev E w k op nd pl er q q8 m next sg T k' l t c W)(hs:dB sg (E.at k')=true)(hq:q≠q8)
  {x:Tree} {k3 c1:Nat} {l3:List Value} (mi:next (E.L.drop (k'+1)) c=.ok x (E.L.drop k3) c1) (dc:k'+1<=k3) (ur:k3<E.L.length) (eu:c1+(k'+1)<=c+k3) (fi:c<=c1)
  (hk9:Kp E.X (wG E k' W) w9) (hv3:NV w9 (List.range (wG E k' W).heap.size) c1 x l3.toArray)
  (iz:Kp [E.r] ((w9.setCells W.heap.size 0 l3).alloc (.cells (l++l3).toArray 41)) w12) (hi12:InE E k3 op (c1+1) pl er w12)
  {C:List Value} (fb:C.length=22) (h1:C.toArray.all (·.oneCell')=true) (hC:c1+1<=256->C=uDW (E.at k').text (some ⟨w9.heap.size,0,none⟩) 2 2) :
  Lev E w k op nd pl er q q8 m next sg T k3 C (kH (E.at k').text t x) (c1+1) (w12.setCells q8 0 C):=by
 have hr0:Kp E.X W (W.setCell ⟨E.r,1,none⟩ (.int .i64 ((k':Int)+1))):=((Kp.refl [E.r] _).set (.inl (.head _)) 1 _).X;have jq:Kp E.X W (wG E k' W):=hr0.alloc _;have hr9:Kp E.X W w9:=jq.trans hk9;have hs8:(wG E k' W).heap.size=W.heap.size+1:=by show (World.alloc _ _).heap.size=_;rw[World.size_alloc,World.size_setCell]
 have hs9:W.heap.size+1<=w9.heap.size:=by have:=hk9.size;omega
 have wi:=h.own8.li.lt;have dr:=h.own.li.lt;have hms:=h.ms;have hw10:Kp [W.heap.size] w9 (w9.setCells W.heap.size 0 l3):=aQ (.inl (.head _)) l3 0 (Kp.refl _ _);have hs10:(w9.setCells W.heap.size 0 l3).heap.size=w9.heap.size:=fN ..;have hw11:Kp [] (w9.setCells W.heap.size 0 l3) ((w9.setCells W.heap.size 0 l3).alloc (.cells (l++l3).toArray 41)):=(Kp.refl _ _).alloc _;have uy:Lies ((w9.setCells W.heap.size 0 l3).alloc (.cells (l++l3).toArray 41)) w9.heap.size 41 (l++l3).toArray:=by
  have:=Lies.new (w9.setCells W.heap.size 0 l3) 41 (l++l3).toArray
  rwa [hs10]at this
 have rt:Kp [q8] w12 (w12.setCells q8 0 C):=aQ (.inl (.head _)) C 0 (Kp.refl _ _);have hEr:E.r<W.heap.size:=h.ine.rd.lt;have hrx:E.r∈E.X:=.head _;have hX:∀ y∈E.X,y∈W.heap.size::q8::List.range m:=fun y hy=>zg _ (zg _ (yg.2 (h.xm y hy)))
 have hX9:∀ y∈E.X,y<W.heap.size:=h.ine.xlt
 have ht9:NV w12 (W.heap.size::q8::List.range m) (c1+1) t l.toArray :=
  (((((h.nv.fresh zr).kpX hr9 hX).kpX hw10 (fun y hy=>by rw[yf.1 hy];exact .head _)).kpX hw11 (fun y hy=>by cases hy)).kpX iz (fun y hy=>by rw[yf.1 hy];exact hX _ hrx)).mono (by omega)
 have hx12:NV w12 (List.range (wG E k' W).heap.size) (c1+1) x l3.toArray :=
  (((hv3.kpX hw10 (fun y hy=>by rw[yf.1 hy];exact yg.2 (by omega))).kpX hw11 (fun y hy=>by cases hy)).kpX iz (fun y hy=>by rw[yf.1 hy];exact yg.2 (by omega))).mono (by omega)
 have nh:∀ y∈q8::List.range m,y∈List.range (wG E k' W).heap.size:=fun y hy=>by
  rcases ym.1 hy with rfl|hy
  ·exact yg.2 (by omega)
  have:=yg.1 hy;exact yg.2 (by omega)
 have ht13:NV (w12.setCells q8 0 C) (q8::List.range m) (c1+1) t l.toArray:=(ht9.anti (fun y hy _=>zg _ hy)).kpX rt (fun y hy=>by rw[yf.1 hy];exact .head _);have hx13:NV (w12.setCells q8 0 C) (q8::List.range m) (c1+1) x l3.toArray:=(hx12.anti (fun y hy _=>nh y hy)).kpX rt (fun y hy=>by rw[yf.1 hy];exact .head _);have hgr:w9.heap.size≠E.r:=by omega
 have hg8:w9.heap.size≠q8:=by omega
 have hgl13:Lies (w12.setCells q8 0 C) w9.heap.size 41 (l++l3).toArray:=rt.lies (iz.lies uy (fun hm=>hgr (yf.1 hm))) (fun hm=>hg8 (yf.1 hm));have keep:∀ {z:Nat} {cs:Array Value},z<W.heap.size->Own1 E w W z 41 cs->Own1 E w w12 z 41 cs:=fun {z cs} hz ho=>by
  have h9:=ho.kp hr9;exact⟨ho.fr,ho.ge,iz.lies (hw11.lies (hw10.lies h9.li (fun hm=>by rw[yf.1 hm]at hz;omega)) (by simp)) (fun hm=>ho.fr.nx (by rw[yf.1 hm];exact hrx))⟩
 have ho12:=keep dr h.own;have pj:=keep wi h.own8;have tv:Kp E.X w w12:=by
  have h9:Kp E.X w w9:=h.kp.trans hr9;have uu:=h9.andThen hw10 (fun g hg=>.inr (by rw[yf.1 hg];exact h.kp.size));exact(uu.alloc _).trans iz.X
 have hm12:W.heap.size<=w12.heap.size:=by
  have:=iz.size;rw[World.size_alloc,hs10]at this;omega
 have hkl:=h.le;have sq:=h.nc;have s6:=h.nn;obtain⟨f,hf,jp⟩:=h.go;have hlt:=h.lt;refine⟨hi12.own hE pj (by decide) (by decide) rt,tv.own pj rt,⟨ho12.fr,ho12.ge,rt.lies ho12.li (fun hm=>hq (yf.1 hm))⟩,⟨pj.fr,pj.ge,pj.li.putAll (by rw[fb];exact h.nv.1.symm)⟩,⟨fb,h1,fun hn=>?_⟩,h.wm,h.qe,h.xm,yv h.ms (yv hm12 rt.size),by omega,ur,by omega,by omega,?_⟩
 ·refine⟨some ⟨w9.heap.size,0,none⟩,2,by rw[hC hn];rfl,KidsAt.two hgl13 ht13 hx13 (by omega) ?_ _ rfl⟩;intro hm;rcases ym.1 hm with hm|hm
  ·exact hg8 hm
  have:=yg.1 hm;omega
 cases f with
 |zero=>omega
 |succ f=>
  refine⟨f,by omega,?_⟩;unfold dX at jp;rw[show dB sg (hd (E.L.drop k'))=true from hs,if_pos rfl,List.tail_drop,mi]at jp;exact jp
structure LevB(E:Env)(w:World)(k nd q q8:Nat)(T:Out)(W:World):Prop where
 ex:∃ k4 op4 nd4 e p l,T=.bad e p/\InE E k4 op4 nd4 p e W/\Kp E.X w W/\Own1 E w W q 41 aA.toArray/\Own1 E w W q8 41 (l:List Value).toArray/\l.length=22/\l.toArray.all (·.oneCell')=true/\k<=k4/\k4<E.L.length/\nd4+k<=nd+k4
def onM(v:Value)(n:Nat):Nat:=match v with
 | .bool true=>n+1
 |_=>0
def tkk(t:Tok):Nat:=t.kind
theorem isLev_no{sg:List Bs}{t:Tok}(h:dB sg t=false):¬ t.kind=5\/(t.kind=5/\sg.contains t.text=false):=by
 unfold dB at h;by_cases h5:t.kind=5
 ·exact .inr ⟨h5,by simpa [h5] using h⟩
 exact .inl h5
set_option maxRecDepth 100000 in
theorem level_ok(E:Env)(hE:E.ok)(he:E.ends)(hL:E.L.length<=1000000)(f:Nat)(hf:∀ args W,(callFunc f args).run Tryz.prog W=.ok (.enter f args) W)(next:List Tok->Nat->Out)(op:Nat)(hp:eE E f next op)(ix:Nat)(hix:ix<eU.length)(k nd pl er:Nat)(w:World)(hI:InE E k op nd pl er w)(hk:k<E.L.length)(hn:nd<=k)(t0:Tree)(wd:List Tok)(c0:Nat)(ho:next (E.L.drop k) nd=.ok t0 wd c0) :
  Calls Tryz.prog 35 #[.pointer (some ⟨E.r,0,none⟩),.func (.func f) #[.pointer (some ⟨E.r,0,none⟩)] #[],.map (some (E.sg+1+ix))] w (NPost E w k op nd pl er (bL next eU[ix] (E.L.drop k) nd)):=by
 have hT:bL next eU[ix] (E.L.drop k) nd=dX next eU[ix] wd.length t0 wd c0:=by unfold bL;rw[ho]
 rw[hT];have HSG:=zh (fun k c W (h:InE E k op c pl er W)=>h.sg.ins ix hix);generalize eU[ix]=sg at *;generalize E.sg+1+ix=mb at *;generalize ae:dX next sg wd.length t0 wd c0=T;have aq:=zh ae;clear ae;have cj:=zh (hI.next (zp (.cells aA.toArray 41)));have CP:=zh (hp k nd pl er _ cj.out hk hn);rw[ho]at CP;have cf:Hid (Kp E.X w (w.alloc (.cells aA.toArray 41))):=zh ((Kp.refl _ _).alloc _);have cd:=zh (Own1.new hI (Kp.refl E.X w) 41 aA.toArray);have HF:=zh hI;have HPN:=zh hp;have cr:Hid (w.heap.size<(w.alloc (.cells aA.toArray 41)).heap.size):=zh (by simp);clear hI ho hT hp;simp only[aA]at cj cf cd CP cr
 go_enter Tryz.func35,Tryz.ntmps35
 go_upto_region 1 with fail
 generalize w.alloc (.cells zM 41)=W1 at cj cf cd CP cr ⊢;generalize fa:w.heap.size=q at cd ⊢;have qw:=zh fa;clear fa
 go_wp2_with fail
 refine CP.out.mono ?_;rintro e w2 ⟨k1,cs,rfl,h1,h2,rfl,h3,h4,h5,h6,h7⟩;obtain⟨l,rfl⟩:∃ l:List Value,cs=l.toArray:=⟨cs.toList,by simp⟩
 have we:l.length=22:=by have:=h7.1;rwa [yd]at this
 have HMS:=zh h6.size;have bq:=zh (cd.out.kp h6);have cq:=zh (cf.out.trans h6);have ct:=zh h5;have ft:=zh h7;have ph:=zh (⟨h1,h2,h3,h4⟩:k<=k1/\k1<E.L.length/\c0+k<=nd+k1/\nd<=c0);have aj:=zh we;have yo:=zh h7.2.1;clear h1 h2 h3 h4 h5 h6 h7 we cj cf cd CP;have au:Hid (Below w2.heap.size w2 (w2.alloc (.cells zM 41))):=zh (zp _)
 have iq:Hid (Own1 E w (w2.alloc (.cells zM 41)) w2.heap.size 41 zM):=zh (Own1.new HF.out cq.out 41 zM)
 have bp:q≠w2.heap.size:=by have:=bq.out.li.lt;omega
 have HC:Hid (∀ W3,W3=(w2.alloc (.cells zM 41)).setCells w2.heap.size 0 l->InE E k1 op c0 pl er W3/\Kp E.X w W3/\Own1 E w W3 q 41 aA.toArray/\Own1 E w W3 w2.heap.size 41 l.toArray/\NV W3 (w2.heap.size::List.range W1.heap.size) c0 t0 l.toArray):=zh (fun W3 e=>by
  subst e;have hb:Below w2.heap.size w2 ((w2.alloc (.cells zM 41)).setCells w2.heap.size 0 l):=eV zr l 0 au.out;exact⟨ct.out.next hb,cq.out.trans (Kp.of_below hb),bq.out.next hb,⟨iq.out.fr,iq.out.ge,iq.out.li.putAll aj.out⟩,(ft.out.fresh zr).kp (Kp.of_below hb)⟩)
 have HT:Hid ((w2.alloc (.cells zM 41)).there w2.heap.size 0 l.toArray.size):=zh (by have h:=iq.out.li.thereA;rw[show l.toArray.size=22 from aj.out];exact h);have zi:(Tryz.prog.info? 41).map (·.size)=some l.toArray.size:=by rw[yd,aj.out];exact aE
 go_wp2_with (first |(refine yq rfl 41 (.tmp 8) (.tmp 15) rfl w2.heap.size 0 l.toArray rfl rfl HT.out zi yo.out ?_;change wpList _ _ _ _ _ ((w2.alloc (.cells zM 41)).setCells w2.heap.size 0 l);generalize om:(w2.alloc (.cells zM 41)).setCells w2.heap.size 0 l=W3))
 obtain⟨g1,g2,g3,g4,g5⟩:=HC.out W3 om.symm;have HS:Hid (Lev E w k op nd pl er q w2.heap.size W1.heap.size next sg T k1 l t0 c0 W3):=zh ⟨g1,g2,g3,g4,g5,cr.out,qw.out.symm,fun y hy=>Nat.lt_trans (HF.out.xlt y hy) cr.out,by rw[<- om,fN,World.size_alloc];have:=HMS.out;omega,ph.out.1,ph.out.2.1,ph.out.2.2.1,ph.out.2.2.2,E.L.length-k1,zr,by rw[<- yk];exact aq.out⟩;clear g1 g2 g3 g4 g5 HC HT zi au iq bq cq ct ft aj yo om;generalize w2.heap.size=q8 at *;generalize W1.heap.size=m at *;have CT:=zh (fun k c W h hk=>cE E k op c pl er W h hk)
 go_loopw [9] (fun v wr=>(v=.bool true/\Hid (∃ k' l t c,Lev E w k op nd pl er q q8 m next sg T k' l t c wr))\/(v=.bool false/\Hid (LevB E w k nd q q8 T wr))) (fun v wr=>onM v (E.L.length-rdAt wr E.r))
 case atStart=>exact .inl ⟨rfl,zh ⟨_,_,_,_,HS.out⟩⟩
 case round=>
  rcases hrel with⟨rfl,hrel⟩|⟨rfl,hrel⟩
  ·obtain⟨k2,l2,t2,c2,hS⟩:=hrel.out;have dy:=zh hS;have HM:=zh hS.ine.rdAt;clear hS hrel HS;by_cases hs:dB sg (E.at k2)=true
   ·have gz:tkk (E.at k2)=5/\sg.contains (E.at k2).text=true:=by
     unfold dB at hs;simpa [tkk] using hs
    have wg:=E.more he dy.out.lt (by have:=gz.1;unfold tkk at this;omega);have ol:(k2:Int)<=1000000:=by have:=dy.out.lt;omega
    have ij:=zh (fun W (h:Lev E w k op nd pl er q q8 m next sg T k2 l2 t2 c2 W) x k3 c1 l3 w9 w12 C=>Lev.step (x:=x) (k3:=k3) (c1:=c1) (l3:=l3) (w9:=w9) (w12:=w12) (C:=C) hE h hs bp);have HTB:Hid (∀ e p,next (E.L.drop (k2+1)) c2=.bad e p->T=.bad e p):=zh (fun e p hx=>by
     obtain⟨fu,hfu,jp⟩:=dy.out.go;rw[<- jp];cases fu with
     |zero=>have:=dy.out.lt;omega
     |succ fu=>
      unfold dX;rw[show dB sg (hd (E.L.drop k2))=true from hs,if_pos rfl,List.tail_drop,hx])
    have CT2:=zh (fun W h=>CT.out k2 c2 W h dy.out.lt);have tw:=zh (fun W h=>HSG.out k2 c2 W h);clear CT HSG hs;generalize E.at k2=tt at *;obtain⟨tk,tx,tp⟩:=tt;obtain⟨h5,sq⟩:=gz;dsimp only[tkV,tkk]at CT2 sq h5 ij ⊢;subst h5;have hf0:=mN;have oy:=nS
    go_wp2_with fail
    refine(CT2.out _ dy.out.ine).mono ?_;rintro e w4 ⟨rfl,hb⟩;have ak:=zh (dy.out.next hb);clear hb dy
    go_wp2_with fail
    refine(CT2.out _ ak.out.ine).mono ?_;rintro e w5 ⟨rfl,hb⟩;have az:=zh (ak.out.next hb);clear hb ak;obtain⟨cm,lg⟩:=tw.out _ az.out.ine;have mo:=pY sg mb cm w5 lg tx;rw[sq]at mo;clear tw lg sq
    go_wp2_with fail
    refine(CT2.out _ az.out.ine).mono ?_;rintro e w6 ⟨rfl,hb⟩;have am:=zh (az.out.next hb);clear hb CT2 az mo;have r1:=am.out.ine.rd.cell 1;have fr1:=am.out.ine.rd.frozen 1;simp only[za,zb,zf]at r1;have mv:Hid (Kp [E.r] w6 (w6.setCell ⟨E.r,1,none⟩ (.int .i64 ((k2:Int)+1)))):=zh ((Kp.refl _ _).set (.inl (.head _)) 1 _);have gq:Hid (InE E (k2+1) op c2 pl er (wG E k2 w6)):=zh ((am.out.ine.wrote hE mv.out (am.out.ine.rd.put 1 _)).next (zp _));have HZ7:Hid ((w6.setCell ⟨E.r,1,none⟩ (.int .i64 ((k2:Int)+1))).heap.size=w6.heap.size):=zh (World.size_setCell ..);have HN7:Hid (Own1 E w (wG E k2 w6) w6.heap.size 41 aA.toArray):=zh (by
     have h:=Own1.new HF.out (am.out.kp.trans mv.out.X) 41 aA.toArray;rw[HZ7.out]at h;exact h)
    have tz:Hid (Kp E.X w6 (wG E k2 w6)):=zh (mv.out.X.alloc _);have hc2k:c2<=k2:=by have:=am.out.nc;omega
    have pm:=zh (HPN.out (k2+1) c2 pl er _ gq.out wg (by omega));have ru:=zh (ij.out w6 am.out);clear ij HPN
    go_upto_region 6 with fail
    simp only[wG,aA]at gq HN7 pm ru tz;generalize (w6.setCell ⟨E.r,1,none⟩ (.int .i64 ((k2:Int)+1))).alloc (.cells zM 41)=w7 at gq HN7 pm ru tz ⊢;generalize hq11:w6.heap.size=q11 at HN7 ru HZ7 ⊢;have HQ11:=zh hq11;clear hq11 HZ7 mv r1 fr1
    go_wp2_with fail
    cases ho2:next (E.L.drop (k2+1)) c2 with
    |ok x ts1 c1=>
     rw[ho2]at pm ru;refine pm.out.mono ?_;rintro e w9 ⟨k3,cs3,rfl,g1,g2,rfl,g3,g4,g5,g6,g7⟩;obtain⟨l3,rfl⟩:∃ l3:List Value,cs3=l3.toArray:=⟨cs3.toList,by simp⟩
     have hl3:l3.length=22:=by have:=g7.1;rwa [yd]at this
     have rv:=zh hl3;have iq:=zh g7.2.1;have mx:=zh (HN7.out.kp g6);have kw:=zh ((am.out.own8.kp tz.out).kp g6).li;have ju:=zh am.out.len;have wj:q8≠q11:=by have:=am.out.own8.li.lt;have:=HQ11.out;omega
     have nu:Kp [q11] w9 (w9.setCells q11 0 l3):=aQ (.inl (.head _)) l3 0 (Kp.refl _ _);have rx:=zh (g5.own hE mx.out (by decide) (by decide) nu);have po:=zh (nu.lies kw.out (fun hm=>wj (yf.1 hm)));have wk:Hid (Lies (w9.setCells q11 0 l3) q11 41 l3.toArray):=zh (mx.out.li.putAll hl3);have wo:Hid ((w9.setCells q11 0 l3).heap.size=w9.heap.size):=zh (fN ..);have HT:Hid (w9.there q11 0 l3.toArray.size):=zh (by have h:=mx.out.li.thereA;rw[show l3.toArray.size=22 from hl3];exact h);have pq:(Tryz.prog.info? 41).map (·.size)=some l3.toArray.size:=by rw[show l3.toArray.size=22 from hl3];exact aE
     have HST9:=zh (fun w12 C=>ru.out x k3 c1 l3 w9 w12 C rfl g1 g2 g3 g4 g6 g7);have eu:c1<=1000000:=by omega
     have CN:=zh (fun W h=>iJ E hE k3 op c1 pl er (uDW tx (some ⟨w9.heap.size,0,none⟩) 2 2) rfl (pK _ _ _ _) W h eu);obtain⟨C,hC,ai,ec,ii⟩:=fD (c1+1) (uDW tx (some ⟨w9.heap.size,0,none⟩) 2 2) rfl (pK _ _ _ _);rw[hC]at CN;have yC:=zh ai;have dx:=zh ec;have mw:=zh ii;have HG12:=zh (⟨g1,g2⟩:k2+1<=k3/\k3<E.L.length);clear g1 g2 g3 g4 g5 g6 g7 hl3 nu pm ru gq HN7 mx kw hC ai ec ii
     go_wp2_with (first |(refine yq rfl 41 (.tmp 11) (.tmp 44) rfl q11 0 l3.toArray rfl rfl HT.out pq iq.out ?_;change wpList _ _ _ _ _ (w9.setCells q11 0 l3);generalize w9.setCells q11 0 l3=w10 at rx po wk wo HST9 ⊢;dsimp only[Act.put]) |(refine yr rfl 41 (.tmp 8) rfl q8 0 rfl l2 _ (by simpa using po.out.range) Tryz.underlying41 rfl (by rw[ju.out];exact aE) ?_) |(refine yr rfl 41 (.tmp 11) rfl q11 0 rfl l3 _ (by simpa using wk.out.range) Tryz.underlying41 rfl (by rw[rv.out];exact aE) ?_) |(refine mQ rfl (.tmp 48) (.tmp 49) rfl l2 l3 rfl rfl ju.out rv.out w9.heap.size wo.out (some 50) rfl ?_))
     have ws:=zh (rx.out.next (zp (.cells (l2++l3).toArray 41)));have HL11:=zh (po.out.next (zp (.cells (l2++l3).toArray 41)));have HN8:Hid (q8≠E.r):=zh (fun e=>am.out.own8.fr.nx (by rw[e];exact .head _));refine(CN.out _ ws.out).mono ?_;rintro e w12 ⟨rfl,h1,h2⟩;have wt:=zh (HST9.out w12 C h2 h1 yC.out dx.out mw.out);have HL12:=zh (h2.lies HL11.out (fun hm=>HN8.out (yf.1 hm)));have HT:Hid (w12.there q8 0 C.toArray.size):=zh (by have h:=HL12.out.thereA;rw[show C.toArray.size=22 from yC.out];rw[show l2.toArray.size=22 from ju.out]at h;exact h);have pi:(Tryz.prog.info? 41).map (·.size)=some C.toArray.size:=by rw[show C.toArray.size=22 from yC.out];exact aE
     clear h1 h2 HST9 CN ws rx HL11 po pq
     go_wp2_with (first |(refine yq rfl 41 (.tmp 8) (.tmp 52) rfl q8 0 C.toArray rfl rfl HT.out pi dx.out ?_;change wpList _ _ _ _ _ (w12.setCells q8 0 C);generalize w12.setCells q8 0 C=w13 at wt ⊢;dsimp only[Act.put]))
     go_roundw
     case rel=>exact .inl ⟨rfl,zh ⟨_,_,_,_,wt.out⟩⟩
     case measure=>
      have hx1:=HG12.out.1;have hx2:=HG12.out.2;have hx3:=wt.out.ine.rdAt;have hx4:=HM.out;show onM (.bool true) _<onM (.bool true) _;unfold onM;rw[hx3,hx4];simp only;omega
    |bad e4 p4=>
     have hTB:=HTB.out e4 p4 ho2;have HT4:=zh hTB;rw[ho2]at pm;refine pm.out.mono ?_;rintro e w9 ⟨cs3,k4,op4,nd4,rfl,b1,b2,g1,g2,g3,g5,g6⟩;obtain⟨l3,rfl⟩:∃ l3:List Value,cs3=l3.toArray:=⟨cs3.toList,by simp⟩
     have hl3:l3.length=22:=by rwa [yd]at b1
     have rv:=zh hl3;have iq:=zh b2;have mx:=zh (HN7.out.kp g6);have nr:=zh ((am.out.own.kp tz.out).kp g6);have fw:=zh ((am.out.own8.kp tz.out).kp g6);have me:=zh ((am.out.kp.trans tz.out).trans g6);have ju:=zh am.out.len;have wj:q8≠q11:=by have:=am.out.own8.li.lt;have:=HQ11.out;omega
     have hne12:q≠q11:=by have:=am.out.own.li.lt;have:=HQ11.out;omega
     have nu:Kp [q11] w9 (w9.setCells q11 0 l3):=aQ (.inl (.head _)) l3 0 (Kp.refl _ _);have rx:=zh (g5.own hE mx.out (by decide) (by decide) nu);have fq:=zh (me.out.own mx.out nu);have HA10:Hid (Own1 E w (w9.setCells q11 0 l3) q 41 aA.toArray):=zh ⟨nr.out.fr,nr.out.ge,nu.lies nr.out.li (fun hm=>hne12 (yf.1 hm))⟩;have HB10:Hid (Own1 E w (w9.setCells q11 0 l3) q8 41 l2.toArray):=zh ⟨fw.out.fr,fw.out.ge,nu.lies fw.out.li (fun hm=>wj (yf.1 hm))⟩;have wk:Hid (Lies (w9.setCells q11 0 l3) q11 41 l3.toArray):=zh (mx.out.li.putAll hl3);have wo:Hid ((w9.setCells q11 0 l3).heap.size=w9.heap.size):=zh (fN ..);have HT:Hid (w9.there q11 0 l3.toArray.size):=zh (by have h:=mx.out.li.thereA;rw[show l3.toArray.size=22 from hl3];exact h)
     have pq:(Tryz.prog.info? 41).map (·.size)=some l3.toArray.size:=by rw[show l3.toArray.size=22 from hl3];exact aE
     have sq:=am.out.nc;have hle:=am.out.le;have HKf:=zh (⟨by omega,g2,by omega⟩:k<=k4/\k4<E.L.length/\nd4+1+k<=nd+k4);have CN:=zh (fun W h=>iJ E hE k4 op4 nd4 p4 e4 (uDW tx (some ⟨w9.heap.size,0,none⟩) 2 2) rfl (pK _ _ _ _) W h (by omega));obtain⟨C,hC,ai,ec,-⟩:=fD (nd4+1) (uDW tx (some ⟨w9.heap.size,0,none⟩) 2 2) rfl (pK _ _ _ _);rw[hC]at CN;have yC:=zh ai;have dx:=zh ec;clear b1 b2 g1 g2 g3 g5 g6 hl3 nu pm ru gq HN7 mx nr fw me hC ai ec sq hle hTB
     go_wp2_with (first |(refine yq rfl 41 (.tmp 11) (.tmp 44) rfl q11 0 l3.toArray rfl rfl HT.out pq iq.out ?_;change wpList _ _ _ _ _ (w9.setCells q11 0 l3);generalize w9.setCells q11 0 l3=w10 at rx fq HA10 HB10 wk wo ⊢;dsimp only[Act.put]) |(refine yr rfl 41 (.tmp 8) rfl q8 0 rfl l2 _ (by simpa using HB10.out.li.range) Tryz.underlying41 rfl (by rw[ju.out];exact aE) ?_) |(refine yr rfl 41 (.tmp 11) rfl q11 0 rfl l3 _ (by simpa using wk.out.range) Tryz.underlying41 rfl (by rw[rv.out];exact aE) ?_) |(refine mQ rfl (.tmp 48) (.tmp 49) rfl l2 l3 rfl rfl ju.out rv.out w9.heap.size wo.out (some 50) rfl ?_))
     have lu:Below w10.heap.size w10 (w10.alloc (.cells (l2++l3).toArray 41)):=(zp _);have ws:=zh (rx.out.next lu);have fy:=zh (fq.out.trans (Kp.of_below lu));have HA11:=zh (HA10.out.next lu);have t5:=zh (HB10.out.next lu);clear lu;refine(CN.out _ ws.out).mono ?_;rintro e w12 ⟨rfl,h1,h2⟩;have HI12:=zh h1;have fz:=zh (fy.out.trans h2.X);have HA12:=zh (HA11.out.kp h2.X);have t6:=zh (t5.out.kp h2.X);have hk8:Kp [q8] w12 (w12.setCells q8 0 C):=aQ (.inl (.head _)) C 0 (Kp.refl _ _)
     have ir:Hid (LevB E w k nd q q8 T (w12.setCells q8 0 C)):=zh ⟨k4,op4,nd4+1,e4,p4,C,HT4.out,HI12.out.own hE t6.out (by decide) (by decide) hk8,fz.out.own t6.out hk8,⟨HA12.out.fr,HA12.out.ge,hk8.lies HA12.out.li (fun hm=>bp (yf.1 hm))⟩,⟨t6.out.fr,t6.out.ge,t6.out.li.putAll (by rw[yC.out];exact ju.out.symm)⟩,yC.out,dx.out,HKf.out.1,HKf.out.2.1,HKf.out.2.2⟩;have HT:Hid (w12.there q8 0 C.toArray.size):=zh (by have h:=t6.out.li.thereA;rw[show C.toArray.size=22 from yC.out];rw[show l2.toArray.size=22 from ju.out]at h;exact h);have pi:(Tryz.prog.info? 41).map (·.size)=some C.toArray.size:=by rw[show C.toArray.size=22 from yC.out];exact aE
     clear h1 h2 hk8 CN ws rx HI12 fz HA12 fy HA11 t5 pq
     go_wp2_with (first |(refine yq rfl 41 (.tmp 8) (.tmp 52) rfl q8 0 C.toArray rfl rfl HT.out pi dx.out ?_;change wpList _ _ _ _ _ (w12.setCells q8 0 C);generalize w12.setCells q8 0 C=w13 at ir ⊢;dsimp only[Act.put]))
     go_roundw
     case rel=>exact .inr ⟨rfl,ir⟩
     case measure=>
      show onM (.bool false) _<onM (.bool true) _;unfold onM;simp only;omega
   have hs0:dB sg (E.at k2)=false:=by simpa using hs
   have HG:Hid (T=.ok t2 (E.L.drop k2) c2):=zh (by
    obtain⟨fu,hfu,jp⟩:=dy.out.go;rw[<- jp];cases fu with
    |zero=>have:=dy.out.lt;omega
    |succ fu=>
     unfold dX;rw[show dB sg (hd (E.L.drop k2))=false from hs0];rfl)
   have m8:=isLev_no hs0;clear hs hs0;have CT2:=zh (fun W h=>CT.out k2 c2 W h dy.out.lt);have tw:=zh (fun W h=>HSG.out k2 c2 W h);clear CT HSG;generalize E.at k2=tt at *;obtain⟨tk,tx,tp⟩:=tt;dsimp only[tkV]at CT2 m8 ⊢;have hf0:=mN;have oy:=nS;rcases m8 with h5|⟨h5,sq⟩
   ·have n5:((tk:Int)==5)=false:=by simp;omega
    clear h5
    go_wp2_with fail
    refine(CT2.out _ dy.out.ine).mono ?_;rintro e w6 ⟨rfl,hb⟩;have am:=zh (dy.out.next hb);clear hb CT2 dy tw;have HT:Hid (w6.there q 0 l2.toArray.size):=zh (by have h:=am.out.own.li.thereA;rw[show l2.toArray.size=22 from am.out.nv.1];exact h);have mh:Hid (w6.rangeAt q8 0 l2):=zh (by simpa using am.out.own8.li.range);have zi:(Tryz.prog.info? 41).map (·.size)=some l2.length:=by rw[am.out.len];exact aE
    have db:=zh am.out.nv.2.1
    go_wp2_with (first |(refine yr rfl 41 (.tmp 8) rfl q8 0 rfl l2 _ mh.out Tryz.underlying41 rfl zi ?_) |(refine yq rfl 41 (.tmp 6) (.tmp 53) rfl q 0 l2.toArray rfl rfl HT.out zi db.out ?_;change wpList _ _ _ _ _ (w6.setCells q 0 l2);generalize fo:w6.setCells q 0 l2=w7))
    have bn:Kp [q] w6 w7:=by rw[<- fo];exact aQ (.inl (.head _)) l2 0 (Kp.refl _ _)
    have dw:Hid (Lies w7 q 41 l2.toArray):=zh (by rw[<- fo];exact am.out.own.li.putAll am.out.len);refine yt (aO rfl rfl dw.out am.out.nv.1) rfl ?_;rw[HG.out];have nh:∀ y∈[q],y∈q8::List.range m:=fun y hy=>by rw[yf.1 hy];exact am.out.qin
    exact⟨k2,l2.toArray,rfl,am.out.le,am.out.lt,rfl,am.out.nc,am.out.nn,am.out.ine.own hE am.out.own (by decide) (by decide) bn,am.out.kp.own am.out.own bn,(am.out.nv.kpX bn nh).anti (fun y hy _=>zg _ (yg.2 (Nat.lt_trans (yg.1 hy) am.out.wm)))⟩
   subst h5
   go_wp2_with fail
   refine(CT2.out _ dy.out.ine).mono ?_;rintro e w5 ⟨rfl,hb⟩;have az:=zh (dy.out.next hb);clear hb dy
   go_wp2_with fail
   refine(CT2.out _ az.out.ine).mono ?_;rintro e w6 ⟨rfl,hb⟩;have am:=zh (az.out.next hb);clear hb CT2 az;obtain⟨cm,lg⟩:=tw.out _ am.out.ine;have mo:=pY sg mb cm w6 lg tx;rw[sq]at mo;clear tw lg sq;have HT:Hid (w6.there q 0 l2.toArray.size):=zh (by have h:=am.out.own.li.thereA;rw[show l2.toArray.size=22 from am.out.nv.1];exact h);have mh:Hid (w6.rangeAt q8 0 l2):=zh (by simpa using am.out.own8.li.range);have zi:(Tryz.prog.info? 41).map (·.size)=some l2.length:=by rw[am.out.len];exact aE
   have db:=zh am.out.nv.2.1
   go_wp2_with (first |(refine yr rfl 41 (.tmp 8) rfl q8 0 rfl l2 _ mh.out Tryz.underlying41 rfl zi ?_) |(refine yq rfl 41 (.tmp 6) (.tmp 53) rfl q 0 l2.toArray rfl rfl HT.out zi db.out ?_;change wpList _ _ _ _ _ (w6.setCells q 0 l2);generalize fo:w6.setCells q 0 l2=w7))
   have bn:Kp [q] w6 w7:=by rw[<- fo];exact aQ (.inl (.head _)) l2 0 (Kp.refl _ _)
   have dw:Hid (Lies w7 q 41 l2.toArray):=zh (by rw[<- fo];exact am.out.own.li.putAll am.out.len);refine yt (aO rfl rfl dw.out am.out.nv.1) rfl ?_;rw[HG.out];have nh:∀ y∈[q],y∈q8::List.range m:=fun y hy=>by rw[yf.1 hy];exact am.out.qin
   exact⟨k2,l2.toArray,rfl,am.out.le,am.out.lt,rfl,am.out.nc,am.out.nn,am.out.ine.own hE am.out.own (by decide) (by decide) bn,am.out.kp.own am.out.own bn,(am.out.nv.kpX bn nh).anti (fun y hy _=>zg _ (yg.2 (Nat.lt_trans (yg.1 hy) am.out.wm)))⟩
  obtain⟨k4,op4,nd4,e4,p4,l,hT,h1,h2,h3,h4,h5,h6,h7,h8,h9⟩:=hrel.out.ex;have fj:=zh h1;have ig:=zh h2;have iw:=zh h3;have aj:=zh h5;have yo:=zh h6;have HKb:=zh (⟨h7,h8,h9⟩:k<=k4/\k4<E.L.length/\nd4+k<=nd+k4);have HTb:=zh hT;have HT:Hid (wr.there q 0 l.toArray.size):=zh (by have h:=h3.li.thereA;rw[show l.toArray.size=22 from h5];exact h);have mh:Hid (wr.rangeAt q8 0 l):=zh (by simpa using h4.li.range);clear h1 h2 h3 h4 h5 h6 h7 h8 h9 hT hrel HS CT;have zi:(Tryz.prog.info? 41).map (·.size)=some l.length:=by rw[aj.out];exact aE
  go_wp2_with (first |(refine yr rfl 41 (.tmp 8) rfl q8 0 rfl l _ mh.out Tryz.underlying41 rfl zi ?_) |(refine yq rfl 41 (.tmp 6) (.tmp 53) rfl q 0 l.toArray rfl rfl HT.out zi yo.out ?_;change wpList _ _ _ _ _ (wr.setCells q 0 l);generalize fo:wr.setCells q 0 l=w7))
  have bn:Kp [q] wr w7:=by rw[<- fo];exact aQ (.inl (.head _)) l 0 (Kp.refl _ _)
  have dw:Hid (Lies w7 q 41 l.toArray):=zh (by rw[<- fo];exact iw.out.li.putAll aj.out);refine yt (aO rfl rfl dw.out aj.out) rfl ?_;rw[HTb.out];exact⟨l.toArray,k4,op4,nd4,rfl,aj.out,yo.out,HKb.out.1,HKb.out.2.1,HKb.out.2.2,fj.out.own hE iw.out (by decide) (by decide) bn,ig.out.own iw.out bn⟩
set_option maxRecDepth 100000 in
theorem uJM(E:Env)(hE:E.ok)(f:Nat)(hf:∀ args W,(callFunc f args).run Tryz.prog W=.ok (.enter f args) W)(next:List Tok->Nat->Out)(op:Nat)(hp:eE E f next op)(sg:List Bs)(mb:Nat)(k nd pl er:Nat)(w:World)(hI:InE E k op nd pl er w)(hk:k<E.L.length)(hn:nd<=k)(e0 p0:Nat)(ho:next (E.L.drop k) nd=.bad e0 p0) :
  Calls Tryz.prog 35 #[.pointer (some ⟨E.r,0,none⟩),.func (.func f) #[.pointer (some ⟨E.r,0,none⟩)] #[],.map (some mb)] w (NPost E w k op nd pl er (bL next sg (E.L.drop k) nd)):=by
 have hT:bL next sg (E.L.drop k) nd=.bad e0 p0:=by unfold bL;rw[ho]
 rw[hT];have cj:=zh (hI.next (zp (.cells aA.toArray 41)));have CP:=zh (hp k nd pl er _ cj.out hk hn);rw[ho]at CP;have cf:Hid (Kp E.X w (w.alloc (.cells aA.toArray 41))):=zh ((Kp.refl _ _).alloc _);have cd:=zh (Own1.new hI (Kp.refl E.X w) 41 aA.toArray);have HF:=zh hI;clear hI ho hT hp;simp only[aA]at cj cf cd CP
 go_enter Tryz.func35,Tryz.ntmps35
 go_upto_region 1 with fail
 generalize w.alloc (.cells zM 41)=W1 at cj cf cd CP ⊢;generalize fa:w.heap.size=q at cd ⊢;clear fa
 go_wp2_with fail
 refine CP.out.mono ?_;rintro e w2 ⟨cs,k1,op1,nd1,rfl,h1,h2,h3,h4,h5,h6,h7⟩;obtain⟨l,rfl⟩:∃ l:List Value,cs=l.toArray:=⟨cs.toList,by simp⟩
 have aj:Hid (l.length=22):=zh (by rwa [yd]at h1);have yo:=zh h2;have bq:=zh (cd.out.kp h7);have cq:=zh (cf.out.trans h7);have ct:=zh h6;have ph:=zh (⟨h3,h4,h5⟩:k<=k1/\k1<E.L.length/\nd1+k<=nd+k1);clear h1 h2 h3 h4 h5 h6 h7 cj cf cd CP;have au:Hid (Below w2.heap.size w2 (w2.alloc (.cells zM 41))):=zh (zp _)
 have iq:Hid (Own1 E w (w2.alloc (.cells zM 41)) w2.heap.size 41 zM):=zh (Own1.new HF.out cq.out 41 zM)
 have bp:q≠w2.heap.size:=by have:=bq.out.li.lt;omega
 have HC:Hid (∀ W3,W3=(w2.alloc (.cells zM 41)).setCells w2.heap.size 0 l->InE E k1 op1 nd1 p0 e0 W3/\Kp E.X w W3/\Own1 E w W3 q 41 aA.toArray/\Own1 E w W3 w2.heap.size 41 l.toArray):=zh (fun W3 e=>by
  subst e;have hb:Below w2.heap.size w2 ((w2.alloc (.cells zM 41)).setCells w2.heap.size 0 l):=eV zr l 0 au.out;exact⟨ct.out.next hb,cq.out.trans (Kp.of_below hb),bq.out.next hb,⟨iq.out.fr,iq.out.ge,iq.out.li.putAll aj.out⟩⟩)
 have HT:Hid ((w2.alloc (.cells zM 41)).there w2.heap.size 0 l.toArray.size):=zh (by have h:=iq.out.li.thereA;rw[show l.toArray.size=22 from aj.out];exact h);have zi:(Tryz.prog.info? 41).map (·.size)=some l.toArray.size:=by rw[yd,aj.out];exact aE
 go_wp2_with (first |(refine yq rfl 41 (.tmp 8) (.tmp 15) rfl w2.heap.size 0 l.toArray rfl rfl HT.out zi yo.out ?_;change wpList _ _ _ _ _ ((w2.alloc (.cells zM 41)).setCells w2.heap.size 0 l);generalize om:(w2.alloc (.cells zM 41)).setCells w2.heap.size 0 l=W3))
 obtain⟨g1,g2,g3,g4⟩:=HC.out W3 om.symm;have fj:=zh g1;have ig:=zh g2;have iw:=zh g3;have HB3':=zh g4;clear g1 g2 g3 g4 HC HT zi au iq bq cq ct om;generalize w2.heap.size=q4 at *
 go_loopw [9] (fun v wr=>v=.bool false/\Hid (wr=W3)) (fun _ _=>0)
 case atStart=>exact⟨rfl,zh rfl⟩
 case round=>
  obtain⟨rfl,hrel⟩:=hrel;have hwr:=hrel.out;subst hwr;have HT:Hid (wr.there q 0 l.toArray.size):=zh (by have h:=iw.out.li.thereA;rw[show l.toArray.size=22 from aj.out];exact h);have mh:Hid (wr.rangeAt q4 0 l):=zh (by simpa using HB3'.out.li.range);have zi:(Tryz.prog.info? 41).map (·.size)=some l.length:=by rw[aj.out];exact aE
  go_wp2_with (first |(refine yr rfl 41 (.tmp 8) rfl q4 0 rfl l _ mh.out Tryz.underlying41 rfl zi ?_) |(refine yq rfl 41 (.tmp 6) (.tmp 53) rfl q 0 l.toArray rfl rfl HT.out zi yo.out ?_;change wpList _ _ _ _ _ (wr.setCells q 0 l);generalize fo:wr.setCells q 0 l=w7))
  have bn:Kp [q] wr w7:=by rw[<- fo];exact aQ (.inl (.head _)) l 0 (Kp.refl _ _)
  have dw:Hid (Lies w7 q 41 l.toArray):=zh (by rw[<- fo];exact iw.out.li.putAll aj.out);refine yt (aO rfl rfl dw.out aj.out) rfl ?_;exact⟨l.toArray,k1,op1,nd1,rfl,aj.out,yo.out,ph.out.1,ph.out.2.1,ph.out.2.2,fj.out.own hE iw.out (by decide) (by decide) bn,ig.out.own iw.out bn⟩
theorem lJ(E:Env)(hE:E.ok)(he:E.ends)(hL:E.L.length<=1000000)(f:Nat)(hf:∀ args W,(callFunc f args).run Tryz.prog W=.ok (.enter f args) W)(next:List Tok->Nat->Out)(op:Nat)(hp:eE E f next op)(ix:Nat)(hix:ix<eU.length)(k nd pl er:Nat)(w:World)(hI:InE E k op nd pl er w)(hk:k<E.L.length)(hn:nd<=k) :
  Calls Tryz.prog 35 #[.pointer (some ⟨E.r,0,none⟩),.func (.func f) #[.pointer (some ⟨E.r,0,none⟩)] #[],.map (some (E.sg+1+ix))] w (NPost E w k op nd pl er (bL next eU[ix] (E.L.drop k) nd)):=by
 cases ho:next (E.L.drop k) nd with
 |ok t ts c=>exact level_ok E hE he hL f hf next op hp ix hix k nd pl er w hI hk hn t ts c ho
 |bad e p=>exact uJM E hE f hf next op hp _ _ k nd pl er w hI hk hn e p ho
end Go.Proofs.YtmgjidnalpgegaaGreatDoor
