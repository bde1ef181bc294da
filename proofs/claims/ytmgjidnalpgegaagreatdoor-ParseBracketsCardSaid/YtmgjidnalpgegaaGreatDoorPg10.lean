/-
  Lemmas, part 10: ParE ParF ParG ParH.
-/
import Derived.Test.YtmgjidnalpgegaaGreatDoorPg9
namespace Go.Proofs.YtmgjidnalpgegaaGreatDoor
open Go.RowKit
theorem oK{ops:Array Oper}{rest:List Oper}{o:Oper}{a:Act}{w:World}{Q:Exit→Act→World→Prop}(hg:o.guard=none)(x:Operand)(ho:o.op=.buildSlice 39 1 #[(0,x)])(cs:List Value)(hx:a.eval x=.agg cs.toArray)(h22:cs.length=22)
  (N:Nat) (hN:w.heap.size=N) (d:Option Tmp) (hd:o.dst=d) (h:wpList Tryz.prog ops Q rest (a.put d (.slice (some ⟨N,0,none⟩) 1 1)) (w.alloc (.cells cs.toArray 41))):wpList Tryz.prog ops Q (o::rest) a w :=
 Great.wpList_buildSliceTo hg 39 41 1 #[(0,x)] ho N hN d hd uQ cs.toArray (by simp only[List.map_toArray,List.map_cons,List.map_nil,hx];exact built1 cs h22) h
theorem uV{ops:Array Oper}{rest:List Oper}{o:Oper}{a:Act}{w:World}{Q:Exit→Act→World→Prop}(hg:o.guard=none)(x y:Operand)(ho:o.op=.buildSlice 39 2 #[(0,x),(1,y)])(c1 c2:List Value)(hx:a.eval x=.agg c1.toArray)(hy:a.eval y=.agg c2.toArray)(h1:c1.length=22)(h2:c2.length=22)
  (N:Nat) (hN:w.heap.size=N) (d:Option Tmp) (hd:o.dst=d) (h:wpList Tryz.prog ops Q rest (a.put d (.slice (some ⟨N,0,none⟩) 2 2)) (w.alloc (.cells (c1++c2).toArray 41))):wpList Tryz.prog ops Q (o::rest) a w :=
 Great.wpList_buildSliceTo hg 39 41 2 #[(0,x),(1,y)] ho N hN d hd uQ (c1++c2).toArray (by simp only[List.map_toArray,List.map_cons,List.map_nil,hx,hy];exact built2 c1 c2 h1 h2) h
def dU(E:Env)(f:Nat)(spec:List Tok→Nat→Out)(op:Nat):Prop:=∀ k nd pl er W,InE E k op nd pl er W→k<E.L.length→nd≤k→Calls Tryz.prog f #[.pointer (some ⟨E.r,0,none⟩)] W (NPost E W k op nd pl er (spec (E.L.drop k) nd))
def rdAt(W:World)(r:Nat):Nat:=match W.cell? ⟨r,1,none⟩ with
 | some (.int _ n)=>n.toNat
 | _=>0
theorem InE.rdAt{E:Env}{k op nd pl er:Nat}{W:World}(h:InE E k op nd pl er W):rdAt W E.r=k:=by
 unfold Go.Proofs.YtmgjidnalpgegaaGreatDoor.rdAt;have:=h.rd.cell 1;simp only[List.getElem?_toArray,List.getElem?_cons_zero,List.getElem?_cons_succ]at this;rw[this];rfl
theorem dY{t:Tok}{s:Bs}(h:isS t s=true):t.kind≠0:=by
 unfold isS at h;simp at h;omega
abbrev unL(s:Bs)(A:Option Addr)(m n:Nat):List Value:=[.int .i64 5,.int .i64 0,.int .i64 0,.int .i64 0,.string ⟨#[]⟩,.bool false,.int .i64 0,.string ⟨s.toArray⟩,.int .i64 0,.int .i64 0,.int .i64 0,.int .i64 0,.bool false,.bool false,.int .i64 0,.int .i64 0,.int .i64 0,.int .i64 0,.bool false,.bool false,.int .i64 0,.slice A m n]
theorem rX(s:Bs)(A:Option Addr)(m n:Nat):(unL s A m n).toArray.all (·.oneCell')=true:=by simp[unL,Value.oneCell']
theorem fE{B bx:Nat}{a:World}(hb:B≤bx):∀ (r:List Value) (i:Nat) {W:World},Below B a W→Below B a (W.setCells bx i r)
 | [],_,_,h=>h
 | v::r,i,_,h=>fE hb r (i+1) (h.setCell (p:=⟨bx,i,none⟩) hb v)
theorem eY(bx:Nat):∀ (r:List Value) (i:Nat) (W:World),(W.setCells bx i r).heap.size=W.heap.size
 | [],_,_=>rfl
 | v::r,i,W=>by
  show ((W.setCell ⟨bx,i,none⟩ v).setCells bx (i+1) r).heap.size=_;rw[eY bx r (i+1),World.size_setCell]
structure Pct(E:Env)(w:World)(k op nd pl er q q4 m:Nat)(T:Out)(k':Nat)(l:List Value)(t:Tree)(c:Nat)(W:World):Prop where
 ine:InE E k' op c pl er W
 kp:Kp E.X w W
 own:Own1 E w W q 41 aB.toArray
 own4:Own1 E w W q4 41 l.toArray
 nv:NV W (q4::List.range m) c t l.toArray
 wm:w.heap.size<m
 qe:q=w.heap.size
 xm:∀ y∈E.X,y<m
 ms:m≤W.heap.size
 le:k≤k'
 lt:k'<E.L.length
 nc:c+k≤nd+k'
 nn:nd≤c
 go:gC (E.L.length-k') t (E.L.drop k') c=T
theorem Pct.qin{E:Env}{w:World}{k op nd pl er q q4 m:Nat}{T:Out}{k':Nat}{l:List Value}{t:Tree}{c:Nat}{W:World}(h:Pct E w k op nd pl er q q4 m T k' l t c W):q∈q4::List.range m:=List.mem_cons_of_mem _ (List.mem_range.2 (by have:=h.wm;have:=h.qe;omega))
theorem Pct.next{E:Env}{w:World}{k op nd pl er q q4 m:Nat}{T:Out}{k':Nat}{l:List Value}{t:Tree}{c:Nat}{W W':World}(h:Pct E w k op nd pl er q q4 m T k' l t c W)(hb:Below W.heap.size W W'):Pct E w k op nd pl er q q4 m T k' l t c W' :=
 ⟨h.ine.next hb,h.kp.trans (Kp.of_below hb),h.own.next hb,h.own4.next hb,h.nv.kp (Kp.of_below hb),h.wm,h.qe,h.xm,Nat.le_trans h.ms hb.size,h.le,h.lt,h.nc,h.nn,h.go⟩
theorem Pct.len{E:Env}{w:World}{k op nd pl er q q4 m:Nat}{T:Out}{k':Nat}{l:List Value}{t:Tree}{c:Nat}{W:World}(h:Pct E w k op nd pl er q q4 m T k' l t c W):l.length=22:=by
 have:=h.nv.1
 rwa [List.size_toArray]at this
theorem Pct.step{E:Env}(hE:E.ok){w:World}{k op nd pl er q q4 m:Nat}{T:Out}{k':Nat}{l:List Value}{t:Tree}{c:Nat}{W w9:World}(h:Pct E w k op nd pl er q q4 m T k' l t c W)(hk:k'+1<E.L.length)(hs:isS (E.at k') [37]=true)(hq:q≠q4){C:List Value}(h22:C.length=22)(h1:C.toArray.all (·.oneCell')=true)(hC:c+1≤256→C=unL [37] (some ⟨W.heap.size,0,none⟩) 1 1)
  (hi:InE E (k'+1) op (c+1) pl er w9) (hkp:Kp [E.r] ((W.setCell ⟨E.r,1,none⟩ (.int .i64 ((k':Int)+1))).alloc (.cells l.toArray 41)) w9) :
  Pct E w k op nd pl er q q4 m T (k'+1) C (tUn [37] t) (c+1) (w9.setCells q4 0 C):=by
 have hr0:Kp [E.r] W (W.setCell ⟨E.r,1,none⟩ (.int .i64 ((k':Int)+1))):=(Kp.refl _ _).set (.inl (.head _)) 1 _;have hr:Kp [E.r] W w9:=(hr0.alloc _).trans hkp;have ho:=h.own.kp hr.X;have ho4:=h.own4.kp hr.X;have hk4:Kp [q4] w9 (w9.setCells q4 0 C):=aU (.inl (.head _)) C 0 (Kp.refl _ _);have hsz:(W.setCell ⟨E.r,1,none⟩ (.int .i64 ((k':Int)+1))).heap.size=W.heap.size:=World.size_setCell ..;have hEr:E.r<W.heap.size:=h.ine.rd.lt;have hgl:Lies w9 W.heap.size 41 l.toArray:=by
  have:=Lies.new (W.setCell ⟨E.r,1,none⟩ (.int .i64 ((k':Int)+1))) 41 l.toArray;rw[hsz]at this;exact hkp.lies this (fun hm=>by rw[List.mem_singleton.1 hm]at hEr;omega)
 have hg4:W.heap.size≠q4:=by have:=h.own4.li.lt;omega
 have hgl2:Lies (w9.setCells q4 0 C) W.heap.size 41 l.toArray:=hk4.lies hgl (fun hm=>hg4 (List.mem_singleton.1 hm));have hX:∀ y∈E.X,y∈q4::List.range m:=fun y hy=>List.mem_cons_of_mem _ (List.mem_range.2 (h.xm y hy))
 have hnv:NV (w9.setCells q4 0 C) (q4::List.range m) c t l.toArray:=(h.nv.kpX hr.X hX).kpX hk4 (fun y hy=>by rw[List.mem_singleton.1 hy];exact .head _);have hgo:=h.go;refine⟨hi.own hE ho4 (by decide) (by decide) hk4,(h.kp.trans hr.X).own ho4 hk4,⟨ho.fr,ho.ge,hk4.lies ho.li (fun hm=>hq (List.mem_singleton.1 hm))⟩,⟨ho4.fr,ho4.ge,ho4.li.putAll (by rw[h22];exact h.nv.1.symm)⟩,⟨h22,h1,fun hn=>?_⟩,h.wm,h.qe,h.xm,Nat.le_trans h.ms (Nat.le_trans hr.size hk4.size),by have:=h.le;omega,hk,by have:=h.nc;omega,by have:=h.nn;omega,?_⟩
 ·refine⟨some ⟨W.heap.size,0,none⟩,1,by rw[hC hn];rfl,KidsAt.one hgl2 hnv (by omega) ?_ _ rfl⟩;intro hm;rcases List.mem_cons.1 hm with hm | hm
  ·exact hg4 hm
  ·have:=List.mem_range.1 hm;have:=h.ms;omega
 ·cases hf:E.L.length-k' with
  | zero=>omega
  | succ f=>
   rw[hf]at hgo;unfold gC at hgo;rw[show isS (hd (E.L.drop k')) [37]=true from hs,if_pos rfl,List.tail_drop]at hgo;rw[show E.L.length-(k'+1)=f by omega];exact hgo
set_option maxRecDepth 100000 in
set_option maxHeartbeats 3200000 in
theorem uDS(E:Env)(hE:E.ok)(he:E.ends)(hL:E.L.length≤1000000)(part:List Tok→Nat→Out)(op:Nat)(hp:dU E 113 part op)(k nd pl er:Nat)(w:World)(hI:InE E k op nd pl er w)(hk:k<E.L.length)(hn:nd≤k)(t0:Tree)(ts0:List Tok)(c0:Nat)(ho:part (E.L.drop k) nd=.ok t0 ts0 c0) :
  Calls Tryz.prog 111 #[.pointer (some ⟨E.r,0,none⟩)] w (NPost E w k op nd pl er (bD part (E.L.drop k) nd)):=by
 have hT:bD part (E.L.drop k) nd=gC ts0.length t0 ts0 c0:=by unfold bD;rw[ho]
 rw[hT];generalize hTT:gC ts0.length t0 ts0 c0=T;have HTT:=zh hTT;clear hTT;have HI0:=zh (hI.next ((Below.refl _ _).alloc (Nat.le_refl _) (.cells aB.toArray 41)));have CP:=zh (hp k nd pl er _ HI0.out hk hn);rw[ho]at CP;have HK0:Hid (Kp E.X w (w.alloc (.cells aB.toArray 41))):=zh ((Kp.refl _ _).alloc _);have HA0:=zh (Own1.new hI (Kp.refl E.X w) 41 aB.toArray);have HF:=zh hI;have HSZ:Hid (w.heap.size<(w.alloc (.cells aB.toArray 41)).heap.size):=zh (by simp);clear hI ho hT hp;simp only[aB]at HI0 HK0 HA0 CP HSZ
 go_enter Tryz.func111,Tryz.ntmps111
 go_upto_region 1 with fail
 generalize w.alloc (.cells #[.int .i64 0,.int .i64 0,.int .i64 0,.int .i64 0,.string ⟨#[]⟩,.bool false,.int .i64 0,.string ⟨#[]⟩,.int .i64 0,.int .i64 0,.int .i64 0,.int .i64 0,.bool false,.bool false,.int .i64 0,.int .i64 0,.int .i64 0,.int .i64 0,.bool false,.bool false,.int .i64 0,.slice none 0 0] 41)=W1 at HI0 HK0 HA0 CP HSZ ⊢;generalize hqe:w.heap.size=q at HA0 ⊢;have HQE:=zh hqe;clear hqe
 go_wp2_with fail
 refine CP.out.mono ?_;rintro e w2 ⟨k1,cs,rfl,h1,h2,rfl,h3,h4,h5,h6,h7⟩;obtain⟨l,rfl⟩:∃ l:List Value,cs=l.toArray:=⟨cs.toList,by simp⟩
 have hl22:l.length=22:=by have:=h7.1;rwa [List.size_toArray]at this
 have HMS:=zh h6.size;have HA2:=zh (HA0.out.kp h6);have HK2:=zh (HK0.out.trans h6);have HI2:=zh h5;have HN2:=zh h7;have HKc:=zh (⟨h1,h2,h3,h4⟩:k≤k1∧k1<E.L.length∧c0+k≤nd+k1∧nd≤c0);have HL22:=zh hl22;have yo:=zh h7.2.1;clear h1 h2 h3 h4 h5 h6 h7 hl22 HI0 HK0 HA0 CP;have HB3:Hid (Below w2.heap.size w2 (w2.alloc (.cells #[.int .i64 0,.int .i64 0,.int .i64 0,.int .i64 0,.string ⟨#[]⟩,.bool false,.int .i64 0,.string ⟨#[]⟩,.int .i64 0,.int .i64 0,.int .i64 0,.int .i64 0,.bool false,.bool false,.int .i64 0,.int .i64 0,.int .i64 0,.int .i64 0,.bool false,.bool false,.int .i64 0,.slice none 0 0] 41))):=zh ((Below.refl _ _).alloc (Nat.le_refl _) _)
 have HO3:Hid (Own1 E w (w2.alloc (.cells #[.int .i64 0,.int .i64 0,.int .i64 0,.int .i64 0,.string ⟨#[]⟩,.bool false,.int .i64 0,.string ⟨#[]⟩,.int .i64 0,.int .i64 0,.int .i64 0,.int .i64 0,.bool false,.bool false,.int .i64 0,.int .i64 0,.int .i64 0,.int .i64 0,.bool false,.bool false,.int .i64 0,.slice none 0 0] 41)) w2.heap.size 41 #[.int .i64 0,.int .i64 0,.int .i64 0,.int .i64 0,.string ⟨#[]⟩,.bool false,.int .i64 0,.string ⟨#[]⟩,.int .i64 0,.int .i64 0,.int .i64 0,.int .i64 0,.bool false,.bool false,.int .i64 0,.int .i64 0,.int .i64 0,.int .i64 0,.bool false,.bool false,.int .i64 0,.slice none 0 0]):=zh (Own1.new HF.out HK2.out 41 #[.int .i64 0,.int .i64 0,.int .i64 0,.int .i64 0,.string ⟨#[]⟩,.bool false,.int .i64 0,.string ⟨#[]⟩,.int .i64 0,.int .i64 0,.int .i64 0,.int .i64 0,.bool false,.bool false,.int .i64 0,.int .i64 0,.int .i64 0,.int .i64 0,.bool false,.bool false,.int .i64 0,.slice none 0 0])
 have hne:q≠w2.heap.size:=by have:=HA2.out.li.lt;omega
 have HC:Hid (∀ W3,W3=(w2.alloc (.cells #[.int .i64 0,.int .i64 0,.int .i64 0,.int .i64 0,.string ⟨#[]⟩,.bool false,.int .i64 0,.string ⟨#[]⟩,.int .i64 0,.int .i64 0,.int .i64 0,.int .i64 0,.bool false,.bool false,.int .i64 0,.int .i64 0,.int .i64 0,.int .i64 0,.bool false,.bool false,.int .i64 0,.slice none 0 0] 41)).setCells w2.heap.size 0 l→InE E k1 op c0 pl er W3∧Kp E.X w W3∧Own1 E w W3 q 41 aB.toArray∧Own1 E w W3 w2.heap.size 41 l.toArray∧NV W3 (w2.heap.size::List.range W1.heap.size) c0 t0 l.toArray):=zh (fun W3 e=>by
  subst e;have hb:Below w2.heap.size w2 ((w2.alloc (.cells #[.int .i64 0,.int .i64 0,.int .i64 0,.int .i64 0,.string ⟨#[]⟩,.bool false,.int .i64 0,.string ⟨#[]⟩,.int .i64 0,.int .i64 0,.int .i64 0,.int .i64 0,.bool false,.bool false,.int .i64 0,.int .i64 0,.int .i64 0,.int .i64 0,.bool false,.bool false,.int .i64 0,.slice none 0 0] 41)).setCells w2.heap.size 0 l):=fE (Nat.le_refl _) l 0 HB3.out;exact⟨HI2.out.next hb,HK2.out.trans (Kp.of_below hb),HA2.out.next hb,⟨HO3.out.fr,HO3.out.ge,HO3.out.li.putAll HL22.out⟩,(HN2.out.fresh (Nat.le_refl _)).kp (Kp.of_below hb)⟩)
 have HT:Hid ((w2.alloc (.cells #[.int .i64 0,.int .i64 0,.int .i64 0,.int .i64 0,.string ⟨#[]⟩,.bool false,.int .i64 0,.string ⟨#[]⟩,.int .i64 0,.int .i64 0,.int .i64 0,.int .i64 0,.bool false,.bool false,.int .i64 0,.int .i64 0,.int .i64 0,.int .i64 0,.bool false,.bool false,.int .i64 0,.slice none 0 0] 41)).there w2.heap.size 0 l.toArray.size):=zh (by have h:=HO3.out.li.thereA;rw[show l.toArray.size=22 from HL22.out];exact h);have zi:(Tryz.prog.info? 41).map (·.size)=some l.toArray.size:=by rw[List.size_toArray,HL22.out];exact aE
 go_wp2_with (first |(refine wpList_store_mid rfl 41 (.tmp 4) (.tmp 9) rfl w2.heap.size 0 l.toArray rfl rfl HT.out zi yo.out ?_;change wpList _ _ _ _ _ ((w2.alloc (.cells #[.int .i64 0,.int .i64 0,.int .i64 0,.int .i64 0,.string ⟨#[]⟩,.bool false,.int .i64 0,.string ⟨#[]⟩,.int .i64 0,.int .i64 0,.int .i64 0,.int .i64 0,.bool false,.bool false,.int .i64 0,.int .i64 0,.int .i64 0,.int .i64 0,.bool false,.bool false,.int .i64 0,.slice none 0 0] 41)).setCells w2.heap.size 0 l);generalize hW3:(w2.alloc (.cells #[.int .i64 0,.int .i64 0,.int .i64 0,.int .i64 0,.string ⟨#[]⟩,.bool false,.int .i64 0,.string ⟨#[]⟩,.int .i64 0,.int .i64 0,.int .i64 0,.int .i64 0,.bool false,.bool false,.int .i64 0,.int .i64 0,.int .i64 0,.int .i64 0,.bool false,.bool false,.int .i64 0,.slice none 0 0] 41)).setCells w2.heap.size 0 l=W3))
 obtain⟨g1,g2,g3,g4,g5⟩:=HC.out W3 hW3.symm;have HS:Hid (Pct E w k op nd pl er q w2.heap.size W1.heap.size T k1 l t0 c0 W3):=zh ⟨g1,g2,g3,g4,g5,HSZ.out,HQE.out.symm,fun y hy=>Nat.lt_trans (HF.out.xlt y hy) HSZ.out,by rw[← hW3,eY,World.size_alloc];have:=HMS.out;omega,HKc.out.1,HKc.out.2.1,HKc.out.2.2.1,HKc.out.2.2.2,by rw[← List.length_drop];exact HTT.out⟩;have hq:w2.heap.size=w2.heap.size:=rfl;clear g1 g2 g3 g4 g5 HC HT zi HB3 HO3 HA2 HK2 HI2 HN2 HL22 yo hW3 hq;generalize w2.heap.size=q4 at *;generalize W1.heap.size=m at *;have CT:=zh (fun k c W h hk=>bT E k op c pl er W h hk);have CS:=zh (fun k W=>cY (E.at k) [37] W)
 go_loopw [16] (fun _ wr=>Hid (∃ k' l t c,Pct E w k op nd pl er q q4 m T k' l t c wr)) (fun _ wr=>E.L.length-rdAt wr E.r)
 case atStart=>exact zh ⟨_,_,_,_,HS.out⟩
 case round=>
  obtain⟨k2,l2,t2,c2,hS⟩:=hrel.out;have HS2:=zh hS;have HM:=zh hS.ine.rdAt;clear hS hrel HS;have CT2:=zh (CT.out k2 c2 _ HS2.out.ine HS2.out.lt);have CS2:=zh (CS.out k2);by_cases hs:isS (E.at k2) [37]=true
  ·rw[hs]at CS2;have hmore:=E.more he HS2.out.lt (dY hs);have hkb:(k2:Int)≤1000000:=by have:=HS2.out.lt;omega
   go_wp2_with fail
   refine CT2.out.mono ?_;rintro e w5 ⟨rfl,hb⟩;have HB5:=zh hb;clear hb CT2
   go_wp2_with fail
   refine(CS2.out w5).mono ?_;rintro e w6 ⟨rfl,hb⟩;have HS6:Hid (Pct E w k op nd pl er q q4 m T k2 l2 t2 c2 w6):=zh ((HS2.out.next HB5.out).next hb);clear hb CS2 HS2 HB5;have r1:=HS6.out.ine.rd.cell 1;have fr1:=HS6.out.ine.rd.frozen 1;simp only[List.getElem?_toArray,List.getElem?_cons_zero,List.getElem?_cons_succ]at r1;have HKr:Hid (Kp [E.r] w6 (w6.setCell ⟨E.r,1,none⟩ (.int .i64 ((k2:Int)+1)))):=zh ((Kp.refl _ _).set (.inl (.head _)) 1 _);have HI7:Hid (InE E (k2+1) op c2 pl er (w6.setCell ⟨E.r,1,none⟩ (.int .i64 ((k2:Int)+1)))):=zh (HS6.out.ine.wrote hE HKr.out (HS6.out.ine.rd.put 1 _));have HL7:Hid (Lies (w6.setCell ⟨E.r,1,none⟩ (.int .i64 ((k2:Int)+1))) q4 41 l2.toArray):=zh (HS6.out.own4.kp HKr.out.X).li;have HZ7:Hid ((w6.setCell ⟨E.r,1,none⟩ (.int .i64 ((k2:Int)+1))).heap.size=w6.heap.size):=zh (World.size_setCell ..)
   have HST:=zh (fun w9 C=>HS6.out.step (w9:=w9) (C:=C) hE hmore hs hne);have hc2:c2≤1000000:=by have:=HS6.out.nc;have:=HS6.out.lt;omega
   have HL22:Hid (l2.length=22):=zh HS6.out.len;have CN:=zh (fun W h=>gN E hE (k2+1) op c2 pl er (unL [37] (some ⟨w6.heap.size,0,none⟩) 1 1) rfl (rX _ _ _ _) W h hc2);obtain⟨C,hC,hC22,hC1,hCk⟩:=eT (c2+1) (unL [37] (some ⟨w6.heap.size,0,none⟩) 1 1) rfl (rX _ _ _ _);rw[hC]at CN;have HST2:=zh (fun w9=>HST.out w9 C hC22 hC1 (fun h=>hCk h));have yC:=zh hC22;have HC1:=zh hC1;clear hC hC22 hC1 hCk HST
   go_upto_region 4 with fail
   generalize hg:w6.heap.size=g at *;generalize w6.setCell ⟨E.r,1,none⟩ (.int .i64 ((k2:Int)+1))=w7 at *;have HLd:Hid (w7.rangeAt q4 0 l2):=zh (by simpa using HL7.out.range);have zi:(Tryz.prog.info? 41).map (·.size)=some l2.length:=by rw[HL22.out];exact aE
   have HI8:=zh (HI7.out.next ((Below.refl _ _).alloc (Nat.le_refl _) (.cells l2.toArray 41)));have HO8:=zh ((HL7.out.next ((Below.refl _ _).alloc (Nat.le_refl _) (.cells l2.toArray 41))));have HN4:Hid (q4≠E.r):=zh (fun e=>HS6.out.own4.fr.nx (by rw[e];exact .head _));clear hg r1 fr1
   go_wp2_with (first |(refine wpList_load_mid rfl 41 (.tmp 4) rfl q4 0 rfl l2 _ HLd.out Tryz.underlying41 rfl zi ?_) |(refine oK rfl (.tmp 25) rfl l2 rfl HL22.out g HZ7.out (some 26) rfl ?_;generalize w7.alloc (.cells l2.toArray 41)=w8 at HI8 HST2 HO8 ⊢))
   refine(CN.out w8 HI8.out).mono ?_;rintro e w9 ⟨rfl,h1,h2⟩;have HST3:=zh (HST2.out w9 h1 h2);have HO9:=zh (h2.lies HO8.out (fun hm=>HN4.out (List.mem_singleton.1 hm)));have HT:Hid (w9.there q4 0 C.toArray.size):=zh (by have h:=HO9.out.thereA;rw[show C.toArray.size=22 from yC.out];rw[show l2.toArray.size=22 from HL22.out]at h;exact h);have hinf2:(Tryz.prog.info? 41).map (·.size)=some C.toArray.size:=by rw[show C.toArray.size=22 from yC.out];exact aE
   clear h1 h2 HST2 CN HI8 HI7 HKr zi
   go_wp2_with (first |(refine wpList_store_mid rfl 41 (.tmp 4) (.tmp 28) rfl q4 0 C.toArray rfl rfl HT.out hinf2 HC1.out ?_;change wpList _ _ _ _ _ (w9.setCells q4 0 C);generalize w9.setCells q4 0 C=w10 at HST3 ⊢;dsimp only[Act.put]))
   go_roundw
   case rel=>exact zh ⟨_,_,_,_,HST3.out⟩
   case measure=>rw[HM.out,HST3.out.ine.rdAt];omega
  ·have hs0:isS (E.at k2) [37]=false:=by simpa using hs
   rw[hs0]at CS2;have HG:Hid (T=.ok t2 (E.L.drop k2) c2):=zh (by
    have:=HS2.out.go;rw[← this];cases h:E.L.length-k2 with
    | zero=>have:=HS2.out.lt;omega
    | succ f=>
     unfold gC;rw[show isS (hd (E.L.drop k2)) [37]=false from hs0];rfl)
   clear hs hs0 CS CT
   go_wp2_with fail
   refine CT2.out.mono ?_;rintro e w5 ⟨rfl,hb⟩;have HB5:=zh hb;clear hb CT2
   go_wp2_with fail
   refine(CS2.out w5).mono ?_;rintro e w6 ⟨rfl,hb⟩;have HS6:Hid (Pct E w k op nd pl er q q4 m T k2 l2 t2 c2 w6):=zh ((HS2.out.next HB5.out).next hb);clear hb CS2 HS2 HB5;have hne4:=hne;have HT:Hid (w6.there q 0 l2.toArray.size):=zh (by have h:=HS6.out.own.li.thereA;rw[show l2.toArray.size=22 from HS6.out.nv.1];exact h);have HLd:Hid (w6.rangeAt q4 0 l2):=zh (by simpa using HS6.out.own4.li.range);have zi:(Tryz.prog.info? 41).map (·.size)=some l2.length:=by rw[show l2.length=22 from by have:=HS6.out.nv.1;rwa [List.size_toArray]at this];exact aE
   have HO1:=zh HS6.out.nv.2.1
   go_wp2_with (first |(refine wpList_load_mid rfl 41 (.tmp 4) rfl q4 0 rfl l2 _ HLd.out Tryz.underlying41 rfl zi ?_) |(refine wpList_store_mid rfl 41 (.tmp 2) (.tmp 29) rfl q 0 l2.toArray rfl rfl HT.out zi HO1.out ?_;change wpList _ _ _ _ _ (w6.setCells q 0 l2);generalize hw7:w6.setCells q 0 l2=w7))
   have hkq:Kp [q] w6 w7:=by rw[← hw7];exact aU (.inl (.head _)) l2 0 (Kp.refl _ _)
   have HA7:Hid (Lies w7 q 41 l2.toArray):=zh (by rw[← hw7];exact HS6.out.own.li.putAll (by have:=HS6.out.nv.1;rwa [List.size_toArray]at this));refine bodyPost_ret (aK rfl rfl HA7.out HS6.out.nv.1) rfl ?_;rw[HG.out];have hsub:∀ y∈[q],y∈q4::List.range m:=fun y hy=>by rw[List.mem_singleton.1 hy];exact HS6.out.qin
   exact⟨k2,l2.toArray,rfl,HS6.out.le,HS6.out.lt,rfl,HS6.out.nc,HS6.out.nn,HS6.out.ine.own hE HS6.out.own (by decide) (by decide) hkq,HS6.out.kp.own HS6.out.own hkq,(HS6.out.nv.kpX hkq hsub).anti (fun y hy _=>List.mem_cons_of_mem _ (List.mem_range.2 (Nat.lt_trans (List.mem_range.1 hy) HS6.out.wm)))⟩
set_option maxRecDepth 100000 in
set_option maxHeartbeats 3200000 in
theorem uAS(E:Env)(hE:E.ok)(part:List Tok→Nat→Out)(op:Nat)(hp:dU E 113 part op)(k nd pl er:Nat)(w:World)(hI:InE E k op nd pl er w)(hk:k<E.L.length)(hn:nd≤k)(e0 p0:Nat)(ho:part (E.L.drop k) nd=.bad e0 p0) :
  Calls Tryz.prog 111 #[.pointer (some ⟨E.r,0,none⟩)] w (NPost E w k op nd pl er (bD part (E.L.drop k) nd)):=by
 have hT:bD part (E.L.drop k) nd=.bad e0 p0:=by unfold bD;rw[ho]
 rw[hT];have HI0:=zh (hI.next ((Below.refl _ _).alloc (Nat.le_refl _) (.cells aB.toArray 41)));have CP:=zh (hp k nd pl er _ HI0.out hk hn);rw[ho]at CP;have HK0:Hid (Kp E.X w (w.alloc (.cells aB.toArray 41))):=zh ((Kp.refl _ _).alloc _);have HA0:=zh (Own1.new hI (Kp.refl E.X w) 41 aB.toArray);have HF:=zh hI;clear hI ho hT hp;simp only[aB]at HI0 HK0 HA0 CP
 go_enter Tryz.func111,Tryz.ntmps111
 go_upto_region 1 with fail
 generalize w.alloc (.cells #[.int .i64 0,.int .i64 0,.int .i64 0,.int .i64 0,.string ⟨#[]⟩,.bool false,.int .i64 0,.string ⟨#[]⟩,.int .i64 0,.int .i64 0,.int .i64 0,.int .i64 0,.bool false,.bool false,.int .i64 0,.int .i64 0,.int .i64 0,.int .i64 0,.bool false,.bool false,.int .i64 0,.slice none 0 0] 41)=W1 at HI0 HK0 HA0 CP ⊢;generalize hqe:w.heap.size=q at HA0 ⊢;clear hqe
 go_wp2_with fail
 refine CP.out.mono ?_;rintro e w2 ⟨cs,k1,op1,nd1,rfl,h1,h2,h3,h4,h5,h6,h7⟩;obtain⟨l,rfl⟩:∃ l:List Value,cs=l.toArray:=⟨cs.toList,by simp⟩
 have HL22:Hid (l.length=22):=zh (by rwa [List.size_toArray]at h1);have yo:=zh h2;have HA2:=zh (HA0.out.kp h7);have HK2:=zh (HK0.out.trans h7);have HI2:=zh h6;have HKc:=zh (⟨h3,h4,h5⟩:k≤k1∧k1<E.L.length∧nd1+k≤nd+k1);clear h1 h2 h3 h4 h5 h6 h7 HI0 HK0 HA0 CP;have HB3:Hid (Below w2.heap.size w2 (w2.alloc (.cells #[.int .i64 0,.int .i64 0,.int .i64 0,.int .i64 0,.string ⟨#[]⟩,.bool false,.int .i64 0,.string ⟨#[]⟩,.int .i64 0,.int .i64 0,.int .i64 0,.int .i64 0,.bool false,.bool false,.int .i64 0,.int .i64 0,.int .i64 0,.int .i64 0,.bool false,.bool false,.int .i64 0,.slice none 0 0] 41))):=zh ((Below.refl _ _).alloc (Nat.le_refl _) _)
 have HO3:Hid (Own1 E w (w2.alloc (.cells #[.int .i64 0,.int .i64 0,.int .i64 0,.int .i64 0,.string ⟨#[]⟩,.bool false,.int .i64 0,.string ⟨#[]⟩,.int .i64 0,.int .i64 0,.int .i64 0,.int .i64 0,.bool false,.bool false,.int .i64 0,.int .i64 0,.int .i64 0,.int .i64 0,.bool false,.bool false,.int .i64 0,.slice none 0 0] 41)) w2.heap.size 41 #[.int .i64 0,.int .i64 0,.int .i64 0,.int .i64 0,.string ⟨#[]⟩,.bool false,.int .i64 0,.string ⟨#[]⟩,.int .i64 0,.int .i64 0,.int .i64 0,.int .i64 0,.bool false,.bool false,.int .i64 0,.int .i64 0,.int .i64 0,.int .i64 0,.bool false,.bool false,.int .i64 0,.slice none 0 0]):=zh (Own1.new HF.out HK2.out 41 #[.int .i64 0,.int .i64 0,.int .i64 0,.int .i64 0,.string ⟨#[]⟩,.bool false,.int .i64 0,.string ⟨#[]⟩,.int .i64 0,.int .i64 0,.int .i64 0,.int .i64 0,.bool false,.bool false,.int .i64 0,.int .i64 0,.int .i64 0,.int .i64 0,.bool false,.bool false,.int .i64 0,.slice none 0 0])
 have hne:q≠w2.heap.size:=by have:=HA2.out.li.lt;omega
 have HC:Hid (∀ W3,W3=(w2.alloc (.cells #[.int .i64 0,.int .i64 0,.int .i64 0,.int .i64 0,.string ⟨#[]⟩,.bool false,.int .i64 0,.string ⟨#[]⟩,.int .i64 0,.int .i64 0,.int .i64 0,.int .i64 0,.bool false,.bool false,.int .i64 0,.int .i64 0,.int .i64 0,.int .i64 0,.bool false,.bool false,.int .i64 0,.slice none 0 0] 41)).setCells w2.heap.size 0 l→InE E k1 op1 nd1 p0 e0 W3∧Kp E.X w W3∧Own1 E w W3 q 41 aB.toArray∧Own1 E w W3 w2.heap.size 41 l.toArray):=zh (fun W3 e=>by
  subst e;have hb:Below w2.heap.size w2 ((w2.alloc (.cells #[.int .i64 0,.int .i64 0,.int .i64 0,.int .i64 0,.string ⟨#[]⟩,.bool false,.int .i64 0,.string ⟨#[]⟩,.int .i64 0,.int .i64 0,.int .i64 0,.int .i64 0,.bool false,.bool false,.int .i64 0,.int .i64 0,.int .i64 0,.int .i64 0,.bool false,.bool false,.int .i64 0,.slice none 0 0] 41)).setCells w2.heap.size 0 l):=fE (Nat.le_refl _) l 0 HB3.out;exact⟨HI2.out.next hb,HK2.out.trans (Kp.of_below hb),HA2.out.next hb,⟨HO3.out.fr,HO3.out.ge,HO3.out.li.putAll HL22.out⟩⟩)
 have HT:Hid ((w2.alloc (.cells #[.int .i64 0,.int .i64 0,.int .i64 0,.int .i64 0,.string ⟨#[]⟩,.bool false,.int .i64 0,.string ⟨#[]⟩,.int .i64 0,.int .i64 0,.int .i64 0,.int .i64 0,.bool false,.bool false,.int .i64 0,.int .i64 0,.int .i64 0,.int .i64 0,.bool false,.bool false,.int .i64 0,.slice none 0 0] 41)).there w2.heap.size 0 l.toArray.size):=zh (by have h:=HO3.out.li.thereA;rw[show l.toArray.size=22 from HL22.out];exact h);have zi:(Tryz.prog.info? 41).map (·.size)=some l.toArray.size:=by rw[List.size_toArray,HL22.out];exact aE
 go_wp2_with (first |(refine wpList_store_mid rfl 41 (.tmp 4) (.tmp 9) rfl w2.heap.size 0 l.toArray rfl rfl HT.out zi yo.out ?_;change wpList _ _ _ _ _ ((w2.alloc (.cells #[.int .i64 0,.int .i64 0,.int .i64 0,.int .i64 0,.string ⟨#[]⟩,.bool false,.int .i64 0,.string ⟨#[]⟩,.int .i64 0,.int .i64 0,.int .i64 0,.int .i64 0,.bool false,.bool false,.int .i64 0,.int .i64 0,.int .i64 0,.int .i64 0,.bool false,.bool false,.int .i64 0,.slice none 0 0] 41)).setCells w2.heap.size 0 l);generalize hW3:(w2.alloc (.cells #[.int .i64 0,.int .i64 0,.int .i64 0,.int .i64 0,.string ⟨#[]⟩,.bool false,.int .i64 0,.string ⟨#[]⟩,.int .i64 0,.int .i64 0,.int .i64 0,.int .i64 0,.bool false,.bool false,.int .i64 0,.int .i64 0,.int .i64 0,.int .i64 0,.bool false,.bool false,.int .i64 0,.slice none 0 0] 41)).setCells w2.heap.size 0 l=W3))
 obtain⟨g1,g2,g3,g4⟩:=HC.out W3 hW3.symm;have HI3:=zh g1;have HK3:=zh g2;have HA3:=zh g3;have HB3':=zh g4;clear g1 g2 g3 g4 HC HT zi HB3 HO3 HA2 HK2 HI2 hW3;generalize w2.heap.size=q4 at *
 go_loopw [16] (fun _ wr=>Hid (wr=W3)) (fun _ _=>0)
 case atStart=>exact zh rfl
 case round=>
  have hwr:=hrel.out;subst hwr;have HT:Hid (wr.there q 0 l.toArray.size):=zh (by have h:=HA3.out.li.thereA;rw[show l.toArray.size=22 from HL22.out];exact h);have HLd:Hid (wr.rangeAt q4 0 l):=zh (by simpa using HB3'.out.li.range);have zi:(Tryz.prog.info? 41).map (·.size)=some l.length:=by rw[HL22.out];exact aE
  go_wp2_with (first |(refine wpList_load_mid rfl 41 (.tmp 4) rfl q4 0 rfl l _ HLd.out Tryz.underlying41 rfl zi ?_) |(refine wpList_store_mid rfl 41 (.tmp 2) (.tmp 29) rfl q 0 l.toArray rfl rfl HT.out zi yo.out ?_;change wpList _ _ _ _ _ (wr.setCells q 0 l);generalize hw7:wr.setCells q 0 l=w7))
  have hkq:Kp [q] wr w7:=by rw[← hw7];exact aU (.inl (.head _)) l 0 (Kp.refl _ _)
  have HA7:Hid (Lies w7 q 41 l.toArray):=zh (by rw[← hw7];exact HA3.out.li.putAll HL22.out);refine bodyPost_ret (aK rfl rfl HA7.out HL22.out) rfl ?_;exact⟨l.toArray,k1,op1,nd1,rfl,HL22.out,yo.out,HKc.out.1,HKc.out.2.1,HKc.out.2.2,HI3.out.own hE HA3.out (by decide) (by decide) hkq,HK3.out.own HA3.out hkq⟩
theorem uAR(E:Env)(hE:E.ok)(he:E.ends)(hL:E.L.length≤1000000)(part:List Tok→Nat→Out)(op:Nat)(hp:dU E 113 part op):dU E 111 (bD part) op:=by
 intro k nd pl er w hI hk hn;cases ho:part (E.L.drop k) nd with
 | ok t ts c=>exact uDS E hE he hL part op hp k nd pl er w hI hk hn t ts c ho
 | bad e p=>
  have h:=uAS E hE part op hp k nd pl er w hI hk hn e p ho;have hT:bD part (E.L.drop k) nd=.bad e p:=by unfold bD;rw[ho]
  exact h
theorem ba_beq(a b:Array UInt8):((⟨a⟩:ByteArray)==⟨b⟩)=(a==b):=rfl
theorem sT(s:Bs):∀ (l:List Bs) (es:List MapEntry) (j:Nat),es.map (·.key)=l.map (fun(x:Bs)=>Value.string ⟨x.toArray⟩)→(∀ e∈es,e.val=.bool true)→∃ r,Instr.findNow .string (.string ⟨s.toArray⟩) es j=some r∧(l.contains s=true→∃ i,r=some (i,.bool true))∧(l.contains s=false→r=none)
 | [],es,j,h,_=>by
  have h0:es=[]:=by simpa using h
  subst h0;exact⟨none,rfl,fun h=>by simp at h,fun _=>rfl⟩
 | x::r,es,j,h,hv=>by
  cases es with
  | nil=>simp at h
  | cons e es=>
   simp only[List.map_cons,List.cons.injEq]at h;obtain⟨h1,h2⟩:=h;by_cases hx:s=x
   ·subst hx;refine⟨some (j,e.val),?_,fun _=>⟨j,by rw[hv e (by simp)]⟩,fun h=>by simp at h⟩;unfold Instr.findNow;rw[h1];simp[Instr.sameNow,ba_beq]
   ·obtain⟨q,g1,g2,g3⟩:=sT s r es (j+1) h2 (fun e he=>hv e (by simp[he]));refine⟨q,?_,fun hc=>g2 ?_,fun hc=>g3 ?_⟩
    ·unfold Instr.findNow;rw[h1];have hne:((⟨s.toArray⟩:ByteArray)==⟨x.toArray⟩)=false:=by
      rw[ba_beq];simpa using hx
     simp only[Instr.sameNow,hne];exact g1
    ·simpa [hx] using hc
    ·simpa [hx] using hc
theorem uEF(l:List Bs):(iK l).toList.map (·.key)=l.map (fun(x:Bs)=>Value.string ⟨x.toArray⟩):=by
 unfold iK;apply List.ext_getElem?;intro i;simp;cases l[i]? <;> rfl
theorem uEH(l:List Bs):∀ e∈(iK l).toList,e.val=.bool true:=by
 intro e he;unfold iK at he;simp at he;obtain⟨i,h,rfl⟩:=he;rfl
theorem pB(l:List Bs)(r c:Nat)(W:World)(hb:W.heap[r]?=some (.map (iK l) c))(s:Bs) :
  (Instr.lookup 89 (.map (some r)) (.string ⟨s.toArray⟩) false).run Tryz.prog W=.ok (.bool (l.contains s)) W:=by
 obtain⟨q,h1,h2,h3⟩:=sT s l (iK l).toList 0 (uEF l) (uEH l);have hc:(Instr.checkKey (iK l).isEmpty 10000 9 (.string ⟨s.toArray⟩)).run Tryz.prog W=.ok () W:=MapKept.run_checkKey (k:=.string ⟨s.toArray⟩) Tryz.underlying9 trivial _ 9999;have hz:(zeroValue 4).run Tryz.prog W=.ok (.bool false) W:=by kernel_rfl
 cases hl:l.contains s with
 | true=>
  obtain⟨i,rfl⟩:=h2 hl;simp[Instr.lookup,run_underlying uSgI,MapKept.run_getObj_map hb,hc,MapKept.run_findKey Tryz.underlying9 h1,Result.andThen]
 | false=>
  have:=h3 hl;subst this;simp[Instr.lookup,run_underlying uSgI,MapKept.run_getObj_map hb,hc,MapKept.run_findKey Tryz.underlying9 h1,Result.andThen,hz]
abbrev uCC(s:Bs)(A:Option Addr)(m n:Nat):List Value:=[.int .i64 6,.int .i64 0,.int .i64 0,.int .i64 0,.string ⟨#[]⟩,.bool false,.int .i64 0,.string ⟨s.toArray⟩,.int .i64 0,.int .i64 0,.int .i64 0,.int .i64 0,.bool false,.bool false,.int .i64 0,.int .i64 0,.int .i64 0,.int .i64 0,.bool false,.bool false,.int .i64 0,.slice A m n]
theorem oO(s:Bs)(A:Option Addr)(m n:Nat):(uCC s A m n).toArray.all (·.oneCell')=true:=by simp[uCC,Value.oneCell']
structure Lev(E:Env)(w:World)(k op nd pl er q q8 m:Nat)(next:List Tok→Nat→Out)(sg:List Bs)(T:Out)(k':Nat)(l:List Value)(t:Tree)(c:Nat)(W:World):Prop where
 ine:InE E k' op c pl er W
 kp:Kp E.X w W
 own:Own1 E w W q 41 aB.toArray
 own8:Own1 E w W q8 41 l.toArray
 nv:NV W (q8::List.range m) c t l.toArray
 wm:w.heap.size<m
 qe:q=w.heap.size
 xm:∀ y∈E.X,y<m
 ms:m≤W.heap.size
 le:k≤k'
 lt:k'<E.L.length
 nc:c+k≤nd+k'
 nn:nd≤c
 go:∃ f,E.L.length-k'≤f∧fT next sg f t (E.L.drop k') c=T
theorem Lev.len{E:Env}{w:World}{k op nd pl er q q8 m:Nat}{next:List Tok→Nat→Out}{sg:List Bs}{T:Out}{k':Nat}{l:List Value}{t:Tree}{c:Nat}{W:World}(h:Lev E w k op nd pl er q q8 m next sg T k' l t c W):l.length=22:=by
 have:=h.nv.1
 rwa [List.size_toArray]at this
theorem Lev.qin{E:Env}{w:World}{k op nd pl er q q8 m:Nat}{next:List Tok→Nat→Out}{sg:List Bs}{T:Out}{k':Nat}{l:List Value}{t:Tree}{c:Nat}{W:World}(h:Lev E w k op nd pl er q q8 m next sg T k' l t c W):q∈q8::List.range m:=List.mem_cons_of_mem _ (List.mem_range.2 (by have:=h.wm;have:=h.qe;omega))
theorem Lev.next{E:Env}{w:World}{k op nd pl er q q8 m:Nat}{next:List Tok→Nat→Out}{sg:List Bs}{T:Out}{k':Nat}{l:List Value}{t:Tree}{c:Nat}{W W':World}(h:Lev E w k op nd pl er q q8 m next sg T k' l t c W)(hb:Below W.heap.size W W'):Lev E w k op nd pl er q q8 m next sg T k' l t c W' :=
 ⟨h.ine.next hb,h.kp.trans (Kp.of_below hb),h.own.next hb,h.own8.next hb,h.nv.kp (Kp.of_below hb),h.wm,h.qe,h.xm,Nat.le_trans h.ms hb.size,h.le,h.lt,h.nc,h.nn,h.go⟩
abbrev uZ(E:Env)(k':Nat)(W:World):World:=(W.setCell ⟨E.r,1,none⟩ (.int .i64 ((k':Int)+1))).alloc (.cells aB.toArray 41)
theorem Lev.step{E:Env}(hE:E.ok){w:World}{k op nd pl er q q8 m:Nat}{next:List Tok→Nat→Out}{sg:List Bs}{T:Out}{k':Nat}{l:List Value}{t:Tree}{c:Nat}{W w9 w12:World}(h:Lev E w k op nd pl er q q8 m next sg T k' l t c W)(hs:eG sg (E.at k')=true)(hq:q≠q8)
  {x:Tree} {k3 c1:Nat} {l3:List Value} (hnx:next (E.L.drop (k'+1)) c=.ok x (E.L.drop k3) c1) (hk1:k'+1≤k3) (hk3:k3<E.L.length) (hc1:c1+(k'+1)≤c+k3) (hc2:c≤c1)
  (hk9:Kp E.X (uZ E k' W) w9) (hv3:NV w9 (List.range (uZ E k' W).heap.size) c1 x l3.toArray)
  (hk12:Kp [E.r] ((w9.setCells W.heap.size 0 l3).alloc (.cells (l++l3).toArray 41)) w12) (hi12:InE E k3 op (c1+1) pl er w12)
  {C:List Value} (h22:C.length=22) (h1:C.toArray.all (·.oneCell')=true) (hC:c1+1≤256→C=uCC (E.at k').text (some ⟨w9.heap.size,0,none⟩) 2 2) :
  Lev E w k op nd pl er q q8 m next sg T k3 C (tBin (E.at k').text t x) (c1+1) (w12.setCells q8 0 C):=by
 have hr0:Kp E.X W (W.setCell ⟨E.r,1,none⟩ (.int .i64 ((k':Int)+1))):=((Kp.refl [E.r] _).set (.inl (.head _)) 1 _).X;have hr1:Kp E.X W (uZ E k' W):=hr0.alloc _;have hr9:Kp E.X W w9:=hr1.trans hk9;have hs8:(uZ E k' W).heap.size=W.heap.size+1:=by show (World.alloc _ _).heap.size=_;rw[World.size_alloc,World.size_setCell]
 have hs9:W.heap.size+1≤w9.heap.size:=by have:=hk9.size;omega
 have hq8:=h.own8.li.lt;have hq0:=h.own.li.lt;have hms:=h.ms;have hw10:Kp [W.heap.size] w9 (w9.setCells W.heap.size 0 l3):=aU (.inl (.head _)) l3 0 (Kp.refl _ _);have hs10:(w9.setCells W.heap.size 0 l3).heap.size=w9.heap.size:=eY ..;have hw11:Kp [] (w9.setCells W.heap.size 0 l3) ((w9.setCells W.heap.size 0 l3).alloc (.cells (l++l3).toArray 41)):=(Kp.refl _ _).alloc _;have hgl:Lies ((w9.setCells W.heap.size 0 l3).alloc (.cells (l++l3).toArray 41)) w9.heap.size 41 (l++l3).toArray:=by
  have:=Lies.new (w9.setCells W.heap.size 0 l3) 41 (l++l3).toArray
  rwa [hs10]at this
 have hw13:Kp [q8] w12 (w12.setCells q8 0 C):=aU (.inl (.head _)) C 0 (Kp.refl _ _);have hEr:E.r<W.heap.size:=h.ine.rd.lt;have hrx:E.r∈E.X:=.head _;have hX:∀ y∈E.X,y∈W.heap.size::q8::List.range m:=fun y hy=>List.mem_cons_of_mem _ (List.mem_cons_of_mem _ (List.mem_range.2 (h.xm y hy)))
 have hX9:∀ y∈E.X,y<W.heap.size:=h.ine.xlt
 have ht9:NV w12 (W.heap.size::q8::List.range m) (c1+1) t l.toArray :=
  (((((h.nv.fresh (Nat.le_refl _)).kpX hr9 hX).kpX hw10 (fun y hy=>by rw[List.mem_singleton.1 hy];exact .head _)).kpX hw11 (fun y hy=>by cases hy)).kpX hk12 (fun y hy=>by rw[List.mem_singleton.1 hy];exact hX _ hrx)).mono (by omega)
 have hx12:NV w12 (List.range (uZ E k' W).heap.size) (c1+1) x l3.toArray :=
  (((hv3.kpX hw10 (fun y hy=>by rw[List.mem_singleton.1 hy];exact List.mem_range.2 (by omega))).kpX hw11 (fun y hy=>by cases hy)).kpX hk12 (fun y hy=>by rw[List.mem_singleton.1 hy];exact List.mem_range.2 (by omega))).mono (by omega)
 have hsub:∀ y∈q8::List.range m,y∈List.range (uZ E k' W).heap.size:=fun y hy=>by
  rcases List.mem_cons.1 hy with rfl | hy
  ·exact List.mem_range.2 (by omega)
  ·have:=List.mem_range.1 hy;exact List.mem_range.2 (by omega)
 have ht13:NV (w12.setCells q8 0 C) (q8::List.range m) (c1+1) t l.toArray:=(ht9.anti (fun y hy _=>List.mem_cons_of_mem _ hy)).kpX hw13 (fun y hy=>by rw[List.mem_singleton.1 hy];exact .head _);have hx13:NV (w12.setCells q8 0 C) (q8::List.range m) (c1+1) x l3.toArray:=(hx12.anti (fun y hy _=>hsub y hy)).kpX hw13 (fun y hy=>by rw[List.mem_singleton.1 hy];exact .head _);have hgr:w9.heap.size≠E.r:=by omega
 have hg8:w9.heap.size≠q8:=by omega
 have hgl13:Lies (w12.setCells q8 0 C) w9.heap.size 41 (l++l3).toArray:=hw13.lies (hk12.lies hgl (fun hm=>hgr (List.mem_singleton.1 hm))) (fun hm=>hg8 (List.mem_singleton.1 hm));have keep:∀ {z:Nat} {cs:Array Value},z<W.heap.size→Own1 E w W z 41 cs→Own1 E w w12 z 41 cs:=fun {z cs} hz ho=>by
  have h9:=ho.kp hr9;exact⟨ho.fr,ho.ge,hk12.lies (hw11.lies (hw10.lies h9.li (fun hm=>by rw[List.mem_singleton.1 hm]at hz;omega)) (by simp)) (fun hm=>ho.fr.nx (by rw[List.mem_singleton.1 hm];exact hrx))⟩
 have ho12:=keep hq0 h.own;have ho812:=keep hq8 h.own8;have hkw:Kp E.X w w12:=by
  have h9:Kp E.X w w9:=h.kp.trans hr9;have h10:=h9.andThen hw10 (fun g hg=>.inr (by rw[List.mem_singleton.1 hg];exact h.kp.size));exact(h10.alloc _).trans hk12.X
 have hm12:W.heap.size≤w12.heap.size:=by
  have:=hk12.size;rw[World.size_alloc,hs10]at this;omega
 have hkl:=h.le;have hnc:=h.nc;have hnn:=h.nn;obtain⟨f,hf,hgo⟩:=h.go;have hlt:=h.lt;refine⟨hi12.own hE ho812 (by decide) (by decide) hw13,hkw.own ho812 hw13,⟨ho12.fr,ho12.ge,hw13.lies ho12.li (fun hm=>hq (List.mem_singleton.1 hm))⟩,⟨ho812.fr,ho812.ge,ho812.li.putAll (by rw[h22];exact h.nv.1.symm)⟩,⟨h22,h1,fun hn=>?_⟩,h.wm,h.qe,h.xm,Nat.le_trans h.ms (Nat.le_trans hm12 hw13.size),by omega,hk3,by omega,by omega,?_⟩
 ·refine⟨some ⟨w9.heap.size,0,none⟩,2,by rw[hC hn];rfl,KidsAt.two hgl13 ht13 hx13 (by omega) ?_ _ rfl⟩;intro hm;rcases List.mem_cons.1 hm with hm | hm
  ·exact hg8 hm
  ·have:=List.mem_range.1 hm;omega
 ·cases f with
  | zero=>omega
  | succ f=>
   refine⟨f,by omega,?_⟩;unfold fT at hgo;rw[show eG sg (hd (E.L.drop k'))=true from hs,if_pos rfl,List.tail_drop,hnx]at hgo;exact hgo
end Go.Proofs.YtmgjidnalpgegaaGreatDoor
