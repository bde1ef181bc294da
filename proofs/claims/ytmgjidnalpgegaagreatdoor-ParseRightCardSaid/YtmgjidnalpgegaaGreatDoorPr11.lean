/-
  Lemmas, part 11: ParI ParJ ParK ParL.
-/
import Derived.Test.YtmgjidnalpgegaaGreatDoorPr10
set_option maxHeartbeats 100000000
namespace Go.Proofs.YtmgjidnalpgegaaGreatDoor
open Go.RowKit
structure LevB(E:Env)(w:World)(k nd q q8:Nat)(T:Out)(W:World):Prop where
 ex:∃ k4 op4 nd4 e p l,T=.bad e p/\InE E k4 op4 nd4 p e W/\Kp E.X w W/\Own1 E w W q 41 aA.toArray/\Own1 E w W q8 41 (l:List Value).toArray/\l.length=22/\l.toArray.all (·.oneCell')=true/\k<=k4/\k4<E.L.length/\nd4+k<=nd+k4
def onM(v:Value)(n:Nat):Nat:=match v with
 | .bool true=>n+1
 |_=>0
def tkk(t:Tok):Nat:=t.kind
theorem isLev_no{sg:List Bs}{t:Tok}(h:jC sg t=false):¬ t.kind=5\/(t.kind=5/\sg.contains t.text=false):=by
 unfold jC at h;by_cases h5:t.kind=5
 ·exact .inr ⟨h5,by simpa [h5] using h⟩
 exact .inl h5
set_option maxRecDepth 100000 in
theorem level_ok(E:Env)(hE:E.ok)(he:E.ends)(hL:E.L.length<=1000000)(f:Nat)(hf:∀ args W,(callFunc f args).run Tryz.prog W=.ok (.enter f args) W)(next:List Tok->Nat->Out)(op:Nat)(hp:dP E f next op)(ix:Nat)(hix:ix<eG.length)(k nd pl er:Nat)(w:World)(hI:InE E k op nd pl er w)(hk:k<E.L.length)(hn:nd<=k)(t0:Tree)(vp:List Tok)(c0:Nat)(ho:next (E.L.drop k) nd=.ok t0 vp c0) :
  Calls Tryz.prog 35 #[.pointer (some ⟨E.r,0,none⟩),.func (.func f) #[.pointer (some ⟨E.r,0,none⟩)] #[],.map (some (E.sg+1+ix))] w (NPost E w k op nd pl er (cH next eG[ix] (E.L.drop k) nd)):=by
 have hT:cH next eG[ix] (E.L.drop k) nd=gW next eG[ix] vp.length t0 vp c0:=by unfold cH;rw[ho]
 rw[hT];have HSG:=zh (fun k c W (h:InE E k op c pl er W)=>h.sg.ins ix hix);generalize eG[ix]=sg at *;generalize E.sg+1+ix=mb at *;generalize ae:gW next sg vp.length t0 vp c0=T;have am:=zh ae;clear ae;have co:=zh (hI.next (zp (.cells aA.toArray 41)));have CP:=zh (hp k nd pl er _ co.out hk hn);rw[ho]at CP;have cj:Hid (Kp E.X w (w.alloc (.cells aA.toArray 41))):=zh ((Kp.refl _ _).alloc _);have cg:=zh (Own1.new hI (Kp.refl E.X w) 41 aA.toArray);have HF:=zh hI;have HPN:=zh hp;have c8:Hid (w.heap.size<(w.alloc (.cells aA.toArray 41)).heap.size):=zh (by simp);clear hI ho hT hp;simp only[aA]at co cj cg CP c8
 go_enter Tryz.func35,Tryz.ntmps35
 go_upto_region 1 with fail
 generalize w.alloc (.cells zM 41)=W1 at co cj cg CP c8 ⊢;generalize en:w.heap.size=q at cg ⊢;have rf:=zh en;clear en
 go_wp2_with fail
 refine CP.out.mono ?_;rintro e w2 ⟨k1,cs,rfl,h1,h2,rfl,h3,h4,h5,h6,h7⟩;obtain⟨l,rfl⟩:∃ l:List Value,cs=l.toArray:=⟨cs.toList,by simp⟩
 have vq:l.length=22:=by have:=h7.1;rwa [yd]at this
 have HMS:=zh h6.size;have bv:=zh (cg.out.kp h6);have bq:=zh (cj.out.trans h6);have dg:=zh h5;have iu:=zh h7;have pu:=zh (⟨h1,h2,h3,h4⟩:k<=k1/\k1<E.L.length/\c0+k<=nd+k1/\nd<=c0);have ai:=zh vq;have yo:=zh h7.2.1;clear h1 h2 h3 h4 h5 h6 h7 vq co cj cg CP;have aq:Hid (Below w2.heap.size w2 (w2.alloc (.cells zM 41))):=zh (zp _)
 have im:Hid (Own1 E w (w2.alloc (.cells zM 41)) w2.heap.size 41 zM):=zh (Own1.new HF.out bq.out 41 zM)
 have bp:q≠w2.heap.size:=by have:=bv.out.li.lt;omega
 have HC:Hid (∀ W3,W3=(w2.alloc (.cells zM 41)).setCells w2.heap.size 0 l->InE E k1 op c0 pl er W3/\Kp E.X w W3/\Own1 E w W3 q 41 aA.toArray/\Own1 E w W3 w2.heap.size 41 l.toArray/\NV W3 (w2.heap.size::List.range W1.heap.size) c0 t0 l.toArray):=zh (fun W3 e=>by
  subst e;have hb:Below w2.heap.size w2 ((w2.alloc (.cells zM 41)).setCells w2.heap.size 0 l):=eH zr l 0 aq.out;exact⟨dg.out.next hb,bq.out.trans (Kp.of_below hb),bv.out.next hb,⟨im.out.fr,im.out.ge,im.out.li.putAll ai.out⟩,(iu.out.fresh zr).kp (Kp.of_below hb)⟩)
 have HT:Hid ((w2.alloc (.cells zM 41)).there w2.heap.size 0 l.toArray.size):=zh (by have h:=im.out.li.thereA;rw[show l.toArray.size=22 from ai.out];exact h);have zi:(Tryz.prog.info? 41).map (·.size)=some l.toArray.size:=by rw[yd,ai.out];exact aF
 go_wp2_with (first |(refine yq rfl 41 (.tmp 8) (.tmp 15) rfl w2.heap.size 0 l.toArray rfl rfl HT.out zi yo.out ?_;change wpList _ _ _ _ _ ((w2.alloc (.cells zM 41)).setCells w2.heap.size 0 l);generalize l5:(w2.alloc (.cells zM 41)).setCells w2.heap.size 0 l=W3))
 obtain⟨g1,g2,g3,g4,g5⟩:=HC.out W3 l5.symm;have HS:Hid (Lev E w k op nd pl er q w2.heap.size W1.heap.size next sg T k1 l t0 c0 W3):=zh ⟨g1,g2,g3,g4,g5,c8.out,rf.out.symm,fun y hy=>Nat.lt_trans (HF.out.xlt y hy) c8.out,by rw[<- l5,eY,World.size_alloc];have:=HMS.out;omega,pu.out.1,pu.out.2.1,pu.out.2.2.1,pu.out.2.2.2,E.L.length-k1,zr,by rw[<- yk];exact am.out⟩;clear g1 g2 g3 g4 g5 HC HT zi aq im bv bq dg iu ai yo l5;generalize w2.heap.size=q8 at *;generalize W1.heap.size=m at *;have CT:=zh (fun k c W h hk=>bX E k op c pl er W h hk)
 go_loopw [9] (fun v wr=>(v=.bool true/\Hid (∃ k' l t c,Lev E w k op nd pl er q q8 m next sg T k' l t c wr))\/(v=.bool false/\Hid (LevB E w k nd q q8 T wr))) (fun v wr=>onM v (E.L.length-rdAt wr E.r))
 case atStart=>exact .inl ⟨rfl,zh ⟨_,_,_,_,HS.out⟩⟩
 case round=>
  rcases hrel with⟨rfl,hrel⟩|⟨rfl,hrel⟩
  ·obtain⟨k2,l2,t2,c2,hS⟩:=hrel.out;have ed:=zh hS;have HM:=zh hS.ine.rdAt;clear hS hrel HS;by_cases hs:jC sg (E.at k2)=true
   ·have ik:tkk (E.at k2)=5/\sg.contains (E.at k2).text=true:=by
     unfold jC at hs;simpa [tkk] using hs
    have vr:=E.more he ed.out.lt (by have:=ik.1;unfold tkk at this;omega);have ll:(k2:Int)<=1000000:=by have:=ed.out.lt;omega
    have ig:=zh (fun W (h:Lev E w k op nd pl er q q8 m next sg T k2 l2 t2 c2 W) x k3 c1 l3 w9 w12 C=>Lev.step (x:=x) (k3:=k3) (c1:=c1) (l3:=l3) (w9:=w9) (w12:=w12) (C:=C) hE h hs bp);have HTB:Hid (∀ e p,next (E.L.drop (k2+1)) c2=.bad e p->T=.bad e p):=zh (fun e p hx=>by
     obtain⟨fu,hfu,j9⟩:=ed.out.go;rw[<- j9];cases fu with
     |zero=>have:=ed.out.lt;omega
     |succ fu=>
      unfold gW;rw[show jC sg (hd (E.L.drop k2))=true from hs,if_pos rfl,List.tail_drop,hx])
    have CT2:=zh (fun W h=>CT.out k2 c2 W h ed.out.lt);have tu:=zh (fun W h=>HSG.out k2 c2 W h);clear CT HSG hs;generalize E.at k2=tt at *;obtain⟨tk,tx,tp⟩:=tt;obtain⟨h5,sq⟩:=ik;dsimp only[tkV,tkk]at CT2 sq h5 ig ⊢;subst h5;have xz:=lK;have hf1:=mK
    go_wp2_with fail
    refine(CT2.out _ ed.out.ine).mono ?_;rintro e w4 ⟨rfl,hb⟩;have ak:=zh (ed.out.next hb);clear hb ed
    go_wp2_with fail
    refine(CT2.out _ ak.out.ine).mono ?_;rintro e w5 ⟨rfl,hb⟩;have az:=zh (ak.out.next hb);clear hb ak;obtain⟨cm,mz⟩:=tu.out _ az.out.ine;have mt:=oU sg mb cm w5 mz tx;rw[sq]at mt;clear tu mz sq
    go_wp2_with fail
    refine(CT2.out _ az.out.ine).mono ?_;rintro e w6 ⟨rfl,hb⟩;have al:=zh (az.out.next hb);clear hb CT2 az mt;have r1:=al.out.ine.rd.cell 1;have fr1:=al.out.ine.rd.frozen 1;simp only[za,zb,zf]at r1;have m6:Hid (Kp [E.r] w6 (w6.setCell ⟨E.r,1,none⟩ (.int .i64 ((k2:Int)+1)))):=zh ((Kp.refl _ _).set (.inl (.head _)) 1 _);have f9:Hid (InE E (k2+1) op c2 pl er (uS E k2 w6)):=zh ((al.out.ine.wrote hE m6.out (al.out.ine.rd.put 1 _)).next (zp _));have HZ7:Hid ((w6.setCell ⟨E.r,1,none⟩ (.int .i64 ((k2:Int)+1))).heap.size=w6.heap.size):=zh (World.size_setCell ..);have HN7:Hid (Own1 E w (uS E k2 w6) w6.heap.size 41 aA.toArray):=zh (by
     have h:=Own1.new HF.out (al.out.kp.trans m6.out.X) 41 aA.toArray;rw[HZ7.out]at h;exact h)
    have tv:Hid (Kp E.X w6 (uS E k2 w6)):=zh (m6.out.X.alloc _);have hc2k:c2<=k2:=by have:=al.out.nc;omega
    have pz:=zh (HPN.out (k2+1) c2 pl er _ f9.out vr (by omega));have ry:=zh (ig.out w6 al.out);clear ig HPN
    go_upto_region 6 with fail
    simp only[uS,aA]at f9 HN7 pz ry tv;generalize (w6.setCell ⟨E.r,1,none⟩ (.int .i64 ((k2:Int)+1))).alloc (.cells zM 41)=w7 at f9 HN7 pz ry tv ⊢;generalize hq11:w6.heap.size=q11 at HN7 ry HZ7 ⊢;have HQ11:=zh hq11;clear hq11 HZ7 m6 r1 fr1
    go_wp2_with fail
    cases ho2:next (E.L.drop (k2+1)) c2 with
    |ok x av c1=>
     rw[ho2]at pz ry;refine pz.out.mono ?_;rintro e w9 ⟨k3,cs3,rfl,g1,g2,rfl,g3,g4,g5,g6,g7⟩;obtain⟨l3,rfl⟩:∃ l3:List Value,cs3=l3.toArray:=⟨cs3.toList,by simp⟩
     have hl3:l3.length=22:=by have:=g7.1;rwa [yd]at this
     have tw:=zh hl3;have im:=zh g7.2.1;have yy:=zh (HN7.out.kp g6);have uq:=zh ((al.out.own8.kp tv.out).kp g6).li;have jt:=zh al.out.len;have vu:q8≠q11:=by have:=al.out.own8.li.lt;have:=HQ11.out;omega
     have oc:Kp [q11] w9 (w9.setCells q11 0 l3):=aT (.inl (.head _)) l3 0 (Kp.refl _ _);have rz:=zh (g5.own hE yy.out (by decide) (by decide) oc);have HL10:=zh (oc.lies uq.out (fun hm=>vu (yf.1 hm)));have vv:Hid (Lies (w9.setCells q11 0 l3) q11 41 l3.toArray):=zh (yy.out.li.putAll hl3);have vw:Hid ((w9.setCells q11 0 l3).heap.size=w9.heap.size):=zh (eY ..);have HT:Hid (w9.there q11 0 l3.toArray.size):=zh (by have h:=yy.out.li.thereA;rw[show l3.toArray.size=22 from hl3];exact h);have qc:(Tryz.prog.info? 41).map (·.size)=some l3.toArray.size:=by rw[show l3.toArray.size=22 from hl3];exact aF
     have HST9:=zh (fun w12 C=>ry.out x k3 c1 l3 w9 w12 C rfl g1 g2 g3 g4 g6 g7);have fg:c1<=1000000:=by omega
     have CN:=zh (fun W h=>gI E hE k3 op c1 pl er (uCC tx (some ⟨w9.heap.size,0,none⟩) 2 2) rfl (oG _ _ _ _) W h fg);obtain⟨C,hC,ah,fd,gq⟩:=eO (c1+1) (uCC tx (some ⟨w9.heap.size,0,none⟩) 2 2) rfl (oG _ _ _ _);rw[hC]at CN;have yC:=zh ah;have fa:=zh fd;have m8:=zh gq;have HG12:=zh (⟨g1,g2⟩:k2+1<=k3/\k3<E.L.length);clear g1 g2 g3 g4 g5 g6 g7 hl3 oc pz ry f9 HN7 yy uq hC ah fd gq
     go_wp2_with (first |(refine yq rfl 41 (.tmp 11) (.tmp 44) rfl q11 0 l3.toArray rfl rfl HT.out qc im.out ?_;change wpList _ _ _ _ _ (w9.setCells q11 0 l3);generalize w9.setCells q11 0 l3=w10 at rz HL10 vv vw HST9 ⊢;dsimp only[Act.put]) |(refine yr rfl 41 (.tmp 8) rfl q8 0 rfl l2 _ (by simpa using HL10.out.range) Tryz.underlying41 rfl (by rw[jt.out];exact aF) ?_) |(refine yr rfl 41 (.tmp 11) rfl q11 0 rfl l3 _ (by simpa using vv.out.range) Tryz.underlying41 rfl (by rw[tw.out];exact aF) ?_) |(refine uO rfl (.tmp 48) (.tmp 49) rfl l2 l3 rfl rfl jt.out tw.out w9.heap.size vw.out (some 50) rfl ?_))
     have vx:=zh (rz.out.next (zp (.cells (l2++l3).toArray 41)));have HL11:=zh (HL10.out.next (zp (.cells (l2++l3).toArray 41)));have HN8:Hid (q8≠E.r):=zh (fun e=>al.out.own8.fr.nx (by rw[e];exact .head _));refine(CN.out _ vx.out).mono ?_;rintro e w12 ⟨rfl,h1,h2⟩;have vy:=zh (HST9.out w12 C h2 h1 yC.out fa.out m8.out);have HL12:=zh (h2.lies HL11.out (fun hm=>HN8.out (yf.1 hm)));have HT:Hid (w12.there q8 0 C.toArray.size):=zh (by have h:=HL12.out.thereA;rw[show C.toArray.size=22 from yC.out];rw[show l2.toArray.size=22 from jt.out]at h;exact h);have px:(Tryz.prog.info? 41).map (·.size)=some C.toArray.size:=by rw[show C.toArray.size=22 from yC.out];exact aF
     clear h1 h2 HST9 CN vx rz HL11 HL10 qc
     go_wp2_with (first |(refine yq rfl 41 (.tmp 8) (.tmp 52) rfl q8 0 C.toArray rfl rfl HT.out px fa.out ?_;change wpList _ _ _ _ _ (w12.setCells q8 0 C);generalize w12.setCells q8 0 C=w13 at vy ⊢;dsimp only[Act.put]))
     go_roundw
     case rel=>exact .inl ⟨rfl,zh ⟨_,_,_,_,vy.out⟩⟩
     case measure=>
      have hx1:=HG12.out.1;have hx2:=HG12.out.2;have hx3:=vy.out.ine.rdAt;have hx4:=HM.out;show onM (.bool true) _<onM (.bool true) _;unfold onM;rw[hx3,hx4];simp only;omega
    |bad e4 p4=>
     have hTB:=HTB.out e4 p4 ho2;have HT4:=zh hTB;rw[ho2]at pz;refine pz.out.mono ?_;rintro e w9 ⟨cs3,k4,op4,nd4,rfl,b1,b2,g1,g2,g3,g5,g6⟩;obtain⟨l3,rfl⟩:∃ l3:List Value,cs3=l3.toArray:=⟨cs3.toList,by simp⟩
     have hl3:l3.length=22:=by rwa [yd]at b1
     have tw:=zh hl3;have im:=zh b2;have yy:=zh (HN7.out.kp g6);have ob:=zh ((al.out.own.kp tv.out).kp g6);have fv:=zh ((al.out.own8.kp tv.out).kp g6);have mj:=zh ((al.out.kp.trans tv.out).trans g6);have jt:=zh al.out.len;have vu:q8≠q11:=by have:=al.out.own8.li.lt;have:=HQ11.out;omega
     have hne12:q≠q11:=by have:=al.out.own.li.lt;have:=HQ11.out;omega
     have oc:Kp [q11] w9 (w9.setCells q11 0 l3):=aT (.inl (.head _)) l3 0 (Kp.refl _ _);have rz:=zh (g5.own hE yy.out (by decide) (by decide) oc);have fj:=zh (mj.out.own yy.out oc);have HA10:Hid (Own1 E w (w9.setCells q11 0 l3) q 41 aA.toArray):=zh ⟨ob.out.fr,ob.out.ge,oc.lies ob.out.li (fun hm=>hne12 (yf.1 hm))⟩;have vz:Hid (Own1 E w (w9.setCells q11 0 l3) q8 41 l2.toArray):=zh ⟨fv.out.fr,fv.out.ge,oc.lies fv.out.li (fun hm=>vu (yf.1 hm))⟩;have vv:Hid (Lies (w9.setCells q11 0 l3) q11 41 l3.toArray):=zh (yy.out.li.putAll hl3);have vw:Hid ((w9.setCells q11 0 l3).heap.size=w9.heap.size):=zh (eY ..);have HT:Hid (w9.there q11 0 l3.toArray.size):=zh (by have h:=yy.out.li.thereA;rw[show l3.toArray.size=22 from hl3];exact h)
     have qc:(Tryz.prog.info? 41).map (·.size)=some l3.toArray.size:=by rw[show l3.toArray.size=22 from hl3];exact aF
     have sq:=al.out.nc;have hle:=al.out.le;have HKf:=zh (⟨by omega,g2,by omega⟩:k<=k4/\k4<E.L.length/\nd4+1+k<=nd+k4);have CN:=zh (fun W h=>gI E hE k4 op4 nd4 p4 e4 (uCC tx (some ⟨w9.heap.size,0,none⟩) 2 2) rfl (oG _ _ _ _) W h (by omega));obtain⟨C,hC,ah,fd,-⟩:=eO (nd4+1) (uCC tx (some ⟨w9.heap.size,0,none⟩) 2 2) rfl (oG _ _ _ _);rw[hC]at CN;have yC:=zh ah;have fa:=zh fd;clear b1 b2 g1 g2 g3 g5 g6 hl3 oc pz ry f9 HN7 yy ob fv mj hC ah fd sq hle hTB
     go_wp2_with (first |(refine yq rfl 41 (.tmp 11) (.tmp 44) rfl q11 0 l3.toArray rfl rfl HT.out qc im.out ?_;change wpList _ _ _ _ _ (w9.setCells q11 0 l3);generalize w9.setCells q11 0 l3=w10 at rz fj HA10 vz vv vw ⊢;dsimp only[Act.put]) |(refine yr rfl 41 (.tmp 8) rfl q8 0 rfl l2 _ (by simpa using vz.out.li.range) Tryz.underlying41 rfl (by rw[jt.out];exact aF) ?_) |(refine yr rfl 41 (.tmp 11) rfl q11 0 rfl l3 _ (by simpa using vv.out.range) Tryz.underlying41 rfl (by rw[tw.out];exact aF) ?_) |(refine uO rfl (.tmp 48) (.tmp 49) rfl l2 l3 rfl rfl jt.out tw.out w9.heap.size vw.out (some 50) rfl ?_))
     have v7:Below w10.heap.size w10 (w10.alloc (.cells (l2++l3).toArray 41)):=(zp _);have vx:=zh (rz.out.next v7);have fp:=zh (fj.out.trans (Kp.of_below v7));have HA11:=zh (HA10.out.next v7);have HB11:=zh (vz.out.next v7);clear v7;refine(CN.out _ vx.out).mono ?_;rintro e w12 ⟨rfl,h1,h2⟩;have HI12:=zh h1;have jb:=zh (fp.out.trans h2.X);have HA12:=zh (HA11.out.kp h2.X);have tz:=zh (HB11.out.kp h2.X);have hk8:Kp [q8] w12 (w12.setCells q8 0 C):=aT (.inl (.head _)) C 0 (Kp.refl _ _)
     have iq:Hid (LevB E w k nd q q8 T (w12.setCells q8 0 C)):=zh ⟨k4,op4,nd4+1,e4,p4,C,HT4.out,HI12.out.own hE tz.out (by decide) (by decide) hk8,jb.out.own tz.out hk8,⟨HA12.out.fr,HA12.out.ge,hk8.lies HA12.out.li (fun hm=>bp (yf.1 hm))⟩,⟨tz.out.fr,tz.out.ge,tz.out.li.putAll (by rw[yC.out];exact jt.out.symm)⟩,yC.out,fa.out,HKf.out.1,HKf.out.2.1,HKf.out.2.2⟩;have HT:Hid (w12.there q8 0 C.toArray.size):=zh (by have h:=tz.out.li.thereA;rw[show C.toArray.size=22 from yC.out];rw[show l2.toArray.size=22 from jt.out]at h;exact h);have px:(Tryz.prog.info? 41).map (·.size)=some C.toArray.size:=by rw[show C.toArray.size=22 from yC.out];exact aF
     clear h1 h2 hk8 CN vx rz HI12 jb HA12 fp HA11 HB11 qc
     go_wp2_with (first |(refine yq rfl 41 (.tmp 8) (.tmp 52) rfl q8 0 C.toArray rfl rfl HT.out px fa.out ?_;change wpList _ _ _ _ _ (w12.setCells q8 0 C);generalize w12.setCells q8 0 C=w13 at iq ⊢;dsimp only[Act.put]))
     go_roundw
     case rel=>exact .inr ⟨rfl,iq⟩
     case measure=>
      show onM (.bool false) _<onM (.bool true) _;unfold onM;simp only;omega
   have hs0:jC sg (E.at k2)=false:=by simpa using hs
   have HG:Hid (T=.ok t2 (E.L.drop k2) c2):=zh (by
    obtain⟨fu,hfu,j9⟩:=ed.out.go;rw[<- j9];cases fu with
    |zero=>have:=ed.out.lt;omega
    |succ fu=>
     unfold gW;rw[show jC sg (hd (E.L.drop k2))=false from hs0];rfl)
   have ow:=isLev_no hs0;clear hs hs0;have CT2:=zh (fun W h=>CT.out k2 c2 W h ed.out.lt);have tu:=zh (fun W h=>HSG.out k2 c2 W h);clear CT HSG;generalize E.at k2=tt at *;obtain⟨tk,tx,tp⟩:=tt;dsimp only[tkV]at CT2 ow ⊢;have xz:=lK;have hf1:=mK;rcases ow with h5|⟨h5,sq⟩
   ·have n5:((tk:Int)==5)=false:=by simp;omega
    clear h5
    go_wp2_with fail
    refine(CT2.out _ ed.out.ine).mono ?_;rintro e w6 ⟨rfl,hb⟩;have al:=zh (ed.out.next hb);clear hb CT2 ed tu;have HT:Hid (w6.there q 0 l2.toArray.size):=zh (by have h:=al.out.own.li.thereA;rw[show l2.toArray.size=22 from al.out.nv.1];exact h);have mp:Hid (w6.rangeAt q8 0 l2):=zh (by simpa using al.out.own8.li.range);have zi:(Tryz.prog.info? 41).map (·.size)=some l2.length:=by rw[al.out.len];exact aF
    have dc:=zh al.out.nv.2.1
    go_wp2_with (first |(refine yr rfl 41 (.tmp 8) rfl q8 0 rfl l2 _ mp.out Tryz.underlying41 rfl zi ?_) |(refine yq rfl 41 (.tmp 6) (.tmp 53) rfl q 0 l2.toArray rfl rfl HT.out zi dc.out ?_;change wpList _ _ _ _ _ (w6.setCells q 0 l2);generalize fe:w6.setCells q 0 l2=w7))
    have bn:Kp [q] w6 w7:=by rw[<- fe];exact aT (.inl (.head _)) l2 0 (Kp.refl _ _)
    have dx:Hid (Lies w7 q 41 l2.toArray):=zh (by rw[<- fe];exact al.out.own.li.putAll al.out.len);refine yt (aM rfl rfl dx.out al.out.nv.1) rfl ?_;rw[HG.out];have nr:∀ y∈[q],y∈q8::List.range m:=fun y hy=>by rw[yf.1 hy];exact al.out.qin
    exact⟨k2,l2.toArray,rfl,al.out.le,al.out.lt,rfl,al.out.nc,al.out.nn,al.out.ine.own hE al.out.own (by decide) (by decide) bn,al.out.kp.own al.out.own bn,(al.out.nv.kpX bn nr).anti (fun y hy _=>zg _ (yg.2 (Nat.lt_trans (yg.1 hy) al.out.wm)))⟩
   subst h5
   go_wp2_with fail
   refine(CT2.out _ ed.out.ine).mono ?_;rintro e w5 ⟨rfl,hb⟩;have az:=zh (ed.out.next hb);clear hb ed
   go_wp2_with fail
   refine(CT2.out _ az.out.ine).mono ?_;rintro e w6 ⟨rfl,hb⟩;have al:=zh (az.out.next hb);clear hb CT2 az;obtain⟨cm,mz⟩:=tu.out _ al.out.ine;have mt:=oU sg mb cm w6 mz tx;rw[sq]at mt;clear tu mz sq;have HT:Hid (w6.there q 0 l2.toArray.size):=zh (by have h:=al.out.own.li.thereA;rw[show l2.toArray.size=22 from al.out.nv.1];exact h);have mp:Hid (w6.rangeAt q8 0 l2):=zh (by simpa using al.out.own8.li.range);have zi:(Tryz.prog.info? 41).map (·.size)=some l2.length:=by rw[al.out.len];exact aF
   have dc:=zh al.out.nv.2.1
   go_wp2_with (first |(refine yr rfl 41 (.tmp 8) rfl q8 0 rfl l2 _ mp.out Tryz.underlying41 rfl zi ?_) |(refine yq rfl 41 (.tmp 6) (.tmp 53) rfl q 0 l2.toArray rfl rfl HT.out zi dc.out ?_;change wpList _ _ _ _ _ (w6.setCells q 0 l2);generalize fe:w6.setCells q 0 l2=w7))
   have bn:Kp [q] w6 w7:=by rw[<- fe];exact aT (.inl (.head _)) l2 0 (Kp.refl _ _)
   have dx:Hid (Lies w7 q 41 l2.toArray):=zh (by rw[<- fe];exact al.out.own.li.putAll al.out.len);refine yt (aM rfl rfl dx.out al.out.nv.1) rfl ?_;rw[HG.out];have nr:∀ y∈[q],y∈q8::List.range m:=fun y hy=>by rw[yf.1 hy];exact al.out.qin
   exact⟨k2,l2.toArray,rfl,al.out.le,al.out.lt,rfl,al.out.nc,al.out.nn,al.out.ine.own hE al.out.own (by decide) (by decide) bn,al.out.kp.own al.out.own bn,(al.out.nv.kpX bn nr).anti (fun y hy _=>zg _ (yg.2 (Nat.lt_trans (yg.1 hy) al.out.wm)))⟩
  obtain⟨k4,op4,nd4,e4,p4,l,hT,h1,h2,h3,h4,h5,h6,h7,h8,h9⟩:=hrel.out.ex;have ez:=zh h1;have fb:=zh h2;have iw:=zh h3;have ai:=zh h5;have yo:=zh h6;have HKb:=zh (⟨h7,h8,h9⟩:k<=k4/\k4<E.L.length/\nd4+k<=nd+k4);have HTb:=zh hT;have HT:Hid (wr.there q 0 l.toArray.size):=zh (by have h:=h3.li.thereA;rw[show l.toArray.size=22 from h5];exact h);have mp:Hid (wr.rangeAt q8 0 l):=zh (by simpa using h4.li.range);clear h1 h2 h3 h4 h5 h6 h7 h8 h9 hT hrel HS CT;have zi:(Tryz.prog.info? 41).map (·.size)=some l.length:=by rw[ai.out];exact aF
  go_wp2_with (first |(refine yr rfl 41 (.tmp 8) rfl q8 0 rfl l _ mp.out Tryz.underlying41 rfl zi ?_) |(refine yq rfl 41 (.tmp 6) (.tmp 53) rfl q 0 l.toArray rfl rfl HT.out zi yo.out ?_;change wpList _ _ _ _ _ (wr.setCells q 0 l);generalize fe:wr.setCells q 0 l=w7))
  have bn:Kp [q] wr w7:=by rw[<- fe];exact aT (.inl (.head _)) l 0 (Kp.refl _ _)
  have dx:Hid (Lies w7 q 41 l.toArray):=zh (by rw[<- fe];exact iw.out.li.putAll ai.out);refine yt (aM rfl rfl dx.out ai.out) rfl ?_;rw[HTb.out];exact⟨l.toArray,k4,op4,nd4,rfl,ai.out,yo.out,HKb.out.1,HKb.out.2.1,HKb.out.2.2,ez.out.own hE iw.out (by decide) (by decide) bn,fb.out.own iw.out bn⟩
set_option maxRecDepth 100000 in
theorem uHS(E:Env)(hE:E.ok)(f:Nat)(hf:∀ args W,(callFunc f args).run Tryz.prog W=.ok (.enter f args) W)(next:List Tok->Nat->Out)(op:Nat)(hp:dP E f next op)(sg:List Bs)(mb:Nat)(k nd pl er:Nat)(w:World)(hI:InE E k op nd pl er w)(hk:k<E.L.length)(hn:nd<=k)(e0 p0:Nat)(ho:next (E.L.drop k) nd=.bad e0 p0) :
  Calls Tryz.prog 35 #[.pointer (some ⟨E.r,0,none⟩),.func (.func f) #[.pointer (some ⟨E.r,0,none⟩)] #[],.map (some mb)] w (NPost E w k op nd pl er (cH next sg (E.L.drop k) nd)):=by
 have hT:cH next sg (E.L.drop k) nd=.bad e0 p0:=by unfold cH;rw[ho]
 rw[hT];have co:=zh (hI.next (zp (.cells aA.toArray 41)));have CP:=zh (hp k nd pl er _ co.out hk hn);rw[ho]at CP;have cj:Hid (Kp E.X w (w.alloc (.cells aA.toArray 41))):=zh ((Kp.refl _ _).alloc _);have cg:=zh (Own1.new hI (Kp.refl E.X w) 41 aA.toArray);have HF:=zh hI;clear hI ho hT hp;simp only[aA]at co cj cg CP
 go_enter Tryz.func35,Tryz.ntmps35
 go_upto_region 1 with fail
 generalize w.alloc (.cells zM 41)=W1 at co cj cg CP ⊢;generalize en:w.heap.size=q at cg ⊢;clear en
 go_wp2_with fail
 refine CP.out.mono ?_;rintro e w2 ⟨cs,k1,op1,nd1,rfl,h1,h2,h3,h4,h5,h6,h7⟩;obtain⟨l,rfl⟩:∃ l:List Value,cs=l.toArray:=⟨cs.toList,by simp⟩
 have ai:Hid (l.length=22):=zh (by rwa [yd]at h1);have yo:=zh h2;have bv:=zh (cg.out.kp h7);have bq:=zh (cj.out.trans h7);have dg:=zh h6;have pu:=zh (⟨h3,h4,h5⟩:k<=k1/\k1<E.L.length/\nd1+k<=nd+k1);clear h1 h2 h3 h4 h5 h6 h7 co cj cg CP;have aq:Hid (Below w2.heap.size w2 (w2.alloc (.cells zM 41))):=zh (zp _)
 have im:Hid (Own1 E w (w2.alloc (.cells zM 41)) w2.heap.size 41 zM):=zh (Own1.new HF.out bq.out 41 zM)
 have bp:q≠w2.heap.size:=by have:=bv.out.li.lt;omega
 have HC:Hid (∀ W3,W3=(w2.alloc (.cells zM 41)).setCells w2.heap.size 0 l->InE E k1 op1 nd1 p0 e0 W3/\Kp E.X w W3/\Own1 E w W3 q 41 aA.toArray/\Own1 E w W3 w2.heap.size 41 l.toArray):=zh (fun W3 e=>by
  subst e;have hb:Below w2.heap.size w2 ((w2.alloc (.cells zM 41)).setCells w2.heap.size 0 l):=eH zr l 0 aq.out;exact⟨dg.out.next hb,bq.out.trans (Kp.of_below hb),bv.out.next hb,⟨im.out.fr,im.out.ge,im.out.li.putAll ai.out⟩⟩)
 have HT:Hid ((w2.alloc (.cells zM 41)).there w2.heap.size 0 l.toArray.size):=zh (by have h:=im.out.li.thereA;rw[show l.toArray.size=22 from ai.out];exact h);have zi:(Tryz.prog.info? 41).map (·.size)=some l.toArray.size:=by rw[yd,ai.out];exact aF
 go_wp2_with (first |(refine yq rfl 41 (.tmp 8) (.tmp 15) rfl w2.heap.size 0 l.toArray rfl rfl HT.out zi yo.out ?_;change wpList _ _ _ _ _ ((w2.alloc (.cells zM 41)).setCells w2.heap.size 0 l);generalize l5:(w2.alloc (.cells zM 41)).setCells w2.heap.size 0 l=W3))
 obtain⟨g1,g2,g3,g4⟩:=HC.out W3 l5.symm;have ez:=zh g1;have fb:=zh g2;have iw:=zh g3;have HB3':=zh g4;clear g1 g2 g3 g4 HC HT zi aq im bv bq dg l5;generalize w2.heap.size=q4 at *
 go_loopw [9] (fun v wr=>v=.bool false/\Hid (wr=W3)) (fun _ _=>0)
 case atStart=>exact⟨rfl,zh rfl⟩
 case round=>
  obtain⟨rfl,hrel⟩:=hrel;have hwr:=hrel.out;subst hwr;have HT:Hid (wr.there q 0 l.toArray.size):=zh (by have h:=iw.out.li.thereA;rw[show l.toArray.size=22 from ai.out];exact h);have mp:Hid (wr.rangeAt q4 0 l):=zh (by simpa using HB3'.out.li.range);have zi:(Tryz.prog.info? 41).map (·.size)=some l.length:=by rw[ai.out];exact aF
  go_wp2_with (first |(refine yr rfl 41 (.tmp 8) rfl q4 0 rfl l _ mp.out Tryz.underlying41 rfl zi ?_) |(refine yq rfl 41 (.tmp 6) (.tmp 53) rfl q 0 l.toArray rfl rfl HT.out zi yo.out ?_;change wpList _ _ _ _ _ (wr.setCells q 0 l);generalize fe:wr.setCells q 0 l=w7))
  have bn:Kp [q] wr w7:=by rw[<- fe];exact aT (.inl (.head _)) l 0 (Kp.refl _ _)
  have dx:Hid (Lies w7 q 41 l.toArray):=zh (by rw[<- fe];exact iw.out.li.putAll ai.out);refine yt (aM rfl rfl dx.out ai.out) rfl ?_;exact⟨l.toArray,k1,op1,nd1,rfl,ai.out,yo.out,pu.out.1,pu.out.2.1,pu.out.2.2,ez.out.own hE iw.out (by decide) (by decide) bn,fb.out.own iw.out bn⟩
theorem kJ(E:Env)(hE:E.ok)(he:E.ends)(hL:E.L.length<=1000000)(f:Nat)(hf:∀ args W,(callFunc f args).run Tryz.prog W=.ok (.enter f args) W)(next:List Tok->Nat->Out)(op:Nat)(hp:dP E f next op)(ix:Nat)(hix:ix<eG.length)(k nd pl er:Nat)(w:World)(hI:InE E k op nd pl er w)(hk:k<E.L.length)(hn:nd<=k) :
  Calls Tryz.prog 35 #[.pointer (some ⟨E.r,0,none⟩),.func (.func f) #[.pointer (some ⟨E.r,0,none⟩)] #[],.map (some (E.sg+1+ix))] w (NPost E w k op nd pl er (cH next eG[ix] (E.L.drop k) nd)):=by
 cases ho:next (E.L.drop k) nd with
 |ok t ts c=>exact level_ok E hE he hL f hf next op hp ix hix k nd pl er w hI hk hn t ts c ho
 |bad e p=>exact uHS E hE f hf next op hp _ _ k nd pl er w hI hk hn e p ho
theorem iF(q j b:Nat)(W:World)(hb:W.heap[q]?=some (.map (wP q) 6))(hf:Instr.findNow (.int .i64) (.int .i64 (j:Int)) (wP q).toList 0=some (some (j,.map (some b)))) :
  (Instr.lookup 63 (.map (some q)) (.int .i64 (j:Int)) false).run Tryz.prog W=.ok (.map (some b)) W:=by
 have hc:(Instr.checkKey (wP q).isEmpty 10000 3 (.int .i64 (j:Int))).run Tryz.prog W=.ok () W:=MapKept.run_checkKey (k:=.int .i64 (j:Int)) uInt rfl _ 9999;simp[Instr.lookup,run_underlying uSgO,MapKept.run_getObj_map hb,hc,MapKept.run_findKey uInt hf,Result.andThen]
set_option maxRecDepth 100000 in
theorem power_any(E:Env)(hE:E.ok)(he:E.ends)(hL:E.L.length<=1000000)(next:List Tok->Nat->Out)(op:Nat)(hp:dP E 107 next op):dP E 94 (cH next wQ) op:=by
 intro k nd pl er w hI hk hn;have co:=zh (hI.next (zp (.cells aA.toArray 41)));have CP:=zh (kJ E hE he hL 107 (enters_of Tryz.func107 (by kernel_rfl) rfl) next op hp 4 (by decide) k nd pl er _ co.out hk hn);have lp:eG[4]=wQ:=rfl;rw[lp]at CP;have cj:Hid (Kp E.X w (w.alloc (.cells aA.toArray 41))):=zh ((Kp.refl _ _).alloc _);have cg:=zh (Own1.new hI (Kp.refl E.X w) 41 aA.toArray);have c8:Hid (w.heap.size<(w.alloc (.cells aA.toArray 41)).heap.size):=zh (by simp);clear hI hp lp;simp only[aA]at co cj cg CP c8;generalize hO:cH next wQ (E.L.drop k) nd=O at *;clear hO
 go_enter Tryz.func94,Tryz.ntmps94
 go_upto_region 1 with fail
 generalize w.alloc (.cells zM 41)=W1 at co cj cg CP c8 ⊢;generalize en:w.heap.size=q at cg ⊢;have rf:=zh en;clear en;have r6:=co.out.rd.cell 6;simp only[za,zb,zf]at r6;have mt:(Instr.lookup 63 (.map (some E.sg)) (.int .i64 4) false).run Tryz.prog W1=.ok (.map (some (E.sg+1+4))) W1:=iF E.sg 4 (E.sg+1+4) W1 co.out.sg.out rfl
 go_wp2_with fail
 refine CP.out.mono ?_;cases O with
 |ok t ts c=>
  rintro e w2 ⟨k1,cs,rfl,h1,h2,h3,h4,h5,h6,h7,h8⟩;obtain⟨l,rfl⟩:∃ l:List Value,cs=l.toArray:=⟨cs.toList,by simp⟩
  have ai:Hid (l.length=22):=zh (by have:=h8.1;rwa [yd]at this);have yo:=zh h8.2.1;have dg:=zh h6;have ii:=h7;have HX:=zh (⟨h1,h2,h3,h4,h5,h8⟩:k<=k1/\k1<E.L.length/\ts=E.L.drop k1/\c+k<=nd+k1/\nd<=c/\NV w2 (List.range W1.heap.size) c t l.toArray);clear h1 h2 h3 h4 h5 h6 h7 h8;have bv:=zh (cg.out.kp ii);have bq:=zh (cj.out.trans ii);have HT:Hid (w2.there q 0 l.toArray.size):=zh (by have h:=bv.out.li.thereA;rw[show l.toArray.size=22 from ai.out];exact h);have zi:(Tryz.prog.info? 41).map (·.size)=some l.toArray.size:=by rw[show l.toArray.size=22 from ai.out];exact aF
  clear co cg cj CP ii mt r6
  go_wp2_with (first |(refine yq rfl 41 (.tmp 2) (.tmp 13) rfl q 0 l.toArray rfl rfl HT.out zi yo.out ?_;change wpList _ _ _ _ _ (w2.setCells q 0 l);generalize fe:w2.setCells q 0 l=w7))
  have bn:Kp [q] w2 w7:=by rw[<- fe];exact aT (.inl (.head _)) l 0 (Kp.refl _ _)
  have dx:Hid (Lies w7 q 41 l.toArray):=zh (by rw[<- fe];exact bv.out.li.putAll ai.out);refine yt (aM rfl rfl dx.out ai.out) rfl ?_;exact⟨k1,l.toArray,rfl,HX.out.1,HX.out.2.1,HX.out.2.2.1,HX.out.2.2.2.1,HX.out.2.2.2.2.1,dg.out.own hE bv.out (by decide) (by decide) bn,bq.out.own bv.out bn,(HX.out.2.2.2.2.2.kpX bn (fun y hy=>by rw[yf.1 hy];exact yg.2 (by have:=c8.out;have:=rf.out;omega))).anti (fun y hy _=>yg.2 (Nat.lt_trans (yg.1 hy) c8.out))⟩
 |bad e0 p0=>
  rintro e w2 ⟨cs,k1,op1,nd1,rfl,h1,h2,h3,h4,h5,h6,h7⟩;obtain⟨l,rfl⟩:∃ l:List Value,cs=l.toArray:=⟨cs.toList,by simp⟩
  have ai:Hid (l.length=22):=zh (by rwa [yd]at h1);have yo:=zh h2;have dg:=zh h6;have ii:=h7;have HX:=zh (⟨h3,h4,h5⟩:k<=k1/\k1<E.L.length/\nd1+k<=nd+k1);clear h1 h2 h3 h4 h5 h6 h7;have bv:=zh (cg.out.kp ii);have bq:=zh (cj.out.trans ii);have HT:Hid (w2.there q 0 l.toArray.size):=zh (by have h:=bv.out.li.thereA;rw[show l.toArray.size=22 from ai.out];exact h);have zi:(Tryz.prog.info? 41).map (·.size)=some l.toArray.size:=by rw[show l.toArray.size=22 from ai.out];exact aF
  clear co cg cj CP ii mt r6
  go_wp2_with (first |(refine yq rfl 41 (.tmp 2) (.tmp 13) rfl q 0 l.toArray rfl rfl HT.out zi yo.out ?_;change wpList _ _ _ _ _ (w2.setCells q 0 l);generalize fe:w2.setCells q 0 l=w7))
  have bn:Kp [q] w2 w7:=by rw[<- fe];exact aT (.inl (.head _)) l 0 (Kp.refl _ _)
  have dx:Hid (Lies w7 q 41 l.toArray):=zh (by rw[<- fe];exact bv.out.li.putAll ai.out);refine yt (aM rfl rfl dx.out ai.out) rfl ?_;exact⟨l.toArray,k1,op1,nd1,rfl,ai.out,yo.out,HX.out.1,HX.out.2.1,HX.out.2.2,dg.out.own hE bv.out (by decide) (by decide) bn,bq.out.own bv.out bn⟩
set_option maxRecDepth 100000 in
theorem uAX(E:Env)(hE:E.ok)(he:E.ends)(hL:E.L.length<=1000000)(next:List Tok->Nat->Out)(op:Nat)(hp:dP E 94 next op):dP E 76 (cH next wO) op:=by
 intro k nd pl er w hI hk hn;have co:=zh (hI.next (zp (.cells aA.toArray 41)));have CP:=zh (kJ E hE he hL 94 (enters_of Tryz.func94 (by kernel_rfl) rfl) next op hp 3 (by decide) k nd pl er _ co.out hk hn);have lp:eG[3]=wO:=rfl;rw[lp]at CP;have cj:Hid (Kp E.X w (w.alloc (.cells aA.toArray 41))):=zh ((Kp.refl _ _).alloc _);have cg:=zh (Own1.new hI (Kp.refl E.X w) 41 aA.toArray);have c8:Hid (w.heap.size<(w.alloc (.cells aA.toArray 41)).heap.size):=zh (by simp);clear hI hp lp;simp only[aA]at co cj cg CP c8;generalize hO:cH next wO (E.L.drop k) nd=O at *;clear hO
 go_enter Tryz.func76,Tryz.ntmps76
 go_upto_region 1 with fail
 generalize w.alloc (.cells zM 41)=W1 at co cj cg CP c8 ⊢;generalize en:w.heap.size=q at cg ⊢;have rf:=zh en;clear en;have r6:=co.out.rd.cell 6;simp only[za,zb,zf]at r6;have mt:(Instr.lookup 63 (.map (some E.sg)) (.int .i64 3) false).run Tryz.prog W1=.ok (.map (some (E.sg+1+3))) W1:=iF E.sg 3 (E.sg+1+3) W1 co.out.sg.out rfl
 go_wp2_with fail
 refine CP.out.mono ?_;cases O with
 |ok t ts c=>
  rintro e w2 ⟨k1,cs,rfl,h1,h2,h3,h4,h5,h6,h7,h8⟩;obtain⟨l,rfl⟩:∃ l:List Value,cs=l.toArray:=⟨cs.toList,by simp⟩
  have ai:Hid (l.length=22):=zh (by have:=h8.1;rwa [yd]at this);have yo:=zh h8.2.1;have dg:=zh h6;have ii:=h7;have HX:=zh (⟨h1,h2,h3,h4,h5,h8⟩:k<=k1/\k1<E.L.length/\ts=E.L.drop k1/\c+k<=nd+k1/\nd<=c/\NV w2 (List.range W1.heap.size) c t l.toArray);clear h1 h2 h3 h4 h5 h6 h7 h8;have bv:=zh (cg.out.kp ii);have bq:=zh (cj.out.trans ii);have HT:Hid (w2.there q 0 l.toArray.size):=zh (by have h:=bv.out.li.thereA;rw[show l.toArray.size=22 from ai.out];exact h);have zi:(Tryz.prog.info? 41).map (·.size)=some l.toArray.size:=by rw[show l.toArray.size=22 from ai.out];exact aF
  clear co cg cj CP ii mt r6
  go_wp2_with (first |(refine yq rfl 41 (.tmp 2) (.tmp 13) rfl q 0 l.toArray rfl rfl HT.out zi yo.out ?_;change wpList _ _ _ _ _ (w2.setCells q 0 l);generalize fe:w2.setCells q 0 l=w7))
  have bn:Kp [q] w2 w7:=by rw[<- fe];exact aT (.inl (.head _)) l 0 (Kp.refl _ _)
  have dx:Hid (Lies w7 q 41 l.toArray):=zh (by rw[<- fe];exact bv.out.li.putAll ai.out);refine yt (aM rfl rfl dx.out ai.out) rfl ?_;exact⟨k1,l.toArray,rfl,HX.out.1,HX.out.2.1,HX.out.2.2.1,HX.out.2.2.2.1,HX.out.2.2.2.2.1,dg.out.own hE bv.out (by decide) (by decide) bn,bq.out.own bv.out bn,(HX.out.2.2.2.2.2.kpX bn (fun y hy=>by rw[yf.1 hy];exact yg.2 (by have:=c8.out;have:=rf.out;omega))).anti (fun y hy _=>yg.2 (Nat.lt_trans (yg.1 hy) c8.out))⟩
 |bad e0 p0=>
  rintro e w2 ⟨cs,k1,op1,nd1,rfl,h1,h2,h3,h4,h5,h6,h7⟩;obtain⟨l,rfl⟩:∃ l:List Value,cs=l.toArray:=⟨cs.toList,by simp⟩
  have ai:Hid (l.length=22):=zh (by rwa [yd]at h1);have yo:=zh h2;have dg:=zh h6;have ii:=h7;have HX:=zh (⟨h3,h4,h5⟩:k<=k1/\k1<E.L.length/\nd1+k<=nd+k1);clear h1 h2 h3 h4 h5 h6 h7;have bv:=zh (cg.out.kp ii);have bq:=zh (cj.out.trans ii);have HT:Hid (w2.there q 0 l.toArray.size):=zh (by have h:=bv.out.li.thereA;rw[show l.toArray.size=22 from ai.out];exact h);have zi:(Tryz.prog.info? 41).map (·.size)=some l.toArray.size:=by rw[show l.toArray.size=22 from ai.out];exact aF
  clear co cg cj CP ii mt r6
  go_wp2_with (first |(refine yq rfl 41 (.tmp 2) (.tmp 13) rfl q 0 l.toArray rfl rfl HT.out zi yo.out ?_;change wpList _ _ _ _ _ (w2.setCells q 0 l);generalize fe:w2.setCells q 0 l=w7))
  have bn:Kp [q] w2 w7:=by rw[<- fe];exact aT (.inl (.head _)) l 0 (Kp.refl _ _)
  have dx:Hid (Lies w7 q 41 l.toArray):=zh (by rw[<- fe];exact bv.out.li.putAll ai.out);refine yt (aM rfl rfl dx.out ai.out) rfl ?_;exact⟨l.toArray,k1,op1,nd1,rfl,ai.out,yo.out,HX.out.1,HX.out.2.1,HX.out.2.2,dg.out.own hE bv.out (by decide) (by decide) bn,bq.out.own bv.out bn⟩
set_option maxRecDepth 100000 in
theorem sum_any(E:Env)(hE:E.ok)(he:E.ends)(hL:E.L.length<=1000000)(next:List Tok->Nat->Out)(op:Nat)(hp:dP E 76 next op):dP E 49 (cH next gM) op:=by
 intro k nd pl er w hI hk hn;have co:=zh (hI.next (zp (.cells aA.toArray 41)));have CP:=zh (kJ E hE he hL 76 (enters_of Tryz.func76 (by kernel_rfl) rfl) next op hp 2 (by decide) k nd pl er _ co.out hk hn);have lp:eG[2]=gM:=rfl;rw[lp]at CP;have cj:Hid (Kp E.X w (w.alloc (.cells aA.toArray 41))):=zh ((Kp.refl _ _).alloc _);have cg:=zh (Own1.new hI (Kp.refl E.X w) 41 aA.toArray);have c8:Hid (w.heap.size<(w.alloc (.cells aA.toArray 41)).heap.size):=zh (by simp);clear hI hp lp;simp only[aA]at co cj cg CP c8;generalize hO:cH next gM (E.L.drop k) nd=O at *;clear hO
 go_enter Tryz.func49,Tryz.ntmps49
 go_upto_region 1 with fail
 generalize w.alloc (.cells zM 41)=W1 at co cj cg CP c8 ⊢;generalize en:w.heap.size=q at cg ⊢;have rf:=zh en;clear en;have r6:=co.out.rd.cell 6;simp only[za,zb,zf]at r6;have mt:(Instr.lookup 63 (.map (some E.sg)) (.int .i64 2) false).run Tryz.prog W1=.ok (.map (some (E.sg+1+2))) W1:=iF E.sg 2 (E.sg+1+2) W1 co.out.sg.out rfl
 go_wp2_with fail
 refine CP.out.mono ?_;cases O with
 |ok t ts c=>
  rintro e w2 ⟨k1,cs,rfl,h1,h2,h3,h4,h5,h6,h7,h8⟩;obtain⟨l,rfl⟩:∃ l:List Value,cs=l.toArray:=⟨cs.toList,by simp⟩
  have ai:Hid (l.length=22):=zh (by have:=h8.1;rwa [yd]at this);have yo:=zh h8.2.1;have dg:=zh h6;have ii:=h7;have HX:=zh (⟨h1,h2,h3,h4,h5,h8⟩:k<=k1/\k1<E.L.length/\ts=E.L.drop k1/\c+k<=nd+k1/\nd<=c/\NV w2 (List.range W1.heap.size) c t l.toArray);clear h1 h2 h3 h4 h5 h6 h7 h8;have bv:=zh (cg.out.kp ii);have bq:=zh (cj.out.trans ii);have HT:Hid (w2.there q 0 l.toArray.size):=zh (by have h:=bv.out.li.thereA;rw[show l.toArray.size=22 from ai.out];exact h);have zi:(Tryz.prog.info? 41).map (·.size)=some l.toArray.size:=by rw[show l.toArray.size=22 from ai.out];exact aF
  clear co cg cj CP ii mt r6
  go_wp2_with (first |(refine yq rfl 41 (.tmp 2) (.tmp 13) rfl q 0 l.toArray rfl rfl HT.out zi yo.out ?_;change wpList _ _ _ _ _ (w2.setCells q 0 l);generalize fe:w2.setCells q 0 l=w7))
  have bn:Kp [q] w2 w7:=by rw[<- fe];exact aT (.inl (.head _)) l 0 (Kp.refl _ _)
  have dx:Hid (Lies w7 q 41 l.toArray):=zh (by rw[<- fe];exact bv.out.li.putAll ai.out);refine yt (aM rfl rfl dx.out ai.out) rfl ?_;exact⟨k1,l.toArray,rfl,HX.out.1,HX.out.2.1,HX.out.2.2.1,HX.out.2.2.2.1,HX.out.2.2.2.2.1,dg.out.own hE bv.out (by decide) (by decide) bn,bq.out.own bv.out bn,(HX.out.2.2.2.2.2.kpX bn (fun y hy=>by rw[yf.1 hy];exact yg.2 (by have:=c8.out;have:=rf.out;omega))).anti (fun y hy _=>yg.2 (Nat.lt_trans (yg.1 hy) c8.out))⟩
 |bad e0 p0=>
  rintro e w2 ⟨cs,k1,op1,nd1,rfl,h1,h2,h3,h4,h5,h6,h7⟩;obtain⟨l,rfl⟩:∃ l:List Value,cs=l.toArray:=⟨cs.toList,by simp⟩
  have ai:Hid (l.length=22):=zh (by rwa [yd]at h1);have yo:=zh h2;have dg:=zh h6;have ii:=h7;have HX:=zh (⟨h3,h4,h5⟩:k<=k1/\k1<E.L.length/\nd1+k<=nd+k1);clear h1 h2 h3 h4 h5 h6 h7;have bv:=zh (cg.out.kp ii);have bq:=zh (cj.out.trans ii);have HT:Hid (w2.there q 0 l.toArray.size):=zh (by have h:=bv.out.li.thereA;rw[show l.toArray.size=22 from ai.out];exact h);have zi:(Tryz.prog.info? 41).map (·.size)=some l.toArray.size:=by rw[show l.toArray.size=22 from ai.out];exact aF
  clear co cg cj CP ii mt r6
  go_wp2_with (first |(refine yq rfl 41 (.tmp 2) (.tmp 13) rfl q 0 l.toArray rfl rfl HT.out zi yo.out ?_;change wpList _ _ _ _ _ (w2.setCells q 0 l);generalize fe:w2.setCells q 0 l=w7))
  have bn:Kp [q] w2 w7:=by rw[<- fe];exact aT (.inl (.head _)) l 0 (Kp.refl _ _)
  have dx:Hid (Lies w7 q 41 l.toArray):=zh (by rw[<- fe];exact bv.out.li.putAll ai.out);refine yt (aM rfl rfl dx.out ai.out) rfl ?_;exact⟨l.toArray,k1,op1,nd1,rfl,ai.out,yo.out,HX.out.1,HX.out.2.1,HX.out.2.2,dg.out.own hE bv.out (by decide) (by decide) bn,bq.out.own bv.out bn⟩
set_option maxRecDepth 100000 in
theorem uDF(E:Env)(hE:E.ok)(he:E.ends)(hL:E.L.length<=1000000)(next:List Tok->Nat->Out)(op:Nat)(hp:dP E 49 next op):dP E 36 (cH next qA) op:=by
 intro k nd pl er w hI hk hn;have co:=zh (hI.next (zp (.cells aA.toArray 41)));have CP:=zh (kJ E hE he hL 49 (enters_of Tryz.func49 (by kernel_rfl) rfl) next op hp 1 (by decide) k nd pl er _ co.out hk hn);have lp:eG[1]=qA:=rfl;rw[lp]at CP;have cj:Hid (Kp E.X w (w.alloc (.cells aA.toArray 41))):=zh ((Kp.refl _ _).alloc _);have cg:=zh (Own1.new hI (Kp.refl E.X w) 41 aA.toArray);have c8:Hid (w.heap.size<(w.alloc (.cells aA.toArray 41)).heap.size):=zh (by simp);clear hI hp lp;simp only[aA]at co cj cg CP c8;generalize hO:cH next qA (E.L.drop k) nd=O at *;clear hO
 go_enter Tryz.func36,Tryz.ntmps36
 go_upto_region 1 with fail
 generalize w.alloc (.cells zM 41)=W1 at co cj cg CP c8 ⊢;generalize en:w.heap.size=q at cg ⊢;have rf:=zh en;clear en;have r6:=co.out.rd.cell 6;simp only[za,zb,zf]at r6;have mt:(Instr.lookup 63 (.map (some E.sg)) (.int .i64 1) false).run Tryz.prog W1=.ok (.map (some (E.sg+1+1))) W1:=iF E.sg 1 (E.sg+1+1) W1 co.out.sg.out rfl
 go_wp2_with fail
 refine CP.out.mono ?_;cases O with
 |ok t ts c=>
  rintro e w2 ⟨k1,cs,rfl,h1,h2,h3,h4,h5,h6,h7,h8⟩;obtain⟨l,rfl⟩:∃ l:List Value,cs=l.toArray:=⟨cs.toList,by simp⟩
  have ai:Hid (l.length=22):=zh (by have:=h8.1;rwa [yd]at this);have yo:=zh h8.2.1;have dg:=zh h6;have ii:=h7;have HX:=zh (⟨h1,h2,h3,h4,h5,h8⟩:k<=k1/\k1<E.L.length/\ts=E.L.drop k1/\c+k<=nd+k1/\nd<=c/\NV w2 (List.range W1.heap.size) c t l.toArray);clear h1 h2 h3 h4 h5 h6 h7 h8;have bv:=zh (cg.out.kp ii);have bq:=zh (cj.out.trans ii);have HT:Hid (w2.there q 0 l.toArray.size):=zh (by have h:=bv.out.li.thereA;rw[show l.toArray.size=22 from ai.out];exact h);have zi:(Tryz.prog.info? 41).map (·.size)=some l.toArray.size:=by rw[show l.toArray.size=22 from ai.out];exact aF
  clear co cg cj CP ii mt r6
  go_wp2_with (first |(refine yq rfl 41 (.tmp 2) (.tmp 13) rfl q 0 l.toArray rfl rfl HT.out zi yo.out ?_;change wpList _ _ _ _ _ (w2.setCells q 0 l);generalize fe:w2.setCells q 0 l=w7))
  have bn:Kp [q] w2 w7:=by rw[<- fe];exact aT (.inl (.head _)) l 0 (Kp.refl _ _)
  have dx:Hid (Lies w7 q 41 l.toArray):=zh (by rw[<- fe];exact bv.out.li.putAll ai.out);refine yt (aM rfl rfl dx.out ai.out) rfl ?_;exact⟨k1,l.toArray,rfl,HX.out.1,HX.out.2.1,HX.out.2.2.1,HX.out.2.2.2.1,HX.out.2.2.2.2.1,dg.out.own hE bv.out (by decide) (by decide) bn,bq.out.own bv.out bn,(HX.out.2.2.2.2.2.kpX bn (fun y hy=>by rw[yf.1 hy];exact yg.2 (by have:=c8.out;have:=rf.out;omega))).anti (fun y hy _=>yg.2 (Nat.lt_trans (yg.1 hy) c8.out))⟩
 |bad e0 p0=>
  rintro e w2 ⟨cs,k1,op1,nd1,rfl,h1,h2,h3,h4,h5,h6,h7⟩;obtain⟨l,rfl⟩:∃ l:List Value,cs=l.toArray:=⟨cs.toList,by simp⟩
  have ai:Hid (l.length=22):=zh (by rwa [yd]at h1);have yo:=zh h2;have dg:=zh h6;have ii:=h7;have HX:=zh (⟨h3,h4,h5⟩:k<=k1/\k1<E.L.length/\nd1+k<=nd+k1);clear h1 h2 h3 h4 h5 h6 h7;have bv:=zh (cg.out.kp ii);have bq:=zh (cj.out.trans ii);have HT:Hid (w2.there q 0 l.toArray.size):=zh (by have h:=bv.out.li.thereA;rw[show l.toArray.size=22 from ai.out];exact h);have zi:(Tryz.prog.info? 41).map (·.size)=some l.toArray.size:=by rw[show l.toArray.size=22 from ai.out];exact aF
  clear co cg cj CP ii mt r6
  go_wp2_with (first |(refine yq rfl 41 (.tmp 2) (.tmp 13) rfl q 0 l.toArray rfl rfl HT.out zi yo.out ?_;change wpList _ _ _ _ _ (w2.setCells q 0 l);generalize fe:w2.setCells q 0 l=w7))
  have bn:Kp [q] w2 w7:=by rw[<- fe];exact aT (.inl (.head _)) l 0 (Kp.refl _ _)
  have dx:Hid (Lies w7 q 41 l.toArray):=zh (by rw[<- fe];exact bv.out.li.putAll ai.out);refine yt (aM rfl rfl dx.out ai.out) rfl ?_;exact⟨l.toArray,k1,op1,nd1,rfl,ai.out,yo.out,HX.out.1,HX.out.2.1,HX.out.2.2,dg.out.own hE bv.out (by decide) (by decide) bn,bq.out.own bv.out bn⟩
set_option maxRecDepth 100000 in
theorem uJE(E:Env)(hE:E.ok)(he:E.ends)(hL:E.L.length<=1000000)(next:List Tok->Nat->Out)(op:Nat)(hp:dP E 36 next op):dP E 24 (cH next pZ) op:=by
 intro k nd pl er w hI hk hn;have co:=zh (hI.next (zp (.cells aA.toArray 41)));have CP:=zh (kJ E hE he hL 36 (enters_of Tryz.func36 (by kernel_rfl) rfl) next op hp 0 (by decide) k nd pl er _ co.out hk hn);have lp:eG[0]=pZ:=rfl;rw[lp]at CP;have cj:Hid (Kp E.X w (w.alloc (.cells aA.toArray 41))):=zh ((Kp.refl _ _).alloc _);have cg:=zh (Own1.new hI (Kp.refl E.X w) 41 aA.toArray);have c8:Hid (w.heap.size<(w.alloc (.cells aA.toArray 41)).heap.size):=zh (by simp);clear hI hp lp;simp only[aA]at co cj cg CP c8;generalize hO:cH next pZ (E.L.drop k) nd=O at *;clear hO
 go_enter Tryz.func24,Tryz.ntmps24
 go_upto_region 1 with fail
 generalize w.alloc (.cells zM 41)=W1 at co cj cg CP c8 ⊢;generalize en:w.heap.size=q at cg ⊢;have rf:=zh en;clear en;have r6:=co.out.rd.cell 6;simp only[za,zb,zf]at r6;have mt:(Instr.lookup 63 (.map (some E.sg)) (.int .i64 0) false).run Tryz.prog W1=.ok (.map (some (E.sg+1+0))) W1:=iF E.sg 0 (E.sg+1+0) W1 co.out.sg.out rfl
 go_wp2_with fail
 refine CP.out.mono ?_;cases O with
 |ok t ts c=>
  rintro e w2 ⟨k1,cs,rfl,h1,h2,h3,h4,h5,h6,h7,h8⟩;obtain⟨l,rfl⟩:∃ l:List Value,cs=l.toArray:=⟨cs.toList,by simp⟩
  have ai:Hid (l.length=22):=zh (by have:=h8.1;rwa [yd]at this);have yo:=zh h8.2.1;have dg:=zh h6;have ii:=h7;have HX:=zh (⟨h1,h2,h3,h4,h5,h8⟩:k<=k1/\k1<E.L.length/\ts=E.L.drop k1/\c+k<=nd+k1/\nd<=c/\NV w2 (List.range W1.heap.size) c t l.toArray);clear h1 h2 h3 h4 h5 h6 h7 h8;have bv:=zh (cg.out.kp ii);have bq:=zh (cj.out.trans ii);have HT:Hid (w2.there q 0 l.toArray.size):=zh (by have h:=bv.out.li.thereA;rw[show l.toArray.size=22 from ai.out];exact h);have zi:(Tryz.prog.info? 41).map (·.size)=some l.toArray.size:=by rw[show l.toArray.size=22 from ai.out];exact aF
  clear co cg cj CP ii mt r6
  go_wp2_with (first |(refine yq rfl 41 (.tmp 2) (.tmp 13) rfl q 0 l.toArray rfl rfl HT.out zi yo.out ?_;change wpList _ _ _ _ _ (w2.setCells q 0 l);generalize fe:w2.setCells q 0 l=w7))
  have bn:Kp [q] w2 w7:=by rw[<- fe];exact aT (.inl (.head _)) l 0 (Kp.refl _ _)
  have dx:Hid (Lies w7 q 41 l.toArray):=zh (by rw[<- fe];exact bv.out.li.putAll ai.out);refine yt (aM rfl rfl dx.out ai.out) rfl ?_;exact⟨k1,l.toArray,rfl,HX.out.1,HX.out.2.1,HX.out.2.2.1,HX.out.2.2.2.1,HX.out.2.2.2.2.1,dg.out.own hE bv.out (by decide) (by decide) bn,bq.out.own bv.out bn,(HX.out.2.2.2.2.2.kpX bn (fun y hy=>by rw[yf.1 hy];exact yg.2 (by have:=c8.out;have:=rf.out;omega))).anti (fun y hy _=>yg.2 (Nat.lt_trans (yg.1 hy) c8.out))⟩
 |bad e0 p0=>
  rintro e w2 ⟨cs,k1,op1,nd1,rfl,h1,h2,h3,h4,h5,h6,h7⟩;obtain⟨l,rfl⟩:∃ l:List Value,cs=l.toArray:=⟨cs.toList,by simp⟩
  have ai:Hid (l.length=22):=zh (by rwa [yd]at h1);have yo:=zh h2;have dg:=zh h6;have ii:=h7;have HX:=zh (⟨h3,h4,h5⟩:k<=k1/\k1<E.L.length/\nd1+k<=nd+k1);clear h1 h2 h3 h4 h5 h6 h7;have bv:=zh (cg.out.kp ii);have bq:=zh (cj.out.trans ii);have HT:Hid (w2.there q 0 l.toArray.size):=zh (by have h:=bv.out.li.thereA;rw[show l.toArray.size=22 from ai.out];exact h);have zi:(Tryz.prog.info? 41).map (·.size)=some l.toArray.size:=by rw[show l.toArray.size=22 from ai.out];exact aF
  clear co cg cj CP ii mt r6
  go_wp2_with (first |(refine yq rfl 41 (.tmp 2) (.tmp 13) rfl q 0 l.toArray rfl rfl HT.out zi yo.out ?_;change wpList _ _ _ _ _ (w2.setCells q 0 l);generalize fe:w2.setCells q 0 l=w7))
  have bn:Kp [q] w2 w7:=by rw[<- fe];exact aT (.inl (.head _)) l 0 (Kp.refl _ _)
  have dx:Hid (Lies w7 q 41 l.toArray):=zh (by rw[<- fe];exact bv.out.li.putAll ai.out);refine yt (aM rfl rfl dx.out ai.out) rfl ?_;exact⟨l.toArray,k1,op1,nd1,rfl,ai.out,yo.out,HX.out.1,HX.out.2.1,HX.out.2.2,dg.out.own hE bv.out (by decide) (by decide) bn,bq.out.own bv.out bn⟩
def Apart(L:List (Nat×TypeId×Array Value)):Prop:=∀ (i j:Nat) (a b:Nat×TypeId×Array Value),L[i]?=some a->L[j]?=some b->i≠j->a.1≠b.1
theorem Apart.set{L:List (Nat×TypeId×Array Value)}(h:Apart L){i:Nat}{b:Nat}{t:TypeId}{cs r7:Array Value}(hi:L[i]?=some (b,t,cs)):Apart (L.set i (b,t,r7)):=by
 have key:∀ (j:Nat) (x:Nat×TypeId×Array Value),(L.set i (b,t,r7))[j]?=some x->∃ y:Nat×TypeId×Array Value,L[j]?=some y/\y.1=x.1:=by
  intro j x hj;by_cases hij:i=j
  ·subst hij;obtain⟨ox,_⟩:=List.getElem?_eq_some_iff.1 hi;rw[List.getElem?_set_self ox]at hj;injection hj with hj;exact⟨_,hi,by rw[<- hj]⟩
  rw[List.getElem?_set_ne hij]at hj;exact⟨x,hj,rfl⟩
 intro p q a c hp hq bp;obtain⟨a',h1,h2⟩:=key p a hp;obtain⟨c',h3,h4⟩:=key q c hq;rw[<- h2,<- h4];exact h p q a' c' h1 h3 bp
theorem Apart.cons{L:List (Nat×TypeId×Array Value)}(h:Apart L){x:Nat×TypeId×Array Value}(hx:∀ y∈L,x.1≠y.1):Apart (x::L):=by
 intro p q a c hp hq bp;cases p with
 |zero=>
  cases q with
  |zero=>exact absurd rfl bp
  |succ q=>
   simp at hp hq;subst hp;exact hx c (List.mem_of_getElem? hq)
 |succ p=>
  cases q with
  |zero=>
   simp at hp hq;subst hq;exact(hx a (List.mem_of_getElem? hp)).symm
  |succ q=>
   simp at hp hq;exact h p q a c hp hq (by omega)
structure Fs(E:Env)(w:World)(k op nd pl er:Nat)(L:List (Nat×TypeId×Array Value))(W:World):Prop where
 base:∃ k0 op0 nd0 pl0 er0,InE E k0 op0 nd0 pl0 er0 w
 ine:InE E k op nd pl er W
 kp:Kp E.X w W
 own:∀ b∈L,Own1 E w W b.1 b.2.1 b.2.2
 ne:Apart L
 ty:∀ b∈L,b.2.1≠34/\b.2.1≠4
section
variable {E:Env} {w W W':World} {k op nd pl er:Nat} {L:List (Nat×TypeId×Array Value)}
theorem Fs.start(hI:InE E k op nd pl er w):Fs E w k op nd pl er [] w:=⟨⟨_,_,_,_,_,hI⟩,hI,Kp.refl _ _,fun _ h=>(by cases h),fun i _ _ _ h=>(by simp at h),fun _ h=>(by cases h)⟩
theorem Fs.next(h:Fs E w k op nd pl er L W)(hb:Below W.heap.size W W'):Fs E w k op nd pl er L W' :=
 ⟨h.base,h.ine.next hb,h.kp.trans (Kp.of_below hb),fun b hm=>(h.own b hm).next hb,h.ne,h.ty⟩
theorem Fs.step{k' op' nd' pl' er':Nat}(h:Fs E w k op nd pl er L W)(hi:InE E k' op' nd' pl' er' W')(hk:Kp E.X W W'):Fs E w k' op' nd' pl' er' L W' :=
 ⟨h.base,hi,h.kp.trans hk,fun b hm=>(h.own b hm).kp hk,h.ne,h.ty⟩
theorem Fs.li(h:Fs E w k op nd pl er L W)(i:Nat){b:Nat}{t:TypeId}{cs:Array Value}(hi:L[i]?=some (b,t,cs)):Lies W b t cs:=(h.own _ (List.mem_of_getElem? hi)).li
theorem Fs.lt(h:Fs E w k op nd pl er L W)(i:Nat){b:Nat}{t:TypeId}{cs:Array Value}(hi:L[i]?=some (b,t,cs)):b<W.heap.size:=(h.li i hi).lt
theorem Fs.ge(h:Fs E w k op nd pl er L W)(i:Nat){b:Nat}{t:TypeId}{cs:Array Value}(hi:L[i]?=some (b,t,cs)):w.heap.size<=b:=(h.own _ (List.mem_of_getElem? hi)).ge
theorem Fs.ner(h:Fs E w k op nd pl er L W)(i:Nat){b:Nat}{t:TypeId}{cs:Array Value}(hi:L[i]?=some (b,t,cs)):b≠E.r:=fun e=>(h.own _ (List.mem_of_getElem? hi)).fr.nx (by rw[show (b,t,cs).1=E.r from e];exact .head _)
theorem Fs.alloc(h:Fs E w k op nd pl er L W)(t:TypeId)(cs:Array Value)(ht:t≠34/\t≠4):Fs E w k op nd pl er ((W.heap.size,t,cs)::L) (W.alloc (.cells cs t)):=by
 have hb:Below W.heap.size W (W.alloc (.cells cs t)):=(zp _);have h1:=h.next hb;obtain⟨k0,op0,nd0,pl0,er0,ct⟩:=h.base;refine⟨h.base,h1.ine,h1.kp,fun b hm=>?_,h.ne.cons (fun b hm=>?_),fun b hm=>?_⟩
 ·rcases ym.1 hm with rfl|hm
  ·exact Own1.new ct h.kp t cs
  exact h1.own b hm
 ·have:=(h.own b hm).li.lt;show W.heap.size≠b.1;omega
 rcases ym.1 hm with rfl|hm
 ·exact ht
 exact h.ty b hm
theorem Fs.wrote(h:Fs E w k op nd pl er L W)(hE:E.ok)(i:Nat){b:Nat}{t:TypeId}{cs r7:Array Value}(hi:L[i]?=some (b,t,cs))(hk:Kp [b] W W')(hl:Lies W' b t r7):Fs E w k op nd pl er (L.set i (b,t,r7)) W':=by
 have hm:=List.mem_of_getElem? hi;have ho:=h.own _ hm;have ht:=h.ty _ hm;have key:∀ c∈L.set i (b,t,r7),c=(b,t,r7)\/(c∈L/\b≠c.1):=fun c hc=>by
  obtain⟨j,hj⟩:=List.getElem?_of_mem hc;by_cases hij:i=j
  ·subst hij;obtain⟨ox,_⟩:=List.getElem?_eq_some_iff.1 hi;rw[List.getElem?_set_self ox]at hj;injection hj with hj;exact .inl hj.symm
  rw[List.getElem?_set_ne hij]at hj;exact .inr ⟨List.mem_of_getElem? hj,h.ne i j _ _ hi hj hij⟩
 refine⟨h.base,h.ine.own hE ho ht.1 ht.2 hk,h.kp.own ho hk,fun c hc=>?_,h.ne.set hi,fun c hc=>?_⟩
 ·rcases key c hc with rfl|⟨hc,bp⟩
  ·exact⟨ho.fr,ho.ge,hl⟩
  have hc0:=h.own _ hc;exact⟨hc0.fr,hc0.ge,hk.lies hc0.li (fun hm=>bp (yf.1 hm).symm)⟩
 rcases key c hc with rfl|⟨hc,_⟩
 ·exact ht
 exact h.ty c hc
theorem Fs.put(h:Fs E w k op nd pl er L W)(hE:E.ok)(i:Nat){b:Nat}{t:TypeId}{cs:Array Value}(hi:L[i]?=some (b,t,cs))(j:Nat)(v:Value):Fs E w k op nd pl er (L.set i (b,t,cs.setIfInBounds j v)) (W.setCell ⟨b,j,none⟩ v) :=
 h.wrote hE i hi ((Kp.refl _ _).set (.inl (.head _)) j v) ((h.li i hi).put j v)
theorem Fs.fill(h:Fs E w k op nd pl er L W)(hE:E.ok)(i:Nat){b:Nat}{t:TypeId}{cs:Array Value}(hi:L[i]?=some (b,t,cs))(vs:List Value)(hl:vs.length=cs.size):Fs E w k op nd pl er (L.set i (b,t,vs.toArray)) (W.setCells b 0 vs) :=
 h.wrote hE i hi (aT (.inl (.head _)) vs 0 (Kp.refl _ _)) ((h.li i hi).putAll hl)
theorem Fs.rd(h:Fs E w k op nd pl er L W)(hE:E.ok)(j:Nat)(v:Value){k' op' nd' pl' er':Nat}(he:(rdC E k op nd pl er).setIfInBounds j v=rdC E k' op' nd' pl' er'):Fs E w k' op' nd' pl' er' L (W.setCell ⟨E.r,j,none⟩ v):=by
 have hk:Kp [E.r] W (W.setCell ⟨E.r,j,none⟩ v):=(Kp.refl _ _).set (.inl (.head _)) j v;exact h.step (h.ine.wrote hE hk (by rw[<- he];exact h.ine.rd.put j v)) hk.X
theorem Fs.there(h:Fs E w k op nd pl er L W)(i:Nat){b:Nat}{t:TypeId}{cs:Array Value}(hi:L[i]?=some (b,t,cs))(n:Nat)(hn:n=cs.size):W.there b 0 n:=by rw[hn];exact(h.li i hi).thereA
theorem Fs.range(h:Fs E w k op nd pl er L W)(i:Nat){b:Nat}{t:TypeId}{l:List Value}(hi:L[i]?=some (b,t,l.toArray)):W.rangeAt b 0 l:=by simpa using (h.li i hi).range
end
abbrev cB(kd:Int)(a b:Cor):List Value:=[.int .i64 kd,.int .i64 0,.int .i64 0,.int .i64 0,.string ⟨#[]⟩,.bool false,.int .i64 0,.string ⟨#[]⟩,.int .i64 a.row.a,.int .i64 a.row.n,.int .i64 a.col.a,.int .i64 a.col.n,.bool a.fr,.bool a.fc,.int .i64 b.row.a,.int .i64 b.row.n,.int .i64 b.col.a,.int .i64 b.col.n,.bool b.fr,.bool b.fc,.int .i64 0,.slice none 0 0]
theorem dL(kd:Int)(a b:Cor):(cB kd a b).toArray.all (·.oneCell')=true:=by simp[cB,Value.oneCell']
theorem iU{E:Env}{w W:World}{k k' op nd c pl er:Nat}{L:List (Nat×TypeId×Array Value)}{C:List Value}{h:NodeH}(hF:Fs E w k' op c pl er L W)(fz:C.length=22)(h1:C.toArray.all (·.oneCell')=true)(hc:c<=256->C.toArray=aY h none 0 0)(hk:k<=k')(fm:k'<E.L.length)(hn:c+k<=nd+k')(ew:nd<=c){ts:List Tok}(hts:ts=E.L.drop k') :
  NPost E w k op nd pl er (.ok (.mk h []) ts c) (.returned (.tuple #[.agg C.toArray,.bool true])) W :=
 ⟨k',C.toArray,rfl,hk,fm,hts,hn,ew,hF.ine,hF.kp,by rw[yd,fz],h1,fun hn=>⟨none,0,hc hn,.inl rfl⟩⟩
theorem cE{E:Env}{w W:World}{k k' op op' nd nd' pl pl' er er':Nat}{L:List (Nat×TypeId×Array Value)}{C:List Value}(hF:Fs E w k' op' nd' pl' er' L W)(fz:C.length=22)(h1:C.toArray.all (·.oneCell')=true)(hk:k<=k')(fm:k'<E.L.length)(hn:nd'+k<=nd+k') :
  NPost E w k op nd pl er (.bad er' pl') (.returned (.tuple #[.agg C.toArray,.bool false])) W :=
 ⟨C.toArray,k',op',nd',rfl,by rw[yd,fz],h1,hk,fm,hn,hF.ine,hF.kp⟩
end Go.Proofs.YtmgjidnalpgegaaGreatDoor
