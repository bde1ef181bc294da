/-
  Lemmas, part 13: PaR WrB Rr1 Rr6 PaV RlA RlB RlC RlD RlE.
-/
import Derived.Test.YtjfihpaeglpblaaGreatDoorRs12
set_option maxHeartbeats 100000000
set_option maxRecDepth 1000000
namespace Go.Proofs.YtjfihpaeglpblaaGreatDoor
open Go.RowKit Go.Shelf
attribute [local go_sem] Oper.semAt_some
theorem walk_any(g o:Nat)(w:World) :
  Calls Tryz.prog 96 #[vP g o] w fun e w'=>e=.returned (.func (.func 160) #[] #[vP w.heap.size 0])/\w'=w.alloc (.cells #[vP g o] 163):=by
 go_in
 go_wp2_with fail
 go_ret
 exact⟨rfl,rfl⟩
structure CkI(w:World)(q:Nat)(cs:Array Value)(pre:List SE)(X:World):Prop where
 box:Lies X q 34 cs
 res:Lies X (q+1) 56 #[vI 0]
 sz:Lies X (q+2) 3 #[vI (pre.length:Int)]
 dp:Lies X (q+3) 3 #[vI (((pre.map SE.d).foldl max 0:Nat):Int)]
 few:pre.length<=256
 bel:Below q w X
structure CkX(w:World)(q:Nat)(c:Code)(pre:List SE)(X:World):Prop where
 ret:c=.ret
 res:Lies X (q+1) 56 #[vI 5]
 many:256<pre.length
 bel:Below q w X
theorem fR{b c:Nat}{w X Y:World}{row:Option Nat}(h:Below b w X)(hg:X.grownBy Y row)(hr:∀ r,row=some r->c<=r)(lh:b<=c)(hbX:b<=X.heap.size):Below b w Y :=
 ⟨hg.os.trans h.os,hg.tape.trans h.tape,hg.output.trans h.output,yv h.size hg.size,fun j hj=>(hg.block j (by omega) (fun e=>by have:=hr j e.symm;omega)).trans (h.block j hj)⟩
theorem CkI.own{w:World}{q b:Nat}{cs:Array Value}(hb:q+4<=b):OwnAll b (CkI w q cs):=fun s A B row h hg hr=>by
 have ne:∀ k,k<b->some k≠row:=fun k hk e=>by have:=hr k e.symm;omega
 exact⟨h.box.grown hg (ne _ (by omega)),h.res.grown hg (ne _ (by omega)),h.sz.grown hg (ne _ (by omega)),h.dp.grown hg (ne _ (by omega)),h.few,fR h.bel hg hr (by omega) (Nat.le_of_lt h.box.lt)⟩
theorem CkX.own{w:World}{q b:Nat}(hb:q+4<=b):∀ c,OwnAll b (CkX w q c):=fun c s A B row h hg hr=>by
 have ne:∀ k,k<b->some k≠row:=fun k hk e=>by have:=hr k e.symm;omega
 exact⟨h.ret,h.res.grown hg (ne _ (by omega)),h.many,fR h.bel hg hr (by omega) (by have:=h.res.lt;omega)⟩
theorem gY{n₀:Addr->Prop}{b c o:Nat}{W:World}(hb:∀ p,n₀ p->p.block≠b)(hc:b<c)(v:Value):KeepsQ n₀ c W (W.setCell ⟨b,o,none⟩ v) :=
 ⟨by simp,fun p hp=>World.cell?_setCell_other _ _ _ _ (fun e=>hb p hp (by rw[<- e])),fun p _=>World.frozen?_setCell _ _ _ _,fun k hk _=>heap_setCell_other W ⟨b,o,none⟩ k v (by show k≠b;omega)⟩
theorem CkI.step{w X:World}{q:Nat}{cs:Array Value}{pre:List SE}(x:SE)(h:CkI w q cs pre X)(hn:pre.length<256):CkI w q cs (pre++[x]) ((X.setCell ⟨q+2,0,none⟩ (vI ((pre.length:Int)+1))).setCell ⟨q+3,0,none⟩ (vI ((max ((pre.map SE.d).foldl max 0) x.d:Nat):Int))):=by
 refine⟨aC (aC h.box (by omega) _ _) (by omega) _ _,aC (aC h.res (by omega) _ _) (by omega) _ _,?_,?_,by simp;omega,(h.bel.setCell (by show q<=q+2;omega) _).setCell (by show q<=q+3;omega) _⟩
 ·have:=aC (b:=q+3) (h.sz.put 0 (vI ((pre.length:Int)+1))) (by omega) 0 (vI ((max ((pre.map SE.d).foldl max 0) x.d:Nat):Int));rw[yl,List.length_singleton];exact this
 have:=(aC (b:=q+2) h.dp (by omega) 0 (vI ((pre.length:Int)+1))).put 0 (vI ((max ((pre.map SE.d).foldl max 0) x.d:Nat):Int));rw[List.map_append,List.foldl_append];exact this
theorem uAL{w X:World}{q D:Nat}{v:Value}(hb:Below q w X)(hr:Lies X (q+1) 56 #[v])(hD:q+2<=D):(X.putObj D (.deferred none)).cell? ⟨q+1,0,none⟩=some v/\Below q w (X.putObj D (.deferred none)):=by
 have hg:=grownBy_putObj' X D (.deferred none);refine⟨?_,⟨hg.os.trans hb.os,hg.tape.trans hb.tape,hg.output.trans hb.output,yv hb.size hg.size,fun j hj=>(World.putObj_heap_other (by omega)).trans (hb.block j hj)⟩⟩;have:Lies (X.putObj D (.deferred none)) (q+1) 56 #[v]:=(World.putObj_heap_other (by omega)).trans hr;exact this.cell 0
theorem uAR{t:Tree}{l:List Nat}(h:l <+: t.depths 1):l.length<=t.size:=by
 have:=h.length_le
 rwa [gT]at this
theorem rF(t:Tree)(cs:Array Value)(w:World)(ht:TreeIn w t cs)(aq:t.size<=1000000)(hf:t.fine) :
  Calls Tryz.prog 52 #[.agg cs] w fun e w'=>e=.returned (vI (dO t:Nat))/\Below w.heap.size w w':=by
 rw[<- callsIn_wide (n:=5)];obtain⟨A,cp,rfl,hk⟩:=ht;have CW:=zh (fun g o X=>(callsIn_wide (n:=4)).2 (walk_any g o X));have HK:=zh hk;have HF:=zh hf;have HS:=zh aq;clear hk hf aq;obtain⟨ek,ve⟩:∃ x,dO t=x:=⟨_,rfl⟩
 rw[ve];have HE:=zh ve;clear ve;obtain⟨W1,an⟩:∃ W1,W1=(((w.alloc (.cells (aJ t.h A t.l.length cp) 34)).alloc (.cells #[vI 0] 56)).alloc (.cells #[vI 0] 3)).alloc (.cells #[vI 0] 3):=⟨_,rfl⟩
 have HI:Hid (CkI w w.heap.size (aJ t.h A t.l.length cp) [] W1):=zh (by
  rw[an];have e1:=Lies.new w 34 (aJ t.h A t.l.length cp);have e2:=Lies.new (w.alloc (.cells (aJ t.h A t.l.length cp) 34)) 56 #[vI 0];have e3:=Lies.new ((w.alloc (.cells (aJ t.h A t.l.length cp) 34)).alloc (.cells #[vI 0] 56)) 3 #[vI 0];have e4:=Lies.new (((w.alloc (.cells (aJ t.h A t.l.length cp) 34)).alloc (.cells #[vI 0] 56)).alloc (.cells #[vI 0] 3)) 3 #[vI 0];simp only[World.size_alloc]at e2 e3 e4;exact⟨((e1.alloc _).alloc _).alloc _,(e2.alloc _).alloc _,e3.alloc _,e4,by simp,((((Below.refl _ w).alloc zr _).alloc (by simp) _).alloc (by simp;omega) _).alloc (by simp;omega) _⟩)
 have i5:W1.heap.size=w.heap.size+4:=by rw[an];simp
 have al:=zh an;clear an;refine callsIn_of_wp_marks Tryz.func52 rfl trivial ?_ rfl;simp only[Tryz.ntmps52,yd,yi,List.length_nil,Nat.reduceAdd,Nat.reduceSub,Array.replicate_succ,Array.replicate_zero,List.push_toArray,List.append_toArray,List.nil_append,yp]
 gi_upto_region 2 with fail
 rw[<- al.out];generalize hq:w.heap.size=q at *;clear al
 gi_wp2_with fail
 refine⟨trivial,?_⟩;refine(CW.out q 0 W1).mono ?_;rintro e W2 ⟨rfl,fz⟩;rw[i5];have lm:W2.heap.size=q+5:=by rw[fz,World.size_alloc,i5]
 have hbB:W2.cell? ⟨q+4,0,none⟩=some (vP q 0):=by
  have:=Lies.new W1 163 #[vP q 0];rw[<- fz,i5]at this;exact this.cell 0
 have aw:Below W1.heap.size W1 W2:=by rw[fz];exact(zp _)
 have ja:Hid (CkI w q (aJ t.h A t.l.length cp) [] W2):=zh ⟨HI.out.box.next aw,HI.out.res.next aw,HI.out.sz.next aw,HI.out.dp.next aw,by simp,HI.out.bel.trans (aw.mono (by omega))⟩;have HNA:Hid (∀ X:World,Lies X q 34 (aJ t.h A t.l.length cp)->Below q w X->NodeAt X [q+1,q+2,q+3] q 0 t):=zh (fun X hl hb=>by
  have pq:KidsOk X [q+1,q+2,q+3] A t.l:=by
   have h0:KidsOk w [q+1,q+2,q+3] A t.l:=by
    rcases HK.out with h|⟨g2,o2,hA2,_,lq,gr⟩
    ·exact .inl h
    exact .inr ⟨g2,o2,hA2,by simp;omega,lq,KidsAt.anti (fun y hy hlt=>by simp at hy;omega) gr⟩
   exact h0.kp ((Kp.of_below (by rw[hq];exact hb:Below w.heap.size w X)).mono (Y:=[]) (fun k hk _=>by cases hk))
  obtain⟨th,tl⟩:=t;exact⟨A,cp,fun j _=>by rw[Nat.zero_add];exact hl.cell j,pq⟩)
 have LI:=zh (walk1_in 4 (by decide) [q+1,q+2,q+3] t q 0 (q+4) W2 HS.out hbB (by omega) (by omega) (by simp) (HNA.out W2 ja.out.box ja.out.bel));clear fz hbB aw HI CW;obtain⟨N0,hN0⟩:∃ N0:Addr->Prop,N0=(fun p=>p.block<W2.heap.size/\p.block∉[q+1,q+2,q+3]):=⟨_,rfl⟩
 rw[<- hN0]at LI;have HN0:=zh hN0;have i9:=zh lm;clear hN0 lm
 gi_wp2_with fail
 refine uAA rfl (by decide) (gf:=160) (lb:=#[vP (q+4) 0]) rfl trivial (enters_of Tryz.func160 (by kernel_rfl) rfl) LI.out (fun p h=>by rw[HN0.out]at h;exact h.1) (fun _=>rfl) (CkI w q (aJ t.h A t.l.length cp)) (CkX w q) (CkI.own (by rw[i9.out];omega)) (CkX.own (by rw[i9.out];omega)) ja.out
  (fun x=>{ tmps:=#[.agg (aJ t.h A t.l.length cp),vP q 0,vP (q+1) 0,vP (q+2) 0,vP (q+3) 0,undef,vI (x.d:Int),.func (.func 160) #[] #[vP (q+4) 0],vP x.g x.o,vI (x.d:Int),undef,undef,undef,undef,undef,undef,undef,undef,undef,undef,undef],defers:=[] }) ?assign ?body ?done ?stop
 case assign=>
  intro l' x X K hK;dsimp only[encD]
  gi_wp2
  exact hK
 case body=>
  rintro l' pre x X hX hI hR;have HI:=zh hI;have s2:=hI.sz.cell 0;have f2:=hI.sz.frozen 0;have s3:=hI.dp.cell 0;have f3:=hI.dp.frozen 0;have s1:=hI.res.cell 0;have f1:=hI.res.frozen 0;have hfw:=hI.few;simp only[za,zb]at s1 s2 s3;clear hI HK LI HNA ja;obtain⟨a,ha⟩:∃ a,(pre.map SE.d).foldl max 0=a:=⟨_,rfl⟩
  rw[ha]at s3;obtain⟨n,hn⟩:=zE pre.length
  rw[hn]at s2 hfw;have HA:=zh (And.intro ha hn);clear ha hn;rcases Nat.lt_or_ge n 256 with hlt|hge
  ·have hnb:¬ (256:Int)<(n:Int)+1:=by omega
   have cg:=zh (HI.out.step x (by have:=HA.out.2;omega));have hkq:Hid (∀ v1 v2:Value,KeepsQ N0 W2.heap.size X ((X.setCell ⟨q+2,0,none⟩ v1).setCell ⟨q+3,0,none⟩ v2)):=zh (fun v1 v2=>(gY (fun p hp e=>by rw[HN0.out]at hp;exact hp.2 (by rw[e];simp)) (by rw[i9.out];omega) v1).trans (gY (fun p hp e=>by rw[HN0.out]at hp;exact hp.2 (by rw[e];simp)) (by rw[i9.out];omega) v2));rw[HA.out.1,HA.out.2]at cg;obtain⟨d,hd⟩:∃ d,x.d=d:=⟨_,rfl⟩
   rw[hd]at cg ⊢;rcases Nat.le_total a d with hm|hm
   ·rw[Nat.max_eq_right hm]at cg;have hmi:max (a:Int) (d:Int)=(d:Int):=by omega
    gi_wp2_with fail
    exact⟨hkq.out _ _,cg.out⟩
   rw[Nat.max_eq_left hm]at cg;have hmi:max (a:Int) (d:Int)=(a:Int):=by omega
   gi_wp2_with fail
   exact⟨hkq.out _ _,cg.out⟩
  obtain rfl:n=256:=by omega
  have hkq:Hid (∀ v1 v2:Value,KeepsQ N0 W2.heap.size X ((X.setCell ⟨q+2,0,none⟩ v1).setCell ⟨q+1,0,none⟩ v2)):=zh (fun v1 v2=>(gY (fun p hp e=>by rw[HN0.out]at hp;exact hp.2 (by rw[e];simp)) (by rw[i9.out];omega) v1).trans (gY (fun p hp e=>by rw[HN0.out]at hp;exact hp.2 (by rw[e];simp)) (by rw[i9.out];omega) v2));have hx:Hid (CkX w q .ret (pre++[x]) ((X.setCell ⟨q+2,0,none⟩ (vI 257)).setCell ⟨q+1,0,none⟩ (vI 5))):=zh ⟨rfl,(aC HI.out.res (b:=q+2) (by omega) _ _).put 0 _,by rw[yl,HA.out.2];simp,(HI.out.bel.setCell (by show q<=q+2;omega) _).setCell (by show q<=q+1;omega) _⟩
  gi_wp2_with fail
  exact⟨hkq.out _ _,hx.out⟩
 case done=>
  rintro D xs X hD hS hI hK;have hDq:q+5<=D:=by rw[i9.out]at hD;exact hD
  clear hD;have hlen:xs.length=t.size:=by rw[<- List.length_map (f:=SE.d),hS,gT]
  have pd:=hI.few;have hmx:(xs.map SE.d).foldl max 0=t.depth:=by
   have:=uM t;rw[hS,rI];omega
  have xx:=zh (NodeAt.anti (Y:=[]) (fun y hy _=>by cases hy) (HNA.out X hI.box hI.bel));have s3:=hI.dp.cell 0;have s1:=hI.res.cell 0;have f1:=hI.res.frozen 0;rw[hmx]at s3;simp only[za,zb]at s1 s3;rw[show q+3=q+1+1+1 by omega]at s3;have HI:=zh hI;have vf:=zh hK;have HP:Hid (ek=if 32<t.depth then 8 else if t.right 6 then 0 else 6):=zh (by rw[<- HE.out];unfold dO;rw[if_neg (by omega)]);have hqX:q<X.heap.size:=hI.box.lt;clear hS hI hK LI HNA ja HK hmx HE;by_cases hd:32<t.depth
  ·rw[if_pos hd]at HP;have hdi:(32:Int)<(t.depth:Int):=by omega
   have hKX:Hid ((X.setCell ⟨q+1,0,none⟩ (vI 8)).heap[D]?=some (.deferred (some []))):=zh ((heap_setCell_other X ⟨q+1,0,none⟩ D _ (by show D≠q+1;omega)).trans vf.out);have hE:=zh (uAL (D:=D) (HI.out.bel.setCell (p:=⟨q+1,0,none⟩) (by show q<=q+1;omega) (vI 8)) (HI.out.res.put 0 (vI 8)) (by omega))
   gi_wp2_with fail
   refine⟨by simp,.inl ⟨_,_,rfl,run_takeDeferred hKX.out,?_⟩⟩;have hc:=hE.out.1;refine⟨vI 8,by simp[results,Tryz.results52,go_sem,hc],by rw[HP.out];rfl,by first|exact hE.out.2 |(rw[hq];exact hE.out.2)⟩
  rw[if_neg hd]at HP;have hdi:¬ (32:Int)<(t.depth:Int):=by omega
  have CR:=zh ((callsIn_wide (n:=4)).2 (uCL t.size t 6 q 0 X zr HS.out HF.out hqX xx.out));obtain⟨b,hb⟩:=zE (t.right 6)
  rw[hb]at CR HP;clear hb xx
  gi_wp2_with fail
  refine⟨trivial,?_⟩;refine CR.out.mono ?_;rintro e w3 ⟨rfl,bv⟩;have HI3:Hid (Below q w w3/\Lies w3 (q+1) 56 #[vI 0]/\w3.heap[D]?=some (.deferred (some []))):=zh ⟨HI.out.bel.trans (bv.mono (by omega)),HI.out.res.next bv,(bv.block D (zk.1 vf.out).1).trans vf.out⟩;have r1:=HI3.out.2.1.cell 0;have rf1:=HI3.out.2.1.frozen 0;simp only[za,zb]at r1;clear s1 s3 f1 bv CR HI vf;have hKX:Hid (∀ v:Value,(w3.setCell ⟨q+1,0,none⟩ v).heap[D]?=some (.deferred (some []))):=zh (fun v=>(heap_setCell_other w3 ⟨q+1,0,none⟩ D _ (by show D≠q+1;omega)).trans HI3.out.2.2);have hE:=zh (fun v:Value=>uAL (D:=D) (HI3.out.1.setCell (p:=⟨q+1,0,none⟩) (by show q<=q+1;omega) v) (HI3.out.2.1.put 0 v) (by omega));cases b
  ·gi_wp2_with fail
   refine⟨by simp,.inl ⟨_,_,rfl,run_takeDeferred (hKX.out _),?_⟩⟩;have hc:=(hE.out (vI 6)).1;refine⟨vI 6,by simp[results,Tryz.results52,go_sem,hc],by rw[HP.out];rfl,by first|exact(hE.out _).2 |(rw[hq];exact(hE.out _).2)⟩
  gi_wp2_with fail
  refine⟨by simp,.inl ⟨_,_,rfl,run_takeDeferred (hKX.out _),?_⟩⟩;have hc:=(hE.out (vI 0)).1;refine⟨vI 0,by simp[results,Tryz.results52,go_sem,hc],by rw[HP.out];rfl,by first|exact(hE.out _).2 |(rw[hq];exact(hE.out _).2)⟩
 case stop=>
  rintro D c pre X hD wb hI hK;have hDq:q+5<=D:=by rw[i9.out]at hD;exact hD
  have hlen:=uAR wb;rw[List.length_map]at hlen;have hmany:=hI.many;obtain rfl:=hI.ret;have HP:Hid (ek=5):=zh (by rw[<- HE.out];unfold dO;rw[if_pos (by omega)]);have hE:=zh (uAL (D:=D) hI.bel hI.res (by omega));have vf:=zh hK;clear LI HNA ja HK HE hI hK wb hD
  gi_wp2_with fail
  refine⟨by simp,.inl ⟨_,_,rfl,run_takeDeferred vf.out,?_⟩⟩;have hc:=hE.out.1;refine⟨vI 5,by simp[results,Tryz.results52,go_sem,hc],by rw[HP.out];rfl,by first|exact hE.out.2 |(rw[hq];exact hE.out.2)⟩
end Go.Proofs.YtjfihpaeglpblaaGreatDoor
namespace Go.Proofs.YtjfihpaeglpblaaGreatDoor
open Go.RowKit Go.Shelf
attribute [local go_sem] Oper.semAt_some
theorem all_any(p:Option Addr)(w:World) :
  Calls Tryz.prog 245 #[.pointer p] w fun e w'=>e=.returned (.func (.func 255) #[] #[vP w.heap.size 0])/\w'=w.alloc (.cells #[.pointer p] 40):=by
 go_in
 go_wp2_with fail
 go_ret
 exact⟨rfl,rfl⟩
theorem uDQ{P R:List IdR}{z x:IdR}(hx:x∉P)(hm:x∈P++z::R):(P.length:Int)<=bB (P++z::R) x/\(z≠x->(P.length:Int)<bB (P++z::R) x):=by
 obtain⟨k,h1,h2⟩:=iZ x _ 0 hm;have e:bB (P++z::R) x=(k:Int):=by unfold bB;rw[h1];simp
 have hk:P.length<=k:=by
  rcases Nat.lt_or_ge k P.length with h|h
  ·rw[List.getElem?_append_left h]at h2;exact absurd (List.mem_of_getElem? h2) hx
  exact h
 refine⟨by rw[e];omega,fun hz=>?_⟩;rw[e];rcases Nat.lt_or_ge P.length k with h|h
 ·omega
 have:k=P.length:=by omega
 subst this;rw[List.getElem?_append_right zr,Nat.sub_self]at h2;simp at h2;exact absurd h2 hz
theorem uAK{ids:List IdR}{fl:List Bool}{P R:List IdR}{z x y:IdR}(e:ids=P++z::R)(hx:x∉P)(hy:y∉P)(hmx:x∈ids)(hmy:y∈ids){r:Bool}(hr:(z=x/\r=false)\/(z≠x/\z=y/\r=true)):eV (some (ids,fl)) x y=r:=by
 show decide (bB ids y<bB ids x)=r;subst e;have f1:=uDQ hx hmx;have f2:=uDQ hy hmy;rcases hr with⟨rfl,rfl⟩|⟨h,rfl,rfl⟩
 ·have:=jU (b:=R) hx;rw[this];exact decide_eq_false (by omega)
 have:=jU (b:=R) hy;rw[this];exact decide_eq_true (f1.2 h)
structure CbI(w:World)(q:Nat)(x y:IdR)(pre:List (IdR×Bool))(X:World):Prop where
 bx:Lies X q 27 #[vI x.a,vI x.n]
 by':Lies X (q+1) 27 #[vI y.a,vI y.n]
 res:Lies X (q+2) 4 #[.bool false]
 no:∀ z∈pre,z.1≠x/\z.1≠y
 bel:Below q w X
structure CbX(w:World)(q:Nat)(x y:IdR)(c:Code)(pre:List (IdR×Bool))(X:World):Prop where
 ret:c=.ret
 ex:∃ pre' z r,pre=pre'++[z]/\(∀ u∈pre',u.1≠x/\u.1≠y)/\((z.1=x/\r=false)\/(z.1≠x/\z.1=y/\r=true))/\Lies X (q+2) 4 #[.bool r]
 bel:Below q w X
theorem CbI.own{w:World}{q b:Nat}{x y:IdR}(hb:q+3<=b):OwnAll b (CbI w q x y):=fun s A B row h hg hr=>by
 have ne:∀ k,k<b->some k≠row:=fun k hk e=>by have:=hr k e.symm;omega
 exact⟨h.bx.grown hg (ne _ (by omega)),h.by'.grown hg (ne _ (by omega)),h.res.grown hg (ne _ (by omega)),h.no,fR h.bel hg hr (by omega) (Nat.le_of_lt h.bx.lt)⟩
theorem CbX.own{w:World}{q b:Nat}{x y:IdR}(hb:q+3<=b):∀ c,OwnAll b (CbX w q x y c):=fun c s A B row h hg hr=>by
 have ne:∀ k,k<b->some k≠row:=fun k hk e=>by have:=hr k e.symm;omega
 obtain⟨p',z,r,e1,e2,e3,e4⟩:=h.ex;exact⟨h.ret,⟨p',z,r,e1,e2,e3,e4.grown hg (ne _ (by omega))⟩,fR h.bel hg hr (by omega) (by have:=e4.lt;omega)⟩
theorem cb_end{w X:World}{q D:Nat}{v:Value}(hb:Below q w X)(hr:Lies X (q+2) 4 #[v])(hD:q+3<=D):(X.putObj D (.deferred none)).cell? ⟨q+2,0,none⟩=some v/\Below q w (X.putObj D (.deferred none)):=by
 have hg:=grownBy_putObj' X D (.deferred none);refine⟨?_,⟨hg.os.trans hb.os,hg.tape.trans hb.tape,hg.output.trans hb.output,yv hb.size hg.size,fun j hj=>(World.putObj_heap_other (by omega)).trans (hb.block j hj)⟩⟩;have:Lies (X.putObj D (.deferred none)) (q+2) 4 #[v]:=(World.putObj_heap_other (by omega)).trans hr;exact this.cell 0
theorem wL(b:Nat)(ids:List IdR)(fl:List Bool)(x y:IdR)(w:World)(hA:AxF w (some b) (some (ids,fl)))(hmx:x∈ids)(hmy:y∈ids) :
  Calls Tryz.prog 228 #[vP b 0,idV x,idV y] w fun e w'=>e=.returned (.bool (eV (some (ids,fl)) x y))/\Below w.heap.size w w':=by
 rw[<- callsIn_wide (n:=5)];have CW:=zh (fun X=>(callsIn_wide (n:=4)).2 (all_any (some ⟨b,0,none⟩) X));have hl:ids.length=fl.length:=hA.1;obtain⟨ek,ve⟩:∃ e,e=eV (some (ids,fl)) x y:=⟨_,rfl⟩
 rw[<- ve];have HE:=zh ve;obtain⟨W1,an⟩:∃ W1,W1=((w.alloc (.cells #[vI x.a,vI x.n] 27)).alloc (.cells #[vI y.a,vI y.n] 27)).alloc (.cells #[.bool false] 4):=⟨_,rfl⟩
 have HI:Hid (CbI w w.heap.size x y [] W1):=zh (by
  rw[an];have e1:=Lies.new w 27 #[vI x.a,vI x.n];have e2:=Lies.new (w.alloc (.cells #[vI x.a,vI x.n] 27)) 27 #[vI y.a,vI y.n];have e3:=Lies.new ((w.alloc (.cells #[vI x.a,vI x.n] 27)).alloc (.cells #[vI y.a,vI y.n] 27)) 4 #[.bool false];simp only[World.size_alloc]at e2 e3;exact⟨(e1.alloc _).alloc _,e2.alloc _,e3,(fun z hz=>by cases hz),(((Below.refl _ w).alloc zr _).alloc (by simp) _).alloc (by simp;omega) _⟩)
 have i5:W1.heap.size=w.heap.size+3:=by rw[an];simp
 have al:=zh an;have HM:=zh (And.intro hmx (And.intro hmy hl));have hA1:AxF W1 (some b) (some (ids,fl)):=hA.next (by have:=HI.out.bel;exact this);clear an ve hmx hmy hl hA;unfold idV;refine callsIn_of_wp_marks Tryz.func228 rfl trivial ?_ rfl;simp only[Tryz.ntmps228,yd,yi,List.length_nil,Nat.reduceAdd,Nat.reduceSub,Array.replicate_succ,Array.replicate_zero,List.push_toArray,List.append_toArray,List.nil_append,yp]
 gi_upto_region 1 with fail
 rw[<- al.out];generalize hq:w.heap.size=q at *;clear al
 gi_wp2_with fail
 refine⟨trivial,?_⟩;refine(CW.out W1).mono ?_;rintro e W2 ⟨rfl,fz⟩;rw[i5];have aw:Below W1.heap.size W1 W2:=by rw[fz];exact(zp _)
 have hbB:W2.cell? ⟨q+3,0,none⟩=some (vP b 0):=by
  have:=Lies.new W1 40 #[vP b 0];rw[<- fz,i5]at this;exact this.cell 0
 have lm:W2.heap.size=q+4:=by rw[fz,World.size_alloc,i5]
 have ja:Hid (CbI w q x y [] W2):=zh ⟨HI.out.bx.next aw,HI.out.by'.next aw,HI.out.res.next aw,HI.out.no,HI.out.bel.trans (aw.mono (by omega))⟩;have LI:=zh (all1_in 4 (by decide) ids fl b (q+3) W2 hbB (hA1.next aw));have i9:=zh lm;have HQ:=zh hq;clear fz hbB aw HI CW lm hA1 i5 hq
 gi_wp2_with fail
 have gy:q+4<=W2.heap.size:=Nat.le_of_eq i9.out.symm;refine uAB rfl (by decide) (gf:=255) (lb:=#[vP (q+3) 0]) rfl trivial (enters_of Tryz.func255 (by kernel_rfl) rfl) LI.out (fun p h=>h.elim) (fun _=>rfl) (CbI w q x y) (CbX w q x y) (CbI.own (by omega)) (CbX.own (by omega)) ja.out
  (fun z W=>{ tmps:=#[vP b 0,.agg #[vI x.a,vI x.n],.agg #[vI y.a,vI y.n],undef,vP q 0,vP (q+1) 0,vP (q+1+1) 0,vP W.heap.size 0,vP b 0,.func (.func 255) #[] #[vP (q+3) 0],.agg #[vI z.1.a,vI z.1.n],.bool z.2,undef,undef,undef,undef,undef,undef],defers:=[] })
  (fun z W=>W.alloc (.cells #[vI z.1.a,vI z.1.n] 27)) (fun z W=>zp _) ?assign ?body ?done ?stop
 case assign=>
  intro l' z X K hK;dsimp only[encA,idV]
  gi_wp2
  exact hK
 case body=>
  rintro l' pre z X hX hI hR W' hs hh hI';have hXq:q+6<=X.heap.size:=by omega
  have hLz:Lies W' X.heap.size 27 #[vI z.1.a,vI z.1.n]:=(hh X.heap.size (by omega)).trans (Lies.new X 27 _);have HI:=zh hI';obtain⟨⟨zia,zn⟩,zif⟩:=z;obtain⟨xa,xn⟩:=x;obtain⟨ya,yn⟩:=y;have z0:=hLz.cell 0;have z1:=hLz.cell 1;have x0:=HI.out.bx.cell 0;have x1:=HI.out.bx.cell 1;have y0:=HI.out.by'.cell 0
  have y1:=HI.out.by'.cell 1
  have r0:=HI.out.res.cell 0;have r1:=HI.out.res.frozen 0;simp only[za,zb,zf]at x0 x1 y0 y1 z0 z1 r0;have hkq:Hid (∀ v:Value,KeepsQ (fun _=>False) W2.heap.size W' (W'.setCell ⟨q+1+1,0,none⟩ v)):=zh (fun v=>gY (fun p hp=>hp.elim) (by omega) v);have hkr:Hid (KeepsQ (fun _=>False) W2.heap.size W' W'):=zh (KeepsQ.refl _ _ _);have uf:Hid (∀ u∈pre,u.1≠(⟨xa,xn⟩:IdR)/\u.1≠(⟨ya,yn⟩:IdR)):=zh HI.out.no;have nu:Hid (∀ v:Value,Lies (W'.setCell ⟨q+1+1,0,none⟩ v) (q+2) 4 #[v]):=zh (fun v=>HI.out.res.put 0 v);have dh:Hid (∀ v:Value,Below q w (W'.setCell ⟨q+1+1,0,none⟩ v)):=zh (fun v=>HI.out.bel.setCell (p:=⟨q+1+1,0,none⟩) (by show q<=q+1+1;omega) v);clear hI hI' hR hh hLz hs LI ja HE;by_cases h1:(⟨zia,zn⟩:IdR)=⟨xa,xn⟩
  ·have e1:∀ W:World,(binOp .eql 27 (.agg #[vI zia,vI zn]) (.agg #[vI xa,vI xn])).run Tryz.prog W=.ok (.bool true) W:=fun W=>by have:=dF ⟨zia,zn⟩ ⟨xa,xn⟩ W;rwa [decide_eq_true h1]at this
   have HH:=zh h1;clear h1
   gi_wp2_with fail
   exact⟨hkq.out _,rfl,⟨pre,_,false,rfl,uf.out,.inl ⟨HH.out,rfl⟩,nu.out _⟩,dh.out _⟩
  have e1:∀ W:World,(binOp .eql 27 (.agg #[vI zia,vI zn]) (.agg #[vI xa,vI xn])).run Tryz.prog W=.ok (.bool false) W:=fun W=>by have:=dF ⟨zia,zn⟩ ⟨xa,xn⟩ W;rwa [decide_eq_false h1]at this
  have HH:=zh h1;clear h1;by_cases h2:(⟨zia,zn⟩:IdR)=⟨ya,yn⟩
  ·have e2:∀ W:World,(binOp .eql 27 (.agg #[vI zia,vI zn]) (.agg #[vI ya,vI yn])).run Tryz.prog W=.ok (.bool true) W:=fun W=>by have:=dF ⟨zia,zn⟩ ⟨ya,yn⟩ W;rwa [decide_eq_true h2]at this
   have HH2:=zh h2;clear h2
   gi_wp2_with fail
   exact⟨hkq.out _,rfl,⟨pre,_,true,rfl,uf.out,.inr ⟨HH.out,HH2.out,rfl⟩,nu.out _⟩,dh.out _⟩
  have e2:∀ W:World,(binOp .eql 27 (.agg #[vI zia,vI zn]) (.agg #[vI ya,vI yn])).run Tryz.prog W=.ok (.bool false) W:=fun W=>by have:=dF ⟨zia,zn⟩ ⟨ya,yn⟩ W;rwa [decide_eq_false h2]at this
  have HH2:=zh h2;clear h2
  gi_wp2_with fail
  refine⟨hkr.out,HI.out.bx,HI.out.by',HI.out.res,fun u hu=>?_,HI.out.bel⟩;rcases List.mem_append.1 hu with hu|hu
  ·exact uf.out u hu
  rw[yf.1 hu];exact⟨HH.out,HH2.out⟩
 case done=>
  rintro D xs X hD hS hI hK
  exfalso
  obtain⟨h1,h2,h3⟩:=HM.out;obtain⟨k,hk,e⟩:=List.getElem_of_mem h1;have hz:(ids.zip fl)[k]?=some (x,fl[k]'(by omega)):=by
   rw[List.getElem?_eq_getElem (by rw[List.length_zip];omega)];simp[e]
  rw[<- hS]at hz;exact(hI.no _ (List.mem_of_getElem? hz)).1 rfl
 case stop=>
  rintro D c pre X hD wb hI hK;obtain rfl:=hI.ret;obtain⟨pre',z,r,rfl,hno,hr,hLr⟩:=hI.ex;have ve:ek=r:=by
   rw[HE.out];obtain⟨h1,h2,h3⟩:=HM.out;obtain⟨R,hR⟩:=wb;have e:ids=pre'.map Prod.fst++z.1::R.map Prod.fst:=by
    have:=congrArg (List.map Prod.fst) hR;rw[List.map_fst_zip (by omega)]at this;rw[<- this];simp
   refine uAK e (fun hm=>?_) (fun hm=>?_) h1 h2 hr
   ·obtain⟨u,hu,e'⟩:=yj.1 hm;exact(hno u hu).1 e'
   obtain⟨u,hu,e'⟩:=yj.1 hm;exact(hno u hu).2 e'
  have hE:=zh (cb_end (D:=D) hI.bel hLr (by omega));have vf:=zh hK;have HR:=zh ve;clear LI ja HE hI hK wb hD hno hr hLr ve
  gi_wp2_with fail
  refine⟨by simp,.inl ⟨_,_,rfl,run_takeDeferred vf.out,?_⟩⟩;have hc:=hE.out.1;refine⟨.bool r,by simp[results,Tryz.results228,go_sem,hc],by rw[HR.out],by first|exact hE.out.2 |(rw[HQ.out];exact hE.out.2)⟩
def ltr(i:Nat):UInt8:=UInt8.ofNat (65+i)
theorem alpha_at:∀ i,i<26->((([65,66,67,68,69,70,71,72,73,74,75,76,77,78,79,80,81,82,83,84,85,86,87,88,89,90]:Bs).drop i).take 1)=[UInt8.ofNat (65+i)]:=by decide
theorem deci_at:∀ i,i<10->((([48,49,50,51,52,53,54,55,56,57]:Bs).drop i).take 1)=[UInt8.ofNat (48+i)]:=by decide
theorem lB(i:Nat)(w:World)(h:i<26) :
  Calls Tryz.prog 233 #[vI (i:Int)] w fun e w'=>e=.returned (vS ([ltr i].toArray))/\w'=w:=by
 have HA:Hid (_=[ltr i]):=zh (alpha_at i h);have hw:IntKind.i64.wrap ((i:Int)+1)=(i:Int)+1:=IntWalk.i64_in _ (by omega)
 go_in
 go_wp2_with fail
 go_ret
 refine⟨?_,rfl⟩;rw[<- HA.out];simp[go_sem]
theorem lC:∀ (b n:Nat),n<=b->n<=1000000->∀ (w:World),
  Calls Tryz.prog 198 #[vI (n:Int)] w fun e w'=>e=.returned (vT (Lib.decDigits n))/\w'=w:=by
 intro b
 induction b with
 |zero=>
  intro n hb _ w;obtain rfl:n=0:=by omega
  have HE:Hid (Lib.decDigits 0=[48]):=zh (Lib.decDigits_one (by decide))
  go_in
  go_wp2_with fail
  go_ret
  refine⟨?_,rfl⟩;rw[HE.out];rfl
 |succ b ih=>
  intro n hb hn w;rcases Nat.lt_or_ge n 10 with hlt|hge
  ·have HE:=zh ((deci_at n hlt).trans (Lib.decDigits_one hlt).symm);have hw:IntKind.i64.wrap ((n:Int)+1)=(n:Int)+1:=IntWalk.i64_in _ (by omega);have hi:(n:Int)<10:=by omega
   clear ih
   go_in
   go_wp2_with fail
   go_ret
   refine⟨?_,rfl⟩;rw[<- HE.out];simp[go_sem]
  have C1:=zh (fun W=>ih (n / 10) (by omega) (by omega) W);have C2:=zh (fun W=>ih (n % 10) (by omega) (by omega) W);have HE:Hid (Lib.decDigits (n / 10)++Lib.decDigits (n % 10)=Lib.decDigits n):=zh (by
   rw[Lib.decDigits_one (by omega:n % 10<10)]
   conv=>rhs;rw[Lib.decDigits,dif_neg (by omega)])
  have hq:(n:Int).tdiv 10=((n / 10:Nat):Int):=by rw[Int.tdiv_eq_ediv_of_nonneg (by omega)];omega
  have hr:(n:Int).tmod 10=((n % 10:Nat):Int):=by rw[Int.tmod_eq_emod_of_nonneg (by omega)];omega
  have hwq:IntKind.i64.wrap ((n / 10:Nat):Int)=((n / 10:Nat):Int):=IntWalk.i64_in _ (by omega);have wo:=bW (n / 10) 6 (by omega);have ru:=bW (n % 10) 6 (by omega);have hge':(10:Int)<=(n:Int):=by omega
  generalize n / 10=a at *;generalize n % 10=c at *;generalize Lib.decDigits a=P at *;generalize Lib.decDigits c=Q at *;generalize Lib.decDigits n=R at *;have k1:¬ 9223372036854775807<P.length+Q.length:=by omega
  clear ih hb
  go_in
  go_wp2_with (first |(with_reducible refine(C1.out _).mono ?_;rintro e wx ⟨rfl,rfl⟩) |(with_reducible refine(C2.out _).mono ?_;rintro e wx ⟨rfl,rfl⟩))
  go_ret
  exact⟨congrArg (fun l:Bs=>Ending.returned (vT l)) HE.out,rfl⟩
theorem nX(n:Nat)(w:World)(hn:n<702) :
  Calls Tryz.prog 197 #[vI (n:Int)] w fun e w'=>e=.returned (vT (dS (n+1)))/\w'=w:=by
 have h1:¬ (n:Int)<0:=by omega
 have h2:¬ (18277:Int)<(n:Int):=by omega
 rcases Nat.lt_or_ge n 26 with hlt|hge
 ·have C1:=zh (fun W=>lB n W hlt);have HE:Hid ([ltr n]=dS (n+1)):=zh (by
   rw[eT (n+1) (by omega),show (n+1-1) / 26=0 by omega,show (n+1-1) % 26=n by omega,fK,List.nil_append];rfl)
  have hi:(n:Int)<26:=by omega
  go_in
  go_wp2_with (first |(with_reducible refine(C1.out _).mono ?_;rintro e wx ⟨rfl,rfl⟩))
  go_ret
  exact⟨congrArg (fun l:Bs=>Ending.returned (vT l)) HE.out,rfl⟩
 have C1:=zh (fun W=>lB ((n-26) / 26) W (by omega));have C2:=zh (fun W=>lB ((n-26) % 26) W (by omega));have HE:Hid ([ltr ((n-26) / 26)]++[ltr ((n-26) % 26)]=dS (n+1)):=zh (by
  rw[eT (n+1) (by omega),eT ((n+1-1) / 26) (by omega),show ((n+1-1) / 26-1) / 26=0 by omega,show ((n+1-1) / 26-1) % 26=(n-26) / 26 by omega,show (n+1-1) % 26=(n-26) % 26 by omega,fK,List.nil_append];rfl)
 have hw:IntKind.i64.wrap ((n:Int)-26)=((n-26:Nat):Int):=by rw[IntWalk.i64_in _ (by omega)];omega
 have hq:((n-26:Nat):Int).tdiv 26=(((n-26) / 26:Nat):Int):=by rw[Int.tdiv_eq_ediv_of_nonneg (by omega)];omega
 have hr:((n-26:Nat):Int).tmod 26=(((n-26) % 26:Nat):Int):=by rw[Int.tmod_eq_emod_of_nonneg (by omega)];omega
 have hwq:IntKind.i64.wrap (((n-26) / 26:Nat):Int)=(((n-26) / 26:Nat):Int):=IntWalk.i64_in _ (by omega);have hi:¬ (n:Int)<26:=by omega
 have hj:(n:Int)<702:=by omega
 generalize (n-26) / 26=a at *;generalize (n-26) % 26=c at *;generalize n-26=d at *;generalize dS (n+1)=R at *
 go_in
 go_wp2_with (first |(with_reducible refine(C1.out _).mono ?_;rintro e wx ⟨rfl,rfl⟩) |(with_reducible refine(C2.out _).mono ?_;rintro e wx ⟨rfl,rfl⟩))
 go_ret
 exact⟨congrArg (fun l:Bs=>Ending.returned (vT l)) HE.out,rfl⟩
theorem lE(row col:Nat)(fr fc:Bool)(w:World)(hr:row<=9999998)(hc:col<=18277) :
  Calls Tryz.prog 196 #[.agg #[vI (row:Int),vI (col:Int),.bool fr,.bool fc]] w fun e w'=>e=.returned (.bool true)/\Below w.heap.size w w':=by
 have HB:Hid (Below w.heap.size w (w.alloc (.cells #[vI (row:Int),vI (col:Int),.bool fr,.bool fc] 143))):=zh ((Below.refl _ w).alloc zr _);have h1:(0:Int)<=(row:Int):=by omega
 have h2:(row:Int)<=9999998:=by omega
 have h3:(0:Int)<=(col:Int):=by omega
 have h4:(col:Int)<=18277:=by omega
 go_in
 go_wp2_with fail
 go_ret
 exact⟨rfl,HB.out⟩
def MkR(w:World)(row col:Int)(fr fc:Bool)(w':World):Prop:=w.heap.size<w'.heap.size/\w'.cell? ⟨w.heap.size,0,none⟩=some (vI row)/\w'.cell? ⟨w.heap.size,1,none⟩=some (vI col)/\w'.cell? ⟨w.heap.size,2,none⟩=some (.bool fr)/\w'.cell? ⟨w.heap.size,3,none⟩=some (.bool fc)/\Below w.heap.size w w'
theorem MkR.start(w:World)(row col:Int)(fr fc:Bool):MkR w row col fr fc (w.alloc (.cells #[vI row,vI col,.bool fr,.bool fc] 143)):=⟨by simp,by simp,by simp,by simp,by simp,(Below.refl _ w).alloc zr _⟩
theorem MkR.next{w w' w'':World}{row col:Int}{fr fc:Bool}(h:MkR w row col fr fc w')(hb:Below w'.heap.size w' w''):MkR w row col fr fc w'':=by
 obtain⟨h1,h2,h3,h4,h5,h6⟩:=h;exact⟨yu h1 hb.size,(hb.cell (p:=⟨w.heap.size,0,none⟩) h1).trans h2,(hb.cell (p:=⟨w.heap.size,1,none⟩) h1).trans h3,(hb.cell (p:=⟨w.heap.size,2,none⟩) h1).trans h4,(hb.cell (p:=⟨w.heap.size,3,none⟩) h1).trans h5,h6.trans (hb.mono (Nat.le_of_lt h1))⟩
theorem uBY(row col:Nat)(fr fc:Bool)(w:World)(hr:row<=400)(hc:col<=400) :
  Calls Tryz.prog 143 #[.agg #[vI (row:Int),vI (col:Int),.bool fr,.bool fc]] w fun e w'=>e=.returned (vT (iY row col fr fc))/\Below w.heap.size w w':=by
 have T0:=zh (MkR.start w row col fr fc);have CR:=zh (fun W=>lE row col fr fc W (by omega) (by omega));have CL:=zh (fun W=>nX col W (by omega));have CN:Hid (∀ W,Calls Tryz.prog 198 #[vI ((row:Int)+1)] W fun e w'=>e=.returned (vT (Lib.decDigits (row+1)))/\w'=W):=zh (fun W=>lC _ (row+1) zr (by omega) W);have HE:Hid (qT fc++(dS (col+1)++(qT fr++Lib.decDigits (row+1)))=iY row col fr fc):=zh rfl;have hwr:IntKind.i64.wrap ((row:Int)+1)=(row:Int)+1:=IntWalk.i64_in _ (by omega);have xe:=fY (col+1) (by omega);have hd4:=bW (row+1) 6 (by omega);generalize iY row col fr fc=M at *;generalize dS (col+1)=L at *;generalize Lib.decDigits (row+1)=D at *;have k1:¬ 9223372036854775807<L.length+1:=by omega
 have k2:¬ 9223372036854775807<L.length+1+1:=by omega
 have k3:¬ 9223372036854775807<L.length+1+1+D.length:=by omega
 have k4:¬ 9223372036854775807<L.length+1+D.length:=by omega
 have k5:¬ 9223372036854775807<L.length+D.length:=by omega
 clear hr hc;obtain⟨g0,g1,g2,g3,g4,g5⟩:=T0.out
 go_in
 go_upto_region 1 with fail
 generalize w.alloc (.cells #[vI (row:Int),vI (col:Int),.bool fr,.bool fc] 143)=W at *
 go_wp2_with fail
 refine(CR.out _).mono ?_;rintro e W2 ⟨rfl,hb⟩;have T2:=zh (T0.out.next hb);clear g0 g1 g2 g3 g4 g5 T0 hb;obtain⟨g0,g1,g2,g3,g4,g5⟩:=T2.out;cases fr <;> cases fc
 all_goals go_wp2_with (first |(with_reducible refine(CL.out _).mono ?_;rintro e wx ⟨rfl,rfl⟩) |(with_reducible refine(CN.out _).mono ?_;rintro e wx ⟨rfl,rfl⟩))
 all_goals go_ret
 all_goals
  refine⟨?_,g5⟩;rw[<- HE.out];simp[qT]
structure RfMk(q base:Nat)(acc:List IdR)(fl:List Bool)(v1 v2:Value)(W:World):Prop where
 ax:Lies W q 156 #[v1,v2]
 r1:W.ownsRow base 27 2 v1 acc.length (aI acc)
 r2:W.ownsRow base 4 1 v2 acc.length (fl.map Value.bool)
theorem RfMk.next{q base:Nat}{acc:List IdR}{fl:List Bool}{v1 v2:Value}{W W':World}(h:RfMk q base acc fl v1 v2 W)(hb:Below W.heap.size W W'):RfMk q base acc fl v1 v2 W' :=
 ⟨h.ax.next hb,aD hb h.r1,aD hb h.r2⟩
theorem nP:∀ (l:List IdR) (k:Nat) (h:k<l.length),(aI l)[k*2]?=some (vI l[k].a)/\(aI l)[k*2+1]?=some (vI l[k].n)
 | [],_,h=>absurd h (by simp)
 |x::r,0,_=>⟨rfl,rfl⟩
 |x::r,k+1,h=>by
  have:=nP r k (by simpa using h);have e:aI (x::r)=[vI x.a,vI x.n]++aI r:=rfl;rw[e,List.getElem?_append_right (by simp;omega),List.getElem?_append_right (by simp;omega)];simp only[yi,List.length_nil,Nat.zero_add];rw[show (k+1)*2-2=k*2 by omega,show (k+1)*2+1-2=k*2+1 by omega];exact this
theorem hH{W:World}{base g cap n:Nat}{l:List IdR}(h:W.ownsRow base 27 2 (.slice (some ⟨g,0,none⟩) n cap) n (aI l))(k:Nat)(hk:k<l.length):W.rangeAt g (k*2) [vI l[k].a,vI l[k].n]:=fun j v hv=>by
 have hc:=h.cells (g:=g) rfl;obtain⟨h1,h2⟩:=nP l k hk;have k1:=hc _ _ h1;have k2:=hc _ _ h2;rw[Addr.add_mid,Nat.zero_add]at k1 k2
 match j,hv with
 |0,hv=>simp at hv;subst hv;exact k1
 |1,hv=>simp at hv;subst hv;exact k2
theorem id_if{x y:IdR}{b:Bool}(h:decide (y=x)=b)(w:World):(if y.a=x.a then (if y.n=x.n then Result.ok (Next.value (.bool true)) w else Result.ok (Next.value (.bool false)) w) else Result.ok (Next.value (.bool false)) w)=Result.ok (Next.value (.bool b)) w:=by
 subst h;obtain⟨a,n⟩:=x;obtain⟨a2,n2⟩:=y;by_cases h1:a2=a
 ·by_cases h2:n2=n
  ·subst h1 h2;simp
  simp[h2]
 simp[h1]
theorem iM:(Tryz.prog.info? 27).map (·.size)=some 2:=by kernel_rfl
theorem gO(q base:Nat)(l:List IdR)(fl:List Bool)(v1 v2:Value)(x:IdR)(w:World)(hM:RfMk q base l fl v1 v2 w)(hl:l.length<=100000) :
  Calls Tryz.prog 130 #[vP q 0,idV x] w fun e w'=>e=.returned (vI (bB l x))/\Below w.heap.size w w':=by
 obtain⟨W1,an⟩:=zD (w.alloc (.cells #[vI x.a,vI x.n] 27))
 have al:=zh an;have HL:=zL an;have hb1:Below w.heap.size w W1:=by rw[an];exact(zp _)
 have HB:=zh hb1;have HM:=zh (hM.next hb1);obtain⟨A,cap,rfl⟩:=aV hM.r1;have i6:=zh hl;clear an hb1 hM hl
 go_in
 go_upto_region 1 with fail
 rw[<- al.out];generalize hq:w.heap.size=qb at *;clear al
 go_wp2_with fail
 go_loopw [5] (fun v wr=>∃ k:Nat,k<=l.length/\v=vI (k:Int)/\Hid (x∉l.take k)/\Hid (Below W1.heap.size W1 wr)) (fun v _=>l.length-(intOf v).toNat)
 case atStart=>exact⟨0,zm _,rfl,zh (by simp),zh zB⟩
 case round=>
  obtain⟨k,hk,rfl,ma,pf⟩:=hrel;have j8:=zh (HM.out.next pf.out);have a0:wr.cell? ⟨q,0,none⟩=some (.slice A l.length cap):=j8.out.ax.cell 0;have rv:(k:Int)<=100000:=by have:=i6.out;omega
  by_cases hlt:k<l.length
  ·have iu:(k:Int)<(l.length:Int):=by omega
   obtain⟨g,ou,hv,mq,hgl⟩:=j8.out.r1.form (by omega);cases hv;have jh:=zh (hH j8.out.r1 k hlt);obtain⟨y,hy⟩:=zE (l[k])
   rw[hy]at jh;have HY:=zh hy;clear hy;obtain⟨b,hb⟩:=zE (decide (y=x))
   have lk:=zh hb;clear hb;have HLr:=zh (HL.out.next pf.out);obtain⟨Wr,hWr⟩:=zD wr
   subst hWr
   go_upto_region 4 with fail
   clear a0
   go_cut [23] (fun v wx=>v=.bool b/\Hid (Below Wr.heap.size Wr wx))
   case first=>
    obtain⟨TT,ah⟩:∃ TT:List (Nat×Nat×Value),TT=((0,15,vP q 0)::(1,16,vP q 0)::(2,17,vP q 0)::(3,18,.slice (some ⟨g,0,none⟩) l.length cap)::(4,19,vI (k:Int))::(5,20,vP g (k*2))::(6,21,idV y)::(7,22,idV x)::(8,23,.bool b)::[]):=⟨_,rfl⟩
    have bd:=zh ah;clear ah;refine bV (fun a0=>25<=a0.tmps.size/\a0.eval (.tmp 0)=vP q 0/\a0.eval (.tmp 3)=vP qb 0/\a0.eval (.tmp 5)=vI (k:Int)) (15::16::17::18::19::20::21::22::23::[]) TT [] (fun w'=>Below Wr.heap.size Wr w') (by kernel_rfl) (by kernel_rfl) ⟨by simp,rfl,rfl,rfl⟩ zB.drew ?_ ?_
    ·rintro a0 ⟨hs,dv,kn,qw⟩ zl a1 w1 zj o aq hI aj ho zd;have hb1:Below Wr.heap.size Wr w1:=hI.st;have ah:=bd.out
     subst ah;have e0x:=hI.off.q dv;have e3x:=hI.off.q kn;have e5x:=hI.off.q qw;have hj:=Up.of_false aj;have hj12:zj<9:=by rw[aq]at hj;exact hj
     have G:RG _ _ _ _ _ _ _ _ _ _ _:=⟨by rfl,hI,hs,aj,ho,zd⟩
     (iterate 8 rcases zq hj12 with hj12|rfl);obtain rfl:=cz hj12;all_goals obtain rfl:=oi ho
     ·exact G.nl 0 rfl (by simp[execOp,go_sem,e0x])
     ·exact G.nl 1 rfl (by simp[execOp,go_sem,G.t 0])
     ·exact G.nl 2 rfl (by simp[execOp,go_sem,G.t 1])
     ·have xq:w1.cell? ⟨q,0,none⟩=some (.slice (some ⟨g,0,none⟩) l.length cap):=(j8.out.next hb1).ax.cell 0;exact G.nl 3 rfl (by simp[execOp,go_sem,G.t 2,xq])
     ·exact G.nl 4 rfl (by simp[execOp,go_sem,e5x])
     ·exact G.nl 5 rfl (by simp[execOp,go_sem,G.t 3,G.t 4,iu])
     ·have p5:=G.d 5;exact G.nl 6 rfl (aQ 27 (.tmp 20) rfl g (k*2) p5 _ _ (fun j v hv=>(hb1.cell (p:=⟨g,k*2+j,none⟩) hgl).trans (jh.out j v hv)) Tryz.underlying27 rfl iM)
     ·exact G.nl 7 rfl (aQ 27 (.tmp 3) rfl qb 0 ((hI.off.eval (by decide)).trans kn) _ _ ((HLr.out.next hb1).range) Tryz.underlying27 rfl iM)
     exact G.nl 8 rfl (by simp[execOp,go_sem,G.t 6,G.t 7];exact id_if lk.out w1)
    intro zl a1 w1 hI bi;have hb1:Below Wr.heap.size Wr w1:=hI.st;have ah:=bd.out;subst ah;have z23:=hI.ptk 8 rfl (bi 8 (by decide));obtain⟨ff,rfl,hf⟩:=hI.off.forms;rw[<- hf 23]at z23;clear hI;simp only[List.foldl,Act.put,yz,List.set];rw[z23];simp only[Exit.then]
    go_step
    go_meet
    exact⟨rfl,zh hb1⟩
   case rest=>
    obtain⟨rfl,lh⟩:=hcut;have nc:=zh (zU pf.out lh.out);clear lh;cases b
    ·have ug:y≠x:=of_decide_eq_false lk.out
     go_wp2_with fail
     go_roundw
     case rel=>exact⟨k+1,by omega,by go_num,zh (by rw[yw hlt,HY.out,List.mem_append,not_or];exact⟨ma.out,fun h=>ug (yf.1 h).symm⟩),nc⟩
     case measure=>first |(simp[intOf];done) |(simp[intOf];omega)
    have ug:y=x:=of_decide_eq_true lk.out
    go_wp2_with fail
    go_ret
    exact⟨by rw[show bB l x=(k:Int) from(gM x l 0 k ma.out (by rw[List.getElem?_eq_getElem hlt,HY.out,ug])).trans (by rw[Nat.zero_add])];rfl,by first|exact HB.out.trans (nc.out.mono (by have:=HB.out.size;omega)) |(rw[hq];exact HB.out.trans (nc.out.mono (by have:=HB.out.size;omega)))⟩
  obtain rfl:k=l.length:=by omega
  go_wp2_with fail
  go_ret
  exact⟨by rw[show bB l x=-1 from eU x l 0 (by have:=ma.out;rwa [List.take_length]at this)];rfl,by first|exact HB.out.trans (pf.out.mono (by have:=HB.out.size;omega)) |(rw[hq];exact HB.out.trans (pf.out.mono (by have:=HB.out.size;omega)))⟩
theorem uCG(A:Option Addr)(cap base:Nat)(l:List IdR)(x:IdR)(w:World)(hM:w.ownsRow base 27 2 (.slice A l.length cap) l.length (aI l))(hl:l.length<=100000) :
  Calls Tryz.prog 226 #[.slice A l.length cap,idV x] w fun e w'=>e=.returned (vI (bB l x))/\Below w.heap.size w w':=by
 obtain⟨W1,an⟩:=zD (w.alloc (.cells #[vI x.a,vI x.n] 27))
 have al:=zh an;have HL:=zL an;have hb1:Below w.heap.size w W1:=by rw[an];exact(zp _)
 have HB:=zh hb1;have HM:=zh (aD hb1 hM);have i6:=zh hl;obtain⟨n,hn⟩:=zD l.length
 have HN:=zh hn;rw[<- hn];clear an hb1 hM hl hn
 go_in
 go_upto_region 1 with fail
 rw[<- al.out];generalize hq:w.heap.size=qb at *;clear al
 go_wp2_with fail
 go_loopw [8] (fun v wr=>∃ k:Nat,k<=n/\v=vI (k:Int)/\Hid (x∉l.take k)/\Hid (Below W1.heap.size W1 wr)) (fun v _=>n-(intOf v).toNat)
 case atStart=>exact⟨0,zm _,rfl,zh (by simp),zh zB⟩
 case round=>
  obtain⟨k,hk,rfl,ma,pf⟩:=hrel;have j8:=zh (aD pf.out HM.out);have rv:(k:Int)<=100000:=by have:=i6.out;have:=HN.out;omega
  by_cases hlt:k<n
  ·have iu:(k:Int)<(n:Int):=by omega
   have ki:k<l.length:=by rw[<- HN.out];exact hlt
   obtain⟨g,ou,hv,mq,hgl⟩:=j8.out.form (by omega);cases hv;have jh:=zh (hH j8.out k ki);obtain⟨y,hy⟩:=zE (l[k])
   rw[hy]at jh;have HY:=zh hy;clear hy;obtain⟨b,hb⟩:=zE (decide (y=x))
   have lk:=zh hb;clear hb;have HLr:=zh (HL.out.next pf.out);obtain⟨Wr,hWr⟩:=zD wr
   subst hWr
   go_upto_region 4 with fail
   go_cut [16] (fun v wx=>v=.bool b/\Hid (Below Wr.heap.size Wr wx))
   case first=>
    obtain⟨TT,ah⟩:∃ TT:List (Nat×Nat×Value),TT=((0,11,idV x)::(1,12,.slice (some ⟨g,0,none⟩) n cap)::(2,13,vI (k:Int))::(3,14,vP g (k*2))::(4,15,idV y)::(5,16,.bool b)::[]):=⟨_,rfl⟩
    have bd:=zh ah;clear ah;refine bV (fun a0=>19<=a0.tmps.size/\a0.eval (.tmp 0)=.slice (some ⟨g,0,none⟩) n cap/\a0.eval (.tmp 3)=vP qb 0/\a0.eval (.tmp 5)=vI (k:Int)) (11::12::13::14::15::16::[]) TT [] (fun w'=>Below Wr.heap.size Wr w') (by kernel_rfl) (by kernel_rfl) ⟨by simp,rfl,rfl,rfl⟩ zB.drew ?_ ?_
    ·rintro a0 ⟨hs,dv,kn,qw⟩ zl a1 w1 zj o aq hI aj ho zd;have hb1:Below Wr.heap.size Wr w1:=hI.st;have ah:=bd.out
     subst ah;have e0x:=hI.off.q dv;have e3x:=hI.off.q kn;have e5x:=hI.off.q qw;have hj:=Up.of_false aj;have hj12:zj<6:=by rw[aq]at hj;exact hj
     have G:RG _ _ _ _ _ _ _ _ _ _ _:=⟨by rfl,hI,hs,aj,ho,zd⟩
     rcases(by omega:zj=0\/zj=1\/zj=2\/zj=3\/zj=4\/zj=5) with rfl|rfl|rfl|rfl|rfl|rfl<;>obtain rfl:=oi ho
     ·exact G.nl 0 rfl (aQ 27 (.tmp 3) rfl qb 0 ((hI.off.eval (by decide)).trans kn) _ _ ((HLr.out.next hb1).range) Tryz.underlying27 rfl iM)
     ·exact G.nl 1 rfl (by simp[execOp,go_sem,e0x])
     ·exact G.nl 2 rfl (by simp[execOp,go_sem,e5x])
     ·exact G.nl 3 rfl (by simp[execOp,go_sem,G.t 1,G.t 2,iu])
     ·have p3:=G.d 3;exact G.nl 4 rfl (aQ 27 (.tmp 14) rfl g (k*2) p3 _ _ (fun j v hv=>(hb1.cell (p:=⟨g,k*2+j,none⟩) hgl).trans (jh.out j v hv)) Tryz.underlying27 rfl iM)
     exact G.nl 5 rfl (by simp[execOp,go_sem,G.t 0,G.t 4];exact id_if (x:=y) (y:=x) (by rw[<- lk.out];exact decide_eq_decide.2 eq_comm) w1)
    intro zl a1 w1 hI bi;have hb1:Below Wr.heap.size Wr w1:=hI.st;have ah:=bd.out;subst ah;have z23:=hI.ptk 5 rfl (bi 5 (by decide));obtain⟨ff,rfl,hf⟩:=hI.off.forms;rw[<- hf 16]at z23;clear hI;simp only[List.foldl,Act.put,yz,List.set];rw[z23];simp only[Exit.then]
    go_step
    go_meet
    exact⟨rfl,zh hb1⟩
   case rest=>
    obtain⟨rfl,lh⟩:=hcut;have nc:=zh (zU pf.out lh.out);clear lh;cases b
    ·have ug:y≠x:=of_decide_eq_false lk.out
     go_wp2_with fail
     go_roundw
     case rel=>exact⟨k+1,by omega,by go_num,zh (by rw[yw ki,HY.out,List.mem_append,not_or];exact⟨ma.out,fun h=>ug (yf.1 h).symm⟩),nc⟩
     case measure=>first |(simp[intOf];done) |(simp[intOf];omega)
    have ug:y=x:=of_decide_eq_true lk.out
    go_wp2_with fail
    go_ret
    exact⟨by rw[show bB l x=(k:Int) from(gM x l 0 k ma.out (by rw[List.getElem?_eq_getElem ki,HY.out,ug])).trans (by rw[Nat.zero_add])];rfl,by first|exact HB.out.trans (nc.out.mono (by have:=HB.out.size;omega)) |(rw[hq];exact HB.out.trans (nc.out.mono (by have:=HB.out.size;omega)))⟩
  obtain rfl:k=n:=by omega
  go_wp2_with fail
  go_ret
  exact⟨by rw[show bB l x=-1 from eU x l 0 (by have:=ma.out;rwa [HN.out,List.take_length]at this)];rfl,by first|exact HB.out.trans (pf.out.mono (by have:=HB.out.size;omega)) |(rw[hq];exact HB.out.trans (pf.out.mono (by have:=HB.out.size;omega)))⟩
theorem AxRaw.next{b base:Nat}{ids:List IdR}{fl:List Bool}{v1 v2:Value}{W W':World}(h:AxRaw b base ids fl v1 v2 W)(hb:Below W.heap.size W W'):AxRaw b base ids fl v1 v2 W' :=
 ⟨h.ax.next hb,aD hb h.r1,aD hb h.r2⟩
theorem eql_nil(w:World):(binOp .eql 149 (.map none) (.map none)).run Tryz.prog w=.ok (.bool true) w:=by kernel_rfl
theorem spot_any(q base:Nat)(l:List IdR)(fl:List Bool)(v1 v2:Value)(x:IdR)(w:World)(hM:AxRaw q base l fl v1 v2 w)(hl:l.length<=100000) :
  Calls Tryz.prog 190 #[vP q 0,idV x] w fun e w'=>e=.returned (vI (bB l x))/\Below w.heap.size w w':=by
 have heq:=eql_nil;obtain⟨W1,an⟩:=zD (w.alloc (.cells #[vI x.a,vI x.n] 27))
 have al:=zh an;have HL:=zL an;have hb1:Below w.heap.size w W1:=by rw[an];exact(zp _)
 have HB:=zh hb1;obtain⟨A,cap,rfl⟩:=aV hM.r1;have HM:=zh (hM.next hb1);have i6:=zh hl;have a2:=HM.out.ax.cell 2;simp only[za,zb,zf]at a2;clear an hb1 hM hl
 go_in
 go_upto_region 1 with fail
 rw[<- al.out];generalize hq:w.heap.size=qb at *;clear al
 go_upto_region 2 with fail
 go_cut [4] (fun v wx=>v=vI (bB l x)/\Hid (Below W1.heap.size W1 wx))
 case first=>
  obtain⟨TT,ah⟩:∃ TT:List (Nat×Nat×Value),TT=((0,12,vP q 0)::(1,13,vP q 0)::(2,14,vP q 0)::(3,15,.slice A l.length cap)::(4,16,idV x)::(5,17,vI (bB l x))::(6,4,vI (bB l x))::[]):=⟨_,rfl⟩
  have bd:=zh ah;clear ah;refine bV (fun a0=>30<=a0.tmps.size/\a0.eval (.tmp 0)=vP q 0/\a0.eval (.tmp 3)=vP qb 0) (12::13::14::15::16::17::4::[]) TT [] (fun w'=>Below W1.heap.size W1 w') (by kernel_rfl) (by kernel_rfl) ⟨by simp,rfl,rfl⟩ zB.drew ?_ ?_
  ·rintro a0 ⟨hs,dv,kn⟩ zl a1 w1 zj o aq hI aj ho zd;have hb1:Below W1.heap.size W1 w1:=hI.st;have ah:=bd.out
   subst ah;have e0x:=hI.off.q dv;have e3x:=hI.off.q kn;have xq:w1.cell? ⟨q,0,none⟩=some (.slice A l.length cap):=(HM.out.next hb1).ax.cell 0;have hj:=Up.of_false aj;have hj12:zj<7:=by rw[aq]at hj;exact hj
   have G:RG _ _ _ _ _ _ _ _ _ _ _:=⟨by rfl,hI,hs,aj,ho,zd⟩
   (iterate 6 rcases zq hj12 with hj12|rfl);obtain rfl:=cz hj12;all_goals obtain rfl:=oi ho
   ·exact G.nl 0 rfl (by simp[execOp,go_sem,e0x])
   ·exact G.nl 1 rfl (by simp[execOp,go_sem,G.t 0])
   ·exact G.nl 2 rfl (by simp[execOp,go_sem,G.t 1])
   ·exact G.nl 3 rfl (by simp[execOp,go_sem,G.t 2,xq])
   ·exact G.nl 4 rfl (aQ 27 (.tmp 3) rfl qb 0 ((hI.off.eval (by decide)).trans kn) _ _ ((HL.out.next hb1).range) Tryz.underlying27 rfl iM)
   ·refine G.cn 5 rfl 226 #[.slice A l.length cap,idV x] (by simp[go_sem,G.t 3,G.t 4]) ?_;refine(uCG A cap base l x w1 (aD hb1 HM.out.r1) i6.out).mono ?_;rintro e w2 ⟨rfl,hb⟩;exact⟨rfl,zU hb1 hb⟩
   exact G.nl 6 rfl (by simp[execOp,go_sem,G.t 5])
  intro zl a1 w1 hI bi;have hb1:Below W1.heap.size W1 w1:=hI.st;have ah:=bd.out;subst ah;have z23:=hI.ptk 6 rfl (bi 6 (by decide));obtain⟨ff,rfl,hf⟩:=hI.off.forms;rw[<- hf 4]at z23;clear hI;simp only[List.foldl,Act.put,yz,List.set];rw[z23];simp only[Exit.then]
  go_step
  go_meet
  exact⟨rfl,zh hb1⟩
 case rest=>
  obtain⟨rfl,lh⟩:=hcut
  go_wp2_with fail
  go_ret
  exact⟨rfl,by first|exact zU HB.out lh.out |(rw[hq];exact HB.out.trans (lh.out.mono (by have:=HB.out.size;omega)))⟩
theorem AxRaw.kp{b base:Nat}{ids:List IdR}{fl:List Bool}{v1 v2:Value}{Y:List Nat}{W W':World}(h:AxRaw b base ids fl v1 v2 W)(hk:Kp Y W W')(hb:b∉Y)(h1:∀ g,v1.ownBlock=some g->g∉Y)(h2:∀ g,v2.ownBlock=some g->g∉Y):AxRaw b base ids fl v1 v2 W' :=
 ⟨hk.lies h.ax hb,bT h.r1 hk h1,bT h.r2 hk h2⟩
theorem AxRaw.nb{b base:Nat}{ids:List IdR}{fl:List Bool}{v1 v2:Value}{W:World}(h:AxRaw b base ids fl v1 v2 W):(∀ g,v1.ownBlock=some g->g≠b/\v2.ownBlock≠some g)/\(∀ g,v2.ownBlock=some g->g≠b) :=
 ⟨fun g hg=>⟨fun e=>bE (by decide) h.r1 h.ax (by rw[hg,e]),fun e=>iA (by decide) h.r1 h.r2 g hg e⟩,fun g hg e=>bE (by decide) h.r2 h.ax (by rw[hg,e])⟩
theorem uAW(q base:Nat)(l:List IdR)(fl:List Bool)(v1 v2:Value)(w:World)(hM:AxRaw q base l fl v1 v2 w) :
  Calls Tryz.prog 191 #[vP q 0] w fun e w'=>e=.returned (.tuple #[])/\AxRaw q base l fl v1 v2 w'/\Kp [q] w w':=by
 have f2:=hM.ax.frozen 2;have f3:=hM.ax.frozen 3;have f4:=hM.ax.frozen 4;have hlt:=hM.ax.lt;have a2:=hM.ax.cell 2;have a3:=hM.ax.cell 3;have a4:=hM.ax.cell 4;simp only[za,zb,zf]at a2 a3 a4;obtain⟨W1,an⟩:∃ W1,W1=((w.setCell ⟨q,2,none⟩ (.map none)).setCell ⟨q,3,none⟩ (.slice none 0 0)).setCell ⟨q,4,none⟩ (.slice none 0 0):=⟨_,rfl⟩
 have HL:Hid (Lies W1 q 152 #[v1,v2,.map none,.slice none 0 0,.slice none 0 0]):=zh (by rw[an];exact((hM.ax.put 2 _).put 3 _).put 4 _);have HK:Hid (Kp [q] w W1):=zh (by rw[an];exact(((Kp.refl _ w).set (.inl (.head _)) 2 _).set (.inl (.head _)) 3 _).set (.inl (.head _)) 4 _);have HM:=zh hM;have al:=zh an;clear hM an
 go_in
 go_wp2_with fail
 refine bodyPost_end (results_none rfl _ _ _) rfl ?_;rw[<- al.out];have h:=HM.out.nb;exact⟨rfl,⟨HL.out,bT HM.out.r1 HK.out (fun g hg hm=>(h.1 g hg).1 (yf.1 hm)),bT HM.out.r2 HK.out (fun g hg hm=>h.2 g hg (yf.1 hm))⟩,HK.out⟩
def iF(l:List IdR)(fl:List Bool)(x:IdR)(b:Bool):List Bool:=if bB l x<0 then fl else fl.set (bB l x).toNat b
theorem uGL(l:List IdR)(fl:List Bool)(x:IdR)(b:Bool):(iF l fl x b).length=fl.length:=by
 unfold iF
 split
 ·rfl
 exact List.length_set
theorem rQ(l:List IdR)(x:IdR):bB l x=-1\/∃ k:Nat,bB l x=(k:Int)/\k<l.length:=by
 by_cases h:x∈l
 ·obtain⟨k,h1,h2⟩:=iZ x l 0 h;exact .inr ⟨k,by unfold bB;rw[h1,Nat.zero_add],(List.getElem?_eq_some_iff.1 h2).1⟩
 exact .inl (eU x l 0 h)
theorem turn_any(q base:Nat)(l:List IdR)(fl:List Bool)(v1 v2:Value)(x:IdR)(b:Bool)(w:World)(hM:AxRaw q base l fl v1 v2 w)(hl:l.length=fl.length)(hn:l.length<=100000) :
  Calls Tryz.prog 131 #[vP q 0,idV x,.bool b] w fun e w'=>(∃ n,e=.returned (vI n))/\AxRaw q base l (iF l fl x b) v1 v2 w'/\Kp (q::v2.ownBlock.toList) w w':=by
 obtain⟨W1,an⟩:=zD (w.alloc (.cells #[vI x.a,vI x.n] 27))
 have al:=zh an;have xy:=zL an;have hb1:Below w.heap.size w W1:=by rw[an];exact(zp _)
 have HB:=zh hb1;have HM:=zh (hM.next hb1);have HL:=zh hl;have HN:=zh hn;have b0:=xy.out.cell 0;have b1:=xy.out.cell 1;simp only[za,zb,zf]at b0 b1;clear an hb1 hM hl hn
 go_in
 go_upto_region 1 with fail
 rw[<- al.out];generalize hq:w.heap.size=qb at *;have HQ:=zh hq;clear al hq
 go_wp2_with fail
 refine(spot_any q base l fl v1 v2 x W1 HM.out HN.out).mono ?_;rintro e W2 ⟨rfl,aw⟩;have ko:=zh (HM.out.next aw);have au:=zh aw;have fp:Hid (Kp (q::v2.ownBlock.toList) w W2):=zh (Kp.of_below (by have h:=HB.out;rw[<- HQ.out]at h;exact zU h aw));clear aw b0 b1;rcases rQ l x with hp|⟨k,hp,hk⟩
 ·have HS:Hid (iF l fl x b=fl):=zh (by unfold iF;rw[hp];rfl);rw[hp]
  go_wp2_with fail
  go_ret
  exact⟨⟨_,rfl⟩,by rw[HS.out];exact ko.out,fp.out⟩
 have fs:k<fl.length:=by rw[<- HL.out];exact hk
 have HS:Hid (iF l fl x b=fl.set k b):=zh (by unfold iF;rw[hp,if_neg (by omega)];rfl);have HKL:=zh fs;have rv:(k:Int)<=100000:=by have:=HN.out;omega
 obtain⟨g,cap,rfl,mq,hgl⟩:=ko.out.r2.form (by omega);have iu:(k:Int)<(fl.length:Int):=by omega
 have a1:=ko.out.ax.cell 1;simp only[za,zb,zf]at a1;have hc:W2.cell? ⟨g,k,none⟩=some (.bool fl[k]):=by
  rw[ko.out.r2.cellAt k (by omega)];unfold dX;rw[List.getElem?_map,List.getElem?_eq_getElem fs];rfl
 obtain⟨c,oc⟩:=zE (fl[k])
 have HC:=zh oc;rw[oc]at hc;rw[hp];clear hk;have fh:fl.set k c=fl:=by rw[<- oc];exact List.set_getElem_self fs
 clear oc HC;by_cases hcb:c=b
 ·subst hcb
  go_wp2_with fail
  go_ret
  exact⟨⟨_,rfl⟩,by rw[HS.out,fh];exact ko.out,fp.out⟩
 have hff:=ko.out.r2.frozenAt k;have hcf:(c==b)=false:=by cases c <;> cases b <;> first|rfl|exact absurd rfl hcb
 obtain⟨W3,gw⟩:=zD (W2.setCell ⟨g,k,none⟩ (.bool b))
 have HM3:Hid (AxRaw q base l (fl.set k b) v1 (.slice (some ⟨g,0,none⟩) fl.length cap) W3):=zh (by
  have hn:=ko.out.nb;have jt:Kp [g] W2 W3:=by rw[gw];exact(Kp.refl _ W2).set (.inl (.head _)) k _
  refine⟨jt.lies ko.out.ax (fun h=>hn.2 g rfl (yf.1 h).symm),bT ko.out.r1 jt (fun y hy hm=>(hn.1 y hy).2 (by rw[yf.1 hm];rfl)),?_⟩;have h:=(ko.out.r2.stored k (.bool b)).1;rw[<- gw]at h;rw[List.length_set];unfold dX at h ⊢;rw[List.map_set];exact h)
 have qi:Hid (Kp (q::(Value.slice (some ⟨g,0,none⟩) fl.length cap).ownBlock.toList) w W3):=zh (by rw[gw];exact fp.out.set (.inl (.tail _ (.head _))) k _);clear ko fp
 go_wp2_with fail
 rw[<- gw];refine(uAW q base l (fl.set k b) v1 _ W3 HM3.out).mono ?_;rintro e W4 ⟨rfl,h4,h5⟩
 go_wp2_with fail
 go_ret
 exact⟨⟨_,rfl⟩,by rw[HS.out];exact h4,qi.out.trans (h5.mono (fun y hy _=>by rw[yf.1 hy];exact .head _))⟩
theorem uAQ(q base:Nat)(l:List IdR)(fl:List Bool)(v1 v2:Value)(x:IdR)(w:World)(hM:AxRaw q base l fl v1 v2 w)(hl:l.length=fl.length)(hn:l.length<=100000) :
  Calls Tryz.prog 71 #[vP q 0,idV x] w fun e w'=>(∃ n,e=.returned (vI n))/\AxRaw q base l (iF l fl x false) v1 v2 w'/\Kp (q::v2.ownBlock.toList) w w':=by
 obtain⟨W1,an⟩:=zD (w.alloc (.cells #[vI x.a,vI x.n] 27))
 have al:=zh an;have xy:=zL an;have hb1:Below w.heap.size w W1:=by rw[an];exact(zp _)
 have HB:=zh hb1;have HM:=zh (hM.next hb1);have b0:=xy.out.cell 0;have b1:=xy.out.cell 1;simp only[za,zb,zf]at b0 b1;clear an hb1 hM
 go_in
 go_upto_region 1 with fail
 rw[<- al.out];generalize hq:w.heap.size=qb at *;have HQ:=zh hq;clear al hq
 go_wp2_with fail
 refine(turn_any q base l fl v1 v2 x false W1 HM.out hl hn).mono ?_;rintro e W2 ⟨⟨n,rfl⟩,h2,h3⟩
 go_wp2_with fail
 go_ret
 exact⟨⟨_,rfl⟩,h2,(Kp.of_below (by have h:=HB.out;rw[<- HQ.out]at h;exact h)).trans h3⟩
theorem RfMk.kp{q base:Nat}{acc:List IdR}{fl:List Bool}{v1 v2:Value}{Y:List Nat}{W W':World}(h:RfMk q base acc fl v1 v2 W)(hk:Kp Y W W')(hb:q∉Y)(h1:∀ g,v1.ownBlock=some g->g∉Y)(h2:∀ g,v2.ownBlock=some g->g∉Y):RfMk q base acc fl v1 v2 W' :=
 ⟨hk.lies h.ax hb,bT h.r1 hk h1,bT h.r2 hk h2⟩
theorem RfMk.nb{q base:Nat}{acc:List IdR}{fl:List Bool}{v1 v2:Value}{W:World}(h:RfMk q base acc fl v1 v2 W):(∀ g,v1.ownBlock=some g->g≠q/\v2.ownBlock≠some g)/\(∀ g,v2.ownBlock=some g->g≠q) :=
 ⟨fun g hg=>⟨fun e=>bE (by decide) h.r1 h.ax (by rw[hg,e]),fun e=>iA (by decide) h.r1 h.r2 g hg e⟩,fun g hg e=>bE (by decide) h.r2 h.ax (by rw[hg,e])⟩
theorem mA{ops:Array Oper}{rest:List Oper}{o:Oper}{a:Act}{w:World}{Q:Exit->Act->World->Prop}(pm:o.guard=none)(s x:Operand)(ho:o.op=.call { callee:=.builtin .append,args:=#[s,x],argTypes:=#[148,148] })
  (base n m:Nat) (v:Value) (xs:List Value) (hs:a.eval s=v) (ba:w.ownsRow base 4 1 v n xs) (hn:n+m<=1000000) (dt:base<=w.heap.size)
  (v2:Value) (b2:Nat) (fl:List Bool) (hx:a.eval x=v2) (ie:w.ownsRow b2 4 1 v2 m (fl.map Value.bool)) (hm:0<m)
  (h:∀ A' c' w',w'.ownsRow base 4 1 (.slice A' (n+m) c') (n+m) (xs++fl.map Value.bool)->w.grownBy w' v.ownBlock->wpList Tryz.prog ops Q rest (a.put o.dst (.slice A' (n+m) c')) w'):wpList Tryz.prog ops Q (o::rest) a w:=by
 obtain⟨i1,gi,gz0,gz1,gz2⟩:=info_parts nQ;obtain⟨g,cap,hv2,_,_,ui⟩:=fT ie hm;have uj:∀ j u,(fl.map Value.bool)[j]?=some u->w.cell? ((⟨g,0,none⟩:Addr).add j)=some u:=fun j u hj=>by
  have e:(⟨g,0,none⟩:Addr).add j=⟨g,j,none⟩:=by cases j <;> simp[Addr.add]
  rw[e];exact ui j u hj
 refine wpList_append_own (P:=Tryz.prog) w pm s x 148 ho base 4 i1 (.bool false) 1 1 Tryz.underlying148 gi gz0 gz1 gz2 rfl (by decide) v n xs hs ba ⟨g,0,none⟩ m cap (fl.map Value.bool) (by rw[hx,hv2]) ie.1 uj (fun u hu=>by obtain⟨b,_,rfl⟩:=yj.1 hu;rfl) (by unfold maxLen;omega) (by omega) dt (fun v' w' k1 k2 _=>?_);obtain⟨A',c',rfl⟩:=aV k1;exact h A' c' w' k1 k2
theorem xR{W W4:World}{z:Nat}(h:W.grownBy W4 (Value.slice (some ⟨z,0,none⟩) 0 0).ownBlock):Kp [z] W W4 :=
 (Kp.refl _ _).grown h (fun y hy=>.inl (by simp[Value.ownBlock]at hy;subst hy;exact .head _))
theorem uBA{W W4:World}{z q:Nat}{t:TypeId}{cs:Array Value}(h:W.grownBy W4 (Value.slice (some ⟨z,0,none⟩) 0 0).ownBlock)(hl:Lies W q t cs)(hq:q<z):Lies W4 q t cs :=
 (xR h).lies hl (fun hm=>by have:=yf.1 hm;omega)
theorem rset_any(q base:Nat)(l:List IdR)(fl:List Bool)(v1 v2:Value)(x:IdR)(b:Bool)(w:World)(hM:RfMk q base l fl v1 v2 w)(hl:l.length=fl.length)(hn:l.length<=100000)(dt:base<=w.heap.size) :
  Calls Tryz.prog 72 #[vP q 0,idV x,.bool b] w fun e w'=>(∃ n,e=.returned (vI n))/\(∃ v2',RfMk q base l (iF l fl x b) v1 v2' w')/\Kp [q] w w':=by
 obtain⟨W1,an⟩:=zD (w.alloc (.cells #[vI x.a,vI x.n] 27))
 have al:=zh an;have xy:=zL an;have hb1:Below w.heap.size w W1:=by rw[an];exact(zp _)
 have HB:=zh hb1;have HM:=zh (hM.next hb1);have HL:=zh hl;have HN:=zh hn;have b0:=xy.out.cell 0;have b1:=xy.out.cell 1;simp only[za,zb,zf]at b0 b1;clear an hb1 hM hl hn
 go_in
 go_upto_region 1 with fail
 rw[<- al.out];generalize hq:w.heap.size=qb at *;have HQ:=zh hq;clear al hq
 go_wp2_with fail
 refine(gO q base l fl v1 v2 x W1 HM.out HN.out).mono ?_;rintro e W2 ⟨rfl,aw⟩;have ko:=zh (HM.out.next aw);have au:=zh aw;have fp:Hid (Kp [q] w W2):=zh (Kp.of_below (by have h:=HB.out;rw[<- HQ.out]at h;exact zU h aw));have i9:Hid (base<=W2.heap.size):=zh (by have:=HB.out.size;have:=aw.size;have:=HQ.out;omega);clear aw b0 b1;rcases rQ l x with hp|⟨k,hp,hk⟩
 ·have HS:Hid (iF l fl x b=fl):=zh (by unfold iF;rw[hp];rfl);rw[hp]
  go_wp2_with fail
  go_ret
  exact⟨⟨_,rfl⟩,⟨_,by rw[HS.out];exact ko.out⟩,fp.out⟩
 have fs:k<fl.length:=by rw[<- HL.out];exact hk
 have HS:Hid (iF l fl x b=fl.set k b):=zh (by unfold iF;rw[hp,if_neg (by omega)];rfl);have rv:(k:Int)<=100000:=by have:=HN.out;omega
 obtain⟨g,cap,rfl,mq,hgl⟩:=ko.out.r2.form (by omega);have iu:(k:Int)<(l.length:Int):=by omega
 have a1:=ko.out.ax.cell 1;simp only[za,zb,zf]at a1;have hc:W2.cell? ⟨g,k,none⟩=some (.bool fl[k]):=by
  rw[ko.out.r2.cellAt k (by omega),List.getElem?_map,List.getElem?_eq_getElem fs];rfl
 obtain⟨c,oc⟩:=zE (fl[k])
 rw[oc]at hc;rw[hp];clear hk;have fh:fl.set k c=fl:=by rw[<- oc];exact List.set_getElem_self fs
 clear oc;by_cases hcb:c=b
 ·subst hcb
  go_wp2_with fail
  go_ret
  exact⟨⟨_,rfl⟩,⟨_,by rw[HS.out,fh];exact ko.out⟩,fp.out⟩
 have hcf:(c==b)=false:=by cases c <;> cases b <;> first|rfl|exact absurd rfl hcb
 have bv:Below W2.heap.size W2 (W2.alloc (.cells #[] 4)):=(zp _);have HE:Hid ((W2.alloc (.cells #[] 4)).ownsRow W2.heap.size 4 1 (.slice (some ⟨W2.heap.size,0,none⟩) 0 0) 0 []):=zh (World.ownsRow_lit W2 #[] 0 zr (by decide) rfl);have HM3:=zh (ko.out.next bv);have qi:=zh (fp.out.trans (Kp.of_below bv));have oe:Hid (W2.heap.size<=(W2.alloc (.cells #[] 4)).heap.size):=zh bv.size;have wj:Hid (q<W2.heap.size):=zh ko.out.ax.lt;have c1:=HM3.out.ax.cell 1;simp only[za,zb,zf]at c1;clear bv
 go_upto_region 7 with(at_builtin;refine mA rfl _ _ rfl W2.heap.size 0 fl.length _ [] rfl HE.out (by have:=HN.out;have:=HL.out;omega) oe.out _ base fl rfl (by have h:=HM3.out.r2;rw[HL.out]at h;rw[HL.out];exact h) (by omega) ?_;intro A4 c4 W4 k4 g4;have K4:=zh k4;have HKG:=zh (xR g4);have X4:=zh (uBA g4 HM3.out.ax wj.out);have x1:=X4.out.cell 1;have f1:=X4.out.frozen 1;have hqz:q<W4.heap.size:=X4.out.lt;simp only[za,zb,zf]at x1;clear k4 g4 a1 hc c1)
 have K5:W4.ownsRow W2.heap.size 4 1 (.slice A4 fl.length c4) fl.length (fl.map Value.bool):=by have h:=K4.out;rwa [Nat.zero_add,List.nil_append]at h
 have hqw:Kp [W2.heap.size] W2 W4:=(Kp.of_below (zp _)).trans HKG.out;have fj:W4.ownsRow base 27 2 v1 l.length (aI l):=bT ko.out.r1 hqw (fun y hy hm=>by have:=(bZ ko.out.r1 y hy).2;have:=yf.1 hm;omega);obtain⟨W5,ew⟩:=zD (W4.setCell ⟨q,1,none⟩ (.slice A4 fl.length c4))
 have rz:Kp [q] W4 W5:=by rw[ew];exact(Kp.refl _ W4).set (.inl (.head _)) 1 _
 have dx:Hid (Lies W5 q 156 #[v1,.slice A4 fl.length c4]):=zh (by rw[ew];exact X4.out.put 1 _);have ld:=zh (bT fj rz (fun y hy hm=>(ko.out.nb.1 y hy).1 (yf.1 hm)));have oy:=zh (bT K5 rz (fun y hy hm=>by have h:=(bZ K5 y hy).1;have:=yf.1 hm;have:=wj.out;omega));have ln:Hid (Kp [q] w W5):=zh ((fp.out.andThen hqw (fun y hy=>.inr (by rw[yf.1 hy];exact fp.out.size))).trans rz);have qh:Hid (w.heap.size<=W2.heap.size/\base<=W2.heap.size/\q<W2.heap.size):=zh ⟨fp.out.size,i9.out,wj.out⟩
 first|rw[<- ew] |(rw[Nat.zero_add,<- ew])
 clear K5 hqw fj rz ew x1 f1 hqz ko HM3 fp qi HKG X4 K4 HE oe;obtain⟨g4,je,hv4,hgb4,hgl4⟩:=oy.out.form (by omega);cases hv4;have y1:=dx.out.cell 1;simp only[za,zb,zf]at y1;have hc5:W5.cell? ⟨g4,k,none⟩=some (.bool fl[k]):=by
  rw[oy.out.cellAt k (by omega),List.getElem?_map,List.getElem?_eq_getElem fs];rfl
 have ff5:=oy.out.frozenAt k;have hki5:(k:Int)<(fl.length:Int):=by omega
 go_wp2_with fail
 go_ret
 obtain⟨W6,lr⟩:=zD (W5.setCell ⟨g4,k,none⟩ (.bool b))
 rw[<- lr];have hk6:Kp [g4] W5 W6:=by rw[lr];exact(Kp.refl _ W5).set (.inl (.head _)) k _
 have hg4q:g4≠q:=by have:=qh.out;omega
 have eu:=(oy.out.stored k (.bool b)).1;rw[<- lr]at eu;refine⟨⟨_,rfl⟩,⟨.slice (some ⟨g4,0,none⟩) fl.length c4,?_⟩,ln.out.andThen hk6 (fun y hy=>.inr (by rw[yf.1 hy];have:=qh.out;omega))⟩;rw[HS.out];refine⟨hk6.lies dx.out (fun h=>hg4q (yf.1 h).symm),bT ld.out hk6 (fun y hy hm=>iA (by decide) ld.out oy.out y hy (by rw[yf.1 hm];rfl)),?_⟩;rw[HL.out,List.map_set];exact aL eu qh.out.2.1
end Go.Proofs.YtjfihpaeglpblaaGreatDoor
