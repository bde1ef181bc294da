/-
  Lemmas, part 7: Ax3 Ax4 Par1 Par2 Par3 Par4 PaE.
-/
import Derived.Laws.MakeOwn
import Derived.Test.YtmgjidnalpgegaaGreatDoorPr6
set_option maxHeartbeats 100000000
namespace Go.Proofs.YtmgjidnalpgegaaGreatDoor
open Go.RowKit
def bJ:List IdR->List Bool->List IdR
 |x::r,b::s=>if b then x::bJ r s else bJ r s
 |_,_=>[]
theorem qN:∀ (r:List IdR) (s:List Bool) (x:IdR) (b:Bool),r.length=s.length->bJ (r++[x]) (s++[b])=bJ r s++(if b then [x] else [])
 | [],[],x,b,_=>by cases b <;> rfl
 |y::r,c::s,x,b,h=>by
  have ih:=qN r s x b (by simpa using h);simp only[yp,bJ];rw[ih];cases c <;> simp
 | [],_::_,_,_,h=>by simp at h
 |_::_,[],_,_,h=>by simp at h
theorem lG:∀ (r:List IdR) (s:List Bool),(bJ r s).length<=r.length
 | [],_=>by simp[bJ]
 |_::_,[]=>by simp[bJ]
 |x::r,b::s=>by
  have ih:=lG r s;unfold bJ
  split
  ·simp;exact ih
  simp;omega
theorem qO(r:List IdR)(s:List Bool)(k:Nat)(h:r.length=s.length)(hk:k<r.length):bJ (r.take (k+1)) (s.take (k+1))=bJ (r.take k) (s.take k)++(if s[k]'(by omega) then [r[k]] else []):=by
 rw[yw hk,yw (by omega:k<s.length)];exact qN _ _ _ _ (by simp;omega)
def yL(fl:List Bool):List Value:=fl.map Value.bool
structure AxRaw(b base:Nat)(ids:List IdR)(fl:List Bool)(v1 v2:Value)(W:World):Prop where
 ax:Lies W b 82 #[v1,v2,.map none,.slice none 0 0,.slice none 0 0]
 r1:W.ownsRow base 34 2 v1 ids.length (bL ids)
 r2:W.ownsRow base 4 1 v2 fl.length (yL fl)
structure rQ(b base:Nat)(l:List IdR)(W:World):Prop where
 ax:∃ v1 v2 v3 v4 m,Lies W b 82 #[v1,v2,.map (some m),v3,v4]/\W.ownsRow base 34 2 v4 l.length (bL l)
theorem uDX{W:World}{b b' n sz:Nat}{te:TypeId}{v:Value}{xs:List Value}(h:W.ownsRow b te sz v n xs)(hb:b'<=b):W.ownsRow b' te sz v n xs:=by
 rcases h with⟨hl,⟨e,hz⟩|⟨g,cap,cur,e1,e2,e3⟩⟩
 ·exact⟨hl,.inl ⟨e,hz⟩⟩
 exact⟨hl,.inr ⟨g,cap,cur,e1,yv hb e2,e3⟩⟩
theorem nQ:∀ (l:List IdR) (j:Nat) (h:j<l.length),(bL l)[j*2]?=some (.int .i64 l[j].a)/\(bL l)[j*2+1]?=some (.int .i64 l[j].n)
 |x::l,0,_=>⟨rfl,rfl⟩
 |x::l,j+1,h=>by
  have ih:=nQ l j (by simpa using h);have e1:(j+1)*2=j*2+2:=by omega
  rw[e1];exact ih
theorem rN{W:World}{base n sz:Nat}{te:TypeId}{v:Value}{xs:List Value}(h:W.ownsRow base te sz v n xs)(h0:0<n):∃ g cap,v=.slice (some ⟨g,0,none⟩) n cap/\base<=g/\g<W.heap.size/\∀ j u,xs[j]?=some u->W.cell? ⟨g,j,none⟩=some u:=by
 obtain⟨hl,⟨e,hz⟩|⟨g,cap,cur,e1,e2,e3,e4,e5,e6,e7⟩⟩:=h
 ·omega
 refine⟨g,cap,e1,e2,(zk.1 e3).1,fun j u hj=>?_⟩;rw[Lib.cell_of_heap e3];have hj':j<xs.length:=(List.getElem?_eq_some_iff.1 hj).1;have h2:(cur.toList.take (n*sz))[j]?=cur.toList[j]?:=List.getElem?_take_of_lt (by omega);rw[e7,hj]at h2;show cur[j]?=_;rw[<- Array.getElem?_toList,<- h2]
theorem uFX{W:World}{base:Nat}{v:Value}{l:List IdR}(h:W.ownsRow base 34 2 v l.length (bL l))(h0:0<l.length):∃ g cap,v=.slice (some ⟨g,0,none⟩) l.length cap/\base<=g/\IdRow W g 0 l:=by
 obtain⟨g,cap,e1,e2,e3,e4⟩:=rN h h0;refine⟨g,cap,e1,e2,e3,fun j hj=>?_⟩;rw[Nat.zero_add];exact⟨e4 _ _ (nQ l j hj).1,e4 _ _ (nQ l j hj).2⟩
theorem infoI64x:(Tryz.prog.info? 3).map (fun i=>(i.zero,i.size,i.bytes))=some (some (.int .i64 0),1,8):=by kernel_rfl
theorem mk_ints(n:Nat)(hn:n<=300)(w:World):(Instr.makeSlice 80 (.int .i64 (n:Int)) (.int .i64 (n:Int))).run Tryz.prog w=.ok (.slice (some ⟨w.heap.size,0,none⟩) n n) (w.alloc (.cells (madeCells (Value.int .i64 0).cells n) 3)):=by
 obtain⟨i0,hi,ki,js,j7⟩:=info_parts infoI64x;have h:=run_makeSlice (P:=Tryz.prog) w 80 3 i0 (.int .i64 0) Tryz.underlying80 hi ki .i64 .i64 (n:Int) (n:Int) (by omega) (Int.le_refl _) (by rw[js];omega) (by rw[j7];omega) (by omega);rw[js]at h;simpa using h
theorem neq_nil(w:World):(binOp .neq 79 (.map none) (.map none)).run Tryz.prog w=.ok (.bool false) w:=by kernel_rfl
theorem neq_some(m:Nat)(w:World):(binOp .neq 79 (.map (some m)) (.map none)).run Tryz.prog w=.ok (.bool true) w:=by kernel_rfl
theorem mk_map(n:Nat)(w:World):(Instr.makeMap 79 (some (.int .i64 (n:Int)))).run Tryz.prog w=.ok (.map (some w.heap.size)) (w.alloc (.map #[] 0)):=by
 simp[Instr.makeMap,run_underlying Tryz.underlying79,go_sem,Result.andThen]
set_option maxRecDepth 100000 in
theorem yK(b base:Nat)(ids:List IdR)(fl:List Bool)(v1 v2:Value)(w:World)(hR:AxRaw b base ids fl v1 v2 w)(hl:ids.length=fl.length)(hn:ids.length<=300)(hf:∀ y∈ids,y.fits)(hd:ids.Nodup) :
  Calls Tryz.prog 146 #[.pointer (some ⟨b,0,none⟩)] w fun e w'=>e=.returned (.tuple #[])/\rQ b w.heap.size (bJ ids fl) w'/\Kp [b] w w':=by
 have hmm:=mk_map;have hnq:=neq_nil;have hms:=fun w=>mk_ints ids.length hn w
 have HF:=zh hf;have HD:=zh hd;have HR:=zh hR;obtain⟨A1,cap1,rfl⟩:=cS hR.r1;obtain⟨A2,cap2,rfl⟩:=cS hR.r2;rw[<- hl]at HR;obtain⟨n,kx⟩:∃ n,n=ids.length:=⟨_,rfl⟩
 have HN:=zh kx;have HLf:=zh hl;rw[<- kx]at hn HR hms;have a0:=HR.out.ax.cell 0;have a2:=HR.out.ax.cell 2;have f2:=HR.out.ax.frozen 2;simp only[za,zb,zf]at a0 a2;have uy:=HR.out.ax.lt;clear hf hd hR kx hl
 go_enter Tryz.func146,Tryz.ntmps146
 go_upto_region 2 with fail
 obtain⟨W1,bt⟩:∃ W1,W1=(w.setCell ⟨b,2,none⟩ (.map (some w.heap.size))).alloc (.map #[] 0):=⟨_,rfl⟩
 have HX1:Hid (Lies W1 b 82 #[.slice A1 n cap1,.slice A2 n cap2,.map (some w.heap.size),.slice none 0 0,.slice none 0 0]):=zh (by rw[bt];exact(HR.out.ax.put 2 _).alloc _);have dz:Hid (Kp [b] w W1):=zh (by rw[bt];exact((Kp.refl _ w).set (.inl (.head _)) 2 _).alloc _);have oz:Hid (KMap W1 w.heap.size [] (fun _=>True)):=zh (by
  rw[bt];refine⟨#[],0,?_,rfl,fun e he=>by cases he⟩;have h:=heap_alloc_new (w.setCell ⟨b,2,none⟩ (.map (some w.heap.size))) (.map #[] 0);rw[World.size_setCell]at h;exact h)
 have js:W1.heap.size=w.heap.size+1:=by rw[bt,World.size_alloc,World.size_setCell]
 rw[<- bt];clear bt a0 a2 f2;have a0:=HX1.out.cell 0;have a3:=HX1.out.cell 3;have f3:=HX1.out.frozen 3;simp only[za,zb,zf]at a0 a3;have hbs1:b<W1.heap.size:=HX1.out.lt
 go_upto_region 3 with fail
 obtain⟨W2,jp⟩:∃ W2,W2=(W1.setCell ⟨b,3,none⟩ (.slice (some ⟨w.heap.size+1,0,none⟩) n n)).alloc (.cells (madeCells #[.int .i64 0] n) 3):=⟨_,rfl⟩
 have HX2:Hid (Lies W2 b 82 #[.slice A1 n cap1,.slice A2 n cap2,.map (some w.heap.size),.slice (some ⟨w.heap.size+1,0,none⟩) n n,.slice none 0 0]):=zh (by rw[jp];exact(HX1.out.put 3 _).alloc _);have bq:Hid (Kp [b] w W2):=zh (by rw[jp];exact(dz.out.set (.inl (.head _)) 3 _).alloc _);have i8:Hid (KMap W2 w.heap.size [] (fun _=>True)):=zh (by
  rw[jp];exact(oz.out.at (Below.heap_setCell _ _ _ _ (by show w.heap.size≠b;omega))).at (Below.heap_alloc _ _ _ (by rw[World.size_setCell,js];omega)))
 have bv:Hid (∃ cs:Array Value,Lies W2 (w.heap.size+1) 3 cs/\cs.size=n):=zh (by
  rw[jp];refine⟨madeCells #[.int .i64 0] n,?_,by simp[madeCells]⟩;have h:=Lies.new (W1.setCell ⟨b,3,none⟩ (.slice (some ⟨w.heap.size+1,0,none⟩) n n)) 3 (madeCells #[.int .i64 0] n);rw[World.size_setCell,js]at h;exact h)
 have ph:Hid (w.heap.size+2<=W2.heap.size):=zh (by rw[jp,World.size_alloc,World.size_setCell,js];omega);rw[<- jp];clear jp a0 a3 f3 HX1 dz oz js hbs1;have HRi:Hid (∀ wx,Kp [b] w wx->∀ k (h:k<ids.length),∃ g,A1=some ⟨g,0,none⟩/\wx.cell? ⟨g,k*2,none⟩=some (.int .i64 ids[k].a)/\wx.cell? ⟨g,k*2+1,none⟩=some (.int .i64 ids[k].n)):=zh (fun wx hk k h=>by
  have hr:=HR.out.r1;rw[HN.out]at hr;obtain⟨g,cap,e,_,bi⟩:=uFX hr (by omega);have nk:g∉[b]:=fun hm=>by
   have e2:g=b:=by simpa using hm
   exact eE (by decide) HR.out.r1 HR.out.ax (by injection e with e;rw[e,e2];rfl)
  obtain⟨q0,q1⟩:=bi.2 k h;rw[Nat.zero_add]at q0 q1;exact⟨g,by injection e,(hk.cell bi.1 nk).trans q0,(hk.cell bi.1 nk).trans q1⟩)
 have HRl:Hid (∀ wx,Kp [b] w wx->∀ k (h:k<fl.length),∃ g,A2=some ⟨g,0,none⟩/\wx.cell? ⟨g,k,none⟩=some (.bool fl[k])):=zh (fun wx hk k h=>by
  obtain⟨g,cap,e,_,hg,bi⟩:=rN HR.out.r2 (by omega);have nk:g∉[b]:=fun hm=>by
   have e2:g=b:=by simpa using hm
   exact eE (by decide) HR.out.r2 HR.out.ax (by injection e with e;rw[e,e2];rfl)
  exact⟨g,by injection e,(hk.cell hg nk).trans (bi k _ (by simp[yL,h]))⟩)
 have a0:=HX2.out.cell 0;simp only[za,zb]at a0;have hbs2:b<W2.heap.size:=HX2.out.lt
 go_upto_region 4 with fail
 clear a0 hbs2
 go_loopw [32] (fun v32 wx=>∃ (k:Nat) (v4:Value),v32=.int .i64 (k:Int)/\k<=n/\Hid (Lies wx b 82 #[.slice A1 n cap1,.slice A2 n cap2,.map (some w.heap.size),.slice (some ⟨w.heap.size+1,0,none⟩) n n,v4])/\Hid (KMap wx w.heap.size (ids.take k) (fun _=>True))/\Hid (∃ cs:Array Value,Lies wx (w.heap.size+1) 3 cs/\cs.size=n)/\Hid (wx.ownsRow (w.heap.size+2) 34 2 v4 (bJ (ids.take k) (fl.take k)).length (bL (bJ (ids.take k) (fl.take k))))/\Hid (Kp [b] w wx)/\Hid (w.heap.size+2<=wx.heap.size)) (fun v32 _=>n-(intOf v32).toNat)
 case atStart=>exact⟨0,_,rfl,zm _,HX2,i8,bv,zh ⟨rfl,.inl ⟨rfl,rfl⟩⟩,bq,ph⟩
 case round=>
  obtain⟨k,v4,rfl,hk,hX,hM,hA,hO,hK,hZ⟩:=hrel;clear HX2 i8 bv bq ph;generalize en:w.heap.size=q at *;have HQ:=zh en;clear en;by_cases hlt:k<n
  ·have ja:k<ids.length:=by rw[<- HN.out];exact hlt
   have hkf:k<fl.length:=by rw[<- HLf.out];exact ja
   obtain⟨gi,rfl,d0,d1⟩:=HRi.out wr hK.out k ja;obtain⟨gl,rfl,d2⟩:=HRl.out wr hK.out k hkf;have D2:Hid (∀ wx,Kp [b] w wx->wx.cell? ⟨gl,k,none⟩=some (.bool fl[k])):=zh (fun wx h=>by
    obtain⟨g,e,hc⟩:=HRl.out wx h k hkf;injection e with e;injection e with e;rw[e];exact hc)
   clear d2;have hxf:=HF.out _ (List.getElem_mem ja);have s6:=zh (fun y (hy:y∈ids.take k)=>HF.out y (List.mem_of_mem_take hy));have vg:=zh (qO ids fl k HLf.out ja);have HTk:=zh (yw ja);have hnin:ids[k]∉ids.take k:=fun hm=>by
    obtain⟨j,hj,e⟩:=List.getElem_of_mem hm;rw[zc]at hj;rw[List.getElem_take]at e;have:=(List.getElem_inj HD.out).1 e;omega
   have hml:(bJ (ids.take k) (fl.take k)).length<=k:=yv (lG _ _) (by rw[zc];omega);generalize ids[k]=x at *;generalize fl[k]=fk at *;generalize rr:ids.take k=acc at *;generalize tm:bJ acc (fl.take k)=lv at *;generalize o7:ids.take (k+1)=acc' at *;generalize hlv2:bJ acc' (fl.take (k+1))=lv' at *;have jz:=zh o7;have HLv2:=zh hlv2;clear o7 rr tm hlv2;obtain⟨xa,xn⟩:=x;dsimp only at d0 d1;obtain⟨A4,jh,rfl⟩:=cS hO.out;generalize hle:lv.length=m at *
   go_upto_region 6 with fail
   have hX3:=zh (hX.out.next ((Below.refl _ wr).alloc zr (.cells #[.int .i64 xa,.int .i64 xn] 34)));have tg:=zh (hM.out.at (Below.heap_alloc wr (.cells #[.int .i64 xa,.int .i64 xn] 34) q hM.out.lt));have hA3:Hid (∃ cs:Array Value,Lies (wr.alloc (.cells #[.int .i64 xa,.int .i64 xn] 34)) (q+1) 3 cs/\cs.size=n):=zh (by
    obtain⟨cs,h1,h2⟩:=hA.out;exact⟨cs,h1.next ((Below.refl _ wr).alloc zr _),h2⟩)
   have hO3:=zh (World.ownsRow.alloc hO.out (.cells #[.int .i64 xa,.int .i64 xn] 34));have hK3:=zh (hK.out.alloc (.cells #[.int .i64 xa,.int .i64 xn] 34));have uj:=zh (Lies.new wr 34 #[.int .i64 xa,.int .i64 xn]);have kb:b<wr.heap.size:=hX.out.lt;have hbq:q+2<=wr.heap.size:=hZ.out;have hbo:Hid (∀ g,(Value.slice A4 m jh).ownBlock=some g->g<wr.heap.size):=zh (fun g hg=>(bH hO.out g hg).2);have hZ3:Hid (wr.heap.size<(wr.alloc (.cells #[.int .i64 xa,.int .i64 xn] 34)).heap.size):=zh (by rw[World.size_alloc];omega);generalize wr.alloc (.cells #[.int .i64 xa,.int .i64 xn] 34)=W3 at *;generalize wr.heap.size=bx at *;clear d0 d1 hX hM hA hO hK hZ;have c2:=hX3.out.cell 2;have b0:=uj.out.cell 0;have b1:=uj.out.cell 1;simp only[za,zb,zf]at c2 b0 b1
   obtain⟨W4,ap,hM4,re⟩:=(tg.out.at (rfl:W3.drew.heap[q]?=W3.heap[q]?)).put (t:=79) (et:=3) Tryz.underlying79 s6.out ⟨xa,xn⟩ hxf hnin (.int .i64 (k:Int)) trivial;dsimp only[idV]at ap
   go_cut [42] (fun v42 wx=>Hid (wx=W4))
   case first=>
    go_region
    all_goals go_wp2_with fail
    all_goals go_meet
    all_goals exact zh rfl
   case rest=>
   obtain rfl:W4=wc:=hcut.out.symm;have m5:=re.kp;have hqb:q≠b:=by
    intro e;have h1:=hX3.out;obtain⟨es,ck,h2,_⟩:=tg.out;unfold Lies at h1;rw[e,h1]at h2;cases h2
   have hX4:=zh (m5.lies (hX3.out.next (Below.refl _ W3).drew) (by simp;omega));have hL4:=zh (m5.lies (uj.out.next (Below.refl _ W3).drew) (by simp;omega));have hA4:Hid (∃ cs:Array Value,Lies W4 (q+1) 3 cs/\cs.size=n):=zh (by
    obtain⟨cs,h1,h2⟩:=hA3.out;exact⟨cs,m5.lies (h1.next (Below.refl _ W3).drew) (by simp),h2⟩)
   have hO4:=zh (dQ (cW (Below.refl _ W3).drew hO3.out) m5 (fun g hg=>by have:=(bH hO3.out g hg).1;simp;omega));have hK4:=zh (hK3.out.drew.andThen m5 (fun g hg=>.inr (by rw[HQ.out];simp at hg;omega)));have HM4:=zh hM4;have hs4:W4.heap.size=W3.heap.size:=re.size;clear ap hM4 re m5 hX3 tg hA3 hO3 hK3 uj c2 b0 b1;obtain⟨cs,ik,lj⟩:=hA4.out;have hkc:k<cs.size:=by omega
   have e0:W4.cell? ⟨q+1,k,none⟩=some cs[k]:=by rw[ik.cell,Array.getElem?_eq_getElem hkc]
   have e1:=ik.frozen k;generalize cs[k]=u0 at e0;have c3:=hX4.out.cell 3;have c4:=hX4.out.cell 4;simp only[za,zb,zf]at c3 c4;have HC:=zh ik;have HCn:=zh lj;clear ik lj hkc hA4
   go_upto_region 7 with fail
   obtain⟨W5,pi⟩:∃ W5,W5=W4.drew.setCell ⟨q+1,k,none⟩ (.int .i64 (m:Int)):=⟨_,rfl⟩
   go_cut [54] (fun v54 wx=>Hid (wx=W5))
   case first=>
    go_region
    all_goals go_wp2_with fail
    all_goals go_meet
    all_goals exact zh pi.symm
   case rest=>
   obtain rfl:W5=wc:=hcut.out.symm;have hq1b:q+1≠b:=by
    intro e;have h1:=hX4.out;have h2:=HC.out;unfold Lies at h1 h2;rw[e,h1]at h2;injection h2 with h2;injection h2 with _ h2 _;exact absurd h2 (by decide)
   have hX5:Hid (Lies W5 b 82 #[.slice (some ⟨gi,0,none⟩) n cap1,.slice (some ⟨gl,0,none⟩) n cap2,.map (some q),.slice (some ⟨q+1,0,none⟩) n n,.slice A4 m jh]):=zh (by rw[pi];exact(aK (hX4.out.next (Below.refl _ W4).drew) (Ne.symm hq1b) k _));have hL5:Hid (Lies W5 bx 34 #[.int .i64 xa,.int .i64 xn]):=zh (by rw[pi];exact(aK (hL4.out.next (Below.refl _ W4).drew) (by omega) k _));have hA5:Hid (∃ cs:Array Value,Lies W5 (q+1) 3 cs/\cs.size=n):=zh (by
    rw[pi];exact⟨_,(HC.out.next (Below.refl _ W4).drew).put k _,by rw[Array.size_setIfInBounds];exact HCn.out⟩)
   have hO5:Hid (W5.ownsRow (q+2) 34 2 (.slice A4 m jh) m (bL lv)):=zh (by rw[pi];exact mQ (by decide) (cW (Below.refl _ W4).drew hO4.out) (HC.out.next (Below.refl _ W4).drew) k _);have hM5:=zh (show KMap W5 q (acc++[⟨xa,xn⟩]) (fun _=>True) by rw[pi];exact HM4.out.at (Below.heap_setCell _ _ _ _ (by show q≠q+1;omega)));have hK5:Hid (Kp [b] w W5):=zh (by rw[pi];exact hK4.out.drew.set (.inr (by rw[HQ.out];omega)) k _);have hZ5:Hid (bx<W5.heap.size):=zh (by rw[pi,World.size_setCell];show bx<W4.heap.size;rw[hs4];exact hZ3.out);clear pi e0 e1 c3 c4 HC HCn hX4 hL4 hO4 HM4 hK4 hs4 hZ3;have c1:=hX5.out.cell 1;have d2:=D2.out W5 hK5.out;simp only[za,zb,zf]at c1;have tm:lv'=lv++(if fk then [⟨xa,xn⟩] else []):=HLv2.out ▸ vg.out;have hac:acc'=acc++[⟨xa,xn⟩]:=HTk.out;cases fk
   ·go_wp2_with fail
    go_roundw
    case rel=>
     refine⟨k+1,.slice A4 m jh,by go_num,by omega,hX5,?_,hA5,?_,hK5,zh (by have:=hZ5.out;omega)⟩
     ·rw[jz.out,hac];exact hM5
     rw[jz.out,HLv2.out,tm];simp only[Bool.false_eq_true,if_false,List.append_nil,hle];exact hO5
    case measure=>simp[intOf];omega
   go_upto_region 9 with fail
   clear c1 d2;have HY:Hid (∀ g,(Value.slice A4 m jh).ownBlock=some g->g∈b::(Value.slice A4 m jh).ownBlock.toList):=zh (fun g hg=>by rw[hg];simp);have ay:bx≠b:=by omega
   have hbY:Hid (bx∉b::(Value.slice A4 m jh).ownBlock.toList):=zh (fun h=>by
    rcases ym.1 h with h|h
    ·exact ay h
    have:=hbo.out bx (by simpa using h);omega)
   obtain⟨TT,ae⟩:∃ TT:List (Nat×Nat×Value),TT=[(0,61,.pointer (some ⟨b,0,none⟩)),(1,62,.pointer (some ⟨b,0,none⟩)),(2,63,.pointer (some ⟨b,0,none⟩)),(3,64,.pointer (some ⟨b,4,none⟩)),(4,65,.slice A4 m jh),(5,66,.agg #[.int .i64 xa,.int .i64 xn]),(8,69,.pointer (some ⟨b,0,none⟩)),(9,70,.pointer (some ⟨b,4,none⟩))]:=⟨_,rfl⟩
   have am:=zh ae;clear ae;refine fH (by kernel_rfl) (by kernel_rfl) (fun a0=>72<=a0.tmps.size/\a0.eval (.tmp 0)=.pointer (some ⟨b,0,none⟩)/\a0.eval (.tmp 3)=.pointer (some ⟨bx,0,none⟩)) (GA [61,62,63,64,65,66,67,68,69,70] TT (b::(Value.slice A4 m jh).ownBlock.toList) W5 4 6 67 7 68 10 b 4 34 82 #[.slice (some ⟨gi,0,none⟩) n cap1,.slice (some ⟨gl,0,none⟩) n cap2,.map (some q),.slice (some ⟨q+1,0,none⟩) n n,.slice A4 m jh] (q+2) 2 m (.slice A4 m jh) (bL lv) [.int .i64 xa,.int .i64 xn]) ⟨by simp,rfl,rfl⟩ (GA.start _ _ (Kp.refl _ _).drew hO5.out hX5.out) ?_ ?_
   ·rintro a0 ⟨hs,dh,j0⟩ zl a1 w1 j o bg hI aa ho zd;have ae:=am.out;subst ae;have hk:GAk [61,62,63,64,65,66,67,68,69,70] [(0,61,.pointer (some ⟨b,0,none⟩)),(1,62,.pointer (some ⟨b,0,none⟩)),(2,63,.pointer (some ⟨b,0,none⟩)),(3,64,.pointer (some ⟨b,4,none⟩)),(4,65,.slice A4 m jh),(5,66,.agg #[.int .i64 xa,.int .i64 xn]),(8,69,.pointer (some ⟨b,0,none⟩)),(9,70,.pointer (some ⟨b,4,none⟩))] (b::(Value.slice A4 m jh).ownBlock.toList) 6 67 7 68 10 b 34 82 (.slice A4 m jh) 72:=⟨rfl,by decide,HY.out,.head _⟩
    have hj:=Up.of_false aa;have hj12:j<11:=by rw[bg]at hj;exact hj
    have e0x:a1.eval (.tmp 0)=.pointer (some ⟨b,0,none⟩):=(hI.off.eval (by decide)).trans dh;have e3x:a1.eval (.tmp 3)=.pointer (some ⟨bx,0,none⟩):=(hI.off.eval (by decide)).trans j0;rcases(by omega:j=0\/j=1\/j=2\/j=3\/j=4\/j=5\/j=6\/j=7\/j=8\/j=9\/j=10) with rfl|rfl|rfl|rfl|rfl|rfl|rfl|rfl|rfl|rfl|rfl<;>obtain rfl:=oi ho
    ·exact bZ hk hI hs (.head _) aa ho rfl rfl (by simp[execOp,go_sem,aE e0x])
    ·exact bZ hk hI hs (.tail _ (.head _)) aa ho rfl rfl (by simp[execOp,go_sem,aE e0x])
    ·have d1:=ud zd 1;have p1:=pk hI.pt 1 rfl d1;exact bZ hk hI hs (mm 2 rfl) aa ho rfl rfl (by simp[execOp,go_sem,aE p1])
    ·have d2:=ud zd 2;have p2:=pk hI.pt 2 rfl d2;exact bZ hk hI hs (mm 3 rfl) aa ho rfl rfl (by simp[execOp,go_sem,aE p2])
    ·have d3:=ud zd 3;have p3:=pk hI.pt 3 rfl d3;have c0:=(hI.unl aa).cell 4;simp only[za,zb,zf]at c0;exact bZ hk hI hs (mm 4 rfl) aa ho rfl rfl (by simp[execOp,go_sem,aE p3,c0])
    ·have hLb:=hI.kp.lies hL5.out hbY.out;have l0:=hLb.cell 0;have l1:=hLb.cell 1;simp only[za,zb,zf]at l0 l1;exact bZ hk hI hs (mm 5 rfl) aa ho rfl rfl (by simp[execOp,go_sem,aE e3x,l0,l1])
    ·have d5:=ud zd 5;have p5:=pk hI.pt 5 rfl d5;exact sP hk hI hs aa ho rfl rfl (by simp[execOp,go_sem,aE p5])
    ·have d4:=ud zd 4;have p4:=pk hI.pt 4 rfl d4;have d6:=ud zd 6;obtain⟨i1,gi,gz0,gz1,gz2⟩:=info_parts xJ;exact uCZ hk hI hs aa ho rfl rfl d4 d6 22 65 rfl p4 i1 (.agg #[.int .i64 0,.int .i64 0]) 16 Tryz.underlying22 gi gz0 gz1 gz2 rfl (by decide) rfl (by intro u hu;simp at hu;rcases hu with rfl|rfl <;> rfl) (by unfold maxLen;omega) (by omega) (by have:=hZ5.out;have:=hI.kp.size;omega)
    ·have d0:=ud zd 0;have p0:=pk hI.pt 0 rfl d0;exact bZ hk hI hs (mm 6 rfl) aa ho rfl rfl (by simp[execOp,go_sem,aE p0])
    ·have d8:=ud zd 8;have p8:=pk hI.pt 6 rfl d8;exact bZ hk hI hs (mm 7 rfl) aa ho rfl rfl (by simp[execOp,go_sem,aE p8])
    have d9:=ud zd 9;have p9:=pk hI.pt 7 rfl d9;have d7:=ud zd 7;exact sQ hk hI aa ho rfl rfl d7 (fun hL jw=>by
     obtain⟨gs,cs,jw⟩:=jw;have c0:=hL.cell 4;have k0:=hL.frozen 4;simp at c0;rw[jw];simp[execOp,go_sem,aE p9,aE jw,c0,k0])
   intro zl a1 w1 hI ap;have ae:=am.out;subst ae;have gy:=hI.kp;have aj:=hI.o2 (ap 7 (by decide));have j1:=(hI.b2 (ap 10 (by decide))).2;obtain⟨ff,rfl,hf⟩:=hI.off.forms;rw[<- hf 68]at aj j1;clear hI;generalize ff 68=v' at *;simp only[List.foldl,Act.put,yz,List.set];have ti:=zh j1;have HO6:=zh aj;have iv:=zh gy;obtain⟨A4',cap4',hv4⟩:=cS aj;clear j1 aj gy ap am;have hA6:Hid (∃ cs:Array Value,Lies w1 (q+1) 3 cs/\cs.size=n):=zh (by
    obtain⟨cs,h1,h2⟩:=hA5.out;refine⟨cs,iv.out.lies h1 (fun hm=>?_),h2⟩;rcases ym.1 hm with h|h
    ·exact hq1b h
    have:=(bH hO5.out (q+1) (by simpa using h)).1;omega)
   have hM6:=zh (hM5.out.at (iv.out.block q hM5.out.lt (fun hm=>by
    rcases ym.1 hm with h|h
    ·exact hqb h
    have:=(bH hO5.out q (by simpa using h)).1;omega)))
   have hK6:=zh (hK5.out.andThen iv.out (fun g hg=>by
    rcases ym.1 hg with h|h
    ·exact .inl (by rw[h];exact .head _)
    have:=(bH hO5.out g (by simpa using h)).1;exact .inr (by rw[HQ.out];omega)))
   have hZ6:Hid (q+2<=w1.heap.size):=zh (by have:=hZ5.out;have:=iv.out.size;omega);clear iv hX5 hO5 hA5 hM5 hK5 HY hbY hL5
   go_wp2_with fail
   go_roundw
   case rel=>
    refine⟨k+1,v',by go_num,by omega,ti,?_,hA6,?_,hK6,hZ6⟩
    ·rw[jz.out,hac];exact hM6
    rw[jz.out,HLv2.out,tm];simp only[if_true,yl,yi,List.length_nil,Nat.zero_add,hle,lD];exact HO6
   case measure=>simp[intOf];omega
  obtain rfl:k=n:=by omega
  have e1:ids.take k=ids:=by rw[HN.out,List.take_length]
  have e2:fl.take k=fl:=by rw[HN.out,HLf.out,List.take_length]
  rw[e1,e2]at hO;have HO:=zh hO.out;clear hO e1 e2
  go_wp2_with fail
  go_end0
  exact⟨rfl,⟨_,_,_,_,_,hX.out,uDX HO.out (by rw[HQ.out];omega)⟩,hK.out⟩
def ptr:Option Nat->Option Addr
 |none=>none
 |some b=>some ⟨b,0,none⟩
def AxIn(W:World)(p:Option Nat)(l:List IdR):Prop:=match p with
 |none=>l=[]
 |some b=>(∃ base ids fl v1 v2,AxRaw b base ids fl v1 v2 W/\ids.length=fl.length/\ids.length<=300/\(∀ y∈ids,y.fits)/\ids.Nodup/\l=bJ ids fl)\/(∃ base,rQ b base l W)
set_option maxRecDepth 100000 in
theorem wW(b base:Nat)(l:List IdR)(w:World)(hR:rQ b base l w) :
  Calls Tryz.prog 146 #[.pointer (some ⟨b,0,none⟩)] w fun e w'=>e=.returned (.tuple #[])/\w'=w:=by
 obtain⟨v1,v2,v3,v4,m,hx,_⟩:=hR;have hnq:=neq_some m;have a2:=hx.cell 2;simp only[za,zb,zf]at a2;clear hx
 go_enter Tryz.func146,Tryz.ntmps146
 go_wp2_with fail
 (try simp only[Exit.inBlock,Exit.then])
 refine yt (results_none rfl _ _ _) rfl ?_;exact⟨rfl,rfl⟩
theorem uBZ(b:Nat)(l:List IdR)(w:World)(h:AxIn w (some b) l) :
  Calls Tryz.prog 146 #[.pointer (some ⟨b,0,none⟩)] w fun e w'=>e=.returned (.tuple #[])/\(∃ base,rQ b base l w'/\(w.heap.size<=base\/w'=w))/\Kp [b] w w':=by
 rcases h with⟨base,ids,fl,v1,v2,h1,h2,h3,h4,h5,rfl⟩|⟨base,h1⟩
 ·refine(yK b base ids fl v1 v2 w h1 h2 h3 h4 h5).mono ?_;rintro e w' ⟨rfl,h6,h7⟩;exact⟨rfl,⟨_,h6,.inl zr⟩,h7⟩
 refine(wW b base l w h1).mono ?_;rintro e w' ⟨rfl,rfl⟩;exact⟨rfl,⟨_,h1,.inr rfl⟩,Kp.refl _ _⟩
set_option maxRecDepth 100000 in
theorem uGR(p:Option Nat)(l:List IdR)(w:World)(h:AxIn w p l) :
  Calls Tryz.prog 145 #[.pointer (ptr p)] w fun e w'=>e=.returned (.int .i64 (l.length:Int))/\(∀ b,p=some b->∃ base,rQ b base l w'/\(w.heap.size<=base\/w'=w))/\Kp p.toList w w':=by
 cases p with
 |none=>
  have h0:l=[]:=h;subst h0;unfold ptr
  go_enter Tryz.func145,Tryz.ntmps145
  go_wp2_with fail
  go_ret
  exact⟨rfl,(fun b e=>by cases e),Kp.refl _ _⟩
 |some b=>
  have CR:=zh (uBZ b l w h);clear h;unfold ptr
  go_enter Tryz.func145,Tryz.ntmps145
  go_wp2_with fail
  refine CR.out.mono ?_;rintro e w1 ⟨rfl,⟨base,hd,hor⟩,hk⟩;have HD:=zh (And.intro hd hor);clear hor;obtain⟨v1,v2,v3,v4,m,hx,ho⟩:=hd;obtain⟨A4,jh,rfl⟩:=cS ho;have a4:=hx.cell 4;simp only[za,zb,zf]at a4;have HK:=zh hk;clear hx ho hk CR
  go_wp2_with fail
  go_ret
  exact⟨rfl,(fun b' e=>by cases e;exact⟨_,HD.out⟩),HK.out⟩
def AxOwn(W:World)(p:Option Nat)(z:Nat):Prop:=∃ b v1 v2 v3 v4 mm,p=some b/\Lies W b 82 #[v1,v2,.map mm,v3,v4]/\((mm=none/\(v1.ownBlock=some z\/v2.ownBlock=some z))\/(mm≠none/\v4.ownBlock=some z))
theorem Lies.same{W:World}{b:Nat}{t:TypeId}{c d:Array Value}(h:Lies W b t c)(k:Lies W b t d):c=d:=by
 unfold Lies at h k;rw[h]at k;injection k with k;injection k
set_option maxRecDepth 100000 in
theorem yI(p:Option Nat)(l:List IdR)(place:Nat)(w:World)(h:AxIn w p l)(hp:place<=100000000) :
  Calls Tryz.prog 140 #[.pointer (ptr p),.int .i64 (place:Int)] w fun e w'=>e=.returned (.tuple #[idV (l[place]?.getD id0),.bool l[place]?.isSome])/\AxIn w' p l/\Kp p.toList w w'/\∀ z,AxOwn w' p z->AxOwn w p z\/w.heap.size<=z:=by
 obtain⟨ro,hro⟩:∃ ro,l[place]?=ro:=⟨_,rfl⟩
 rw[hro];have HRo:=zh hro;clear hro;have CL:=zh (fun W (h:AxIn W p l)=>uGR p l W h);have hp':Hid (∀ b,p=some b->b<w.heap.size):=zh (fun b e=>by
  subst e;rcases h with⟨base,ids,fl,v1,v2,h1,_⟩|⟨base,⟨v1,v2,v3,v4,m,h1,_⟩⟩
  ·exact h1.ax.lt
  exact h1.lt)
 have H0:Hid (AxIn (w.alloc (.cells #[.int .i64 0,.int .i64 0] 34)) p l):=zh (by
  cases p with
  |none=>exact h
  |some b=>
   have hb:=(Below.refl w.heap.size w).alloc zr (.cells #[.int .i64 0,.int .i64 0] 34);rcases h with⟨base,ids,fl,v1,v2,h1,h2⟩|⟨base,⟨v1,v2,v3,v4,m,h1,h2⟩⟩
   ·exact .inl ⟨base,ids,fl,v1,v2,⟨h1.ax.next hb,cW hb h1.r1,cW hb h1.r2⟩,h2⟩
   exact .inr ⟨base,⟨v1,v2,v3,v4,m,h1.next hb,cW hb h2⟩⟩)
 have tn:=zh (Lies.new w 34 #[.int .i64 0,.int .i64 0]);have cj:Hid (Kp p.toList w (w.alloc (.cells #[.int .i64 0,.int .i64 0] 34))):=zh ((Kp.refl _ w).alloc _);have HZ:Hid (w.heap.size<(w.alloc (.cells #[.int .i64 0,.int .i64 0] 34)).heap.size):=zh (by simp);have HV:Hid (∀ b,p=some b->∀ v1 v2 v3 v4 m,Lies (w.alloc (.cells #[.int .i64 0,.int .i64 0] 34)) b 82 #[v1,v2,.map (some m),v3,v4]->∀ g,v4.ownBlock=some g->g<w.heap.size):=zh (by
  intro b e v1 v2 v3 v4 m hx g hg;subst e;have hb:=(Below.refl w.heap.size w).alloc zr (.cells #[.int .i64 0,.int .i64 0] 34);rcases h with⟨base,ids,fl,u1,u2,h1,_⟩|⟨base,⟨u1,u2,u3,u4,m',h1,h2⟩⟩
  ·have h3:=h1.ax.next hb;unfold Lies at h3 hx;rw[h3]at hx;injection hx with hx;injection hx with hx;simp at hx
  have h3:=h1.next hb;unfold Lies at h3 hx;rw[h3]at hx;injection hx with hx;injection hx with hx;simp at hx;obtain⟨_,_,_,_,e4⟩:=hx;rw[<- e4]at hg;exact(bH h2 g hg).2)
 have HW:Hid (∀ b,p=some b->∀ cs,Lies (w.alloc (.cells #[.int .i64 0,.int .i64 0] 34)) b 82 cs->Lies w b 82 cs):=zh (fun b e cs hx=>by
  have hb:=(Below.refl w.heap.size w).alloc zr (.cells #[.int .i64 0,.int .i64 0] 34);exact(hb.block b (hp'.out b e)).symm.trans hx)
 have HI:Hid (p=none->l=[]):=zh (fun e=>by subst e;exact h);have hpi:¬ (place:Int)<0:=by omega
 clear h
 go_enter Tryz.func140,Tryz.ntmps140
 go_upto_region 1 with fail
 generalize w.alloc (.cells #[.int .i64 0,.int .i64 0] 34)=W1 at *;generalize en:w.heap.size=q at *;have HQ:=zh en;clear en
 go_wp2_with fail
 refine(CL.out W1 H0.out).mono ?_;rintro e w2 ⟨rfl,hd,hk⟩;have bq:=zh (cj.out.trans hk);have c6:=zh (hk.lies tn.out (fun hm=>by
  cases p with
  |none=>cases hm
  |some b=>
   have e:q=b:=by simpa using hm
   have:=hp'.out b rfl;omega))
 have HD:=zh hd;clear hd hk CL H0 tn cj;have x0:=c6.out.cell 0;have x1:=c6.out.cell 1;have f0:=c6.out.frozen 0;have f1:=c6.out.frozen 1;simp only[za,zb,zf]at x0 x1;have dg:Hid (AxIn w2 p l):=zh (by
  cases p with
  |none=>exact HI.out rfl
  |some b=>
   obtain⟨base,h1,_⟩:=HD.out b rfl;exact .inr ⟨base,h1⟩)
 have ez:Hid (∀ u v,AxIn ((w2.setCell ⟨q,0,none⟩ u).setCell ⟨q,1,none⟩ v) p l):=zh (fun u v=>by
  cases p with
  |none=>exact HI.out rfl
  |some b=>
   obtain⟨base,⟨v1,v2,v3,v4,m,hx,ho⟩,hor⟩:=HD.out b rfl;have hbq:b≠q:=by have:=hp'.out b rfl;omega
   have hgq:∀ g,v4.ownBlock=some g->g≠q:=by
    intro g hg;rcases hor with hge|hw
    ·have:=(bH ho g hg).1;have:=HZ.out;omega
    rw[hw]at hx;have:=HV.out b rfl _ _ _ _ _ hx g hg;omega
   refine .inr ⟨base,v1,v2,v3,v4,m,aK (aK hx hbq _ _) hbq _ _,dQ ho (((Kp.refl [q] w2).set (.inl (.head _)) 0 u).set (.inl (.head _)) 1 v) (fun g hg hm=>hgq g hg (by simpa using hm))⟩)
 have im:Hid (∀ u v z,AxOwn ((w2.setCell ⟨q,0,none⟩ u).setCell ⟨q,1,none⟩ v) p z->AxOwn w p z\/w.heap.size<=z):=zh (fun u v z ⟨b,u1,u2,u3,u4,mm,e,hx',hor'⟩=>by
  obtain⟨base,⟨v1,v2,v3,v4,m,hx,ho⟩,hor⟩:=HD.out b e;have hbq:b≠q:=by have:=hp'.out b e;omega
  have he:=Lies.same (aK (aK hx hbq 0 u) hbq 1 v) hx';simp at he;obtain⟨e1,e2,e3,e4,e5⟩:=he;subst e1 e2 e3 e4 e5;rcases hor' with⟨hm,_⟩|⟨_,re⟩
  ·cases hm
  rcases hor with hge|hw
  ·have:=(bH ho z re).1;have:=HZ.out
   right
   rw[HQ.out];omega
  rw[hw]at hx;exact .inl ⟨b,_,_,_,_,_,e,HW.out b e _ hx,.inr ⟨by simp,re⟩⟩)
 by_cases hlt:place<l.length
 ·have hsm:Hid (ro=some l[place]):=zh (HRo.out.symm.trans (List.getElem?_eq_getElem hlt));obtain⟨b,rfl⟩:∃ b,p=some b:=by
   cases p with
   |none=>
    have h0:l=[]:=HI.out rfl;rw[h0]at hlt;cases hlt
   |some b=>exact⟨b,rfl⟩
  obtain⟨base,⟨v1,v2,v3,v4,m,hx,ho⟩,_⟩:=HD.out b rfl;obtain⟨g,cap,rfl,_,bi⟩:=uFX ho (by omega);obtain⟨d0,d1⟩:=bi.2 place hlt;rw[Nat.zero_add]at d0 d1;have a4:=hx.cell 4;simp only[za,zb,zf]at a4;generalize l[place]=x at *;obtain⟨xa,xn⟩:=x;dsimp only at d0 d1;have rt:(place:Int)<(l.length:Int):=by omega
  unfold ptr;clear hx ho bi
  go_wp2_with fail
  refine yt (v:=.tuple #[.agg #[.int .i64 xa,.int .i64 xn],.bool true]) (by simp[results,Tryz.results140,go_sem,x0,x1]) rfl ?_;exact⟨by rw[hsm.out];rfl,ez.out _ _,(bq.out.set (.inr (by rw[HQ.out];exact zr)) 0 _).set (.inr (by rw[HQ.out];exact zr)) 1 _,im.out _ _⟩
 have kx:Hid (ro=none):=zh (HRo.out.symm.trans (List.getElem?_eq_none (by omega)));have rt:¬ (place:Int)<(l.length:Int):=by omega
 go_wp2_with fail
 refine yt (v:=.tuple #[.agg #[.int .i64 0,.int .i64 0],.bool false]) (by simp[results,Tryz.results140,go_sem,x0,x1]) rfl ?_;exact⟨by rw[kx.out];rfl,ez.out _ _,(bq.out.set (.inr (by rw[HQ.out];exact zr)) 0 _).set (.inr (by rw[HQ.out];exact zr)) 1 _,im.out _ _⟩
structure Env where
 r:Nat
 g:Nat
 cap:Nat
 L:List Tok
 pa:Option Nat
 pb:Option Nat
 sg:Nat
 ax:Ax
 lo:Nat
def Env.X(E:Env):List Nat:=E.r::(E.pa.toList++E.pb.toList)
abbrev tkV(t:Tok):Value:=.agg #[.int .i64 t.kind,.string ⟨t.text.toArray⟩,.int .i64 t.place]
abbrev rdC(E:Env)(k op nd pl er:Nat):Array Value:=#[.slice (some ⟨E.g,0,none⟩) E.L.length E.cap,.int .i64 (k:Int),.int .i64 (op:Int),.int .i64 (nd:Int),.pointer (ptr E.pa),.pointer (ptr E.pb),.map (some E.sg),.int .i64 (pl:Int),.int .i64 (er:Int)]
def TokIn(W:World)(g:Nat)(L:List Tok):Prop:=g<W.heap.size/\∀ j (h:j<L.length),W.cell? ⟨g,j*3,none⟩=some (.int .i64 L[j].kind)/\W.cell? ⟨g,j*3+1,none⟩=some (.string ⟨L[j].text.toArray⟩)/\W.cell? ⟨g,j*3+2,none⟩=some (.int .i64 L[j].place)
theorem TokIn.kp{Y:List Nat}{W W':World}{g:Nat}{L:List Tok}(h:TokIn W g L)(hk:Kp Y W W')(hn:g∉Y):TokIn W' g L :=
 ⟨yu h.1 hk.size,fun j hj=>⟨(hk.cell h.1 hn).trans (h.2 j hj).1,(hk.cell h.1 hn).trans (h.2 j hj).2.1,(hk.cell h.1 hn).trans (h.2 j hj).2.2⟩⟩
def iO(l:List Bs):Array MapEntry:=(l.mapIdx (fun i s=>{ key:=.string ⟨s.toArray⟩,val:=.bool true,born:=i:MapEntry })).toArray
def eG:List (List Bs):=[pZ,qA,gM,wO,wQ,gM]
def wP(q:Nat):Array MapEntry:=#[⟨.int .i64 0,.map (some (q+1)),0⟩,⟨.int .i64 1,.map (some (q+2)),1⟩,⟨.int .i64 2,.map (some (q+3)),2⟩,⟨.int .i64 3,.map (some (q+4)),3⟩,⟨.int .i64 4,.map (some (q+5)),4⟩,⟨.int .i64 5,.map (some (q+6)),5⟩]
structure SgIn(W:World)(q:Nat):Prop where
 out:W.heap[q]?=some (.map (wP q) 6)
 ins:∀ i (h:i<eG.length),∃ c,W.heap[q+1+i]?=some (.map (iO eG[i]) c)
theorem SgIn.kp{Y:List Nat}{W W':World}{q:Nat}(h:SgIn W q)(hk:Kp Y W W')(hn:∀ i,i<=6->q+i∉Y):SgIn W' q:=by
 refine⟨(hk.block q (zk.1 h.out).1 (hn 0 (by decide))).trans h.out,fun i hi=>?_⟩;obtain⟨c,hc⟩:=h.ins i hi;have h6:i<6:=hi;refine⟨c,(hk.block _ (zk.1 hc).1 ?_).trans hc⟩;have:=hn (1+i) (by omega);rw[<- Nat.add_assoc]at this;exact this
theorem AxIn.kp{Y:List Nat}{W W':World}{p:Option Nat}{l:List IdR}(h:AxIn W p l)(hk:Kp Y W W')(hn:∀ y∈Y,some y≠p/\∃ t cs,Lies W y t cs/\t≠34/\t≠4):AxIn W' p l:=by
 cases p with
 |none=>exact h
 |some b=>
  have hb:b∉Y:=fun hm=>(hn b hm).1 rfl
  have ho:∀ {base n sz:Nat} {te:TypeId} {v:Value} {xs:List Value},te=34\/te=4->W.ownsRow base te sz v n xs->W'.ownsRow base te sz v n xs:=by
   intro base n sz te v xs ht hv;refine dQ hv hk (fun g hg hm=>?_);obtain⟨_,t,cs,hl,h1,h2⟩:=hn g hm;refine eE (tb:=t) (by rcases ht with e|e <;> rw[e];exact Ne.symm h1;exact Ne.symm h2) hv hl hg.symm
  rcases h with⟨base,ids,fl,v1,v2,⟨h1,h2,h3⟩,h4⟩|⟨base,⟨v1,v2,v3,v4,m,h1,h2⟩⟩
  ·exact .inl ⟨base,ids,fl,v1,v2,⟨hk.lies h1 hb,ho (.inl rfl) h2,ho (.inr rfl) h3⟩,h4⟩
  exact .inr ⟨base,⟨v1,v2,v3,v4,m,hk.lies h1 hb,ho (.inl rfl) h2⟩⟩
theorem AxIn.box{W:World}{p:Option Nat}{l:List IdR}(h:AxIn W p l):∀ b,p=some b->∃ cs,Lies W b 82 cs:=by
 intro b e;subst e;rcases h with⟨base,ids,fl,v1,v2,⟨h1,_,_⟩,_⟩|⟨base,⟨v1,v2,v3,v4,m,h1,_⟩⟩
 ·exact⟨_,h1⟩
 exact⟨_,h1⟩
structure Env.ok(E:Env):Prop where
 gx:E.g∉E.X
 sx:∀ i,i<=6->E.sg+i∉E.X
 lo:∀ x∈E.X,E.lo<=x
 tb:0<E.lo
 ra:∀ b,E.pa=some b->b≠E.r
 rb:∀ b,E.pb=some b->b≠E.r
 ab:∀ b,E.pa=some b->E.pb≠some b
structure InE(E:Env)(k op nd pl er:Nat)(W:World):Prop where
 rd:Lies W E.r 66 (rdC E k op nd pl er)
 tk:TokIn W E.g E.L
 ar:AxIn W E.pa E.ax.rows
 ac:AxIn W E.pb E.ax.cols
 sg:SgIn W E.sg
 tb:Tab W
 lo:E.lo<=W.heap.size
theorem InE.next{E:Env}{k op nd pl er:Nat}{W W':World}(h:InE E k op nd pl er W)(hb:Below W.heap.size W W'):InE E k op nd pl er W':=by
 have hk:Kp [] W W':=Kp.of_below hb;exact⟨h.rd.next hb,h.tk.kp hk (by simp),h.ar.kp hk (fun y hy=>by cases hy),h.ac.kp hk (fun y hy=>by cases hy),h.sg.kp hk (fun _ _=>by simp),h.tb.next hb,yv h.lo hb.size⟩
theorem InE.wrote{E:Env}(hE:E.ok){k op nd pl er k' op' nd' pl' er':Nat}{W W':World}(h:InE E k op nd pl er W)(hk:Kp [E.r] W W')(hr:Lies W' E.r 66 (rdC E k' op' nd' pl' er')):InE E k' op' nd' pl' er' W':=by
 have hx:E.r∈E.X:=.head _;have hrl:=h.rd;refine⟨hr,h.tk.kp hk (fun hm=>hE.gx (by rw[yf.1 hm];exact hx)),h.ar.kp hk (fun y hy=>?_),h.ac.kp hk (fun y hy=>?_),h.sg.kp hk (fun i hi hm=>hE.sx i hi (by rw[yf.1 hm];exact hx)),h.tb.below (hk.below (B:=E.lo) (fun y hy=>by rw[yf.1 hy];exact hE.lo _ hx) h.lo) hE.tb,yv h.lo hk.size⟩
 ·rw[yf.1 hy];exact⟨fun e=>hE.ra _ e.symm rfl,_,_,hrl,by decide,by decide⟩
 rw[yf.1 hy];exact⟨fun e=>hE.rb _ e.symm rfl,_,_,hrl,by decide,by decide⟩
def Env.at(E:Env)(k:Nat):Tok:=hd (E.L.drop k)
theorem Env.at_lt(E:Env){k:Nat}(h:k<E.L.length):E.at k=E.L[k]:=by
 unfold Env.at hd;rw[yx h];rfl
set_option maxRecDepth 100000 in
theorem bX(E:Env)(k op nd pl er:Nat)(w:World)(hI:InE E k op nd pl er w)(hk:k<E.L.length) :
  Calls Tryz.prog 25 #[.pointer (some ⟨E.r,0,none⟩)] w fun e w'=>e=.returned (tkV (E.at k))/\Below w.heap.size w w':=by
 rw[E.at_lt hk];obtain⟨c0,c1,c2⟩:=hI.tk.2 k hk;have r0:=hI.rd.cell 0;have r1:=hI.rd.cell 1;simp only[za,zb,zf]at r0 r1;have hrs:=hI.rd.lt;have hgs:=hI.tk.1;generalize E.L[k]=t at *;obtain⟨tk,tx,tp⟩:=t;dsimp only at c0 c1 c2 ⊢;have ja:(k:Int)<(E.L.length:Int):=by omega
 generalize E.L.length=n at *;generalize E.g=g at *;generalize E.r=r at *;clear hI;have dy:Hid (Below w.heap.size w (w.alloc (.cells #[.int .i64 0,.string ⟨#[]⟩,.int .i64 0] 70))):=zh ((Below.refl _ w).alloc zr _);have dr:=zh (Lies.new w 70 #[.int .i64 0,.string ⟨#[]⟩,.int .i64 0])
 go_enter Tryz.func25,Tryz.ntmps25
 go_upto_region 1 with fail
 have d0:=(dy.out.cell (p:=⟨g,k*3,none⟩) hgs).trans c0;have d1:=(dy.out.cell (p:=⟨g,k*3+1,none⟩) hgs).trans c1;have d2:=(dy.out.cell (p:=⟨g,k*3+2,none⟩) hgs).trans c2;have s0:=(dy.out.cell (p:=⟨r,0,none⟩) hrs).trans r0;have s1:=(dy.out.cell (p:=⟨r,1,none⟩) hrs).trans r1;generalize w.alloc (.cells #[.int .i64 0,.string ⟨#[]⟩,.int .i64 0] 70)=W1 at *;generalize en:w.heap.size=q at *;have HQ:=zh en;have hrq:r≠q:=by omega
 have hgq:g≠q:=by omega
 clear en c0 c1 c2 r0 r1 hrs hgs;have x0:=dr.out.cell 0;have x1:=dr.out.cell 1;have x2:=dr.out.cell 2;have f0:=dr.out.frozen 0;have f1:=dr.out.frozen 1;have f2:=dr.out.frozen 2;simp only[za,zb,zf]at x0 x1 x2
 go_region
 all_goals go_wp2_with fail
 all_goals refine yt (v:=.agg #[.int .i64 tk,.string ⟨tx.toArray⟩,.int .i64 tp]) (by simp[results,Tryz.results25,go_sem,x0,x1,x2]) rfl ?_
 all_goals refine⟨rfl,?_⟩
 all_goals rw[HQ.out]
 all_goals exact((dy.out.drew.setCell (p:=⟨q,0,none⟩) (Nat.le_refl q) _).setCell (p:=⟨q,1,none⟩) (Nat.le_refl q) _).setCell (p:=⟨q,2,none⟩) (Nat.le_refl q) _
def Env.nx(E:Env)(k:Nat):Tok:=nxt (E.L.drop k)
theorem Env.nx_lt(E:Env){k:Nat}(h:k+1<E.L.length):E.nx k=E.L[k+1]:=by
 unfold Env.nx nxt;rw[yx (by omega:k<E.L.length),yx h]
theorem Env.nx_end(E:Env){k:Nat}(h:k<E.L.length)(h2:¬ k+1<E.L.length):E.nx k=E.L[k]:=by
 unfold Env.nx nxt;rw[yx h,List.drop_of_length_le (by omega:E.L.length<=k+1)];rfl
set_option maxRecDepth 100000 in
theorem uFV(E:Env)(k op nd pl er:Nat)(w:World)(hI:InE E k op nd pl er w)(hk:k<E.L.length)(hL:E.L.length<=1000000) :
  Calls Tryz.prog 115 #[.pointer (some ⟨E.r,0,none⟩)] w fun e w'=>e=.returned (tkV (E.nx k))/\Below w.heap.size w w':=by
 obtain⟨j,hj,hjk⟩:∃ j,j<E.L.length/\j=if k+1<E.L.length then k+1 else k:=by
  split
  ·exact⟨k+1,by omega,rfl⟩
  exact⟨k,hk,rfl⟩
 have mq:E.nx k=E.L[j]:=by
  by_cases h:k+1<E.L.length
  ·rw[if_pos h]at hjk;subst hjk;exact E.nx_lt h
  rw[if_neg h]at hjk;subst hjk;exact E.nx_end hk h
 rw[mq];obtain⟨c0,c1,c2⟩:=hI.tk.2 j hj;have r0:=hI.rd.cell 0;have r1:=hI.rd.cell 1;simp only[za,zb,zf]at r0 r1;have hrs:=hI.rd.lt;have hgs:=hI.tk.1;clear mq;generalize E.L[j]=t at *;obtain⟨tk,tx,tp⟩:=t;dsimp only at c0 c1 c2 ⊢;generalize E.L.length=n at *;generalize E.g=g at *;generalize E.r=r at *;clear hI;have dy:Hid (Below w.heap.size w (w.alloc (.cells #[.int .i64 0,.string ⟨#[]⟩,.int .i64 0] 70))):=zh ((Below.refl _ w).alloc zr _);have dr:=zh (Lies.new w 70 #[.int .i64 0,.string ⟨#[]⟩,.int .i64 0])
 go_enter Tryz.func115,Tryz.ntmps115
 go_upto_region 1 with fail
 have d0:=(dy.out.cell (p:=⟨g,j*3,none⟩) hgs).trans c0;have d1:=(dy.out.cell (p:=⟨g,j*3+1,none⟩) hgs).trans c1;have d2:=(dy.out.cell (p:=⟨g,j*3+2,none⟩) hgs).trans c2;have s0:=(dy.out.cell (p:=⟨r,0,none⟩) hrs).trans r0;have s1:=(dy.out.cell (p:=⟨r,1,none⟩) hrs).trans r1;generalize w.alloc (.cells #[.int .i64 0,.string ⟨#[]⟩,.int .i64 0] 70)=W1 at *;generalize en:w.heap.size=q at *;have HQ:=zh en;have hrq:r≠q:=by omega
 have hgq:g≠q:=by omega
 clear en c0 c1 c2 r0 r1 hrs hgs;have x0:=dr.out.cell 0;have x1:=dr.out.cell 1;have x2:=dr.out.cell 2;have f0:=dr.out.frozen 0;have f1:=dr.out.frozen 1;have f2:=dr.out.frozen 2;simp only[za,zb,zf]at x0 x1 x2;by_cases hlt:k+1<n
 ·rw[if_pos hlt]at hjk;subst hjk;have hd:decide ((k:Int)+1<(n:Int))=true:=decide_eq_true (by omega);have hlti:(k:Int)+1<(n:Int):=by omega
  have ll:(k:Int)<=1000000:=by omega
  go_quiet (fail)
  have cq:Hid (Below q w (W1.drewN nq)):=zh (below_drewN dy.out nq);have c6:Hid (Lies (W1.drewN nq) q 70 #[.int .i64 0,.string ⟨#[]⟩,.int .i64 0]):=zh dr.out;have e0:(W1.drewN nq).cell? ⟨g,(k+1)*3,none⟩=some (.int .i64 tk):=d0;have e1:(W1.drewN nq).cell? ⟨g,(k+1)*3+1,none⟩=some (.string ⟨tx.toArray⟩):=d1;have e2:(W1.drewN nq).cell? ⟨g,(k+1)*3+2,none⟩=some (.int .i64 tp):=d2;have t0:(W1.drewN nq).cell? ⟨r,0,none⟩=_:=s0;have t1:(W1.drewN nq).cell? ⟨r,1,none⟩=_:=s1;generalize W1.drewN nq=W2 at *;clear d0 d1 d2 s0 s1 dy dr x0 x1 x2 f0 f1 f2;have x0:=c6.out.cell 0;have x1:=c6.out.cell 1;have x2:=c6.out.cell 2;have f0:=c6.out.frozen 0;have f1:=c6.out.frozen 1;have f2:=c6.out.frozen 2;simp only[za,zb,zf]at x0 x1 x2
  go_upto_region 2 with fail
  go_region
  all_goals go_wp2_with fail
  all_goals refine yt (v:=.agg #[.int .i64 tk,.string ⟨tx.toArray⟩,.int .i64 tp]) (by simp[results,Tryz.results115,go_sem,x0,x1,x2]) rfl ?_
  all_goals refine⟨rfl,?_⟩
  all_goals rw[HQ.out]
  all_goals exact((cq.out.drew.setCell (p:=⟨q,0,none⟩) (Nat.le_refl q) _).setCell (p:=⟨q,1,none⟩) (Nat.le_refl q) _).setCell (p:=⟨q,2,none⟩) (Nat.le_refl q) _
 rw[if_neg hlt]at hjk;subst hjk;have hd:decide ((j:Int)+1<(n:Int))=false:=decide_eq_false (by omega);have hlti:¬ (j:Int)+1<(n:Int):=by omega
 have ja:(j:Int)<(n:Int):=by omega
 have ll:(j:Int)<=1000000:=by omega
 go_quiet (fail)
 have cq:Hid (Below q w (W1.drewN nq)):=zh (below_drewN dy.out nq);have c6:Hid (Lies (W1.drewN nq) q 70 #[.int .i64 0,.string ⟨#[]⟩,.int .i64 0]):=zh dr.out;have e0:(W1.drewN nq).cell? ⟨g,j*3,none⟩=some (.int .i64 tk):=d0;have e1:(W1.drewN nq).cell? ⟨g,j*3+1,none⟩=some (.string ⟨tx.toArray⟩):=d1;have e2:(W1.drewN nq).cell? ⟨g,j*3+2,none⟩=some (.int .i64 tp):=d2;have t0:(W1.drewN nq).cell? ⟨r,0,none⟩=_:=s0;have t1:(W1.drewN nq).cell? ⟨r,1,none⟩=_:=s1;generalize W1.drewN nq=W2 at *;clear d0 d1 d2 s0 s1 dy dr x0 x1 x2 f0 f1 f2;have x0:=c6.out.cell 0;have x1:=c6.out.cell 1;have x2:=c6.out.cell 2;have f0:=c6.out.frozen 0;have f1:=c6.out.frozen 1;have f2:=c6.out.frozen 2;simp only[za,zb,zf]at x0 x1 x2
 go_upto_region 3 with fail
 go_region
 all_goals go_wp2_with fail
 all_goals refine yt (v:=.agg #[.int .i64 tk,.string ⟨tx.toArray⟩,.int .i64 tp]) (by simp[results,Tryz.results115,go_sem,x0,x1,x2]) rfl ?_
 all_goals refine⟨rfl,?_⟩
 all_goals rw[HQ.out]
 all_goals exact((cq.out.drew.setCell (p:=⟨q,0,none⟩) (Nat.le_refl q) _).setCell (p:=⟨q,1,none⟩) (Nat.le_refl q) _).setCell (p:=⟨q,2,none⟩) (Nat.le_refl q) _
set_option maxRecDepth 100000 in
theorem cO(t:Tok)(s:Bs)(w:World) :
  Calls Tryz.prog 114 #[tkV t,.string ⟨s.toArray⟩] w fun e w'=>e=.returned (.bool (isS t s))/\Below w.heap.size w w':=by
 obtain⟨tk,tx,tp⟩:=t;have hB:Below w.heap.size w (w.alloc (.cells #[.int .i64 tk,.string ⟨tx.toArray⟩,.int .i64 tp] 70)):=(Below.refl _ w).alloc zr _;have HB:=zh hB;unfold isS;dsimp only;by_cases h:tk=5
 ·subst h;clear hB
  go_enter Tryz.func114,Tryz.ntmps114
  go_wp2_with fail
  go_ret
  exact⟨by simp,HB.out⟩
 have hb:((tk:Int)==5)=false:=by simp;omega
 have hd:decide (tk=5)=false:=decide_eq_false h;clear hB h;rw[hd]
 go_enter Tryz.func114,Tryz.ntmps114
 go_wp2_with fail
 go_ret
 exact⟨by simp,HB.out⟩
theorem lK(k:Int)(s:ByteArray)(p:Int)(W:World):(Instr.field 70 (.agg #[.int .i64 k,.string s,.int .i64 p]) 0).run Tryz.prog W=.ok (.int .i64 k) W:=by kernel_rfl
theorem mK(k:Int)(s:ByteArray)(p:Int)(W:World):(Instr.field 70 (.agg #[.int .i64 k,.string s,.int .i64 p]) 1).run Tryz.prog W=.ok (.string s) W:=by kernel_rfl
theorem tok_f2(k:Int)(s:ByteArray)(p:Int)(W:World):(Instr.field 70 (.agg #[.int .i64 k,.string s,.int .i64 p]) 2).run Tryz.prog W=.ok (.int .i64 p) W:=by kernel_rfl
def Step(E:Env)(w:World)(k op nd pl er:Nat)(v:Value)(e:Ending)(w':World):Prop:=e=.returned v/\InE E k op nd pl er w'/\Kp [E.r] w w'
set_option maxRecDepth 100000 in
theorem eN(E:Env)(hE:E.ok)(k op nd pl er er':Nat)(w:World)(hI:InE E k op nd pl er w)(hk:k<E.L.length) :
  Calls Tryz.prog 26 #[.pointer (some ⟨E.r,0,none⟩),.int .i64 (er':Int)] w (Step E w k op nd (E.at k).place er' (.bool false)):=by
 have CT:=zh (bX E k op nd pl er w hI hk);have HI:=zh hI;have HP:Hid (∀ W',Kp [E.r] w W'->Lies W' E.r 66 (rdC E k op nd (E.at k).place er')->Step E w k op nd (E.at k).place er' (.bool false) (.returned (.bool false)) W'):=zh (fun W' h1 h2=>⟨rfl,hI.wrote hE h1 h2,h1⟩);clear hI;generalize E.at k=t at *;obtain⟨tk,tx,tp⟩:=t;dsimp only[tkV]at CT HP ⊢;generalize hr:E.r=r at *;have hf2:=tok_f2
 go_enter Tryz.func26,Tryz.ntmps26
 go_wp2_with fail
 refine CT.out.mono ?_;rintro e w1 ⟨rfl,hb⟩;have dz:Hid (Kp [r] w w1):=zh (Kp.of_below hb);have dr:Hid (Lies w1 r 66 (rdC E k op nd pl er)):=zh (by rw[<- hr];exact HI.out.rd.next hb);have x7:=dr.out.cell 7;have x8:=dr.out.cell 8;have f7:=dr.out.frozen 7;have f8:=dr.out.frozen 8;simp only[za,zb,zf]at x7 x8;clear hb CT
 go_wp2_with fail
 go_ret
 refine HP.out _ ((dz.out.set (.inl (.head _)) 7 _).set (.inl (.head _)) 8 _) ?_;exact((dr.out.put 7 _).put 8 _)
set_option maxRecDepth 100000 in
theorem kR(E:Env)(hE:E.ok)(k op nd pl er:Nat)(s:Bs)(w:World)(hI:InE E k op nd pl er w)(hk:k<E.L.length)(hL:E.L.length<=1000000)(hs:isS (E.at k) s=true) :
  Calls Tryz.prog 125 #[.pointer (some ⟨E.r,0,none⟩),.string ⟨s.toArray⟩] w (Step E w (k+1) op nd pl er (.bool true)):=by
 have CT:=zh (bX E k op nd pl er w hI hk);have CS:=zh (fun W=>cO (E.at k) s W);rw[hs]at CS;have HI:=zh hI;have HP:Hid (∀ W',Kp [E.r] w W'->Lies W' E.r 66 (rdC E (k+1) op nd pl er)->Step E w (k+1) op nd pl er (.bool true) (.returned (.bool true)) W'):=zh (fun W' h1 h2=>⟨rfl,hI.wrote hE h1 h2,h1⟩);have ll:(k:Int)<=1000000:=by omega
 clear hI hs;generalize E.at k=t at *;obtain⟨tk,tx,tp⟩:=t;dsimp only[tkV]at CT CS HP ⊢;generalize hr:E.r=r at *
 go_enter Tryz.func125,Tryz.ntmps125
 go_wp2_with fail
 refine CT.out.mono ?_;rintro e w1 ⟨rfl,hb⟩;have dz:Hid (Kp [r] w w1):=zh (Kp.of_below hb);have dr:Hid (Lies w1 r 66 (rdC E k op nd pl er)):=zh (by rw[<- hr];exact HI.out.rd.next hb);clear hb CT
 go_wp2_with fail
 refine(CS.out _).mono ?_;rintro e w2 ⟨rfl,hb⟩;have bq:Hid (Kp [r] w w2):=zh (dz.out.trans (Kp.of_below hb));have c6:=zh (dr.out.next hb);clear hb CS dz dr;have x1:=c6.out.cell 1;have f1:=c6.out.frozen 1;simp only[za,zb,zf]at x1
 go_wp2_with fail
 go_ret
 exact HP.out _ (bq.out.set (.inl (.head _)) 1 _) (c6.out.put 1 _)
theorem tZ(E:Env)(hE:E.ok)(k op nd pl er:Nat)(s:Bs)(w:World)(hI:InE E k op nd pl er w)(hk:k<E.L.length)(hs:isS (E.at k) s=false) :
  Calls Tryz.prog 125 #[.pointer (some ⟨E.r,0,none⟩),.string ⟨s.toArray⟩] w (Step E w k op nd (E.at k).place 6 (.bool false)):=by
 have CT:=zh (bX E k op nd pl er w hI hk);have CS:=zh (fun W=>cO (E.at k) s W);have CW:=zh (fun W h=>eN E hE k op nd pl er 6 W h hk);rw[hs]at CS;have HI:=zh hI;have HP:Hid (∀ W W',Kp [E.r] w W->Step E W k op nd (E.at k).place 6 (.bool false) (.returned (.bool false)) W'->Step E w k op nd (E.at k).place 6 (.bool false) (.returned (.bool false)) W'):=zh (fun W W' h1 h2=>⟨rfl,h2.2.1,h1.trans h2.2.2⟩);clear hI hs;generalize E.at k=t at *;obtain⟨tk,tx,tp⟩:=t;dsimp only[tkV]at CT CS HP CW ⊢
 go_enter Tryz.func125,Tryz.ntmps125
 go_wp2_with fail
 refine CT.out.mono ?_;rintro e w1 ⟨rfl,hb⟩;have dz:Hid (Kp [E.r] w w1):=zh (Kp.of_below hb);have ip:=zh (HI.out.next hb);clear hb CT
 go_wp2_with fail
 refine(CS.out _).mono ?_;rintro e w2 ⟨rfl,hb⟩;have bq:Hid (Kp [E.r] w w2):=zh (dz.out.trans (Kp.of_below hb));have dg:=zh (ip.out.next hb);clear hb CS dz ip HI
 go_wp2_with fail
 refine(CW.out _ dg.out).mono ?_;rintro e w3 ⟨rfl,h1,h2⟩;have HS:=zh (HP.out _ _ bq.out ⟨rfl,h1,h2⟩);clear h1 h2
 go_wp2_with fail
 go_ret
 exact HS.out
theorem Step.from{E:Env}{w w1:World}{k op nd pl er:Nat}{v:Value}{e:Ending}{w':World}(h:Step E w1 k op nd pl er v e w')(hk:Kp [E.r] w w1):Step E w k op nd pl er v e w':=⟨h.1,h.2.1,hk.trans h.2.2⟩
set_option maxRecDepth 100000 in
theorem vK(E:Env)(hE:E.ok)(k op nd pl er:Nat)(w:World)(hI:InE E k op nd pl er w)(hk:k<E.L.length)(hL:E.L.length<=1000000)(hs:isS (E.at k) [40]=true)(ho:op<64) :
  Calls Tryz.prog 121 #[.pointer (some ⟨E.r,0,none⟩)] w (Step E w (k+1) (op+1) nd pl er (.bool true)):=by
 have CT:=zh (fun W h=>kR E hE k (op+1) nd pl er [40] W h hk hL hs);have HP:Hid (∀ W',Kp [E.r] w W'->Lies W' E.r 66 (rdC E k (op+1) nd pl er)->InE E k (op+1) nd pl er W'):=zh (fun W' h1 h2=>hI.wrote hE h1 h2);have HF:Hid (∀ w1 v e w',Kp [E.r] w w1->Step E w1 (k+1) (op+1) nd pl er v e w'->Step E w (k+1) (op+1) nd pl er v e w'):=zh (fun w1 v e w' h1 h2=>h2.from h1);have hR:=hI.rd;have hoi:¬ (64:Int)<=(op:Int):=by omega
 have hoj:(op:Int)<=64:=by omega
 clear hs ho;generalize hr:E.r=r at *;have HR:=zh hR;have x2:=HR.out.cell 2;have f2:=HR.out.frozen 2;simp only[za,zb,zf]at x2;clear hR hI
 go_enter Tryz.func121,Tryz.ntmps121
 go_wp2_with fail
 have dz:Hid (Kp [r] w (w.setCell ⟨r,2,none⟩ (.int .i64 ((op:Int)+1)))):=zh ((Kp.refl _ w).set (.inl (.head _)) 2 _);have ip:Hid (InE E k (op+1) nd pl er (w.setCell ⟨r,2,none⟩ (.int .i64 ((op:Int)+1)))):=zh (HP.out _ dz.out (HR.out.put 2 _));refine(CT.out _ ip.out).mono ?_;rintro e w2 ⟨rfl,h1,h2⟩;have HS:=zh (HF.out _ (.bool true) (.returned (.bool true)) _ dz.out ⟨rfl,h1,h2⟩);clear h1 h2 dz ip CT HP HF HR x2 f2
 go_wp2_with fail
 go_ret
 exact HS.out
theorem sH(E:Env)(hE:E.ok)(k op nd pl er:Nat)(w:World)(hI:InE E k op nd pl er w)(hk:k<E.L.length)(ho:64<=op)(ho2:op<=1000) :
  Calls Tryz.prog 121 #[.pointer (some ⟨E.r,0,none⟩)] w (Step E w k op nd (E.at k).place 8 (.bool false)):=by
 have CW:=zh (eN E hE k op nd pl er 8 w hI hk);have hR:=hI.rd;have hoi:(64:Int)<=(op:Int):=by omega
 have x2:=hR.cell 2;simp only[za,zb,zf]at x2;clear hR hI ho
 go_enter Tryz.func121,Tryz.ntmps121
 go_wp2_with fail
 refine CW.out.mono ?_;rintro e w2 ⟨rfl,h1,h2⟩;have HS:Hid (Step E w k op nd (E.at k).place 8 (.bool false) (.returned (.bool false)) w2):=zh ⟨rfl,h1,h2⟩;clear h1 h2 CW x2
 go_wp2_with fail
 go_ret
 exact HS.out
set_option maxRecDepth 100000 in
theorem vT(E:Env)(hE:E.ok)(k op nd pl er:Nat)(w:World)(hI:InE E k (op+1) nd pl er w)(hk:k<E.L.length)(hL:E.L.length<=1000000)(hs:isS (E.at k) [41]=true)(ho:op<=64) :
  Calls Tryz.prog 122 #[.pointer (some ⟨E.r,0,none⟩)] w (Step E w (k+1) op nd pl er (.bool true)):=by
 have CT:=zh (fun W h=>kR E hE k op nd pl er [41] W h hk hL hs);have HP:Hid (∀ W',Kp [E.r] w W'->Lies W' E.r 66 (rdC E k op nd pl er)->InE E k op nd pl er W'):=zh (fun W' h1 h2=>hI.wrote hE h1 h2);have HF:Hid (∀ w1 v e w',Kp [E.r] w w1->Step E w1 (k+1) op nd pl er v e w'->Step E w (k+1) op nd pl er v e w'):=zh (fun w1 v e w' h1 h2=>h2.from h1);have hR:=hI.rd;have hoj:(op:Int)<=64:=by omega
 have nr:(((op+1:Nat):Int))-1=(op:Int):=by omega
 clear hs ho;generalize hr:E.r=r at *;have HR:=zh hR;have x2:=HR.out.cell 2;have f2:=HR.out.frozen 2;simp only[za,zb,zf]at x2;clear hR hI
 go_enter Tryz.func122,Tryz.ntmps122
 go_wp2_with fail
 have dz:Hid (Kp [r] w (w.setCell ⟨r,2,none⟩ (.int .i64 (op:Int)))):=zh ((Kp.refl _ w).set (.inl (.head _)) 2 _);have ip:Hid (InE E k op nd pl er (w.setCell ⟨r,2,none⟩ (.int .i64 (op:Int)))):=zh (HP.out _ dz.out (HR.out.put 2 _));refine(CT.out _ ip.out).mono ?_;rintro e w2 ⟨rfl,h1,h2⟩;have HS:=zh (HF.out _ (.bool true) (.returned (.bool true)) _ dz.out ⟨rfl,h1,h2⟩);clear h1 h2 dz ip CT HP HF HR x2 f2
 go_wp2_with fail
 go_ret
 exact HS.out
abbrev aY(h:NodeH)(A:Option Addr)(n c:Nat):Array Value:=#[.int .i64 h.kind,.int .i64 h.v.kind,.int .i64 h.v.mant,.int .i64 h.v.exp,.string ⟨h.v.text.toArray⟩,.bool h.v.truth,.int .i64 h.v.fault,.string ⟨h.name.toArray⟩,
 .int .i64 h.a.row.a,.int .i64 h.a.row.n,.int .i64 h.a.col.a,.int .i64 h.a.col.n,.bool h.a.fr,.bool h.a.fc,.int .i64 h.b.row.a,.int .i64 h.b.row.n,.int .i64 h.b.col.a,.int .i64 h.b.col.n,.bool h.b.fr,.bool h.b.fc,.int .i64 h.rows,.slice A n c]
abbrev dA(h:NodeH)(A:Option Addr)(n c:Nat):Value:=.agg (aY h A n c)
mutual
def NodeAt(W:World)(X:List Nat)(g o:Nat):Tree->Prop
 | .mk h l=>∃ A c,(∀ j,j<22->W.cell? ⟨g,o+j,none⟩=(aY h A l.length c)[j]?)/\(l=[]\/∃ g',A=some ⟨g',0,none⟩/\g'∉X/\g'<W.heap.size/\KidsAt W X g' 0 l)
def KidsAt(W:World)(X:List Nat)(g:Nat):Nat->List Tree->Prop
 |_,[]=>True
 |i,t::r=>NodeAt W X g (i*22) t/\KidsAt W X g (i+1) r
end
def KidsOk(W:World)(X:List Nat)(A:Option Addr)(l:List Tree):Prop:=l=[]\/∃ g',A=some ⟨g',0,none⟩/\g'∉X/\g'<W.heap.size/\KidsAt W X g' 0 l
mutual
theorem NodeAt.kp{W W':World}{X:List Nat}(hk:Kp X W W'){g o:Nat}(hg:g<W.heap.size)(hx:g∉X):∀ {t:Tree},NodeAt W X g o t->NodeAt W' X g o t
 | .mk h l,hn=>by
  obtain⟨A,c,h1,h2⟩:=hn;refine⟨A,c,fun j hj=>(hk.cell hg hx).trans (h1 j hj),?_⟩;rcases h2 with h2|⟨g',e,h3,h4,h5⟩
  ·exact .inl h2
  exact .inr ⟨g',e,h3,yu h4 hk.size,KidsAt.kp hk h4 h3 h5⟩
theorem KidsAt.kp{W W':World}{X:List Nat}(hk:Kp X W W'){g:Nat}(hg:g<W.heap.size)(hx:g∉X):∀ {l:List Tree} {i:Nat},KidsAt W X g i l->KidsAt W' X g i l
 | [],_,_=>trivial
 |_::_,_,hn=>⟨NodeAt.kp hk hg hx hn.1,KidsAt.kp hk hg hx hn.2⟩
end
theorem KidsOk.kp{W W':World}{X:List Nat}(hk:Kp X W W'){A:Option Addr}{l:List Tree}(h:KidsOk W X A l):KidsOk W' X A l:=by
 rcases h with h2|⟨g',e,h3,h4,h5⟩
 ·exact .inl h2
 exact .inr ⟨g',e,h3,yu h4 hk.size,KidsAt.kp hk h4 h3 h5⟩
theorem wH{ty:TypeId}{bx:Nat}:∀ (r:List Value) (i:Nat) (W:World) (cs:Array Value),Lies W bx ty cs->i+r.length=cs.size->Lies (W.setCells bx i r) bx ty (cs.toList.take i++r).toArray
 | [],i,_,cs,h,hl=>by
  have:(cs.toList.take i++[]).toArray=cs:=by
   rw[List.append_nil,List.take_of_length_le (by simp at hl;simp;omega)]
  rw[this];exact h
 |v::r,i,_,cs,h,hl=>by
  have h1:=wH r (i+1) _ _ (h.put i v) (by simp at hl ⊢;omega);have hi:i<cs.toList.length:=by simp at hl ⊢;omega
  have e:((cs.setIfInBounds i v).toList.take (i+1)++r).toArray=(cs.toList.take i++v::r).toArray:=by
   congr 1
   rw[Array.toList_setIfInBounds,yw (by simpa using hi),List.getElem_set_self,List.take_set_of_le zr];simp
  rw[<- e];exact h1
theorem aT{Y:List Nat}{a:World}{bx:Nat}(hb:bx∈Y\/a.heap.size<=bx):∀ (r:List Value) (i:Nat) {W:World},Kp Y a W->Kp Y a (W.setCells bx i r)
 | [],_,_,h=>h
 |v::r,i,_,h=>aT hb r (i+1) (h.set hb i v)
theorem eV{bx g:Nat}{t:TypeId}{cs:Array Value}(hb:g≠bx):∀ (r:List Value) (i:Nat) {W:World},Lies W g t cs->Lies (W.setCells bx i r) g t cs
 | [],_,_,h=>h
 |v::r,i,_,h=>eV hb r (i+1) (aK h hb i v)
theorem Lies.range{w:World}{b:Nat}{t:TypeId}{C:Array Value}(h:Lies w b t C):w.rangeAt b 0 C.toList:=fun j v hv=>by
 rw[Nat.zero_add,h.cell j];simpa using hv
theorem Lies.thereA{w:World}{b:Nat}{t:TypeId}{C:Array Value}(h:Lies w b t C):w.there b 0 C.size:=fun j hj=>
 ⟨by rw[Nat.zero_add,h.cell j,Array.getElem?_eq_getElem hj];rfl,h.frozen _⟩
theorem Lies.putAll{w:World}{b:Nat}{t:TypeId}{C:Array Value}(h:Lies w b t C){vs:List Value}(hl:vs.length=C.size):Lies (w.setCells b 0 vs) b t vs.toArray:=by
 have:=wH vs 0 w C h (by omega);simpa using this
abbrev aA:List Value:=[.int .i64 0,.int .i64 0,.int .i64 0,.int .i64 0,.string ⟨#[]⟩,.bool false,.int .i64 0,.string ⟨#[]⟩,.int .i64 0,.int .i64 0,.int .i64 0,.int .i64 0,.bool false,.bool false,.int .i64 0,.int .i64 0,.int .i64 0,.int .i64 0,.bool false,.bool false,.int .i64 0,.slice none 0 0]
abbrev zM:Array Value:=#[.int .i64 0,.int .i64 0,.int .i64 0,.int .i64 0,.string ⟨#[]⟩,.bool false,.int .i64 0,.string ⟨#[]⟩,.int .i64 0,.int .i64 0,.int .i64 0,.int .i64 0,.bool false,.bool false,.int .i64 0,.int .i64 0,.int .i64 0,.int .i64 0,.bool false,.bool false,.int .i64 0,.slice none 0 0]
theorem aW:aA.toArray.all (·.oneCell')=true:=by simp[aA,Value.oneCell']
theorem aF:(Tryz.prog.info? 41).map (·.size)=some 22:=by kernel_rfl
theorem fo{C:List Value}(h:C.length=22):(Tryz.prog.info? 41).map (·.size)=some C.toArray.size:=by rw[yd,h];exact aF
set_option maxRecDepth 100000 in
theorem gI(E:Env)(hE:E.ok)(k op nd pl er:Nat)(cs:List Value)(fz:cs.length=22)(h1:cs.toArray.all (·.oneCell')=true)(w:World)(hI:InE E k op nd pl er w)(hn:nd<=1000000) :
  Calls Tryz.prog 48 #[.pointer (some ⟨E.r,0,none⟩),.agg cs.toArray] w (Step E w k op (nd+1) pl er (.agg (if 256<nd+1 then aA.toArray else cs.toArray))):=by
 have hP:∀ W',Kp [E.r] w W'->Lies W' E.r 66 (rdC E k op (nd+1) pl er)->∀ v,Step E w k op (nd+1) pl er v (.returned v) W':=fun W' h1 h2 v=>⟨rfl,hI.wrote hE h1 h2,h1⟩
 have HP:=zh hP;have hR:=zh hI.rd;have hrs:=hI.rd.lt;have hni:(nd:Int)<=1000000:=by omega
 clear hP hI;generalize hr:E.r=r at *;have H22:=zh fz;have H1:=zh h1;clear fz h1
 go_enter Tryz.func48,Tryz.ntmps48
 go_upto_region 1 with fail
 have dz:Hid (Kp [r] w ((w.alloc (.cells cs.toArray 41)).alloc (.cells aA.toArray 41))):=zh (((Kp.refl _ w).alloc _).alloc _);have dr:Hid (Lies ((w.alloc (.cells cs.toArray 41)).alloc (.cells aA.toArray 41)) r 66 (rdC E k op nd pl er)):=zh ((hR.out.alloc _).alloc _);have mi:Hid (Lies ((w.alloc (.cells cs.toArray 41)).alloc (.cells aA.toArray 41)) w.heap.size 41 cs.toArray):=zh ((Lies.new w _ _).alloc _);have HZ1:Hid (Lies ((w.alloc (.cells cs.toArray 41)).alloc (.cells aA.toArray 41)) (w.heap.size+1) 41 aA.toArray):=zh (by
  have h:=Lies.new (w.alloc (.cells cs.toArray 41)) 41 aA.toArray;rw[World.size_alloc]at h;exact h)
 clear hR;simp only[aA]at dz dr mi HZ1;generalize (w.alloc (.cells cs.toArray 41)).alloc (.cells zM 41)=W1 at dz dr mi HZ1 ⊢;have zu:w.heap.size≠r:=by omega
 have hqr2:w.heap.size+1≠r:=by omega
 generalize en:w.heap.size=q at zu hqr2 mi HZ1 ⊢;rw[en]at hrs;have rf:=zh en;clear en;have x3:=dr.out.cell 3;have f3:=dr.out.frozen 3;simp only[za,zb,zf]at x3
 go_upto_region 2 with fail
 have bq:Hid (Kp [r] w (W1.setCell ⟨r,3,none⟩ (.int .i64 ((nd:Int)+1)))):=zh (dz.out.set (.inl (.head _)) 3 _);have c6:Hid (Lies (W1.setCell ⟨r,3,none⟩ (.int .i64 ((nd:Int)+1))) r 66 (rdC E k op (nd+1) pl er)):=zh (dr.out.put 3 _);have iu:=zh (aK mi.out zu 3 (.int .i64 ((nd:Int)+1)));have ph:=zh (aK HZ1.out hqr2 3 (.int .i64 ((nd:Int)+1)));generalize W1.setCell ⟨r,3,none⟩ (.int .i64 ((nd:Int)+1))=W2 at *;clear dz dr mi HZ1 x3 f3;have x3:=c6.out.cell 3;simp only[za,zb,zf]at x3;have HL:Hid (W2.rangeAt q 0 cs):=zh (by simpa using iu.out.range);have HT:Hid (W2.there (q+1) 0 22):=zh ph.out.thereA;have zi:(Tryz.prog.info? 41).map (·.size)=some cs.length:=by rw[H22.out];exact aF
 by_cases hbig:256<nd+1
 ·have hbi:(256:Int)<(nd:Int)+1:=by omega
  rw[if_pos hbig];have fb:=zh (aT (bx:=q+1) (.inr (by rw[rf.out];exact Nat.le_succ _)) aA 0 bq.out);have fh:=zh (eV (Ne.symm hqr2) aA 0 c6.out);have HZ3:=zh (ph.out.putAll (vs:=aA) rfl)
  go_wp2_with (first |(refine yq rfl 41 (.tmp 4) (.tmp 17) rfl (q+1) 0 aA.toArray rfl rfl HT.out aF aW ?_;change wpList _ _ _ _ _ (W2.setCells (q+1) 0 aA);generalize W2.setCells (q+1) 0 aA=W3 at fb fh HZ3 ⊢))
  exact yt (results_cell_row rfl _ _ (q+1) _ _ _ _ rfl HZ3.out Tryz.underlying41 rfl aF) rfl (HP.out _ fb.out fh.out _)
 have hbi:¬ (256:Int)<(nd:Int)+1:=by omega
 rw[if_neg hbig];have fb:=zh (aT (bx:=q+1) (.inr (by rw[rf.out];exact Nat.le_succ _)) cs 0 bq.out);have fh:=zh (eV (Ne.symm hqr2) cs 0 c6.out);have HZ3:=zh (ph.out.putAll (vs:=cs) H22.out)
 go_wp2_with (first |(refine yr rfl 41 (.tmp 3) rfl q 0 rfl cs _ HL.out Tryz.underlying41 rfl zi ?_) |(refine yq rfl 41 (.tmp 4) (.tmp 18) rfl (q+1) 0 cs.toArray rfl rfl (by rw[yd,H22.out];exact HT.out) (by rw[yd];exact zi) H1.out ?_;change wpList _ _ _ _ _ (W2.setCells (q+1) 0 cs);generalize W2.setCells (q+1) 0 cs=W3 at fb fh HZ3 ⊢))
 exact yt (results_cell_row rfl _ _ (q+1) _ _ _ _ rfl HZ3.out Tryz.underlying41 rfl (by rw[yd];exact zi)) rfl (HP.out _ fb.out fh.out _)
abbrev arV(a b:Cor):Value:=.agg #[.int .i64 a.row.a,.int .i64 a.row.n,.int .i64 a.col.a,.int .i64 a.col.n,.bool a.fr,.bool a.fc,.int .i64 b.row.a,.int .i64 b.row.n,.int .i64 b.col.a,.int .i64 b.col.n,.bool b.fr,.bool b.fc]
set_option maxRecDepth 100000 in
theorem eql_area(a b a2 b2:Cor)(w:World):(binOp .eql 38 (arV a b) (arV a2 b2)).run Tryz.prog w=.ok (.bool (decide (a=a2)&&decide (b=b2))) w:=by
 obtain⟨⟨x0,x1⟩,⟨x2,x3⟩,x4,x5⟩:=a;obtain⟨⟨x6,x7⟩,⟨x8,x9⟩,xa,xb⟩:=b;obtain⟨⟨y0,y1⟩,⟨y2,y3⟩,y4,y5⟩:=a2;obtain⟨⟨y6,y7⟩,⟨y8,y9⟩,ya,yb⟩:=b2;dsimp only[arV]
 go_simp
 by_cases h0:x0=y0
 case neg=>simp[h0]
 by_cases h1:x1=y1
 case neg=>simp[h0,h1]
 by_cases h2:x2=y2
 case neg=>simp[h0,h1,h2]
 by_cases h3:x3=y3
 case neg=>simp[h0,h1,h2,h3]
 by_cases h4:x4=y4
 case neg=>simp[h0,h1,h2,h3,h4]
 by_cases h5:x5=y5
 case neg=>simp[h0,h1,h2,h3,h4,h5]
 by_cases h6:x6=y6
 case neg=>simp[h0,h1,h2,h3,h4,h5,h6]
 by_cases h7:x7=y7
 case neg=>simp[h0,h1,h2,h3,h4,h5,h6,h7]
 by_cases h8:x8=y8
 case neg=>simp[h0,h1,h2,h3,h4,h5,h6,h7,h8]
 by_cases h9:x9=y9
 case neg=>simp[h0,h1,h2,h3,h4,h5,h6,h7,h8,h9]
 by_cases ha:xa=ya
 case neg=>simp[h0,h1,h2,h3,h4,h5,h6,h7,h8,h9,ha]
 by_cases hb:xb=yb
 case neg=>simp[h0,h1,h2,h3,h4,h5,h6,h7,h8,h9,ha,hb]
 simp[h0,h1,h2,h3,h4,h5,h6,h7,h8,h9,ha,hb]
end Go.Proofs.YtmgjidnalpgegaaGreatDoor
