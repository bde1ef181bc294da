/-
  Lemmas, part 7: Ax5.
-/
import Derived.Test.YtjfihpaeglpblaaGreatDoorRf6
set_option maxHeartbeats 100000000
set_option maxRecDepth 1000000
namespace Go.Proofs.YtjfihpaeglpblaaGreatDoor
open Go.RowKit
def KIdx(W:World)(m:Nat)(ys:List IdR):Prop:=∃ es clock,W.heap[m]?=some (.map es clock)/\es.toList.map (·.key)=ys.map idV/\es.toList.map (·.val)=(List.range ys.length).map (fun(i:Nat)=>vI (i:Int))
theorem KIdx.at{W W':World}{m:Nat}{ys:List IdR}(h:KIdx W m ys)(hb:W'.heap[m]?=W.heap[m]?):KIdx W' m ys:=by
 obtain⟨es,clock,h1,h2⟩:=h;exact⟨es,clock,hb.trans h1,h2⟩
theorem KIdx.lt{W:World}{m:Nat}{ys:List IdR}(h:KIdx W m ys):m<W.heap.size:=by
 obtain⟨es,clock,h1,_⟩:=h;exact(zk.1 h1).1
theorem KIdx.put{W:World}{m:Nat}{ys:List IdR}{t et:TypeId}(h:KIdx W m ys)(hu:Tryz.prog.underlying t=some (.map 27 et))(hf:∀ y∈ys,y.fits)(x:IdR)(hx:x.fits)(hn:x∉ys)(k:Nat)(hk:ys.length=k) :
  ∃ W',(Instr.mapUpdate t (.map (some m)) (idV x) (vI (k:Int))).run Tryz.prog W=.ok () W'/\KIdx W' m (ys++[x])/\Only m W W':=by
 obtain⟨es,clock,h1,h2,h3⟩:=h;obtain⟨l,hl⟩:=nR x hx;have hc:=tW.check W false hl;rcases KMap.find (W:=W) h2 hf x hx with⟨g1,g2⟩|⟨g1,_⟩
 ·have hlt:=(zk.1 h1).1;refine⟨{ W with heap:=W.heap.setIfInBounds m (.map (es.push { key:=idV x,val:=vI (k:Int),born:=clock }) (clock+1)) },?_,⟨es.push { key:=idV x,val:=vI (k:Int),born:=clock },clock+1,?_,?_,?_⟩,⟨rfl,rfl,rfl,by simp,fun k hk=>by simp[Ne.symm hk]⟩⟩
  ·simp[Instr.mapUpdate,run_underlying hu,MapKept.run_getObj_map h1,hc,g2,MapKept.run_setObj_map _ h1,Result.andThen]
  ·simp[hlt]
  ·simp[h2]
  rw[yl,List.length_singleton,List.range_succ,List.map_append,<- h3,hk];simp
 exact absurd g1 hn
theorem KIdx.look{W:World}{m:Nat}{ys:List IdR}{t:TypeId}(h:KIdx W m ys)(hu:Tryz.prog.underlying t=some (.map 27 3))(hf:∀ y∈ys,y.fits)(x:IdR)(hx:x.fits) :
  (x∉ys/\(Instr.lookup t (.map (some m)) (idV x) true).run Tryz.prog W=.ok (.tuple #[vI 0,.bool false]) W)\/(∃ k:Nat,∃ hk:k<ys.length,ys[k]=x/\(Instr.lookup t (.map (some m)) (idV x) true).run Tryz.prog W=.ok (.tuple #[vI (k:Int),.bool true]) W):=by
 obtain⟨es,clock,h1,h2,h3⟩:=h;obtain⟨l,hl⟩:=nR x hx;have hc:=tW.check W es.isEmpty hl;have hz:(zeroValue 3).run Tryz.prog W=.ok (vI 0) W:=by kernel_rfl
 have hlen:es.toList.length=ys.length:=by have:=congrArg List.length h2;simpa using this
 rcases tW.find W hl es.toList (wW h2 hf) with⟨g1,g2⟩|⟨j,e,g1,g2,g3⟩
 ·refine .inl ⟨fun hxy=>?_,?_⟩
  ·have hm:idV x∈es.toList.map (·.key):=by rw[h2];exact yj.2 ⟨x,hxy,rfl⟩
   obtain⟨e,he,e1⟩:=yj.1 hm;exact g2 e he e1
  simp[Instr.lookup,run_underlying hu,MapKept.run_getObj_map h1,hc,g1,hz,Result.andThen]
 have hj:j<ys.length:=by rw[<- hlen];exact(List.getElem?_eq_some_iff.1 g2).1
 have hkey:ys[j]=x:=by
  have e1:(es.toList.map (·.key))[j]?=some e.key:=by rw[List.getElem?_map,g2];rfl
  rw[h2,List.getElem?_map,List.getElem?_eq_getElem hj]at e1;exact uDD ((Option.some.inj e1).trans g3)
 have hval:e.val=vI (j:Int):=by
  have e1:(es.toList.map (·.val))[j]?=some e.val:=by rw[List.getElem?_map,g2];rfl
  rw[h3,List.getElem?_map,List.getElem?_range hj]at e1;exact(Option.some.inj e1).symm
 refine .inr ⟨j,hj,hkey,?_⟩;simp[Instr.lookup,run_underlying hu,MapKept.run_getObj_map h1,hc,g1,Result.andThen,hval]
def Aheads(ids:List IdR)(fl:List Bool)(k:Nat)(cs:Array Value):Prop:=∀ j,j<k->cs[j]?=some (vI ((aK (ids.take j) (fl.take j)).length:Int))
theorem Aheads.put{ids:List IdR}{fl:List Bool}{k m:Nat}{cs:Array Value}(h:Aheads ids fl k cs)(hk:k<cs.size)(hm:(aK (ids.take k) (fl.take k)).length=m):Aheads ids fl (k+1) (cs.setIfInBounds k (vI (m:Int))):=fun j hj=>by
 rcases Nat.lt_or_ge j k with h1|h1
 ·rw[Array.getElem?_setIfInBounds_ne (by omega)];exact h j h1
 obtain rfl:j=k:=by omega
 rw[Array.getElem?_setIfInBounds_self_of_lt hk,hm]
structure AxFull(b base:Nat)(ids:List IdR)(fl:List Bool)(W:World):Prop where
 ex:∃ v1 v2 v4 m ga cs,Lies W b 152 #[v1,v2,.map (some m),.slice (some ⟨ga,0,none⟩) ids.length ids.length,v4]/\(∃ b1,W.ownsRow b1 27 2 v1 ids.length (aJ ids))/\(∃ b2,W.ownsRow b2 4 1 v2 fl.length (dF fl))/\KIdx W m ids/\Lies W ga 3 cs/\cs.size=ids.length/\Aheads ids fl ids.length cs/\W.ownsRow base 27 2 v4 (aK ids fl).length (aJ (aK ids fl))
theorem vC(b base:Nat)(ids:List IdR)(fl:List Bool)(v1 v2:Value)(w:World)(hR:AxRaw b base ids fl v1 v2 w)(hl:ids.length=fl.length)(hn:ids.length<=300)(hf:∀ y∈ids,y.fits)(hd:ids.Nodup) :
  Calls Tryz.prog 88 #[vP b 0] w fun e w'=>e=.returned (.tuple #[])/\AxFull b w.heap.size ids fl w'/\Kp [b] w w':=by
 have wi:=mk_map;have hnq:=neq_nil;have hms:=fun w=>mk_ints ids.length hn w
 have HF:=zh hf;have HD:=zh hd;have HR:=zh hR;obtain⟨A1,b6,rfl⟩:=aY hR.r1;obtain⟨A2,cy,rfl⟩:=aY hR.r2;rw[<- hl]at HR;obtain⟨n,fi⟩:=zD ids.length
 have HN:=zh fi;have HLf:=zh hl;rw[<- fi]at hn HR hms;have a0:=HR.out.ax.cell 0;have a2:=HR.out.ax.cell 2;have f2:=HR.out.ax.frozen 2;simp only[za,zb,zf]at a0 a2;have hbs:=HR.out.ax.lt;clear hf hd hR fi hl
 go_in
 go_upto_region 2 with fail
 obtain⟨W1,am⟩:∃ W1,W1=(w.setCell ⟨b,2,none⟩ (.map (some w.heap.size))).alloc (.map #[] 0):=⟨_,rfl⟩
 have HX1:Hid (Lies W1 b 152 #[.slice A1 n b6,.slice A2 n cy,.map (some w.heap.size),.slice none 0 0,.slice none 0 0]):=zh (by rw[am];exact(HR.out.ax.put 2 _).alloc _);have HK1:Hid (Kp [b] w W1):=zh (by rw[am];exact((Kp.refl _ w).set (.inl (.head _)) 2 _).alloc _);have HM1:Hid (KIdx W1 w.heap.size []):=zh (by
  rw[am];refine⟨#[],0,?_,rfl,rfl⟩;have h:=heap_alloc_new (w.setCell ⟨b,2,none⟩ (.map (some w.heap.size))) (.map #[] 0);rw[World.size_setCell]at h;exact h)
 have ix:W1.heap.size=w.heap.size+1:=by rw[am,World.size_alloc,World.size_setCell]
 rw[<- am];clear am a0 a2 f2;have a0:=HX1.out.cell 0;have a3:=HX1.out.cell 3;have f3:=HX1.out.frozen 3;simp only[za,zb,zf]at a0 a3;have hbs1:b<W1.heap.size:=HX1.out.lt
 go_upto_region 3 with fail
 obtain⟨W2,dx⟩:∃ W2,W2=(W1.setCell ⟨b,3,none⟩ (.slice (some ⟨w.heap.size+1,0,none⟩) n n)).alloc (.cells (madeCells #[vI 0] n) 3):=⟨_,rfl⟩
 have sd:Hid (Lies W2 b 152 #[.slice A1 n b6,.slice A2 n cy,.map (some w.heap.size),.slice (some ⟨w.heap.size+1,0,none⟩) n n,.slice none 0 0]):=zh (by rw[dx];exact(HX1.out.put 3 _).alloc _);have fj:Hid (Kp [b] w W2):=zh (by rw[dx];exact(HK1.out.set (.inl (.head _)) 3 _).alloc _);have kh:Hid (KIdx W2 w.heap.size []):=zh (by
  rw[dx];exact(HM1.out.at (Below.heap_setCell _ _ _ _ (by show w.heap.size≠b;omega))).at (Below.heap_alloc _ _ _ (by rw[World.size_setCell,ix];omega)))
 have HA2:Hid (∃ cs:Array Value,Lies W2 (w.heap.size+1) 3 cs/\cs.size=n/\Aheads ids fl 0 cs):=zh (by
  rw[dx];refine⟨madeCells #[vI 0] n,?_,by simp[madeCells],fun j hj=>absurd hj (Nat.not_lt_zero _)⟩;have h:=Lies.new (W1.setCell ⟨b,3,none⟩ (.slice (some ⟨w.heap.size+1,0,none⟩) n n)) 3 (madeCells #[vI 0] n);rw[World.size_setCell,ix]at h;exact h)
 have dv:Hid (w.heap.size+2<=W2.heap.size):=zh (by rw[dx,World.size_alloc,World.size_setCell,ix];omega);rw[<- dx];clear dx a0 a3 f3 HX1 HK1 HM1 ix hbs1;have HRi:Hid (∀ wx,Kp [b] w wx->∀ k (h:k<ids.length),∃ g,A1=some ⟨g,0,none⟩/\wx.cell? ⟨g,k*2,none⟩=some (vI ids[k].a)/\wx.cell? ⟨g,k*2+1,none⟩=some (vI ids[k].n)):=zh (fun wx hk k h=>by
  have hr:=HR.out.r1;rw[HN.out]at hr;obtain⟨g,cap,e,_,bp⟩:=own_ids hr (by omega);have mu:g∉[b]:=fun hm=>by
   have e2:g=b:=by simpa using hm
   exact aX (by decide) HR.out.r1 HR.out.ax (by injection e with e;rw[e,e2];rfl)
  obtain⟨q0,q1⟩:=bp.2 k h;rw[Nat.zero_add]at q0 q1;exact⟨g,by injection e,(hk.cell bp.1 mu).trans q0,(hk.cell bp.1 mu).trans q1⟩)
 have HRl:Hid (∀ wx,Kp [b] w wx->∀ k (h:k<fl.length),∃ g,A2=some ⟨g,0,none⟩/\wx.cell? ⟨g,k,none⟩=some (.bool fl[k])):=zh (fun wx hk k h=>by
  obtain⟨g,cap,e,_,hg,bp⟩:=fI HR.out.r2 (by omega);have mu:g∉[b]:=fun hm=>by
   have e2:g=b:=by simpa using hm
   exact aX (by decide) HR.out.r2 HR.out.ax (by injection e with e;rw[e,e2];rfl)
  exact⟨g,by injection e,(hk.cell hg mu).trans (bp k _ (by simp[dF,h]))⟩)
 have a0:=sd.out.cell 0;simp only[za,zb]at a0;have hbs2:b<W2.heap.size:=sd.out.lt
 go_upto_region 4 with fail
 clear a0 hbs2
 go_loopw [32] (fun v32 wx=>∃ (k:Nat) (v4:Value),v32=vI (k:Int)/\k<=n/\Hid (Lies wx b 152 #[.slice A1 n b6,.slice A2 n cy,.map (some w.heap.size),.slice (some ⟨w.heap.size+1,0,none⟩) n n,v4])/\Hid (KIdx wx w.heap.size (ids.take k))/\Hid (∃ cs:Array Value,Lies wx (w.heap.size+1) 3 cs/\cs.size=n/\Aheads ids fl k cs)/\Hid (wx.ownsRow (w.heap.size+2) 27 2 v4 (aK (ids.take k) (fl.take k)).length (aJ (aK (ids.take k) (fl.take k))))/\Hid (Kp [b] w wx)/\Hid (w.heap.size+2<=wx.heap.size)) (fun v32 _=>n-(intOf v32).toNat)
 case atStart=>exact⟨0,_,rfl,zm _,sd,kh,HA2,zh ⟨rfl,.inl ⟨rfl,rfl⟩⟩,fj,dv⟩
 case round=>
  obtain⟨k,v4,rfl,hk,hX,hM,hA,hO,hK,hZ⟩:=hrel;clear sd kh HA2 fj dv;generalize qc:w.heap.size=q at *;have HQ:=zh qc;clear qc;by_cases hlt:k<n
  ·have ip:k<ids.length:=by rw[<- HN.out];exact hlt
   have ws:k<fl.length:=by rw[<- HLf.out];exact ip
   obtain⟨gi,rfl,d0,d1⟩:=HRi.out wr hK.out k ip;obtain⟨gl,rfl,d2⟩:=HRl.out wr hK.out k ws;have D2:Hid (∀ wx,Kp [b] w wx->wx.cell? ⟨gl,k,none⟩=some (.bool fl[k])):=zh (fun wx h=>by
    obtain⟨g,e,hc⟩:=HRl.out wx h k ws;injection e with e;injection e with e;rw[e];exact hc)
   clear d2;have hxf:=HF.out _ (List.getElem_mem ip);have qd:=zh (fun y (hy:y∈ids.take k)=>HF.out y (List.mem_of_mem_take hy));have sr:=zh (pA ids fl k HLf.out ip);have HTk:=zh (yw ip);have hnin:ids[k]∉ids.take k:=fun hm=>by
    obtain⟨j,hj,e⟩:=List.getElem_of_mem hm;rw[zc]at hj;rw[List.getElem_take]at e;have:=(List.getElem_inj HD.out).1 e;omega
   have hml:(aK (ids.take k) (fl.take k)).length<=k:=yv (dO _ _) (by rw[zc];omega);generalize ids[k]=x at *;generalize fl[k]=fk at *;have HTL:Hid ((ids.take k).length=k):=zh (by rw[zc];omega);generalize nn:ids.take k=acc at *;generalize mi:aK acc (fl.take k)=lv at *;generalize np:ids.take (k+1)=acc' at *;generalize hlv2:aK acc' (fl.take (k+1))=lv' at *;have jr:=zh np;have HAcc:=zh (And.intro nn mi);have HLv2:=zh hlv2;clear np nn mi hlv2;obtain⟨xa,xn⟩:=x;dsimp only at d0 d1;obtain⟨A4,i6,rfl⟩:=aY hO.out;generalize hle:lv.length=m at *
   go_upto_region 6 with fail
   have hX3:=zh (hX.out.next ((Below.refl _ wr).alloc zr (.cells #[vI xa,vI xn] 27)));have q9:=zh (hM.out.at (Below.heap_alloc wr (.cells #[vI xa,vI xn] 27) q hM.out.lt));have hA3:Hid (∃ cs:Array Value,Lies (wr.alloc (.cells #[vI xa,vI xn] 27)) (q+1) 3 cs/\cs.size=n/\Aheads ids fl k cs):=zh (by
    obtain⟨cs,h1,h2⟩:=hA.out;exact⟨cs,h1.next ((Below.refl _ wr).alloc zr _),h2⟩)
   have hO3:=zh (World.ownsRow.alloc hO.out (.cells #[vI xa,vI xn] 27));have zx:=zh (hK.out.alloc (.cells #[vI xa,vI xn] 27));have vf:=zh (Lies.new wr 27 #[vI xa,vI xn]);have sy:b<wr.heap.size:=hX.out.lt;have hbq:q+2<=wr.heap.size:=hZ.out;have zz:Hid (∀ g,(Value.slice A4 m i6).ownBlock=some g->g<wr.heap.size):=zh (fun g hg=>(bP hO.out g hg).2);have zy:Hid (wr.heap.size<(wr.alloc (.cells #[vI xa,vI xn] 27)).heap.size):=zh (by rw[World.size_alloc];omega);generalize wr.alloc (.cells #[vI xa,vI xn] 27)=W3 at *;generalize wr.heap.size=bx at *;clear d0 d1 hX hM hA hO hK hZ;have c2:=hX3.out.cell 2;have b0:=vf.out.cell 0;have b1:=vf.out.cell 1;simp only[za,zb,zf]at c2 b0 b1
   obtain⟨W4,bd,wt,sw⟩:=(q9.out.at (rfl:W3.drew.heap[q]?=W3.heap[q]?)).put (t:=149) (et:=3) Tryz.underlying149 qd.out ⟨xa,xn⟩ hxf hnin k HTL.out;dsimp only[idV]at bd
   go_cut [42] (fun v42 wx=>Hid (wx=W4))
   case first=>
    go_region
    all_goals go_wp2_with fail
    all_goals go_meet
    all_goals exact zh rfl
   case rest=>
   obtain rfl:W4=wc:=hcut.out.symm;have om:=sw.kp;have hqb:q≠b:=by
    intro e;have h1:=hX3.out;obtain⟨es,ck,h2,_⟩:=q9.out;unfold Lies at h1;rw[e,h1]at h2;cases h2
   have wk:=zh (om.lies (hX3.out.next (Below.refl _ W3).drew) (by simp;omega));have mq:=zh (om.lies (vf.out.next (Below.refl _ W3).drew) (by simp;omega));have hA4:Hid (∃ cs:Array Value,Lies W4 (q+1) 3 cs/\cs.size=n/\Aheads ids fl k cs):=zh (by
    obtain⟨cs,h1,h2⟩:=hA3.out;exact⟨cs,om.lies (h1.next (Below.refl _ W3).drew) (by simp),h2⟩)
   have hO4:=zh (bL (aL (Below.refl _ W3).drew hO3.out) om (fun g hg=>by have:=(bP hO3.out g hg).1;simp;omega));have hK4:=zh (zx.out.drew.andThen om (fun g hg=>.inr (by rw[HQ.out];simp at hg;omega)));have jh:=zh wt;have hs4:W4.heap.size=W3.heap.size:=sw.size;clear bd wt sw om hX3 q9 hA3 hO3 zx vf c2 b0 b1;obtain⟨cs,ep,o4,hca⟩:=hA4.out;have hkc:k<cs.size:=by omega
   have e0:W4.cell? ⟨q+1,k,none⟩=some cs[k]:=by rw[ep.cell,Array.getElem?_eq_getElem hkc]
   have e1:=ep.frozen k;generalize cs[k]=u0 at e0;have c3:=wk.out.cell 3;have c4:=wk.out.cell 4;simp only[za,zb,zf]at c3 c4;have HC:=zh ep;have ot:=zh o4;have HCa:=zh (hca.put (m:=m) (by omega) (by rw[HAcc.out.1,HAcc.out.2];exact hle));clear ep o4 hkc hA4 hca
   go_upto_region 7 with fail
   obtain⟨W5,dr⟩:=zD (W4.drew.setCell ⟨q+1,k,none⟩ (vI (m:Int)))
   go_cut [54] (fun v54 wx=>Hid (wx=W5))
   case first=>
    go_region
    all_goals go_wp2_with fail
    all_goals go_meet
    all_goals exact zh dr.symm
   case rest=>
   obtain rfl:W5=wc:=hcut.out.symm;have hq1b:q+1≠b:=by
    intro e;have h1:=wk.out;have h2:=HC.out;unfold Lies at h1 h2;rw[e,h1]at h2;injection h2 with h2;injection h2 with _ h2 _;exact absurd h2 (by decide)
   have hX5:Hid (Lies W5 b 152 #[.slice (some ⟨gi,0,none⟩) n b6,.slice (some ⟨gl,0,none⟩) n cy,.map (some q),.slice (some ⟨q+1,0,none⟩) n n,.slice A4 m i6]):=zh (by rw[dr];exact(aB (wk.out.next (Below.refl _ W4).drew) (Ne.symm hq1b) k _));have hL5:Hid (Lies W5 bx 27 #[vI xa,vI xn]):=zh (by rw[dr];exact(aB (mq.out.next (Below.refl _ W4).drew) (by omega) k _));have hA5:Hid (∃ cs:Array Value,Lies W5 (q+1) 3 cs/\cs.size=n/\Aheads ids fl (k+1) cs):=zh (by
    rw[dr];exact⟨_,(HC.out.next (Below.refl _ W4).drew).put k _,by rw[Array.size_setIfInBounds];exact ot.out,HCa.out⟩)
   have hO5:Hid (W5.ownsRow (q+2) 27 2 (.slice A4 m i6) m (aJ lv)):=zh (by rw[dr];exact kM (by decide) (aL (Below.refl _ W4).drew hO4.out) (HC.out.next (Below.refl _ W4).drew) k _);have hM5:=zh (show KIdx W5 q (acc++[⟨xa,xn⟩]) by rw[dr];exact jh.out.at (Below.heap_setCell _ _ _ _ (by show q≠q+1;omega)));have hK5:Hid (Kp [b] w W5):=zh (by rw[dr];exact hK4.out.drew.set (.inr (by rw[HQ.out];omega)) k _);have hZ5:Hid (bx<W5.heap.size):=zh (by rw[dr,World.size_setCell];show bx<W4.heap.size;rw[hs4];exact zy.out);clear dr e0 e1 c3 c4 HC ot HCa wk mq hO4 jh hK4 hs4 zy;have c1:=hX5.out.cell 1;have d2:=D2.out W5 hK5.out;simp only[za,zb,zf]at c1;have mi:lv'=lv++(if fk then [⟨xa,xn⟩] else []):=HLv2.out ▸ sr.out;have hac:acc'=acc++[⟨xa,xn⟩]:=HTk.out;cases fk
   ·go_wp2_with fail
    go_roundw
    case rel=>
     refine⟨k+1,.slice A4 m i6,by go_num,by omega,hX5,?_,hA5,?_,hK5,zh (by have:=hZ5.out;omega)⟩
     ·rw[jr.out,hac];exact hM5
     rw[jr.out,HLv2.out,mi];simp only[Bool.false_eq_true,if_false,List.append_nil,hle];exact hO5
    case measure=>simp[intOf];omega
   go_upto_region 9 with fail
   clear c1 d2;have HY:Hid (∀ g,(Value.slice A4 m i6).ownBlock=some g->g∈b::(Value.slice A4 m i6).ownBlock.toList):=zh (fun g hg=>by rw[hg];simp);have hb2:bx≠b:=by omega
   have wl:Hid (bx∉b::(Value.slice A4 m i6).ownBlock.toList):=zh (fun h=>by
    rcases ym.1 h with h|h
    ·exact hb2 h
    have:=zz.out bx (by simpa using h);omega)
   obtain⟨TT,ag⟩:∃ TT:List (Nat×Nat×Value),TT=[(0,61,vP b 0),(1,62,vP b 0),(2,63,vP b 0),(3,64,vP b 4),(4,65,.slice A4 m i6),(5,66,.agg #[vI xa,vI xn]),(8,69,vP b 0),(9,70,vP b 4)]:=⟨_,rfl⟩
   have aw:=zh ag;clear ag;refine eW (by kernel_rfl) (by kernel_rfl) (fun a0=>72<=a0.tmps.size/\a0.eval (.tmp 0)=vP b 0/\a0.eval (.tmp 3)=vP bx 0) (GA [61,62,63,64,65,66,67,68,69,70] TT (b::(Value.slice A4 m i6).ownBlock.toList) W5 4 6 67 7 68 10 b 4 27 152 #[.slice (some ⟨gi,0,none⟩) n b6,.slice (some ⟨gl,0,none⟩) n cy,.map (some q),.slice (some ⟨q+1,0,none⟩) n n,.slice A4 m i6] (q+2) 2 m (.slice A4 m i6) (aJ lv) [vI xa,vI xn]) ⟨by simp,rfl,rfl⟩ (GA.start _ _ (Kp.refl _ _).drew hO5.out hX5.out) ?_ ?_
   ·rintro a0 ⟨hs,dh,kg⟩ zl a1 w1 j o ap hI ah ho zd;have ag:=aw.out;subst ag;have hk:GAk [61,62,63,64,65,66,67,68,69,70] [(0,61,vP b 0),(1,62,vP b 0),(2,63,vP b 0),(3,64,vP b 4),(4,65,.slice A4 m i6),(5,66,.agg #[vI xa,vI xn]),(8,69,vP b 0),(9,70,vP b 4)] (b::(Value.slice A4 m i6).ownBlock.toList) 6 67 7 68 10 b 27 152 (.slice A4 m i6) 72:=⟨rfl,by decide,HY.out,.head _⟩
    have hj:=Up.of_false ah;have hj12:j<11:=by rw[ap]at hj;exact hj
    have e0x:a1.eval (.tmp 0)=vP b 0:=(hI.off.eval (by decide)).trans dh;have e3x:a1.eval (.tmp 3)=vP bx 0:=(hI.off.eval (by decide)).trans kg;rcases(by omega:j=0\/j=1\/j=2\/j=3\/j=4\/j=5\/j=6\/j=7\/j=8\/j=9\/j=10) with rfl|rfl|rfl|rfl|rfl|rfl|rfl|rfl|rfl|rfl|rfl<;>obtain rfl:=oi ho
    ·exact bG hk hI hs (.head _) ah ho rfl rfl (by simp[execOp,go_sem,bR e0x])
    ·exact bG hk hI hs (.tail _ (.head _)) ah ho rfl rfl (by simp[execOp,go_sem,bR e0x])
    ·have d1:=ud zd 1;have p1:=pk hI.pt 1 rfl d1;exact bG hk hI hs (mm 2 rfl) ah ho rfl rfl (by simp[execOp,go_sem,bR p1])
    ·have d2:=ud zd 2;have p2:=pk hI.pt 2 rfl d2;exact bG hk hI hs (mm 3 rfl) ah ho rfl rfl (by simp[execOp,go_sem,bR p2])
    ·have d3:=ud zd 3;have p3:=pk hI.pt 3 rfl d3;have c0:=(hI.unl ah).cell 4;simp only[za,zb,zf]at c0;exact bG hk hI hs (mm 4 rfl) ah ho rfl rfl (by simp[execOp,go_sem,bR p3,c0])
    ·have hLb:=hI.kp.lies hL5.out wl.out;have l0:=hLb.cell 0;have l1:=hLb.cell 1;simp only[za,zb,zf]at l0 l1;exact bG hk hI hs (mm 5 rfl) ah ho rfl rfl (by simp[execOp,go_sem,bR e3x,l0,l1])
    ·have d5:=ud zd 5;have p5:=pk hI.pt 5 rfl d5;exact qW hk hI hs ah ho rfl rfl (by simp[execOp,go_sem,bR p5])
    ·have d4:=ud zd 4;have p4:=pk hI.pt 4 rfl d4;have d6:=ud zd 6;obtain⟨i1,gi,gz0,gz1,gz2⟩:=info_parts qZ;exact uAC hk hI hs ah ho rfl rfl d4 d6 35 65 rfl p4 i1 (.agg #[vI 0,vI 0]) 16 Tryz.underlying35 gi gz0 gz1 gz2 rfl (by decide) rfl (by intro u hu;simp at hu;rcases hu with rfl|rfl <;> rfl) (by unfold maxLen;omega) (by omega) (by have:=hZ5.out;have:=hI.kp.size;omega)
    ·have d0:=ud zd 0;have p0:=pk hI.pt 0 rfl d0;exact bG hk hI hs (mm 6 rfl) ah ho rfl rfl (by simp[execOp,go_sem,bR p0])
    ·have d8:=ud zd 8;have p8:=pk hI.pt 6 rfl d8;exact bG hk hI hs (mm 7 rfl) ah ho rfl rfl (by simp[execOp,go_sem,bR p8])
    have d9:=ud zd 9;have p9:=pk hI.pt 7 rfl d9;have d7:=ud zd 7;exact qX hk hI ah ho rfl rfl d7 (fun hL j6=>by
     obtain⟨gs,cs,j6⟩:=j6;have c0:=hL.cell 4;have k0:=hL.frozen 4;simp at c0;rw[j6];simp[execOp,go_sem,bR p9,bR j6,c0,k0])
   intro zl a1 w1 hI bd;have ag:=aw.out;subst ag;have gq:=hI.kp;have az:=hI.o2 (bd 7 (by decide));have js:=(hI.b2 (bd 10 (by decide))).2;obtain⟨ff,rfl,hf⟩:=hI.off.forms;rw[<- hf 68]at az js;clear hI;generalize ff 68=v' at *;simp only[List.foldl,Act.put,yz,List.set];have rd:=zh js;have gm:=zh az;have vk:=zh gq;obtain⟨A4',cap4',hv4⟩:=aY az;clear js az gq bd aw;have hA6:Hid (∃ cs:Array Value,Lies w1 (q+1) 3 cs/\cs.size=n/\Aheads ids fl (k+1) cs):=zh (by
    obtain⟨cs,h1,h2⟩:=hA5.out;refine⟨cs,vk.out.lies h1 (fun hm=>?_),h2⟩;rcases ym.1 hm with h|h
    ·exact hq1b h
    have:=(bP hO5.out (q+1) (by simpa using h)).1;omega)
   have hM6:=zh (hM5.out.at (vk.out.block q hM5.out.lt (fun hm=>by
    rcases ym.1 hm with h|h
    ·exact hqb h
    have:=(bP hO5.out q (by simpa using h)).1;omega)))
   have hK6:=zh (hK5.out.andThen vk.out (fun g hg=>by
    rcases ym.1 hg with h|h
    ·exact .inl (by rw[h];exact .head _)
    have:=(bP hO5.out g (by simpa using h)).1;exact .inr (by rw[HQ.out];omega)))
   have hZ6:Hid (q+2<=w1.heap.size):=zh (by have:=hZ5.out;have:=vk.out.size;omega);clear vk hX5 hO5 hA5 hM5 hK5 HY wl hL5
   go_wp2_with fail
   go_roundw
   case rel=>
    refine⟨k+1,v',by go_num,by omega,rd,?_,hA6,?_,hK6,hZ6⟩
    ·rw[jr.out,hac];exact hM6
    rw[jr.out,HLv2.out,mi];simp only[if_true,yl,yi,List.length_nil,Nat.zero_add,hle,iV];exact gm
   case measure=>simp[intOf];omega
  obtain rfl:k=n:=by omega
  have e1:ids.take k=ids:=by rw[HN.out,List.take_length]
  have e2:fl.take k=fl:=by rw[HN.out,HLf.out,List.take_length]
  rw[e1,e2]at hO;rw[e1]at hM;have HO:=zh hO.out;clear hO e1 e2
  go_wp2_with fail
  go_end0
  obtain⟨cs,ep,o4,hca⟩:=hA.out;have i7:wr.ownsRow base 27 2 (.slice A1 k b6) k (aJ ids):=by
   have h1:=HR.out.r1;rw[<- HN.out]at h1;exact bL h1 hK.out (fun g hg hm=>aX (by decide) HR.out.r1 HR.out.ax (by rw[hg];simp at hm;rw[hm]))
  have la:wr.ownsRow base 4 1 (.slice A2 k cy) k (dF fl):=by
   have h1:=HR.out.r2;rw[<- HLf.out,<- HN.out]at h1;exact bL h1 hK.out (fun g hg hm=>aX (by decide) HR.out.r2 HR.out.ax (by rw[hg];simp at hm;rw[hm]))
  refine⟨rfl,⟨_,_,_,_,_,cs,?_,⟨_,by rw[<- HN.out];exact i7⟩,⟨_,by rw[<- HLf.out,<- HN.out];exact la⟩,hM.out,ep,?_,?_,lU HO.out (by rw[HQ.out];omega)⟩,hK.out⟩
  ·rw[<- HN.out];exact hX.out
  ·rw[<- HN.out];exact o4
  rw[<- HN.out];exact hca
end Go.Proofs.YtjfihpaeglpblaaGreatDoor
