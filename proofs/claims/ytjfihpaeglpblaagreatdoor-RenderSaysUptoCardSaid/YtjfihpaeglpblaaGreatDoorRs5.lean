/-
  Lemmas, part 5: Ax5 PFi PlR1 PlR2 Ax6 Ax7 Ax8 PaE PaF PaI.
-/
import Derived.Test.YtjfihpaeglpblaaGreatDoorRs4
set_option maxHeartbeats 100000000
set_option maxRecDepth 1000000
namespace Go.Proofs.YtjfihpaeglpblaaGreatDoor
open Go.RowKit
def KIdx(W:World)(m:Nat)(ys:List IdR):Prop:=∃ es clock,W.heap[m]?=some (.map es clock)/\es.toList.map (·.key)=ys.map idV/\es.toList.map (·.val)=(List.range ys.length).map (fun(i:Nat)=>vI (i:Int))
theorem KIdx.at{W W':World}{m:Nat}{ys:List IdR}(h:KIdx W m ys)(hb:W'.heap[m]?=W.heap[m]?):KIdx W' m ys:=by
 obtain⟨es,clock,h1,h2⟩:=h;exact⟨es,clock,hb.trans h1,h2⟩
theorem KIdx.lt{W:World}{m:Nat}{ys:List IdR}(h:KIdx W m ys):m<W.heap.size:=by
 obtain⟨es,clock,h1,_⟩:=h;exact(zk.1 h1).1
theorem KIdx.put{W:World}{m:Nat}{ys:List IdR}{t et:TypeId}(h:KIdx W m ys)(hu:Tryz.prog.underlying t=some (.map 27 et))(hf:∀ y∈ys,y.fits)(x:IdR)(hx:x.fits)(hn:x∉ys)(k:Nat)(hk:ys.length=k) :
  ∃ W',(Instr.mapUpdate t (.map (some m)) (idV x) (vI (k:Int))).run Tryz.prog W=.ok () W'/\KIdx W' m (ys++[x])/\Only m W W':=by
 obtain⟨es,clock,h1,h2,h3⟩:=h;obtain⟨l,hl⟩:=oV x hx;have hc:=uP.check W false hl;rcases KMap.find (W:=W) h2 hf x hx with⟨g1,g2⟩|⟨g1,_⟩
 ·have hlt:=(zk.1 h1).1;refine⟨{ W with heap:=W.heap.setIfInBounds m (.map (es.push { key:=idV x,val:=vI (k:Int),born:=clock }) (clock+1)) },?_,⟨es.push { key:=idV x,val:=vI (k:Int),born:=clock },clock+1,?_,?_,?_⟩,⟨rfl,rfl,rfl,by simp,fun k hk=>by simp[Ne.symm hk]⟩⟩
  ·simp[Instr.mapUpdate,run_underlying hu,MapKept.run_getObj_map h1,hc,g2,MapKept.run_setObj_map _ h1,Result.andThen]
  ·simp[hlt]
  ·simp[h2]
  rw[yl,List.length_singleton,List.range_succ,List.map_append,<- h3,hk];simp
 exact absurd g1 hn
theorem KIdx.look{W:World}{m:Nat}{ys:List IdR}{t:TypeId}(h:KIdx W m ys)(hu:Tryz.prog.underlying t=some (.map 27 3))(hf:∀ y∈ys,y.fits)(x:IdR)(hx:x.fits) :
  (x∉ys/\(Instr.lookup t (.map (some m)) (idV x) true).run Tryz.prog W=.ok (.tuple #[vI 0,.bool false]) W)\/(∃ k:Nat,∃ hk:k<ys.length,ys[k]=x/\(Instr.lookup t (.map (some m)) (idV x) true).run Tryz.prog W=.ok (.tuple #[vI (k:Int),.bool true]) W):=by
 obtain⟨es,clock,h1,h2,h3⟩:=h;obtain⟨l,hl⟩:=oV x hx;have hc:=uP.check W es.isEmpty hl;have hz:(zeroValue 3).run Tryz.prog W=.ok (vI 0) W:=by kernel_rfl
 have hlen:es.toList.length=ys.length:=by have:=congrArg List.length h2;simpa using this
 rcases uP.find W hl es.toList (xV h2 hf) with⟨g1,g2⟩|⟨j,e,g1,g2,g3⟩
 ·refine .inl ⟨fun hxy=>?_,?_⟩
  ·have hm:idV x∈es.toList.map (·.key):=by rw[h2];exact yj.2 ⟨x,hxy,rfl⟩
   obtain⟨e,he,e1⟩:=yj.1 hm;exact g2 e he e1
  simp[Instr.lookup,run_underlying hu,MapKept.run_getObj_map h1,hc,g1,hz,Result.andThen]
 have hj:j<ys.length:=by rw[<- hlen];exact(List.getElem?_eq_some_iff.1 g2).1
 have hkey:ys[j]=x:=by
  have e1:(es.toList.map (·.key))[j]?=some e.key:=by rw[List.getElem?_map,g2];rfl
  rw[h2,List.getElem?_map,List.getElem?_eq_getElem hj]at e1;exact uDT ((Option.some.inj e1).trans g3)
 have hval:e.val=vI (j:Int):=by
  have e1:(es.toList.map (·.val))[j]?=some e.val:=by rw[List.getElem?_map,g2];rfl
  rw[h3,List.getElem?_map,List.getElem?_range hj]at e1;exact(Option.some.inj e1).symm
 refine .inr ⟨j,hj,hkey,?_⟩;simp[Instr.lookup,run_underlying hu,MapKept.run_getObj_map h1,hc,g1,Result.andThen,hval]
def Aheads(ids:List IdR)(fl:List Bool)(k:Nat)(cs:Array Value):Prop:=∀ j,j<k->cs[j]?=some (vI ((aG (ids.take j) (fl.take j)).length:Int))
theorem Aheads.put{ids:List IdR}{fl:List Bool}{k m:Nat}{cs:Array Value}(h:Aheads ids fl k cs)(hk:k<cs.size)(hm:(aG (ids.take k) (fl.take k)).length=m):Aheads ids fl (k+1) (cs.setIfInBounds k (vI (m:Int))):=fun j hj=>by
 rcases Nat.lt_or_ge j k with h1|h1
 ·rw[Array.getElem?_setIfInBounds_ne (by omega)];exact h j h1
 obtain rfl:j=k:=by omega
 rw[Array.getElem?_setIfInBounds_self_of_lt hk,hm]
structure AxFull(b base:Nat)(ids:List IdR)(fl:List Bool)(W:World):Prop where
 ex:∃ v1 v2 v4 m ga cs,Lies W b 152 #[v1,v2,.map (some m),.slice (some ⟨ga,0,none⟩) ids.length ids.length,v4]/\(∃ b1,W.ownsRow b1 27 2 v1 ids.length (aI ids))/\(∃ b2,W.ownsRow b2 4 1 v2 fl.length (dX fl))/\KIdx W m ids/\Lies W ga 3 cs/\cs.size=ids.length/\Aheads ids fl ids.length cs/\W.ownsRow base 27 2 v4 (aG ids fl).length (aI (aG ids fl))
theorem vZ(b base:Nat)(ids:List IdR)(fl:List Bool)(v1 v2:Value)(w:World)(hR:AxRaw b base ids fl v1 v2 w)(hl:ids.length=fl.length)(hn:ids.length<=300)(hf:∀ y∈ids,y.fits)(hd:ids.Nodup) :
  Calls Tryz.prog 88 #[vP b 0] w fun e w'=>e=.returned (.tuple #[])/\AxFull b w.heap.size ids fl w'/\Kp [b] w w':=by
 have td:=mk_map;have hnq:=neq_nil;have hms:=fun w=>mk_ints ids.length hn w
 have HF:=zh hf;have HD:=zh hd;have HR:=zh hR;obtain⟨A1,cm,rfl⟩:=aV hR.r1;obtain⟨A2,di,rfl⟩:=aV hR.r2;rw[<- hl]at HR;obtain⟨n,dw⟩:=zD ids.length
 have HN:=zh dw;have HLf:=zh hl;rw[<- dw]at hn HR hms;have a0:=HR.out.ax.cell 0;have a2:=HR.out.ax.cell 2;have f2:=HR.out.ax.frozen 2;simp only[za,zb,zf]at a0 a2;have hbs:=HR.out.ax.lt;clear hf hd hR dw hl
 go_in
 go_upto_region 2 with fail
 obtain⟨W1,an⟩:∃ W1,W1=(w.setCell ⟨b,2,none⟩ (.map (some w.heap.size))).alloc (.map #[] 0):=⟨_,rfl⟩
 have HX1:Hid (Lies W1 b 152 #[.slice A1 n cm,.slice A2 n di,.map (some w.heap.size),.slice none 0 0,.slice none 0 0]):=zh (by rw[an];exact(HR.out.ax.put 2 _).alloc _);have HK1:Hid (Kp [b] w W1):=zh (by rw[an];exact((Kp.refl _ w).set (.inl (.head _)) 2 _).alloc _);have HM1:Hid (KIdx W1 w.heap.size []):=zh (by
  rw[an];refine⟨#[],0,?_,rfl,rfl⟩;have h:=heap_alloc_new (w.setCell ⟨b,2,none⟩ (.map (some w.heap.size))) (.map #[] 0);rw[World.size_setCell]at h;exact h)
 have i5:W1.heap.size=w.heap.size+1:=by rw[an,World.size_alloc,World.size_setCell]
 rw[<- an];clear an a0 a2 f2;have a0:=HX1.out.cell 0;have a3:=HX1.out.cell 3;have f3:=HX1.out.frozen 3;simp only[za,zb,zf]at a0 a3;have hbs1:b<W1.heap.size:=HX1.out.lt
 go_upto_region 3 with fail
 obtain⟨W2,fz⟩:∃ W2,W2=(W1.setCell ⟨b,3,none⟩ (.slice (some ⟨w.heap.size+1,0,none⟩) n n)).alloc (.cells (madeCells #[vI 0] n) 3):=⟨_,rfl⟩
 have sw:Hid (Lies W2 b 152 #[.slice A1 n cm,.slice A2 n di,.map (some w.heap.size),.slice (some ⟨w.heap.size+1,0,none⟩) n n,.slice none 0 0]):=zh (by rw[fz];exact(HX1.out.put 3 _).alloc _);have fp:Hid (Kp [b] w W2):=zh (by rw[fz];exact(HK1.out.set (.inl (.head _)) 3 _).alloc _);have ko:Hid (KIdx W2 w.heap.size []):=zh (by
  rw[fz];exact(HM1.out.at (Below.heap_setCell _ _ _ _ (by show w.heap.size≠b;omega))).at (Below.heap_alloc _ _ _ (by rw[World.size_setCell,i5];omega)))
 have HA2:Hid (∃ cs:Array Value,Lies W2 (w.heap.size+1) 3 cs/\cs.size=n/\Aheads ids fl 0 cs):=zh (by
  rw[fz];refine⟨madeCells #[vI 0] n,?_,by simp[madeCells],fun j hj=>absurd hj (Nat.not_lt_zero _)⟩;have h:=Lies.new (W1.setCell ⟨b,3,none⟩ (.slice (some ⟨w.heap.size+1,0,none⟩) n n)) 3 (madeCells #[vI 0] n);rw[World.size_setCell,i5]at h;exact h)
 have i9:Hid (w.heap.size+2<=W2.heap.size):=zh (by rw[fz,World.size_alloc,World.size_setCell,i5];omega);rw[<- fz];clear fz a0 a3 f3 HX1 HK1 HM1 i5 hbs1;have HRi:Hid (∀ wx,Kp [b] w wx->∀ k (h:k<ids.length),∃ g,A1=some ⟨g,0,none⟩/\wx.cell? ⟨g,k*2,none⟩=some (vI ids[k].a)/\wx.cell? ⟨g,k*2+1,none⟩=some (vI ids[k].n)):=zh (fun wx hk k h=>by
  have hr:=HR.out.r1;rw[HN.out]at hr;obtain⟨g,cap,e,_,bp⟩:=own_ids hr (by omega);have mq:g∉[b]:=fun hm=>by
   have e2:g=b:=by simpa using hm
   exact bE (by decide) HR.out.r1 HR.out.ax (by injection e with e;rw[e,e2];rfl)
  obtain⟨q0,q1⟩:=bp.2 k h;rw[Nat.zero_add]at q0 q1;exact⟨g,by injection e,(hk.cell bp.1 mq).trans q0,(hk.cell bp.1 mq).trans q1⟩)
 have HRl:Hid (∀ wx,Kp [b] w wx->∀ k (h:k<fl.length),∃ g,A2=some ⟨g,0,none⟩/\wx.cell? ⟨g,k,none⟩=some (.bool fl[k])):=zh (fun wx hk k h=>by
  obtain⟨g,cap,e,_,hg,bp⟩:=fT HR.out.r2 (by omega);have mq:g∉[b]:=fun hm=>by
   have e2:g=b:=by simpa using hm
   exact bE (by decide) HR.out.r2 HR.out.ax (by injection e with e;rw[e,e2];rfl)
  exact⟨g,by injection e,(hk.cell hg mq).trans (bp k _ (by simp[dX,h]))⟩)
 have a0:=sw.out.cell 0;simp only[za,zb]at a0;have hbs2:b<W2.heap.size:=sw.out.lt
 go_upto_region 4 with fail
 clear a0 hbs2
 go_loopw [32] (fun v32 wx=>∃ (k:Nat) (v4:Value),v32=vI (k:Int)/\k<=n/\Hid (Lies wx b 152 #[.slice A1 n cm,.slice A2 n di,.map (some w.heap.size),.slice (some ⟨w.heap.size+1,0,none⟩) n n,v4])/\Hid (KIdx wx w.heap.size (ids.take k))/\Hid (∃ cs:Array Value,Lies wx (w.heap.size+1) 3 cs/\cs.size=n/\Aheads ids fl k cs)/\Hid (wx.ownsRow (w.heap.size+2) 27 2 v4 (aG (ids.take k) (fl.take k)).length (aI (aG (ids.take k) (fl.take k))))/\Hid (Kp [b] w wx)/\Hid (w.heap.size+2<=wx.heap.size)) (fun v32 _=>n-(intOf v32).toNat)
 case atStart=>exact⟨0,_,rfl,zm _,sw,ko,HA2,zh ⟨rfl,.inl ⟨rfl,rfl⟩⟩,fp,i9⟩
 case round=>
  obtain⟨k,v4,rfl,hk,hX,hM,hA,hO,hK,hZ⟩:=hrel;clear sw ko HA2 fp i9;generalize ra:w.heap.size=q at *;have HQ:=zh ra;clear ra;by_cases hlt:k<n
  ·have iu:k<ids.length:=by rw[<- HN.out];exact hlt
   have tj:k<fl.length:=by rw[<- HLf.out];exact iu
   obtain⟨gi,rfl,d0,d1⟩:=HRi.out wr hK.out k iu;obtain⟨gl,rfl,d2⟩:=HRl.out wr hK.out k tj;have D2:Hid (∀ wx,Kp [b] w wx->wx.cell? ⟨gl,k,none⟩=some (.bool fl[k])):=zh (fun wx h=>by
    obtain⟨g,e,hc⟩:=HRl.out wx h k tj;injection e with e;injection e with e;rw[e];exact hc)
   clear d2;have hxf:=HF.out _ (List.getElem_mem iu);have rd:=zh (fun y (hy:y∈ids.take k)=>HF.out y (List.mem_of_mem_take hy));have re:=zh (kX ids fl k HLf.out iu);have HTk:=zh (yw iu);have hnin:ids[k]∉ids.take k:=fun hm=>by
    obtain⟨j,hj,e⟩:=List.getElem_of_mem hm;rw[zc]at hj;rw[List.getElem_take]at e;have:=(List.getElem_inj HD.out).1 e;omega
   have hml:(aG (ids.take k) (fl.take k)).length<=k:=yv (cZ _ _) (by rw[zc];omega);generalize ids[k]=x at *;generalize fl[k]=fk at *;have ri:Hid ((ids.take k).length=k):=zh (by rw[zc];omega);generalize jr:ids.take k=acc at *;generalize m8:aG acc (fl.take k)=lv at *;generalize ox:ids.take (k+1)=acc' at *;generalize hlv2:aG acc' (fl.take (k+1))=lv' at *;have js:=zh ox;have HAcc:=zh (And.intro jr m8);have HLv2:=zh hlv2;clear ox jr m8 hlv2;obtain⟨xa,xn⟩:=x;dsimp only at d0 d1;obtain⟨A4,je,rfl⟩:=aV hO.out;generalize hle:lv.length=m at *
   go_upto_region 6 with fail
   have hX3:=zh (hX.out.next ((Below.refl _ wr).alloc zr (.cells #[vI xa,vI xn] 27)));have ro:=zh (hM.out.at (Below.heap_alloc wr (.cells #[vI xa,vI xn] 27) q hM.out.lt));have hA3:Hid (∃ cs:Array Value,Lies (wr.alloc (.cells #[vI xa,vI xn] 27)) (q+1) 3 cs/\cs.size=n/\Aheads ids fl k cs):=zh (by
    obtain⟨cs,h1,h2⟩:=hA.out;exact⟨cs,h1.next ((Below.refl _ wr).alloc zr _),h2⟩)
   have hO3:=zh (World.ownsRow.alloc hO.out (.cells #[vI xa,vI xn] 27));have hK3:=zh (hK.out.alloc (.cells #[vI xa,vI xn] 27));have vn:=zh (Lies.new wr 27 #[vI xa,vI xn]);have tm:b<wr.heap.size:=hX.out.lt;have hbq:q+2<=wr.heap.size:=hZ.out;have hbo:Hid (∀ g,(Value.slice A4 m je).ownBlock=some g->g<wr.heap.size):=zh (fun g hg=>(bZ hO.out g hg).2);have hZ3:Hid (wr.heap.size<(wr.alloc (.cells #[vI xa,vI xn] 27)).heap.size):=zh (by rw[World.size_alloc];omega);generalize wr.alloc (.cells #[vI xa,vI xn] 27)=W3 at *;generalize wr.heap.size=bx at *;clear d0 d1 hX hM hA hO hK hZ;have c2:=hX3.out.cell 2;have b0:=vn.out.cell 0;have b1:=vn.out.cell 1;simp only[za,zb,zf]at c2 b0 b1
   obtain⟨W4,bi,xi,tg⟩:=(ro.out.at (rfl:W3.drew.heap[q]?=W3.heap[q]?)).put (t:=149) (et:=3) Tryz.underlying149 rd.out ⟨xa,xn⟩ hxf hnin k ri.out;dsimp only[idV]at bi
   go_cut [42] (fun v42 wx=>Hid (wx=W4))
   case first=>
    go_region
    all_goals go_wp2_with fail
    all_goals go_meet
    all_goals exact zh rfl
   case rest=>
   obtain rfl:W4=wc:=hcut.out.symm;have pn:=tg.kp;have hqb:q≠b:=by
    intro e;have h1:=hX3.out;obtain⟨es,ck,h2,_⟩:=ro.out;unfold Lies at h1;rw[e,h1]at h2;cases h2
   have wu:=zh (pn.lies (hX3.out.next (Below.refl _ W3).drew) (by simp;omega));have hL4:=zh (pn.lies (vn.out.next (Below.refl _ W3).drew) (by simp;omega));have hA4:Hid (∃ cs:Array Value,Lies W4 (q+1) 3 cs/\cs.size=n/\Aheads ids fl k cs):=zh (by
    obtain⟨cs,h1,h2⟩:=hA3.out;exact⟨cs,pn.lies (h1.next (Below.refl _ W3).drew) (by simp),h2⟩)
   have hO4:=zh (bT (aD (Below.refl _ W3).drew hO3.out) pn (fun g hg=>by have:=(bZ hO3.out g hg).1;simp;omega));have hK4:=zh (hK3.out.drew.andThen pn (fun g hg=>.inr (by rw[HQ.out];simp at hg;omega)));have HM4:=zh xi;have hs4:W4.heap.size=W3.heap.size:=tg.size;clear bi xi tg pn hX3 ro hA3 hO3 hK3 vn c2 b0 b1;obtain⟨cs,fh,q9,hca⟩:=hA4.out;have hkc:k<cs.size:=by omega
   have e0:W4.cell? ⟨q+1,k,none⟩=some cs[k]:=by rw[fh.cell,Array.getElem?_eq_getElem hkc]
   have e1:=fh.frozen k;generalize cs[k]=u0 at e0;have c3:=wu.out.cell 3;have c4:=wu.out.cell 4;simp only[za,zb,zf]at c3 c4;have HC:=zh fh;have rx:=zh q9;have HCa:=zh (hca.put (m:=m) (by omega) (by rw[HAcc.out.1,HAcc.out.2];exact hle));clear fh q9 hkc hA4 hca
   go_upto_region 7 with fail
   obtain⟨W5,ew⟩:=zD (W4.drew.setCell ⟨q+1,k,none⟩ (vI (m:Int)))
   go_cut [54] (fun v54 wx=>Hid (wx=W5))
   case first=>
    go_region
    all_goals go_wp2_with fail
    all_goals go_meet
    all_goals exact zh ew.symm
   case rest=>
   obtain rfl:W5=wc:=hcut.out.symm;have hq1b:q+1≠b:=by
    intro e;have h1:=wu.out;have h2:=HC.out;unfold Lies at h1 h2;rw[e,h1]at h2;injection h2 with h2;injection h2 with _ h2 _;exact absurd h2 (by decide)
   have hX5:Hid (Lies W5 b 152 #[.slice (some ⟨gi,0,none⟩) n cm,.slice (some ⟨gl,0,none⟩) n di,.map (some q),.slice (some ⟨q+1,0,none⟩) n n,.slice A4 m je]):=zh (by rw[ew];exact(aC (wu.out.next (Below.refl _ W4).drew) (Ne.symm hq1b) k _));have hL5:Hid (Lies W5 bx 27 #[vI xa,vI xn]):=zh (by rw[ew];exact(aC (hL4.out.next (Below.refl _ W4).drew) (by omega) k _));have hA5:Hid (∃ cs:Array Value,Lies W5 (q+1) 3 cs/\cs.size=n/\Aheads ids fl (k+1) cs):=zh (by
    rw[ew];exact⟨_,(HC.out.next (Below.refl _ W4).drew).put k _,by rw[Array.size_setIfInBounds];exact rx.out,HCa.out⟩)
   have hO5:Hid (W5.ownsRow (q+2) 27 2 (.slice A4 m je) m (aI lv)):=zh (by rw[ew];exact lR (by decide) (aD (Below.refl _ W4).drew hO4.out) (HC.out.next (Below.refl _ W4).drew) k _);have hM5:=zh (show KIdx W5 q (acc++[⟨xa,xn⟩]) by rw[ew];exact HM4.out.at (Below.heap_setCell _ _ _ _ (by show q≠q+1;omega)));have hK5:Hid (Kp [b] w W5):=zh (by rw[ew];exact hK4.out.drew.set (.inr (by rw[HQ.out];omega)) k _);have hZ5:Hid (bx<W5.heap.size):=zh (by rw[ew,World.size_setCell];show bx<W4.heap.size;rw[hs4];exact hZ3.out);clear ew e0 e1 c3 c4 HC rx HCa wu hL4 hO4 HM4 hK4 hs4 hZ3;have c1:=hX5.out.cell 1;have d2:=D2.out W5 hK5.out;simp only[za,zb,zf]at c1;have m8:lv'=lv++(if fk then [⟨xa,xn⟩] else []):=HLv2.out ▸ re.out;have vw:acc'=acc++[⟨xa,xn⟩]:=HTk.out;cases fk
   ·go_wp2_with fail
    go_roundw
    case rel=>
     refine⟨k+1,.slice A4 m je,by go_num,by omega,hX5,?_,hA5,?_,hK5,zh (by have:=hZ5.out;omega)⟩
     ·rw[js.out,vw];exact hM5
     rw[js.out,HLv2.out,m8];simp only[Bool.false_eq_true,if_false,List.append_nil,hle];exact hO5
    case measure=>simp[intOf];omega
   go_upto_region 9 with fail
   clear c1 d2;have HY:Hid (∀ g,(Value.slice A4 m je).ownBlock=some g->g∈b::(Value.slice A4 m je).ownBlock.toList):=zh (fun g hg=>by rw[hg];simp);have aw:bx≠b:=by omega
   have ww:Hid (bx∉b::(Value.slice A4 m je).ownBlock.toList):=zh (fun h=>by
    rcases ym.1 h with h|h
    ·exact aw h
    have:=hbo.out bx (by simpa using h);omega)
   obtain⟨TT,ah⟩:∃ TT:List (Nat×Nat×Value),TT=[(0,61,vP b 0),(1,62,vP b 0),(2,63,vP b 0),(3,64,vP b 4),(4,65,.slice A4 m je),(5,66,.agg #[vI xa,vI xn]),(8,69,vP b 0),(9,70,vP b 4)]:=⟨_,rfl⟩
   have bd:=zh ah;clear ah;refine fE (by kernel_rfl) (by kernel_rfl) (fun a0=>72<=a0.tmps.size/\a0.eval (.tmp 0)=vP b 0/\a0.eval (.tmp 3)=vP bx 0) (GA [61,62,63,64,65,66,67,68,69,70] TT (b::(Value.slice A4 m je).ownBlock.toList) W5 4 6 67 7 68 10 b 4 27 152 #[.slice (some ⟨gi,0,none⟩) n cm,.slice (some ⟨gl,0,none⟩) n di,.map (some q),.slice (some ⟨q+1,0,none⟩) n n,.slice A4 m je] (q+2) 2 m (.slice A4 m je) (aI lv) [vI xa,vI xn]) ⟨by simp,rfl,rfl⟩ (GA.start _ _ (Kp.refl _ _).drew hO5.out hX5.out) ?_ ?_
   ·rintro a0 ⟨hs,dv,kn⟩ zl a1 w1 j o aq hI aj ho zd;have ah:=bd.out;subst ah;have hk:GAk [61,62,63,64,65,66,67,68,69,70] [(0,61,vP b 0),(1,62,vP b 0),(2,63,vP b 0),(3,64,vP b 4),(4,65,.slice A4 m je),(5,66,.agg #[vI xa,vI xn]),(8,69,vP b 0),(9,70,vP b 4)] (b::(Value.slice A4 m je).ownBlock.toList) 6 67 7 68 10 b 27 152 (.slice A4 m je) 72:=⟨rfl,by decide,HY.out,.head _⟩
    have hj:=Up.of_false aj;have hj12:j<11:=by rw[aq]at hj;exact hj
    have e0x:a1.eval (.tmp 0)=vP b 0:=(hI.off.eval (by decide)).trans dv;have e3x:a1.eval (.tmp 3)=vP bx 0:=(hI.off.eval (by decide)).trans kn;rcases(by omega:j=0\/j=1\/j=2\/j=3\/j=4\/j=5\/j=6\/j=7\/j=8\/j=9\/j=10) with rfl|rfl|rfl|rfl|rfl|rfl|rfl|rfl|rfl|rfl|rfl<;>obtain rfl:=oi ho
    ·exact bP hk hI hs (.head _) aj ho rfl rfl (by simp[execOp,go_sem,cD e0x])
    ·exact bP hk hI hs (.tail _ (.head _)) aj ho rfl rfl (by simp[execOp,go_sem,cD e0x])
    ·have d1:=ud zd 1;have p1:=pk hI.pt 1 rfl d1;exact bP hk hI hs (mm 2 rfl) aj ho rfl rfl (by simp[execOp,go_sem,cD p1])
    ·have d2:=ud zd 2;have p2:=pk hI.pt 2 rfl d2;exact bP hk hI hs (mm 3 rfl) aj ho rfl rfl (by simp[execOp,go_sem,cD p2])
    ·have d3:=ud zd 3;have p3:=pk hI.pt 3 rfl d3;have c0:=(hI.unl aj).cell 4;simp only[za,zb,zf]at c0;exact bP hk hI hs (mm 4 rfl) aj ho rfl rfl (by simp[execOp,go_sem,cD p3,c0])
    ·have hLb:=hI.kp.lies hL5.out ww.out;have l0:=hLb.cell 0;have l1:=hLb.cell 1;simp only[za,zb,zf]at l0 l1;exact bP hk hI hs (mm 5 rfl) aj ho rfl rfl (by simp[execOp,go_sem,cD e3x,l0,l1])
    ·have d5:=ud zd 5;have p5:=pk hI.pt 5 rfl d5;exact rR hk hI hs aj ho rfl rfl (by simp[execOp,go_sem,cD p5])
    ·have d4:=ud zd 4;have p4:=pk hI.pt 4 rfl d4;have d6:=ud zd 6;obtain⟨i1,gi,gz0,gz1,gz2⟩:=info_parts rU;exact uAY hk hI hs aj ho rfl rfl d4 d6 35 65 rfl p4 i1 (.agg #[vI 0,vI 0]) 16 Tryz.underlying35 gi gz0 gz1 gz2 rfl (by decide) rfl (by intro u hu;simp at hu;rcases hu with rfl|rfl <;> rfl) (by unfold maxLen;omega) (by omega) (by have:=hZ5.out;have:=hI.kp.size;omega)
    ·have d0:=ud zd 0;have p0:=pk hI.pt 0 rfl d0;exact bP hk hI hs (mm 6 rfl) aj ho rfl rfl (by simp[execOp,go_sem,cD p0])
    ·have d8:=ud zd 8;have p8:=pk hI.pt 6 rfl d8;exact bP hk hI hs (mm 7 rfl) aj ho rfl rfl (by simp[execOp,go_sem,cD p8])
    have d9:=ud zd 9;have p9:=pk hI.pt 7 rfl d9;have d7:=ud zd 7;exact rS hk hI aj ho rfl rfl d7 (fun hL jd=>by
     obtain⟨gs,cs,jd⟩:=jd;have c0:=hL.cell 4;have k0:=hL.frozen 4;simp at c0;rw[jd];simp[execOp,go_sem,cD p9,cD jd,c0,k0])
   intro zl a1 w1 hI bi;have ah:=bd.out;subst ah;have jt:=hI.kp;have ba:=hI.o2 (bi 7 (by decide));have ju:=(hI.b2 (bi 10 (by decide))).2;obtain⟨ff,rfl,hf⟩:=hI.off.forms;rw[<- hf 68]at ba ju;clear hI;generalize ff 68=v' at *;simp only[List.foldl,Act.put,yz,List.set];have rt:=zh ju;have ez:=zh ba;have vp:=zh jt;obtain⟨A4',cap4',hv4⟩:=aV ba;clear ju ba jt bi bd;have hA6:Hid (∃ cs:Array Value,Lies w1 (q+1) 3 cs/\cs.size=n/\Aheads ids fl (k+1) cs):=zh (by
    obtain⟨cs,h1,h2⟩:=hA5.out;refine⟨cs,vp.out.lies h1 (fun hm=>?_),h2⟩;rcases ym.1 hm with h|h
    ·exact hq1b h
    have:=(bZ hO5.out (q+1) (by simpa using h)).1;omega)
   have hM6:=zh (hM5.out.at (vp.out.block q hM5.out.lt (fun hm=>by
    rcases ym.1 hm with h|h
    ·exact hqb h
    have:=(bZ hO5.out q (by simpa using h)).1;omega)))
   have hK6:=zh (hK5.out.andThen vp.out (fun g hg=>by
    rcases ym.1 hg with h|h
    ·exact .inl (by rw[h];exact .head _)
    have:=(bZ hO5.out g (by simpa using h)).1;exact .inr (by rw[HQ.out];omega)))
   have hZ6:Hid (q+2<=w1.heap.size):=zh (by have:=hZ5.out;have:=vp.out.size;omega);clear vp hX5 hO5 hA5 hM5 hK5 HY ww hL5
   go_wp2_with fail
   go_roundw
   case rel=>
    refine⟨k+1,v',by go_num,by omega,rt,?_,hA6,?_,hK6,hZ6⟩
    ·rw[js.out,vw];exact hM6
    rw[js.out,HLv2.out,m8];simp only[if_true,yl,yi,List.length_nil,Nat.zero_add,hle,jP];exact ez
   case measure=>simp[intOf];omega
  obtain rfl:k=n:=by omega
  have e1:ids.take k=ids:=by rw[HN.out,List.take_length]
  have e2:fl.take k=fl:=by rw[HN.out,HLf.out,List.take_length]
  rw[e1,e2]at hO;rw[e1]at hM;have HO:=zh hO.out;clear hO e1 e2
  go_wp2_with fail
  go_end0
  obtain⟨cs,fh,q9,hca⟩:=hA.out;have fj:wr.ownsRow base 27 2 (.slice A1 k cm) k (aI ids):=by
   have h1:=HR.out.r1;rw[<- HN.out]at h1;exact bT h1 hK.out (fun g hg hm=>bE (by decide) HR.out.r1 HR.out.ax (by rw[hg];simp at hm;rw[hm]))
  have lp:wr.ownsRow base 4 1 (.slice A2 k di) k (dX fl):=by
   have h1:=HR.out.r2;rw[<- HLf.out,<- HN.out]at h1;exact bT h1 hK.out (fun g hg hm=>bE (by decide) HR.out.r2 HR.out.ax (by rw[hg];simp at hm;rw[hm]))
  refine⟨rfl,⟨_,_,_,_,_,cs,?_,⟨_,by rw[<- HN.out];exact fj⟩,⟨_,by rw[<- HLf.out,<- HN.out];exact lp⟩,hM.out,fh,?_,?_,aL HO.out (by rw[HQ.out];omega)⟩,hK.out⟩
  ·rw[<- HN.out];exact hX.out
  ·rw[<- HN.out];exact q9
  rw[<- HN.out];exact hca
def iC(x:IdR):Nat->List IdR->Int
 |_,[]=>-1
 |i,y::r=>if y=x then (i:Int) else iC x (i+1) r
def bB(l:List IdR)(x:IdR):Int:=iC x 0 l
theorem gM(x:IdR):∀ (l:List IdR) (i k:Nat),x∉l.take k->l[k]?=some x->iC x i l=((i+k:Nat):Int)
 | [],_,_,_,h=>by simp at h
 |y::r,i,0,_,h=>by
  simp at h;unfold iC;rw[if_pos h];rfl
 |y::r,i,k+1,hn,h=>by
  rw[List.take_succ_cons,ym,not_or]at hn;unfold iC;rw[if_neg (fun e=>hn.1 e.symm),gM x r (i+1) k hn.2 (by simpa using h)]
  congr 1
  omega
theorem eU(x:IdR):∀ (l:List IdR) (i:Nat),x∉l->iC x i l=-1
 | [],_,_=>rfl
 |y::r,i,hn=>by
  rw[ym,not_or]at hn;unfold iC;rw[if_neg (fun e=>hn.1 e.symm),eU x r (i+1) hn.2]
theorem iZ(x:IdR):∀ (l:List IdR) (i:Nat),x∈l->∃ k:Nat,iC x i l=((i+k:Nat):Int)/\l[k]?=some x
 | [],_,h=>by cases h
 |y::r,i,h=>by
  by_cases e:y=x
  ·exact⟨0,by unfold iC;rw[if_pos e];rfl,by simp[e]⟩
  obtain⟨k,h1,h2⟩:=iZ x r (i+1) ((ym.1 h).resolve_left (fun e'=>e e'.symm));exact⟨k+1,by unfold iC;rw[if_neg e,h1];congr 1;omega,by simpa using h2⟩
theorem uX(l:List IdR)(x:IdR):(bB l x<0↔x∉l):=by
 by_cases h:x∈l
 ·obtain⟨k,h1,_⟩:=iZ x l 0 h;unfold bB;rw[h1];exact⟨fun h'=>by omega,fun h'=>absurd h h'⟩
 unfold bB;rw[eU x l 0 h];exact⟨fun _=>h,fun _=>by decide⟩
abbrev AxV:=Option (List IdR×List Bool)
def aU:AxV->IdR->Int
 |none,_=>-1
 |some (l,f),x=>bB (aG l f) x
def aO:AxV->IdR->IdR->List IdR
 |none,_,_=>[]
 |some (l,f),a,b=>
  if bB l a<0\/bB l b<0 then [] else
  let x:=(min (bB l a) (bB l b)).toNat
  let y:=(max (bB l a) (bB l b)).toNat
  aG ((l.drop x).take (y+1-x)) ((f.drop x).take (y+1-x))
def eV:AxV->IdR->IdR->Bool
 |none,_,_=>false
 |some (l,_),a,b=>decide (bB l b<bB l a)
def cM(A:AxV)(a b:IdR):Option (Int×Int):=match aO A a b with
 | []=>none
 |x::r=>
  let p:=aU A x
  let q:=aU A ((x::r).getLast (by simp))
  if eV A a b then some (q,p) else some (p,q)
inductive Say where
 |plain
 |seen (row col:Nat)
abbrev tk(k:Int)(s:Bs):RTok:=⟨k,s,0⟩
def cA(place from':Nat)(fix:Bool):Bs:=if fix then Lib.decDigits (place+1) else if place=from' then [] else 91::(Lib.itoa ((place:Int)-(from':Int))++[93])
def cY(v:Say)(row col:Nat)(fr fc:Bool):RTok:=match v with
 | .plain=>tk 4 (iY row col fr fc)
 | .seen r c=>tk 3 (82::(cA row r fr++67::cA col c fc))
def dW(v:Say)(row:Nat)(fix:Bool):RTok:=match v with
 | .plain=>if fix then tk 4 (36::Lib.decDigits (row+1)) else tk 1 (Lib.decDigits (row+1))
 | .seen r _=>tk 3 (82::cA row r fix)
def dV(v:Say)(col:Nat)(fix:Bool):RTok:=match v with
 | .plain=>if fix then tk 4 (36::dS (col+1)) else tk 3 (dS (col+1))
 | .seen _ c=>tk 3 (67::cA col c fix)
def dB:List RTok:=[tk 6 [35,82,69,70,33]]
def kE(v:Say)(R C:AxV)(h:NodeH):List RTok :=
 if aU R h.a.row<0\/aU C h.a.col<0 then dB
 else cY v (aU R h.a.row).toNat (aU C h.a.col).toNat h.a.fr h.a.fc::(if h.kind=3 then [tk 5 [35]] else [])
def gB(v:Say)(R C:AxV)(a b:Cor):List RTok :=
 if a.row=id0 then match cM C a.col b.col with
  |none=>dB
  |some (x,y)=>[dV v x.toNat a.fc,tk 5 [58],dV v y.toNat b.fc]
 else if a.col=id0 then match cM R a.row b.row with
  |none=>dB
  |some (x,y)=>[dW v x.toNat a.fr,tk 5 [58],dW v y.toNat b.fr]
 else match cM R a.row b.row,cM C a.col b.col with
  |some (x,y),some (p,q)=>[cY v x.toNat p.toNat a.fr a.fc,tk 5 [58],cY v y.toNat q.toNat b.fr b.fc]
  |_,_=>dB
def jQ(x:Val):List RTok :=
 if x.kind=1 then if x.mant<0 then [tk 5 [45],tk 1 (bK (-x.mant) x.exp)] else [tk 1 (bK x.mant x.exp)]
 else if x.kind=2 then [tk 2 x.text]
 else if x.kind=4 then [tk 6 (aY x.fault)]
 else [tk 3 (dE x).1]
def bD(s:Bs):Int:=if s=[38] then 2 else if s=[43]\/s=[45] then 3 else if s=[42]\/s=[47] then 4 else if s=[94] then 5 else 1
def bN(t:Tree):Int:=if t.h.kind=6 then bD t.h.name else if t.h.kind=5 then if t.h.name=[37] then 7 else 6 else 8
def dU(level least:Int)(ts:List RTok):List RTok:=if least<=level then ts else tk 5 [40]::(ts++[tk 5 [41]])
def bF:List (List RTok)->List RTok
 | []=>[]
 | [a]=>a
 |a::b::r=>a++tk 5 [44]::bF (b::r)
def cS(wide:Nat)(ts:List (List RTok)):Nat->List RTok
 |0=>[]
 |k+1=>cS wide ts k++tk 5 (if k=0 then [123] else [59])::bF ((ts.drop (k*wide)).take wide)
def dM(v:Say)(R C:AxV)(h:NodeH)(lv:List Int)(ts:List (List RTok)):List RTok :=
 if h.kind=0 then jQ h.v
 else if h.kind=1\/h.kind=3 then kE v R C h
 else if h.kind=2 then gB v R C h.a h.b
 else if h.kind=4 then tk 3 h.name::tk 5 [40]::(bF ts++[tk 5 [41]])
 else if h.kind=5 then
  if h.name=[37] then dU (lv.headD 0) 7 (ts.headD [])++[tk 5 h.name] else tk 5 h.name::dU (lv.headD 0) 6 (ts.headD [])
 else if h.kind=6 then dU (lv.headD 0) (bD h.name) (ts.headD [])++tk 5 h.name::dU (lv.tail.headD 0) (bD h.name+1) (ts.tail.headD [])
 else if h.kind=7 then [tk 3 h.name]
 else if h.kind=8 then cS (ts.length / h.rows.toNat) ts h.rows.toNat++[tk 5 [125]]
 else []
mutual
def Tree.toks(v:Say)(R C:AxV):Tree->List RTok
 | .mk h l=>dM v R C h (l.map bN) (bG v R C l)
def bG(v:Say)(R C:AxV):List Tree->List (List RTok)
 | []=>[]
 |t::r=>t.toks v R C::bG v R C r
end
def cW(v:Say)(R C:AxV)(t:Tree):Bs:=if dO t≠0 then [] else cO none (t.toks v R C++[⟨0,[],0⟩])
theorem dL:∀ (l:List IdR) (fl:List Bool),∀ y∈aG l fl,y∈l
 | [],_,_,h=>by cases h
 |x::r,[],_,h=>by cases h
 |x::r,b::s,y,h=>by
  unfold aG at h
  split at h
  ·rcases ym.1 h with h|h
   ·exact h ▸ List.mem_cons_self
   exact zg _ (dL r s y h)
  exact zg _ (dL r s y h)
theorem mF:∀ (r1:List IdR) (s1:List Bool) (r2:List IdR) (s2:List Bool),r1.length=s1.length->aG (r1++r2) (s1++s2)=aG r1 s1++aG r2 s2
 | [],[],_,_,_=>by simp[aG]
 |x::r,b::s,r2,s2,h=>by
  have ih:=mF r s r2 s2 (by simpa using h);simp only[yp,aG];rw[ih];cases b <;> simp
 | [],_::_,_,_,h=>by simp at h
 |_::_,[],_,_,h=>by simp at h
theorem cV(ids:List IdR)(fl:List Bool)(k:Nat)(he:ids.length=fl.length):aG ids fl=aG (ids.take k) (fl.take k)++aG (ids.drop k) (fl.drop k):=by
 rw[<- mF _ _ _ _ (by simp[he]),List.take_append_drop,List.take_append_drop]
theorem uU{ids:List IdR}{fl:List Bool}{k:Nat}(he:ids.length=fl.length)(hk:k<ids.length):aG ids fl=aG (ids.take k) (fl.take k)++((if fl[k]'(by omega) then [ids[k]] else [])++aG (ids.drop (k+1)) (fl.drop (k+1))):=by
 rw[cV ids fl k he,yx hk,yx (by omega:k<fl.length)];rw[aG];cases fl[k]'(by omega) <;> simp
theorem mX{ids:List IdR}(hd:ids.Nodup){k:Nat}(hk:k<ids.length):ids[k]∉ids.take k:=fun hm=>by
 obtain⟨j,hj,e⟩:=List.getElem_of_mem hm;rw[zc]at hj;rw[List.getElem_take]at e;have:=(List.getElem_inj hd).1 e;omega
theorem uBI{ids:List IdR}(hd:ids.Nodup){k:Nat}(hk:k<ids.length):ids[k]∉ids.drop (k+1):=fun hm=>by
 obtain⟨j,hj,e⟩:=List.getElem_of_mem hm;rw[yk]at hj;rw[List.getElem_drop]at e;have:=(List.getElem_inj hd).1 e;omega
theorem jU{a b:List IdR}{x:IdR}(h:x∉a):bB (a++x::b) x=(a.length:Int):=by
 have h1:=gM x (a++x::b) 0 a.length (by simpa using h) (by simp);rw[Nat.zero_add]at h1;exact h1
theorem lA{l:List IdR}{x:IdR}(h:x∉l):bB l x=-1:=eU x l 0 h
theorem lS{l:List IdR}(hd:l.Nodup){k:Nat}(hk:k<l.length):bB l l[k]=(k:Int):=by
 have h1:=gM l[k] l 0 k (mX hd hk) (by rw[List.getElem?_eq_getElem hk]);rw[Nat.zero_add]at h1;exact h1
theorem uBR{ids:List IdR}{fl:List Bool}(he:ids.length=fl.length)(hd:ids.Nodup){k:Nat}(hk:k<ids.length)(hl:fl[k]'(by omega)=true):bB (aG ids fl) ids[k]=((aG (ids.take k) (fl.take k)).length:Int):=by
 rw[uU he hk,hl,if_pos rfl,List.singleton_append];exact jU (fun hm=>mX hd hk (dL _ _ _ hm))
theorem uBQ{ids:List IdR}{fl:List Bool}(he:ids.length=fl.length)(hd:ids.Nodup){k:Nat}(hk:k<ids.length)(hl:fl[k]'(by omega)=false):bB (aG ids fl) ids[k]=-1:=by
 refine lA (fun hm=>?_);rw[uU he hk,hl,if_neg (by decide),List.nil_append,List.mem_append]at hm;rcases hm with hm|hm
 ·exact mX hd hk (dL _ _ _ hm)
 exact uBI hd hk (dL _ _ _ hm)
theorem uBS{ids:List IdR}{fl:List Bool}{x:IdR}(h:x∉ids):bB (aG ids fl) x=-1:=lA (fun hm=>h (dL _ _ _ hm))
theorem live_mid{ids:List IdR}{fl:List Bool}(he:ids.length=fl.length){f l:Nat}(hf:f<=l)(_hl:l<ids.length) :
  ((aG ids fl).take (aG (ids.take (l+1)) (fl.take (l+1))).length).drop (aG (ids.take f) (fl.take f)).length=aG ((ids.drop f).take (l+1-f)) ((fl.drop f).take (l+1-f)):=by
 have h1:=cV ids fl (l+1) he;have h2:=cV (ids.take (l+1)) (fl.take (l+1)) f (by simp[he]);rw[List.take_take,List.take_take,Nat.min_eq_left (by omega)]at h2;rw[h1,List.take_left];rw[h2,List.drop_left,List.drop_take,List.drop_take]
theorem AxFull.next{b base:Nat}{ids:List IdR}{fl:List Bool}{W W':World}(h:AxFull b base ids fl W)(hb:Below W.heap.size W W'):AxFull b base ids fl W':=by
 obtain⟨v1,v2,v4,m,ga,cs,h1,⟨b1,h2⟩,⟨b2,h3⟩,h4,h5,h6,h7,h8⟩:=h.ex;exact⟨v1,v2,v4,m,ga,cs,h1.next hb,⟨b1,aD hb h2⟩,⟨b2,aD hb h3⟩,h4.at (hb.block _ h4.lt),h5.next hb,h6,h7,aD hb h8⟩
def NoAx(W:World)(Y:List Nat):Prop:=∀ y∈Y,y<W.heap.size->∃ t cs,Lies W y t cs/\t≠27/\t≠4/\t≠3/\t≠152
theorem fZ{W:World}{b y:Nat}{t t':TypeId}{cs nn:Array Value}(h:Lies W b t cs)(h':Lies W y t' nn)(hn:t'≠t):b≠y:=fun e=>by
 unfold Lies at h h';rw[e,h']at h;injection h with h;injection h with _ h _;exact hn h
theorem NoAx.lies{W:World}{Y:List Nat}{b:Nat}{t:TypeId}{cs:Array Value}(hY:NoAx W Y)(h:Lies W b t cs)(ht:t=3\/t=152):b∉Y:=fun hm=>by
 obtain⟨t',nn,h1,h2,h3,h4,h5⟩:=hY b hm h.lt;refine fZ h h1 ?_ rfl;rcases ht with rfl|rfl
 ·exact h4
 exact h5
theorem NoAx.own{W:World}{Y:List Nat}{b n sz:Nat}{te:TypeId}{v:Value}{xs:List Value}(hY:NoAx W Y)(h:W.ownsRow b te sz v n xs)(ht:te=27\/te=4):∀ g,v.ownBlock=some g->g∉Y:=fun g hg hm=>by
 have hlt:=(h.lt g hg).2;obtain⟨t',nn,h1,h2,h3,h4,h5⟩:=hY g hm hlt;rcases h.2 with⟨rfl,_⟩|⟨g1,cap,cur,rfl,_,hh,_⟩
 ·simp[Value.ownBlock]at hg
 simp[Value.ownBlock]at hg;subst hg;have h0:Lies W g1 te cur:=hh;refine fZ h0 h1 ?_ rfl;rcases ht with rfl|rfl
 ·exact h2
 exact h3
theorem AxFull.kp{b base:Nat}{ids:List IdR}{fl:List Bool}{Y:List Nat}{W W':World}(h:AxFull b base ids fl W)(hk:Kp Y W W')(hY:NoAx W Y):AxFull b base ids fl W':=by
 obtain⟨v1,v2,v4,m,ga,cs,h1,⟨b1,h2⟩,⟨b2,h3⟩,h4,h5,h6,h7,h8⟩:=h.ex;refine⟨v1,v2,v4,m,ga,cs,hk.lies h1 (hY.lies h1 (.inr rfl)),⟨b1,bT h2 hk (hY.own h2 (.inl rfl))⟩,⟨b2,bT h3 hk (hY.own h3 (.inr rfl))⟩,h4.at (hk.block _ h4.lt (fun hm=>?_)),hk.lies h5 (hY.lies h5 (.inl rfl)),h6,h7,bT h8 hk (hY.own h8 (.inl rfl))⟩;obtain⟨t',nn,g1,_⟩:=hY m hm h4.lt;obtain⟨es,ck,g2,_⟩:=h4;unfold Lies at g1;rw[g1]at g2;cases g2
def AxF(W:World):Option Nat->AxV->Prop
 |none,none=>True
 |some b,some (ids,fl)=>ids.length=fl.length/\ids.length<=300/\(∀ y∈ids,y.fits)/\ids.Nodup/\((∃ base v1 v2,AxRaw b base ids fl v1 v2 W)\/(∃ base,AxFull b base ids fl W))
 |_,_=>False
theorem AxF.kp{W W':World}{p:Option Nat}{A:AxV}{Y:List Nat}(h:AxF W p A)(hk:Kp Y W W')(hY:NoAx W Y):AxF W' p A:=by
 match p,A,h with
 |none,none,_=>trivial
 |some b,some (ids,fl),⟨h1,h2,h3,h4,h5⟩=>
  refine⟨h1,h2,h3,h4,?_⟩;rcases h5 with⟨base,v1,v2,g⟩|⟨base,g⟩
  ·exact .inl ⟨base,v1,v2,hk.lies g.ax (hY.lies g.ax (.inr rfl)),bT g.r1 hk (hY.own g.r1 (.inl rfl)),bT g.r2 hk (hY.own g.r2 (.inr rfl))⟩
  exact .inr ⟨base,g.kp hk hY⟩
theorem AxF.next{W W':World}{p:Option Nat}{A:AxV}(h:AxF W p A)(hb:Below W.heap.size W W'):AxF W' p A:=h.kp (Kp.of_below (Y:=[]) hb) (fun y hy=>by cases hy)
theorem tT(b base:Nat)(ids:List IdR)(fl:List Bool)(w:World)(hR:AxFull b base ids fl w) :
  Calls Tryz.prog 88 #[vP b 0] w fun e w'=>e=.returned (.tuple #[])/\w'=w:=by
 obtain⟨v1,v2,v4,m,ga,cs,hx,_⟩:=hR.ex;have hnq:=neq_some m;have a2:=hx.cell 2;simp only[za,zb,zf]at a2;clear hx
 go_in
 go_wp2_with fail
 (try simp only[Exit.inBlock,Exit.then])
 refine yt (results_none rfl _ _ _) rfl ?_;exact⟨rfl,rfl⟩
theorem pO(b:Nat)(ids:List IdR)(fl:List Bool)(w:World)(h:AxF w (some b) (some (ids,fl))) :
  Calls Tryz.prog 88 #[vP b 0] w fun e w'=>e=.returned (.tuple #[])/\(∃ base,AxFull b base ids fl w')/\Kp [b] w w':=by
 obtain⟨h1,h2,h3,h4,⟨base,v1,v2,g⟩|⟨base,g⟩⟩:=h
 ·refine(vZ b base ids fl v1 v2 w g h1 h2 h3 h4).mono ?_;rintro e w' ⟨rfl,h6,h7⟩;exact⟨rfl,⟨_,h6⟩,h7⟩
 refine(tT b base ids fl w g).mono ?_;rintro e w' ⟨rfl,rfl⟩;exact⟨rfl,⟨_,g⟩,Kp.refl _ _⟩
def sQ(A:AxV)(x:IdR):Value:=.tuple #[vI (if aU A x<0 then 0 else aU A x),.bool (decide (0<=aU A x))]
theorem qF(ids:List IdR)(fl:List Bool)(x:IdR):sQ (some (ids,fl)) x=.tuple #[vI (if bB (aG ids fl) x<0 then 0 else bB (aG ids fl) x),.bool (decide (0<=bB (aG ids fl) x))]:=rfl
theorem gE(p:Option Nat)(A:AxV)(x:IdR)(w:World)(hA:AxF w p A)(hx:x.fits) :
  Calls Tryz.prog 40 #[.pointer (ptr p),idV x] w fun e w'=>e=.returned (sQ A x)/\AxF w' p A/\Kp p.toList w w':=by
 have HB:Hid (Below w.heap.size w (w.alloc (.cells #[vI x.a,vI x.n] 27))):=zh ((Below.refl _ w).alloc zr _)
 match p,A,hA with
 |none,none,_=>
  unfold ptr
  go_in
  go_wp2_with fail
  refine yt (results_tmp2 rfl _ _ _) rfl ?_;exact⟨rfl,trivial,Kp.of_below HB.out⟩
 |some b,some (ids,fl),h=>
  obtain⟨hl,hn,hf,hd,_⟩:=id h;have HS:=zh (And.intro hl (And.intro hn (And.intro hf hd)));have CR:=zh (pO b ids fl _ (AxF.next (p:=some b) (A:=some (ids,fl)) h HB.out));have HI:Hid (Lies (w.alloc (.cells #[vI x.a,vI x.n] 27)) w.heap.size 27 #[vI x.a,vI x.n]):=zh (Lies.new _ _ _);have hbw:b<w.heap.size:=by
   obtain⟨_,_,_,_,⟨base,v1,v2,g⟩|⟨base,g⟩⟩:=h
   ·exact g.ax.lt
   obtain⟨_,_,_,_,_,_,g1,_⟩:=g.ex;exact g1.lt
  have xj:=zh hbw;have HX:=zh hx;clear h hl hn hf hd hx hbw;obtain⟨e0,he0⟩:=zD (sQ (some (ids,fl)) x)
  have HE:=zh he0;rw[<- he0];clear he0;unfold ptr
  go_in
  go_wp2_with fail
  refine CR.out.mono ?_;rintro e W2 ⟨rfl,⟨base,hF⟩,hk⟩;have ir:Hid (Lies W2 w.heap.size 27 #[vI x.a,vI x.n]):=zh (hk.lies HI.out (by have:=xj.out;simp;omega));have fp:Hid (Kp [b] w W2):=zh ((Kp.of_below HB.out).trans hk);have m9:=zh hF;clear hF hk CR HI HB;obtain⟨W5,ew⟩:∃ W,W=W2.drew:=⟨_,rfl⟩
  have HF5:Hid (AxFull b base ids fl W5):=zh (by rw[ew];exact m9.out.next (Below.refl _ W2).drew);have ln:Hid (Kp [b] w W5):=zh (by rw[ew];exact fp.out.drew);obtain⟨v1,v2,v4,m,ga,cs,h1,⟨b1,h2⟩,⟨b2,h3⟩,h4,h5,h6,h7,-⟩:=m9.out.ex;have hlk:=(h4.at (rfl:W2.drew.heap[m]?=W2.heap[m]?)).look (t:=149) Tryz.underlying149 HS.out.2.2.1 x HX.out;have a2:=h1.cell 2;have x0:=ir.out.cell 0;have x1:=ir.out.cell 1;simp only[za,zb,zf]at a2 x0 x1;have hxl:=ir.out.lt;clear h2 h3 h4 h5 h6 h7 h1 m9 fp;dsimp only[idV]at hlk;rcases hlk with⟨hnin,bi⟩|⟨k,hk,pq,bi⟩
  ·have HV:Hid (e0=.tuple #[vI 0,.bool false]):=zh (by rw[HE.out,qF,uBS hnin];rfl)
   go_upto_region 4 with fail
   go_cut [6,7] (fun va vb wx=>va=vI 0/\vb=.bool false/\Hid (wx=W5))
   case first=>
    go_region
    all_goals go_wp2_with fail
    all_goals go_meet
    all_goals exact⟨rfl,rfl,zh ew.symm⟩
   case rest=>
   obtain⟨rfl,rfl,hcut⟩:=hcut;obtain rfl:W5=wc:=hcut.out.symm;clear bi a2 x0 x1 ew hcut
   go_wp2_with fail
   refine yt (results_tmp2 rfl _ _ _) rfl ?_;exact⟨by rw[HV.out];rfl,⟨HS.out.1,HS.out.2.1,HS.out.2.2.1,HS.out.2.2.2,.inr ⟨_,HF5.out⟩⟩,ln.out⟩
  have tj:k<fl.length:=by rw[<- HS.out.1];exact hk
  obtain⟨lv,m8⟩:=zE (fl[k])
  have HV:Hid (e0=if lv then .tuple #[vI ((aG (ids.take k) (fl.take k)).length:Int),.bool true] else .tuple #[vI 0,.bool false]):=zh (by
   rw[HE.out,qF,<- pq];cases lv with
   |true=>
    rw[uBR HS.out.1 HS.out.2.2.2 hk m8,if_pos rfl,if_neg (by omega),decide_eq_true (by omega)]
   |false=>
    rw[uBQ HS.out.1 HS.out.2.2.2 hk m8];rfl)
  go_upto_region 4 with fail
  go_cut [6,7] (fun va vb wx=>va=vI (k:Int)/\vb=.bool true/\Hid (wx=W5))
  case first=>
   go_region
   all_goals go_wp2_with fail
   all_goals go_meet
   all_goals exact⟨rfl,rfl,zh ew.symm⟩
  case rest=>
  obtain⟨rfl,rfl,hcut⟩:=hcut;obtain rfl:W5=wc:=hcut.out.symm;clear bi a2 x0 x1 hxl ew;obtain⟨v1,v2,v4,m',ga,cs,h1,-,⟨b2,h3⟩,-,h5,h6,h7,-⟩:=HF5.out.ex;obtain⟨g2,di,rfl,-,lq,bp⟩:=fT h3 (by omega);have y0:=bp k (.bool lv) (by simp[dX,tj,m8]);have z0:W5.cell? ⟨ga,k,none⟩=some (vI ((aG (ids.take k) (fl.take k)).length:Int)):=by rw[h5.cell];exact h7 k hk
  have a1:=h1.cell 1;have a3:=h1.cell 3;simp only[za,zb,zf]at a1 a3;have iu:(k:Int)<(ids.length:Int):=by omega
  have hkj:(k:Int)<(fl.length:Int):=by omega
  generalize (aG (ids.take k) (fl.take k)).length=pl at *;clear h1 h3 h5 h6 h7 bp hk tj pq m8;cases lv
  ·go_wp2_with fail
   refine yt (results_tmp2 rfl _ _ _) rfl ?_;exact⟨by rw[HV.out];rfl,⟨HS.out.1,HS.out.2.1,HS.out.2.2.1,HS.out.2.2.2,.inr ⟨_,HF5.out⟩⟩,ln.out⟩
  go_wp2_with fail
  refine yt (results_tmp2 rfl _ _ _) rfl ?_;exact⟨by rw[HV.out];rfl,⟨HS.out.1,HS.out.2.1,HS.out.2.2.1,HS.out.2.2.2,.inr ⟨_,HF5.out⟩⟩,ln.out⟩
theorem xT(l:List IdR):∀ u∈aI l,u.oneCell'=true:=by
 intro u hu;unfold aI at hu;obtain⟨x,_,hx⟩:=List.mem_flatMap.1 hu;simp only[ym,List.not_mem_nil,or_false]at hx;rcases hx with rfl|rfl <;> rfl
theorem sl_nil(w:World):(binOp .eql 35 (.slice none 0 0) (.slice none 0 0)).run Tryz.prog w=.ok (.bool true) w:=by kernel_rfl
theorem sl_some(a:Addr)(n c:Nat)(w:World):(binOp .eql 35 (.slice (some a) n c) (.slice none 0 0)).run Tryz.prog w=.ok (.bool false) w:=by kernel_rfl
theorem kG:∀ (a b:List IdR),aI (a++b)=aI a++aI b:=fun a b=>by simp[aI]
theorem pQ(g off n c:Nat)(l:List IdR)(w:World)(hl:l.length=n)(hn:n<=300)(hc:∀ j u,(aI l)[j]?=some u->w.cell? ⟨g,off+j,none⟩=some u) :
  Calls Tryz.prog 244 #[.slice (some ⟨g,off,none⟩) n c] w fun e w'=>∃ A' c',e=.returned (.slice A' n c')/\w'.ownsRow w.heap.size 27 2 (.slice A' n c') n (aI l)/\Below w.heap.size w w':=by
 have dw:=sl_some ⟨g,off,none⟩ n c;have HC:=zh hc;have HL:=zh hl;clear hc hl;obtain⟨i1,gi,gz0,gz1,gz2⟩:=info_parts rU;have HO:Hid ((w.alloc (.cells #[] 27)).ownsRow w.heap.size 27 2 (.slice (some ⟨w.heap.size,0,none⟩) 0 0) 0 []):=zh ⟨rfl,.inr ⟨_,0,#[],rfl,zr,heap_alloc_new _ _,zr,by unfold maxLen;omega,rfl,rfl⟩⟩;have HB:Hid (Below w.heap.size w (w.alloc (.cells #[] 27))):=zh ((Below.refl _ w).alloc zr _);have HN:Hid (∀ j u,(aI l)[j]?=some u->(w.alloc (.cells #[] 27)).cell? ((⟨g,off,none⟩:Addr).add j)=some u):=zh (fun j u hj=>by
  have h0:=HC.out j u hj;have e:(⟨g,off,none⟩:Addr).add j=⟨g,off+j,none⟩:=by cases j <;> simp[Addr.add]
  rw[e];exact(HB.out.cell (p:=⟨g,off+j,none⟩) (dN h0)).trans h0)
 go_in
 go_wp2_with (first |(refine wpList_append_own (P:=Tryz.prog) _ rfl (.tmp 5) (.tmp 6) 35 rfl w.heap.size 27 i1 (.agg #[vI 0,vI 0]) 2 16 Tryz.underlying35 gi gz0 gz1 gz2 rfl (by decide) _ 0 [] rfl HO.out ⟨g,off,none⟩ n c (aI l) rfl (by rw[fX,HL.out]) HN.out (xT l) (by unfold maxLen;omega) (by omega) HB.out.size (fun v' w' k1 k2 _=>?_);obtain⟨A',c',rfl⟩:=aV k1;have K1:=zh k1;have K2:=zh k2;clear k1 k2))
 go_ret
 have h1:=K1.out;rw[Nat.zero_add,List.nil_append]at h1;have h2:Below w.heap.size w w':=HB.out.grown K2.out HB.out.size (fun k hk=>by injection hk with hk;exact Nat.le_of_eq hk);exact⟨A',c',rfl,h1,h2⟩
theorem pR(w:World) :
  Calls Tryz.prog 244 #[.slice none 0 0] w fun e w'=>e=.returned (.slice none 0 0)/\Below w.heap.size w w':=by
 have dw:=sl_nil
 go_in
 go_wp2_with fail
 go_ret
 exact⟨rfl,Below.refl _ _⟩
theorem wK{l:List IdR}{lo hi j:Nat}{u:Value}(h:(aI ((l.take hi).drop lo))[j]?=some u):(aI l)[lo*2+j]?=some u:=by
 have e1:aI l=aI (l.take hi)++aI (l.drop hi):=by rw[<- kG,List.take_append_drop]
 have e2:aI (l.take hi)=aI ((l.take hi).take lo)++aI ((l.take hi).drop lo):=by rw[<- kG,List.take_append_drop]
 have hj:=(List.getElem?_eq_some_iff.1 h).1;rcases Nat.lt_or_ge lo (l.take hi).length with lz|lz
 ·have e3:(aI ((l.take hi).take lo)).length=lo*2:=by rw[fX,zc];omega
  rw[e1,List.getElem?_append_left (by rw[e2,yl];omega),e2,List.getElem?_append_right (by omega),e3,Nat.add_sub_cancel_left];exact h
 rw[List.drop_of_length_le lz]at hj;simp[aI]at hj
theorem rD{ids:List IdR}{fl:List Bool}(hd:ids.Nodup){a b:Nat}(ha:a<ids.length)(hb:b<ids.length):aO (some (ids,fl)) ids[a] ids[b]=aG ((ids.drop (min a b)).take (max a b+1-min a b)) ((fl.drop (min a b)).take (max a b+1-min a b)):=by
 unfold aO;dsimp only;rw[lS hd ha,lS hd hb,if_neg (by omega),show (min (a:Int) (b:Int)).toNat=min a b by omega,show (max (a:Int) (b:Int)).toNat=max a b by omega]
theorem jK{ids:List IdR}{fl:List Bool}{x y:IdR}(h:x∉ids\/y∉ids):aO (some (ids,fl)) x y=[]:=by
 unfold aO;dsimp only;rw[if_pos];rcases h with h|h
 ·rw[lA h];exact .inl (by decide)
 rw[lA h];exact .inr (by decide)
theorem rA(g k j:Nat):(⟨g,k,none⟩:Addr).add j=⟨g,k+j,none⟩:=by
 unfold Addr.add;by_cases e:j=0
 ·simp[e]
 simp[e]
theorem wO(ids:List IdR)(fl:List Bool)(he:ids.length=fl.length)(k:Nat):(aG (ids.take k) (fl.take k)).length<=(aG ids fl).length:=by
 rw[cV ids fl k he,yl];omega
theorem tY{ids:List IdR}{fl:List Bool}(he:ids.length=fl.length){k:Nat}(hk:k<ids.length):(aG (ids.take (k+1)) (fl.take (k+1))).length=(aG (ids.take k) (fl.take k)).length+(if fl[k]'(by omega) then 1 else 0):=by
 have h1:=cV (ids.take (k+1)) (fl.take (k+1)) k (by simp[he]);rw[List.take_take,List.take_take,Nat.min_eq_left (by omega)]at h1;rw[h1,yl]
 congr 1
 rw[yw hk,yw (by omega:k<fl.length),List.drop_left' (by simp;omega),List.drop_left' (by simp;omega)];simp only[aG];cases fl[k]'(by omega) <;> simp
theorem yA{ids:List IdR}{fl:List Bool}(he:ids.length=fl.length){f l:Nat}(hf:f<=l):(aG (ids.take f) (fl.take f)).length<=(aG (ids.take l) (fl.take l)).length:=by
 have h1:=cV (ids.take l) (fl.take l) f (by simp[he]);rw[List.take_take,List.take_take,Nat.min_eq_left hf]at h1;rw[h1,yl];omega
theorem uAO{base:Nat}{v4:Value}{lv:List IdR}{W0:World}(h:W0.ownsRow base 27 2 v4 lv.length (aI lv))(hn:lv.length<=300)(lo hi:Nat)(a b:Int)(ha:a=lo)(hb:b=hi)(lz:lo<=hi)(hhi:hi<=lv.length) :
  ∃ S,(∀ W,(Instr.slice 35 v4 (some (vI a)) (some (vI b)) none).run Tryz.prog W=.ok S W)/\(∀ W,(Instr.sliceAt 35 v4 (some (vI a)) (some (vI b)) none).run Tryz.prog W=.ok S W) /\
   ∀ W,Below W0.heap.size W0 W->Calls Tryz.prog 244 #[S] W fun e w'=>∃ B c,e=.returned (.slice B (hi-lo) c)/\w'.ownsRow W0.heap.size 27 2 (.slice B (hi-lo) c) (hi-lo) (aI ((lv.take hi).drop lo))/\Below W0.heap.size W0 w':=by
 subst ha hb;have vm:∀ W,(sizeOf (Tryz.prog.elem 35)).run Tryz.prog W=.ok 2 W:=fun W=>by kernel_rfl
 have aj:Tryz.prog.underlying 35=some (.slice (Tryz.prog.elem 35)):=by kernel_rfl
 have hlen:((lv.take hi).drop lo).length=hi-lo:=by rw[yk,zc];omega
 have key:∀ (A:Option Addr) (cap:Nat),v4=.slice A lv.length cap->lv.length<=cap->∀ W,(Instr.slice 35 v4 (some (vI (lo:Int))) (some (vI (hi:Int))) none).run Tryz.prog W=.ok (sliced A lo hi cap 2) W:=fun A cap e hc W=>by
  subst e;rw[run_slice_lh W 35 A lv.length cap aj .i64 .i64 lo hi (by omega) (by omega) (by omega),vm];simp[Result.andThen]
 have at':∀ S,(∀ W,(Instr.slice 35 v4 (some (vI (lo:Int))) (some (vI (hi:Int))) none).run Tryz.prog W=.ok S W)->(∀ W,(Instr.sliceAt 35 v4 (some (vI (lo:Int))) (some (vI (hi:Int))) none).run Tryz.prog W=.ok S W):=fun S hS W=>by
  rw[run_sliceAt_slice W 35 _ _ _ _ aj];exact hS W
 have h2:=h.2;rcases h2 with⟨e1,e2⟩|⟨g,cap,cur,e1,e2,e3,e4,e5,e6,e7⟩
 ·have eh:lv.length=0:=by
   have:=h.1;rw[fX]at this
   simp_all
  have z1:hi=0:=by omega
  have z2:lo=0:=by omega
  subst z1 z2;have hS:=key none 0 (by rw[e1,eh]) (by omega);refine⟨_,hS,at' _ hS,fun W hW=>?_⟩;have e:sliced none 0 0 0 2=.slice none 0 0:=by rfl
  rw[e];refine(pR W).mono ?_;rintro e w' ⟨rfl,hb⟩;refine⟨none,0,rfl,⟨by simp[aI],.inl ⟨rfl,by simp⟩⟩,zU hW hb⟩
 have hS:=key (some ⟨g,0,none⟩) cap e1 e4;have e:sliced (some ⟨g,0,none⟩) lo hi cap 2=.slice (some ⟨g,if cap=lo then 0 else lo*2,none⟩) (hi-lo) (cap-lo):=by
  unfold sliced;by_cases hc:cap=lo
  ·rw[if_pos hc,if_pos hc]
  rw[if_neg hc,if_neg hc,Option.map_some,rA,Nat.zero_add]
 rw[e]at hS;refine⟨_,hS,at' _ hS,fun W hW=>?_⟩;refine(pQ g _ (hi-lo) (cap-lo) ((lv.take hi).drop lo) W hlen (by omega) (fun j u hj=>?_)).mono ?_
 ·have hp:=wK hj;have hj2:=(List.getElem?_eq_some_iff.1 hj).1;rw[fX,hlen]at hj2;have hc:¬ cap=lo:=by omega
  rw[if_neg hc];obtain⟨g',ou,q1,_,q2,q3⟩:=fT h (by omega);rw[e1]at q1;injection q1 with q1;injection q1 with q1;injection q1 with q1;subst q1;exact(hW.cell (p:=⟨g,lo*2+j,none⟩) q2).trans (q3 _ _ hp)
 rintro e w' ⟨A',c',rfl,ho,hb⟩;exact⟨A',c',rfl,aL ho hW.size,zU hW hb⟩
theorem KIdx.find{W:World}{m:Nat}{ys:List IdR}{t:TypeId}(h:KIdx W m ys)(hu:Tryz.prog.underlying t=some (.map 27 3))(hf:∀ y∈ys,y.fits)(x:IdR)(hx:x.fits) :
  ∃ (k:Nat) (b:Bool),(Instr.lookup t (.map (some m)) (idV x) true).run Tryz.prog W=.ok (.tuple #[vI (k:Int),.bool b]) W/\Hid ((b=false/\k=0/\x∉ys)\/(b=true/\∃ hk:k<ys.length,ys[k]=x)):=by
 rcases h.look hu hf x hx with⟨h1,h2⟩|⟨k,hk,hx,h2⟩
 ·exact⟨0,false,h2,zh (.inl ⟨rfl,rfl,h1⟩)⟩
 exact⟨k,true,h2,zh (.inr ⟨rfl,hk,hx⟩)⟩
theorem kL(p:Option Nat)(A:AxV)(x y:IdR)(w:World)(hA:AxF w p A)(hx:x.fits)(hy:y.fits) :
  Calls Tryz.prog 227 #[.pointer (ptr p),idV x,idV y] w fun e w'=>∃ B c,e=.returned (.slice B (aO A x y).length c)/\w'.ownsRow w.heap.size 27 2 (.slice B (aO A x y).length c) (aO A x y).length (aI (aO A x y))/\AxF w' p A/\Kp p.toList w w':=by
 have HB:Hid (Below w.heap.size w ((w.alloc (.cells #[vI x.a,vI x.n] 27)).alloc (.cells #[vI y.a,vI y.n] 27))):=zh (((Below.refl _ w).alloc zr _).alloc (by rw[World.size_alloc];omega) _)
 match p,A,hA with
 |none,none,_=>
  unfold ptr;obtain⟨L,hL⟩:=zD (aO none x y)
  have HL:Hid (L=[]):=zh hL;rw[<- hL];clear hL
  go_in
  go_wp2_with fail
  go_ret
  have hL:=HL.out;subst hL;exact⟨none,0,rfl,⟨rfl,.inl ⟨rfl,rfl⟩⟩,trivial,Kp.of_below HB.out⟩
 |some b,some (ids,fl),h=>
  obtain⟨hl,hn,hf,hd,_⟩:=id h;have HS:=zh (And.intro hl (And.intro hn (And.intro hf hd)));have hbw:b<w.heap.size:=by
   obtain⟨_,_,_,_,⟨base,v1,v2,g⟩|⟨base,g⟩⟩:=h
   ·exact g.ax.lt
   obtain⟨_,_,_,_,_,_,g1,_⟩:=g.ex;exact g1.lt
  have xj:=zh hbw;have HF0:=zh (AxF.next (p:=some b) (A:=some (ids,fl)) h HB.out);have HX:=zh hx;have HY:=zh hy;obtain⟨L,hL⟩:=zD (aO (some (ids,fl)) x y)
  have HL:=zh hL;rw[<- hL];obtain⟨nL,hnL⟩:=zD L.length
  have HNl:=zh hnL;rw[<- hnL];clear hnL;clear h hl hn hf hd hx hy hbw hL;unfold ptr
  go_in
  go_upto_region 1 with fail
  have HI0:Hid (Lies ((w.alloc (.cells #[vI x.a,vI x.n] 27)).alloc (.cells #[vI y.a,vI y.n] 27)) w.heap.size 27 #[vI x.a,vI x.n]):=zh ((Lies.new _ _ _).alloc _);have HI1:Hid (Lies ((w.alloc (.cells #[vI x.a,vI x.n] 27)).alloc (.cells #[vI y.a,vI y.n] 27)) (w.heap.size+1) 27 #[vI y.a,vI y.n]):=zh (by
   have h:=Lies.new (w.alloc (.cells #[vI x.a,vI x.n] 27)) 27 #[vI y.a,vI y.n];rw[World.size_alloc]at h;exact h)
  generalize (w.alloc (.cells #[vI x.a,vI x.n] 27)).alloc (.cells #[vI y.a,vI y.n] 27)=W1 at *;have CR:=zh (pO b ids fl _ HF0.out);clear HF0
  go_wp2_with fail
  refine CR.out.mono ?_;rintro e W2 ⟨rfl,⟨base,hF⟩,hk⟩;have sw:Hid (Lies W2 w.heap.size 27 #[vI x.a,vI x.n]):=zh (hk.lies HI0.out (by have:=xj.out;simp;omega));have HY2:Hid (Lies W2 (w.heap.size+1) 27 #[vI y.a,vI y.n]):=zh (hk.lies HI1.out (by have:=xj.out;simp;omega));have fp:Hid (Kp [b] w W2):=zh ((Kp.of_below HB.out).trans hk);have m9:=zh hF;clear hF hk CR HI0 HI1 HB;obtain⟨W3,gw⟩:∃ W,W=W2.drew:=⟨_,rfl⟩
  obtain⟨W4,pr⟩:∃ W,W=W3.drew:=⟨_,rfl⟩
  have HF4:Hid (AxFull b base ids fl W4):=zh (by rw[pr,gw];exact(m9.out.next (Below.refl _ W2).drew).next zB.drew);have f8:Hid (Kp [b] w W4):=zh (by rw[pr,gw];exact fp.out.drew.drew);obtain⟨v1,v2,v4,m,ga,cs,h1,⟨b1,h2⟩,⟨b2,h3⟩,h4,h5,h6,h7,h8⟩:=m9.out.ex;obtain⟨kx,fx,hlx,ti⟩:=(h4.at (rfl:W2.drew.heap[m]?=W2.heap[m]?)).find (t:=149) Tryz.underlying149 HS.out.2.2.1 x HX.out;obtain⟨ky,fy,hly,pu⟩:=(h4.at (rfl:W2.drew.drew.heap[m]?=W2.heap[m]?)).find (t:=149) Tryz.underlying149 HS.out.2.2.1 y HY.out;have a2:=h1.cell 2;have x0:=sw.out.cell 0;have x1:=sw.out.cell 1;simp only[za,zb,zf]at a2 x0 x1;have hxl:=sw.out.lt;have hyl:=HY2.out.lt;dsimp only[idV]at hlx;have HLY:=zh hly;have i8:=zh h1;clear h2 h3 h4 h5 h6 h7 h8 h1 m9 fp hly
  go_upto_region 4 with fail
  go_cut [7,8] (fun va vb wx=>va=vI (kx:Int)/\vb=.bool fx/\Hid (wx=W3))
  case first=>
   go_region
   all_goals go_wp2_with fail
   all_goals go_meet
   all_goals exact⟨rfl,rfl,zh gw.symm⟩
  case rest=>
  obtain⟨rfl,rfl,hcut⟩:=hcut;obtain rfl:W3=wc:=hcut.out.symm;clear hlx x0 x1 hxl a2 hyl;have hly:=HLY.out;rw[<- gw]at hly;have iw:=i8.out.next (Below.refl _ W2).drew;have hY2:=HY2.out.next (Below.refl _ W2).drew;rw[<- gw]at iw hY2;have a2:=iw.cell 2;have y0:=hY2.cell 0;have y1:=hY2.cell 1;simp only[za,zb,zf]at a2 y0 y1;have hyl:=hY2.lt;dsimp only[idV]at hly;clear iw hY2 HLY i8 hcut sw HY2 gw
  go_upto_region 5 with fail
  go_cut [9,10] (fun va vb wx=>va=vI (ky:Int)/\vb=.bool fy/\Hid (wx=W4))
  case first=>
   go_region
   all_goals go_wp2_with fail
   all_goals go_meet
   all_goals exact⟨rfl,rfl,zh pr.symm⟩
  case rest=>
  obtain⟨rfl,rfl,hcut⟩:=hcut;obtain rfl:W4=wc:=hcut.out.symm;clear hly y0 y1 hyl a2 pr hcut;by_cases kq:fx=true/\fy=true
  ·obtain⟨rfl,rfl⟩:=kq;obtain⟨-,pq,ex⟩:=ti.out.resolve_left (fun h=>by cases h.1);obtain⟨-,tn,ey⟩:=pu.out.resolve_left (fun h=>by cases h.1);have ag:=HL.out;rw[<- ex,<- ey,rD HS.out.2.2.2 pq tn]at ag;have bq:=zh ag;clear ag ex ey ti pu HL;have hlt:∃ f l:Nat,(f=kx/\l=ky/\(kx:Int)<=(ky:Int)\/f=ky/\l=kx/\(ky:Int)<(kx:Int)):=by
    rcases Nat.lt_or_ge ky kx with h|h
    ·exact⟨ky,kx,.inr ⟨rfl,rfl,by omega⟩⟩
    exact⟨kx,ky,.inl ⟨rfl,rfl,by omega⟩⟩
   have hn3:=HS.out.2.1;have hle:=HS.out.1;rcases Nat.lt_or_ge ky kx with hgt|hgt
   case' inl=>
    have hz:(ky:Int)<(kx:Int):=by omega
    have au:Hid (L=aG ((ids.drop ky).take (kx+1-ky)) ((fl.drop ky).take (kx+1-ky))):=zh (by
     have h:=bq.out;rw[Nat.min_eq_right (by omega),Nat.max_eq_left (by omega)]at h;exact h)
    have uv:ky<=kx:=by omega
    have o5:=pq;have tj:=tn;clear pq tn;obtain⟨l,rfl⟩:=zD kx
    obtain⟨f,rfl⟩:=zD ky
   case' inr=>
    have hz:(kx:Int)<=(ky:Int):=by omega
    have au:Hid (L=aG ((ids.drop kx).take (ky+1-kx)) ((fl.drop kx).take (ky+1-kx))):=zh (by
     have h:=bq.out;rw[Nat.min_eq_left (by omega),Nat.max_eq_right (by omega)]at h;exact h)
    have uv:kx<=ky:=by omega
    have tj:=pq;have o5:=tn;clear pq tn;obtain⟨f,rfl⟩:=zD kx
    obtain⟨l,rfl⟩:=zD ky
   all_goals
    clear hlt bq;have hm:=live_mid hle uv o5;have hs:=tY hle o5;have hp:=yA hle (f:=f) (l:=l+1) (by omega);have hq:=wO ids fl hle (l+1);have hr:=cZ ids fl;obtain⟨v1,v2,v4,m',ga,cs,h1,-,⟨b2,h3⟩,-,h5,h6,h7,h8⟩:=HF4.out.ex;obtain⟨g2,di,rfl,-,lq,bp⟩:=fT h3 (by omega);have hklf:l<fl.length:=by omega
    obtain⟨lv,m8⟩:=zE (fl[l]'hklf)
    have r0:=bp l (.bool lv) (by simp[dX,hklf,m8]);have z0:W4.cell? ⟨ga,l,none⟩=some (vI ((aG (ids.take l) (fl.take l)).length:Int)):=by rw[h5.cell];exact h7 l o5
    have z1:W4.cell? ⟨ga,f,none⟩=some (vI ((aG (ids.take f) (fl.take f)).length:Int)):=by rw[h5.cell];exact h7 f tj
    have bf:=zh (au.out.trans hm.symm);rw[m8]at hs;have a1:=h1.cell 1;have a3:=h1.cell 3;have a4:=h1.cell 4;simp only[za,zb,zf]at a1 a3 a4;have hkfi:(f:Int)<(ids.length:Int):=by omega
    have hkli:(l:Int)<(ids.length:Int):=by omega
    have hklj:(l:Int)<(fl.length:Int):=by omega
    have HP8:=zh h8;clear h1 h3 h5 h6 h7 h8 bp m8 hm au;generalize (aG (ids.take (l+1)) (fl.take (l+1))).length=ce at *;generalize (aG (ids.take l) (fl.take l)).length=cl at *;generalize (aG (ids.take f) (fl.take f)).length=cf at *;have hcw:IntKind.i64.wrap ((cl:Int)+1)=(cl:Int)+1:=IntWalk.i64_in _ (by cases lv <;> simp at hs <;> omega);have qd:Hid (L.length=ce-cf):=zh (by rw[bf.out,yk,zc];omega);have HNL:Hid (nL=ce-cf):=zh (HNl.out.trans qd.out);clear qd;obtain⟨be,hbe,lh⟩:∃ be:Int,(be=if lv then (cl:Int)+1 else (cl:Int))/\be=(ce:Int):=⟨_,rfl,by cases lv <;> simp at hs <;> simp <;> omega⟩
    obtain⟨S,fi,jv,oc⟩:=uAO HP8.out (by omega) cf ce (cf:Int) be rfl lh hp hq;have HCC:Hid (∀ W,Below W4.heap.size W4 W->Calls Tryz.prog 244 #[S] W fun e w'=>∃ B c,e=.returned (.slice B nL c)/\w'.ownsRow W4.heap.size 27 2 (.slice B nL c) nL (aI L)/\Below W4.heap.size W4 w'):=zh (by
     rw[HNL.out,bf.out];exact oc)
    have hba4:b<W4.heap.size:=yu xj.out f8.out.size;clear oc HP8 hs hp hq hr lh;subst hbe;cases lv
    all_goals
     simp only[Bool.false_eq_true,if_false,if_true]at fi jv
     go_upto_region 13 with fail
     go_cut [6] (fun v6 wx=>∃ B c,v6=.slice B nL c/\Hid (wx.ownsRow W4.heap.size 27 2 (.slice B nL c) nL (aI L))/\Hid (Below W4.heap.size W4 wx))
     case first=>
      go_region_with ((go_at_call 244;(with_reducible refine(HCC.out _ ?hbw).mono ?_);(case hbw=>(first|assumption|exact zB.drew |(go_split_ands;assumption)));rintro e wx ⟨B,c,rfl,ho,hb⟩;have HO:=zh ho;have HBl:=zh hb))
      all_goals go_wp2_with fail
      all_goals go_meet
      all_goals exact⟨_,_,rfl,HO,HBl⟩
     case rest=>
     obtain⟨B,c,rfl,ho,hb⟩:=hcut;clear fi jv HCC
     go_wp2_with fail
     go_ret
     exact⟨B,c,rfl,aL ho.out (by have:=f8.out.size;omega),⟨HS.out.1,HS.out.2.1,HS.out.2.2.1,HS.out.2.2.2,.inr ⟨_,HF4.out.next hb.out⟩⟩,f8.out.trans (Kp.of_below hb.out)⟩
  have nx:Hid (L=[]):=zh (by
   rw[HL.out];refine jK ?_;rcases ti.out with⟨_,_,h⟩|⟨h,_⟩
   ·exact .inl h
   rcases pu.out with⟨_,_,h'⟩|⟨h',_⟩
   ·exact .inr h'
   exact absurd ⟨h,h'⟩ kq)
  clear HL ti pu;cases fx <;> cases fy
  case true.true=>exact absurd ⟨rfl,rfl⟩ kq
  all_goals clear kq
  all_goals go_wp2_with fail
  all_goals go_ret
  all_goals
   have hL:=nx.out;subst hL;obtain rfl:nL=0:=HNl.out;exact⟨none,0,rfl,⟨rfl,.inl ⟨rfl,rfl⟩⟩,⟨HS.out.1,HS.out.2.1,HS.out.2.2.1,HS.out.2.2.2,.inr ⟨_,HF4.out⟩⟩,f8.out⟩
abbrev arV(a b:Cor):Value:=.agg #[vI a.row.a,vI a.row.n,vI a.col.a,vI a.col.n,.bool a.fr,.bool a.fc,vI b.row.a,vI b.row.n,vI b.col.a,vI b.col.n,.bool b.fr,.bool b.fc]
theorem eql_area(a b a2 b2:Cor)(w:World):(binOp .eql 31 (arV a b) (arV a2 b2)).run Tryz.prog w=.ok (.bool (decide (a=a2)&&decide (b=b2))) w:=by
 obtain⟨⟨x0,x1⟩,⟨x2,x3⟩,x4,x5⟩:=a;obtain⟨⟨x6,x7⟩,⟨x8,x9⟩,xa,xb⟩:=b;obtain⟨⟨y0,y1⟩,⟨y2,y3⟩,y4,y5⟩:=a2;obtain⟨⟨y6,y7⟩,⟨y8,y9⟩,ya,yb⟩:=b2;dsimp only[arV]
 go_simp
 by_cases h0:x0=y0
 case neg=>simp[h0]
 by_cases h1:x1=y1
 case neg=>simp[h0,h1]
 by_cases h2:x2=y2
 case neg=>simp[h0,h1,h2]
 by_cases h3:x3=y3
 case neg=>simp[h0,h1,h2,h3]
 by_cases h4:x4=y4
 case neg=>simp[h0,h1,h2,h3,h4]
 by_cases h5:x5=y5
 case neg=>simp[h0,h1,h2,h3,h4,h5]
 by_cases h6:x6=y6
 case neg=>simp[h0,h1,h2,h3,h4,h5,h6]
 by_cases h7:x7=y7
 case neg=>simp[h0,h1,h2,h3,h4,h5,h6,h7]
 by_cases h8:x8=y8
 case neg=>simp[h0,h1,h2,h3,h4,h5,h6,h7,h8]
 by_cases h9:x9=y9
 case neg=>simp[h0,h1,h2,h3,h4,h5,h6,h7,h8,h9]
 by_cases ha:xa=ya
 case neg=>simp[h0,h1,h2,h3,h4,h5,h6,h7,h8,h9,ha]
 by_cases hb:xb=yb
 case neg=>simp[h0,h1,h2,h3,h4,h5,h6,h7,h8,h9,ha,hb]
 simp[h0,h1,h2,h3,h4,h5,h6,h7,h8,h9,ha,hb]
theorem neq_area(a b a2 b2:Cor)(w:World):(binOp .neq 31 (arV a b) (arV a2 b2)).run Tryz.prog w=.ok (.bool (!(decide (a=a2)&&decide (b=b2)))) w:=by
 obtain⟨⟨x0,x1⟩,⟨x2,x3⟩,x4,x5⟩:=a;obtain⟨⟨x6,x7⟩,⟨x8,x9⟩,xa,xb⟩:=b;obtain⟨⟨y0,y1⟩,⟨y2,y3⟩,y4,y5⟩:=a2;obtain⟨⟨y6,y7⟩,⟨y8,y9⟩,ya,yb⟩:=b2;dsimp only[arV]
 go_simp
 by_cases h0:x0=y0
 case neg=>simp[h0]
 by_cases h1:x1=y1
 case neg=>simp[h0,h1]
 by_cases h2:x2=y2
 case neg=>simp[h0,h1,h2]
 by_cases h3:x3=y3
 case neg=>simp[h0,h1,h2,h3]
 by_cases h4:x4=y4
 case neg=>simp[h0,h1,h2,h3,h4]
 by_cases h5:x5=y5
 case neg=>simp[h0,h1,h2,h3,h4,h5]
 by_cases h6:x6=y6
 case neg=>simp[h0,h1,h2,h3,h4,h5,h6]
 by_cases h7:x7=y7
 case neg=>simp[h0,h1,h2,h3,h4,h5,h6,h7]
 by_cases h8:x8=y8
 case neg=>simp[h0,h1,h2,h3,h4,h5,h6,h7,h8]
 by_cases h9:x9=y9
 case neg=>simp[h0,h1,h2,h3,h4,h5,h6,h7,h8,h9]
 by_cases ha:xa=ya
 case neg=>simp[h0,h1,h2,h3,h4,h5,h6,h7,h8,h9,ha]
 by_cases hb:xb=yb
 case neg=>simp[h0,h1,h2,h3,h4,h5,h6,h7,h8,h9,ha,hb]
 simp[h0,h1,h2,h3,h4,h5,h6,h7,h8,h9,ha,hb]
theorem neq_val(a b:Val)(w:World):(binOp .neq 25 (.agg #[vI a.kind,vI a.mant,vI a.exp,vT a.text,.bool a.truth,vI a.fault]) (.agg #[vI b.kind,vI b.mant,vI b.exp,vT b.text,.bool b.truth,vI b.fault])).run Tryz.prog w=.ok (.bool (!bC a b)) w:=by
 obtain⟨x0,x1,x2,x3,x4,x5⟩:=a;obtain⟨y0,y1,y2,y3,y4,y5⟩:=b;unfold bC;dsimp only
 go_simp
 by_cases h0:x0=y0
 case neg=>simp[h0]
 by_cases h1:x1=y1
 case neg=>simp[h0,h1]
 by_cases h2:x2=y2
 case neg=>simp[h0,h1,h2]
 by_cases h3:x3=y3
 case neg=>simp[h0,h1,h2,h3]
 by_cases h4:x4=y4
 case neg=>simp[h0,h1,h2,h3,h4]
 by_cases h5:x5=y5
 case neg=>simp[h0,h1,h2,h3,h4,h5]
 simp[h0,h1,h2,h3,h4,h5]
theorem gX:(Tryz.prog.info? 25).map (·.size)=some 6:=by kernel_rfl
theorem gW:(Tryz.prog.info? 31).map (·.size)=some 12:=by kernel_rfl
def NodeIn(W:World)(g o:Nat)(h:NodeH)(A:Option Addr)(n c:Nat):Prop:=g<W.heap.size/\∀ j,j<22->W.cell? ⟨g,o+j,none⟩=(aJ h A n c)[j]?
theorem NodeIn.kp{W W':World}{g o:Nat}{h:NodeH}{A:Option Addr}{n c:Nat}(hn:NodeIn W g o h A n c)(hk:Kp [] W W'):NodeIn W' g o h A n c :=
 ⟨yu hn.1 hk.size,fun j hj=>(hk.cell hn.1 (by simp)).trans (hn.2 j hj)⟩
theorem NodeIn.sub{W:World}{g o:Nat}{h:NodeH}{A:Option Addr}{n c:Nat}(hn:NodeIn W g o h A n c)(j:Nat)(cs:List Value)(hj:j+cs.length<=22)(hs:((aJ h A n c).toList.drop j).take cs.length=cs):W.rangeAt g (o+j) cs:=fun k v hv=>by
 have hk:k<cs.length:=(List.getElem?_eq_some_iff.1 hv).1;have key:=List.getElem?_take_of_lt (l:=(aJ h A n c).toList.drop j) hk;rw[hs,hv,List.getElem?_drop]at key;rw[show o+j+k=o+(j+k) by omega,hn.2 (j+k) (by omega),key];simp
end Go.Proofs.YtjfihpaeglpblaaGreatDoor
