/-
  Lemmas, part 5: TokK Ax5 PFi PlR1 PlR2 Ax6 Ax7 Ax8 PaE PaF.
-/
import Derived.Laws.AppendOwnNone
import Derived.Test.YtjfihpaeglpblaaGreatDoorRt4
set_option maxHeartbeats 100000000
set_option maxRecDepth 1000000
namespace Go.Proofs.YtjfihpaeglpblaaGreatDoor
open Go.RowKit
theorem qP:(Tryz.prog.info? 64).map (fun i=>(i.zero,i.size,i.bytes))=some (some (.agg #[vI 0,vS #[],vI 0]),3,32):=by kernel_rfl
def fH(t:RTok):List Value:=[vI t.kind,vT t.text,vI t.place]
theorem lJ(t:RTok):∀ u∈fH t,u.oneCell'=true:=by
 intro u hu;simp only[fH,ym,List.not_mem_nil,or_false]at hu;rcases hu with rfl|rfl|rfl <;> rfl
def iY(ts:List RTok):List Value:=ts.flatMap fH
theorem nW(ts:List RTok)(t:RTok):iY (ts++[t])=iY ts++fH t:=by simp[iY]
theorem rowK_get(ts:List RTok)(j:Nat)(h:j<ts.length):(iY ts)[j*3]?=some (vI ts[j].kind)/\(iY ts)[j*3+1]?=some (vS (ts[j].text.toArray))/\(iY ts)[j*3+2]?=some (vI ts[j].place):=by
 induction ts generalizing j with
 |nil=>simp at h
 |cons t ts ih=>
  have e:iY (t::ts)=fH t++iY ts:=by simp[iY]
  have hl:(fH t).length=3:=rfl;cases j with
  |zero=>rw[e];exact⟨rfl,rfl,rfl⟩
  |succ j=>
   have:=ih j (by simpa using h);rw[e];rw[List.getElem?_append_right (by omega),List.getElem?_append_right (by omega),List.getElem?_append_right (by omega),hl];rw[show (j+1)*3-3=j*3 by omega,show (j+1)*3+1-3=j*3+1 by omega,show (j+1)*3+2-3=j*3+2 by omega];simpa using this
theorem rIn_ownK{w:World}{base:Nat}{e:TypeId}{A:Option Addr}{cap:Nat}{ts:List RTok}(h:w.ownsRow base e 3 (.slice A ts.length cap) ts.length (iY ts)):RIn w A ts:=by
 intro hp;rcases h.2 with⟨_,h0⟩|⟨g,pd,cur,hv,_⟩
 ·omega
 injection hv with hA hn hc;subst hA hc;have hlt:=(h.lt g rfl).2;refine⟨g,0,rfl,hlt,fun j hj=>?_⟩;obtain⟨h1,h2,h3⟩:=rowK_get ts j hj;refine⟨?_,?_,?_⟩
 ·rw[Nat.zero_add,h.cellAt _ (by omega)];exact h1
 ·rw[Nat.zero_add,h.cellAt _ (by omega)];exact h2
 rw[Nat.zero_add,h.cellAt _ (by omega)];exact h3
def KIdx(W:World)(m:Nat)(ys:List IdR):Prop:=∃ es clock,W.heap[m]?=some (.map es clock)/\es.toList.map (·.key)=ys.map idV/\es.toList.map (·.val)=(List.range ys.length).map (fun(i:Nat)=>vI (i:Int))
theorem KIdx.at{W W':World}{m:Nat}{ys:List IdR}(h:KIdx W m ys)(hb:W'.heap[m]?=W.heap[m]?):KIdx W' m ys:=by
 obtain⟨es,clock,h1,h2⟩:=h;exact⟨es,clock,hb.trans h1,h2⟩
theorem KIdx.lt{W:World}{m:Nat}{ys:List IdR}(h:KIdx W m ys):m<W.heap.size:=by
 obtain⟨es,clock,h1,_⟩:=h;exact(zk.1 h1).1
theorem KIdx.put{W:World}{m:Nat}{ys:List IdR}{t et:TypeId}(h:KIdx W m ys)(hu:Tryz.prog.underlying t=some (.map 27 et))(hf:∀ y∈ys,y.fits)(x:IdR)(hx:x.fits)(hn:x∉ys)(k:Nat)(hk:ys.length=k) :
  ∃ W',(Instr.mapUpdate t (.map (some m)) (idV x) (vI (k:Int))).run Tryz.prog W=.ok () W'/\KIdx W' m (ys++[x])/\Only m W W':=by
 obtain⟨es,clock,h1,h2,h3⟩:=h;obtain⟨l,hl⟩:=nM x hx;have hc:=tA.check W false hl;rcases KMap.find (W:=W) h2 hf x hx with⟨g1,g2⟩|⟨g1,_⟩
 ·have hlt:=(zk.1 h1).1;refine⟨{ W with heap:=W.heap.setIfInBounds m (.map (es.push { key:=idV x,val:=vI (k:Int),born:=clock }) (clock+1)) },?_,⟨es.push { key:=idV x,val:=vI (k:Int),born:=clock },clock+1,?_,?_,?_⟩,⟨rfl,rfl,rfl,by simp,fun k hk=>by simp[Ne.symm hk]⟩⟩
  ·simp[Instr.mapUpdate,run_underlying hu,MapKept.run_getObj_map h1,hc,g2,MapKept.run_setObj_map _ h1,Result.andThen]
  ·simp[hlt]
  ·simp[h2]
  rw[yl,List.length_singleton,List.range_succ,List.map_append,<- h3,hk];simp
 exact absurd g1 hn
theorem KIdx.look{W:World}{m:Nat}{ys:List IdR}{t:TypeId}(h:KIdx W m ys)(hu:Tryz.prog.underlying t=some (.map 27 3))(hf:∀ y∈ys,y.fits)(x:IdR)(hx:x.fits) :
  (x∉ys/\(Instr.lookup t (.map (some m)) (idV x) true).run Tryz.prog W=.ok (.tuple #[vI 0,.bool false]) W)\/(∃ k:Nat,∃ hk:k<ys.length,ys[k]=x/\(Instr.lookup t (.map (some m)) (idV x) true).run Tryz.prog W=.ok (.tuple #[vI (k:Int),.bool true]) W):=by
 obtain⟨es,clock,h1,h2,h3⟩:=h;obtain⟨l,hl⟩:=nM x hx;have hc:=tA.check W es.isEmpty hl;have hz:(zeroValue 3).run Tryz.prog W=.ok (vI 0) W:=by kernel_rfl
 have hlen:es.toList.length=ys.length:=by have:=congrArg List.length h2;simpa using this
 rcases tA.find W hl es.toList (wD h2 hf) with⟨g1,g2⟩|⟨j,e,g1,g2,g3⟩
 ·refine .inl ⟨fun hxy=>?_,?_⟩
  ·have hm:idV x∈es.toList.map (·.key):=by rw[h2];exact yj.2 ⟨x,hxy,rfl⟩
   obtain⟨e,he,e1⟩:=yj.1 hm;exact g2 e he e1
  simp[Instr.lookup,run_underlying hu,MapKept.run_getObj_map h1,hc,g1,hz,Result.andThen]
 have hj:j<ys.length:=by rw[<- hlen];exact(List.getElem?_eq_some_iff.1 g2).1
 have hkey:ys[j]=x:=by
  have e1:(es.toList.map (·.key))[j]?=some e.key:=by rw[List.getElem?_map,g2];rfl
  rw[h2,List.getElem?_map,List.getElem?_eq_getElem hj]at e1;exact uCR ((Option.some.inj e1).trans g3)
 have hval:e.val=vI (j:Int):=by
  have e1:(es.toList.map (·.val))[j]?=some e.val:=by rw[List.getElem?_map,g2];rfl
  rw[h3,List.getElem?_map,List.getElem?_range hj]at e1;exact(Option.some.inj e1).symm
 refine .inr ⟨j,hj,hkey,?_⟩;simp[Instr.lookup,run_underlying hu,MapKept.run_getObj_map h1,hc,g1,Result.andThen,hval]
def Aheads(ids:List IdR)(fl:List Bool)(k:Nat)(cs:Array Value):Prop:=∀ j,j<k->cs[j]?=some (vI ((aN (ids.take j) (fl.take j)).length:Int))
theorem Aheads.put{ids:List IdR}{fl:List Bool}{k m:Nat}{cs:Array Value}(h:Aheads ids fl k cs)(hk:k<cs.size)(hm:(aN (ids.take k) (fl.take k)).length=m):Aheads ids fl (k+1) (cs.setIfInBounds k (vI (m:Int))):=fun j hj=>by
 rcases Nat.lt_or_ge j k with h1|h1
 ·rw[Array.getElem?_setIfInBounds_ne (by omega)];exact h j h1
 obtain rfl:j=k:=by omega
 rw[Array.getElem?_setIfInBounds_self_of_lt hk,hm]
structure AxFull(b base:Nat)(ids:List IdR)(fl:List Bool)(W:World):Prop where
 ex:∃ v1 v2 v4 m ga cs,Lies W b 152 #[v1,v2,.map (some m),.slice (some ⟨ga,0,none⟩) ids.length ids.length,v4]/\(∃ b1,W.ownsRow b1 27 2 v1 ids.length (aJ ids))/\(∃ b2,W.ownsRow b2 4 1 v2 fl.length (dD fl))/\KIdx W m ids/\Lies W ga 3 cs/\cs.size=ids.length/\Aheads ids fl ids.length cs/\W.ownsRow base 27 2 v4 (aN ids fl).length (aJ (aN ids fl))
theorem uF(b base:Nat)(ids:List IdR)(fl:List Bool)(v1 v2:Value)(w:World)(hR:AxRaw b base ids fl v1 v2 w)(hl:ids.length=fl.length)(hn:ids.length<=300)(hf:∀ y∈ids,y.fits)(hd:ids.Nodup) :
  Calls Tryz.prog 88 #[vP b 0] w fun e w'=>e=.returned (.tuple #[])/\AxFull b w.heap.size ids fl w'/\Kp [b] w w':=by
 have un:=mk_map;have hnq:=neq_nil;have hms:=fun w=>mk_ints ids.length hn w
 have HF:=zh hf;have HD:=zh hd;have HR:=zh hR;obtain⟨A1,bw,rfl⟩:=aZ hR.r1;obtain⟨A2,cy,rfl⟩:=aZ hR.r2;rw[<- hl]at HR;obtain⟨n,ev⟩:=zD ids.length
 have HN:=zh ev;have HLf:=zh hl;rw[<- ev]at hn HR hms;have a0:=HR.out.ax.cell 0;have a2:=HR.out.ax.cell 2;have f2:=HR.out.ax.frozen 2;simp only[za,zb,zf]at a0 a2;have hbs:=HR.out.ax.lt;clear hf hd hR ev hl
 go_in
 go_upto_region 2 with fail
 obtain⟨W1,am⟩:∃ W1,W1=(w.setCell ⟨b,2,none⟩ (.map (some w.heap.size))).alloc (.map #[] 0):=⟨_,rfl⟩
 have zw:Hid (Lies W1 b 152 #[.slice A1 n bw,.slice A2 n cy,.map (some w.heap.size),.slice none 0 0,.slice none 0 0]):=zh (by rw[am];exact(HR.out.ax.put 2 _).alloc _);have zo:Hid (Kp [b] w W1):=zh (by rw[am];exact((Kp.refl _ w).set (.inl (.head _)) 2 _).alloc _);have HM1:Hid (KIdx W1 w.heap.size []):=zh (by
  rw[am];refine⟨#[],0,?_,rfl,rfl⟩;have h:=heap_alloc_new (w.setCell ⟨b,2,none⟩ (.map (some w.heap.size))) (.map #[] 0);rw[World.size_setCell]at h;exact h)
 have gu:W1.heap.size=w.heap.size+1:=by rw[am,World.size_alloc,World.size_setCell]
 rw[<- am];clear am a0 a2 f2;have a0:=zw.out.cell 0;have a3:=zw.out.cell 3;have f3:=zw.out.frozen 3;simp only[za,zb,zf]at a0 a3;have hbs1:b<W1.heap.size:=zw.out.lt
 go_upto_region 3 with fail
 obtain⟨W2,fe⟩:∃ W2,W2=(W1.setCell ⟨b,3,none⟩ (.slice (some ⟨w.heap.size+1,0,none⟩) n n)).alloc (.cells (madeCells #[vI 0] n) 3):=⟨_,rfl⟩
 have ql:Hid (Lies W2 b 152 #[.slice A1 n bw,.slice A2 n cy,.map (some w.heap.size),.slice (some ⟨w.heap.size+1,0,none⟩) n n,.slice none 0 0]):=zh (by rw[fe];exact(zw.out.put 3 _).alloc _);have ep:Hid (Kp [b] w W2):=zh (by rw[fe];exact(zo.out.set (.inl (.head _)) 3 _).alloc _);have ju:Hid (KIdx W2 w.heap.size []):=zh (by
  rw[fe];exact(HM1.out.at (Below.heap_setCell _ _ _ _ (by show w.heap.size≠b;omega))).at (Below.heap_alloc _ _ _ (by rw[World.size_setCell,gu];omega)))
 have HA2:Hid (∃ cs:Array Value,Lies W2 (w.heap.size+1) 3 cs/\cs.size=n/\Aheads ids fl 0 cs):=zh (by
  rw[fe];refine⟨madeCells #[vI 0] n,?_,by simp[madeCells],fun j hj=>absurd hj (Nat.not_lt_zero _)⟩;have h:=Lies.new (W1.setCell ⟨b,3,none⟩ (.slice (some ⟨w.heap.size+1,0,none⟩) n n)) 3 (madeCells #[vI 0] n);rw[World.size_setCell,gu]at h;exact h)
 have jl:Hid (w.heap.size+2<=W2.heap.size):=zh (by rw[fe,World.size_alloc,World.size_setCell,gu];omega);rw[<- fe];clear fe a0 a3 f3 zw zo HM1 gu hbs1;have zx:Hid (∀ wx,Kp [b] w wx->∀ k (h:k<ids.length),∃ g,A1=some ⟨g,0,none⟩/\wx.cell? ⟨g,k*2,none⟩=some (vI ids[k].a)/\wx.cell? ⟨g,k*2+1,none⟩=some (vI ids[k].n)):=zh (fun wx hk k h=>by
  have hr:=HR.out.r1;rw[HN.out]at hr;obtain⟨g,cap,e,_,bi⟩:=own_ids hr (by omega);have lg:g∉[b]:=fun hm=>by
   have e2:g=b:=by simpa using hm
   exact aY (by decide) HR.out.r1 HR.out.ax (by injection e with e;rw[e,e2];rfl)
  obtain⟨q0,q1⟩:=bi.2 k h;rw[Nat.zero_add]at q0 q1;exact⟨g,by injection e,(hk.cell bi.1 lg).trans q0,(hk.cell bi.1 lg).trans q1⟩)
 have HRl:Hid (∀ wx,Kp [b] w wx->∀ k (h:k<fl.length),∃ g,A2=some ⟨g,0,none⟩/\wx.cell? ⟨g,k,none⟩=some (.bool fl[k])):=zh (fun wx hk k h=>by
  obtain⟨g,cap,e,_,hg,bi⟩:=fB HR.out.r2 (by omega);have lg:g∉[b]:=fun hm=>by
   have e2:g=b:=by simpa using hm
   exact aY (by decide) HR.out.r2 HR.out.ax (by injection e with e;rw[e,e2];rfl)
  exact⟨g,by injection e,(hk.cell hg lg).trans (bi k _ (by simp[dD,h]))⟩)
 have a0:=ql.out.cell 0;simp only[za,zb]at a0;have hbs2:b<W2.heap.size:=ql.out.lt
 go_upto_region 4 with fail
 clear a0 hbs2
 go_loopw [32] (fun v32 wx=>∃ (k:Nat) (v4:Value),v32=vI (k:Int)/\k<=n/\Hid (Lies wx b 152 #[.slice A1 n bw,.slice A2 n cy,.map (some w.heap.size),.slice (some ⟨w.heap.size+1,0,none⟩) n n,v4])/\Hid (KIdx wx w.heap.size (ids.take k))/\Hid (∃ cs:Array Value,Lies wx (w.heap.size+1) 3 cs/\cs.size=n/\Aheads ids fl k cs)/\Hid (wx.ownsRow (w.heap.size+2) 27 2 v4 (aN (ids.take k) (fl.take k)).length (aJ (aN (ids.take k) (fl.take k))))/\Hid (Kp [b] w wx)/\Hid (w.heap.size+2<=wx.heap.size)) (fun v32 _=>n-(intOf v32).toNat)
 case atStart=>exact⟨0,_,rfl,zm _,ql,ju,HA2,zh ⟨rfl,.inl ⟨rfl,rfl⟩⟩,ep,jl⟩
 case round=>
  obtain⟨k,v4,rfl,hk,hX,hM,hA,hO,hK,hZ⟩:=hrel;clear ql ju HA2 ep jl;generalize oo:w.heap.size=q at *;have HQ:=zh oo;clear oo;by_cases hlt:k<n
  ·have ii:k<ids.length:=by rw[<- HN.out];exact hlt
   have uv:k<fl.length:=by rw[<- HLf.out];exact ii
   obtain⟨gi,rfl,d0,d1⟩:=zx.out wr hK.out k ii;obtain⟨gl,rfl,d2⟩:=HRl.out wr hK.out k uv;have D2:Hid (∀ wx,Kp [b] w wx->wx.cell? ⟨gl,k,none⟩=some (.bool fl[k])):=zh (fun wx h=>by
    obtain⟨g,e,hc⟩:=HRl.out wx h k uv;injection e with e;injection e with e;rw[e];exact hc)
   clear d2;have hxf:=HF.out _ (List.getElem_mem ii);have oq:=zh (fun y (hy:y∈ids.take k)=>HF.out y (List.mem_of_mem_take hy));have uq:=zh (wJ ids fl k HLf.out ii);have HTk:=zh (yw ii);have wn:ids[k]∉ids.take k:=fun hm=>by
    obtain⟨j,hj,e⟩:=List.getElem_of_mem hm;rw[zc]at hj;rw[List.getElem_take]at e;have:=(List.getElem_inj HD.out).1 e;omega
   have hml:(aN (ids.take k) (fl.take k)).length<=k:=yv (eU _ _) (by rw[zc];omega);generalize ids[k]=x at *;generalize fl[k]=fk at *;have HTL:Hid ((ids.take k).length=k):=zh (by rw[zc];omega);generalize pf:ids.take k=acc at *;generalize lh:aN acc (fl.take k)=lv at *;generalize mg:ids.take (k+1)=acc' at *;generalize hlv2:aN acc' (fl.take (k+1))=lv' at *;have i6:=zh mg;have HAcc:=zh (And.intro pf lh);have wo:=zh hlv2;clear mg pf lh hlv2;obtain⟨xa,xn⟩:=x;dsimp only at d0 d1;obtain⟨A4,ij,rfl⟩:=aZ hO.out;generalize hle:lv.length=m at *
   go_upto_region 6 with fail
   have hX3:=zh (hX.out.next ((Below.refl _ wr).alloc zr (.cells #[vI xa,vI xn] 27)));have ph:=zh (hM.out.at (Below.heap_alloc wr (.cells #[vI xa,vI xn] 27) q hM.out.lt));have hA3:Hid (∃ cs:Array Value,Lies (wr.alloc (.cells #[vI xa,vI xn] 27)) (q+1) 3 cs/\cs.size=n/\Aheads ids fl k cs):=zh (by
    obtain⟨cs,h1,h2⟩:=hA.out;exact⟨cs,h1.next ((Below.refl _ wr).alloc zr _),h2⟩)
   have hO3:=zh (World.ownsRow.alloc hO.out (.cells #[vI xa,vI xn] 27));have v9:=zh (hK.out.alloc (.cells #[vI xa,vI xn] 27));have tf:=zh (Lies.new wr 27 #[vI xa,vI xn]);have ou:b<wr.heap.size:=hX.out.lt;have hbq:q+2<=wr.heap.size:=hZ.out;have wb:Hid (∀ g,(Value.slice A4 m ij).ownBlock=some g->g<wr.heap.size):=zh (fun g hg=>(bR hO.out g hg).2);have wa:Hid (wr.heap.size<(wr.alloc (.cells #[vI xa,vI xn] 27)).heap.size):=zh (by rw[World.size_alloc];omega);generalize wr.alloc (.cells #[vI xa,vI xn] 27)=W3 at *;generalize wr.heap.size=bx at *;clear d0 d1 hX hM hA hO hK hZ;have c2:=hX3.out.cell 2;have b0:=tf.out.cell 0;have b1:=tf.out.cell 1;simp only[za,zb,zf]at c2 b0 b1
   obtain⟨W4,az,uw,q9⟩:=(ph.out.at (rfl:W3.drew.heap[q]?=W3.heap[q]?)).put (t:=149) (et:=3) Tryz.underlying149 oq.out ⟨xa,xn⟩ hxf wn k HTL.out;dsimp only[idV]at az
   go_cut [42] (fun v42 wx=>Hid (wx=W4))
   case first=>
    go_region
    all_goals go_wp2_with fail
    all_goals go_meet
    all_goals exact zh rfl
   case rest=>
   obtain rfl:W4=wc:=hcut.out.symm;have m9:=q9.kp;have hqb:q≠b:=by
    intro e;have h1:=hX3.out;obtain⟨es,ck,h2,_⟩:=ph.out;unfold Lies at h1;rw[e,h1]at h2;cases h2
   have ur:=zh (m9.lies (hX3.out.next (Below.refl _ W3).drew) (by simp;omega));have hL4:=zh (m9.lies (tf.out.next (Below.refl _ W3).drew) (by simp;omega));have hA4:Hid (∃ cs:Array Value,Lies W4 (q+1) 3 cs/\cs.size=n/\Aheads ids fl k cs):=zh (by
    obtain⟨cs,h1,h2⟩:=hA3.out;exact⟨cs,m9.lies (h1.next (Below.refl _ W3).drew) (by simp),h2⟩)
   have hO4:=zh (bN (aI (Below.refl _ W3).drew hO3.out) m9 (fun g hg=>by have:=(bR hO3.out g hg).1;simp;omega));have hK4:=zh (v9.out.drew.andThen m9 (fun g hg=>.inr (by rw[HQ.out];simp at hg;omega)));have HM4:=zh uw;have zy:W4.heap.size=W3.heap.size:=q9.size;clear az uw q9 m9 hX3 ph hA3 hO3 v9 tf c2 b0 b1;obtain⟨cs,ed,nh,hca⟩:=hA4.out;have hkc:k<cs.size:=by omega
   have e0:W4.cell? ⟨q+1,k,none⟩=some cs[k]:=by rw[ed.cell,Array.getElem?_eq_getElem hkc]
   have e1:=ed.frozen k;generalize cs[k]=u0 at e0;have c3:=ur.out.cell 3;have c4:=ur.out.cell 4;simp only[za,zb,zf]at c3 c4;have HC:=zh ed;have pm:=zh nh;have HCa:=zh (hca.put (m:=m) (by omega) (by rw[HAcc.out.1,HAcc.out.2];exact hle));clear ed nh hkc hA4 hca
   go_upto_region 7 with fail
   obtain⟨W5,ee⟩:=zD (W4.drew.setCell ⟨q+1,k,none⟩ (vI (m:Int)))
   go_cut [54] (fun v54 wx=>Hid (wx=W5))
   case first=>
    go_region
    all_goals go_wp2_with fail
    all_goals go_meet
    all_goals exact zh ee.symm
   case rest=>
   obtain rfl:W5=wc:=hcut.out.symm;have hq1b:q+1≠b:=by
    intro e;have h1:=ur.out;have h2:=HC.out;unfold Lies at h1 h2;rw[e,h1]at h2;injection h2 with h2;injection h2 with _ h2 _;exact absurd h2 (by decide)
   have hX5:Hid (Lies W5 b 152 #[.slice (some ⟨gi,0,none⟩) n bw,.slice (some ⟨gl,0,none⟩) n cy,.map (some q),.slice (some ⟨q+1,0,none⟩) n n,.slice A4 m ij]):=zh (by rw[ee];exact(aC (ur.out.next (Below.refl _ W4).drew) (Ne.symm hq1b) k _));have hL5:Hid (Lies W5 bx 27 #[vI xa,vI xn]):=zh (by rw[ee];exact(aC (hL4.out.next (Below.refl _ W4).drew) (by omega) k _));have hA5:Hid (∃ cs:Array Value,Lies W5 (q+1) 3 cs/\cs.size=n/\Aheads ids fl (k+1) cs):=zh (by
    rw[ee];exact⟨_,(HC.out.next (Below.refl _ W4).drew).put k _,by rw[Array.size_setIfInBounds];exact pm.out,HCa.out⟩)
   have zz:Hid (W5.ownsRow (q+2) 27 2 (.slice A4 m ij) m (aJ lv)):=zh (by rw[ee];exact kF (by decide) (aI (Below.refl _ W4).drew hO4.out) (HC.out.next (Below.refl _ W4).drew) k _);have hM5:=zh (show KIdx W5 q (acc++[⟨xa,xn⟩]) by rw[ee];exact HM4.out.at (Below.heap_setCell _ _ _ _ (by show q≠q+1;omega)));have hK5:Hid (Kp [b] w W5):=zh (by rw[ee];exact hK4.out.drew.set (.inr (by rw[HQ.out];omega)) k _);have hZ5:Hid (bx<W5.heap.size):=zh (by rw[ee,World.size_setCell];show bx<W4.heap.size;rw[zy];exact wa.out);clear ee e0 e1 c3 c4 HC pm HCa ur hL4 hO4 HM4 hK4 zy wa;have c1:=hX5.out.cell 1;have d2:=D2.out W5 hK5.out;simp only[za,zb,zf]at c1;have lh:lv'=lv++(if fk then [⟨xa,xn⟩] else []):=wo.out ▸ uq.out;have hac:acc'=acc++[⟨xa,xn⟩]:=HTk.out;cases fk
   ·go_wp2_with fail
    go_roundw
    case rel=>
     refine⟨k+1,.slice A4 m ij,by go_num,by omega,hX5,?_,hA5,?_,hK5,zh (by have:=hZ5.out;omega)⟩
     ·rw[i6.out,hac];exact hM5
     rw[i6.out,wo.out,lh];simp only[Bool.false_eq_true,if_false,List.append_nil,hle];exact zz
    case measure=>simp[intOf];omega
   go_upto_region 9 with fail
   clear c1 d2;have HY:Hid (∀ g,(Value.slice A4 m ij).ownBlock=some g->g∈b::(Value.slice A4 m ij).ownBlock.toList):=zh (fun g hg=>by rw[hg];simp);have bd:bx≠b:=by omega
   have ut:Hid (bx∉b::(Value.slice A4 m ij).ownBlock.toList):=zh (fun h=>by
    rcases ym.1 h with h|h
    ·exact bd h
    have:=wb.out bx (by simpa using h);omega)
   obtain⟨TT,ae⟩:∃ TT:List (Nat×Nat×Value),TT=[(0,61,vP b 0),(1,62,vP b 0),(2,63,vP b 0),(3,64,vP b 4),(4,65,.slice A4 m ij),(5,66,.agg #[vI xa,vI xn]),(8,69,vP b 0),(9,70,vP b 4)]:=⟨_,rfl⟩
   have aq:=zh ae;clear ae;refine eN (by kernel_rfl) (by kernel_rfl) (fun a0=>72<=a0.tmps.size/\a0.eval (.tmp 0)=vP b 0/\a0.eval (.tmp 3)=vP bx 0) (GA [61,62,63,64,65,66,67,68,69,70] TT (b::(Value.slice A4 m ij).ownBlock.toList) W5 4 6 67 7 68 10 b 4 27 152 #[.slice (some ⟨gi,0,none⟩) n bw,.slice (some ⟨gl,0,none⟩) n cy,.map (some q),.slice (some ⟨q+1,0,none⟩) n n,.slice A4 m ij] (q+2) 2 m (.slice A4 m ij) (aJ lv) [vI xa,vI xn]) ⟨by simp,rfl,rfl⟩ (GA.start _ _ (Kp.refl _ _).drew zz.out hX5.out) ?_ ?_
   ·rintro a0 ⟨hs,de,jt⟩ zl a1 w1 j o ap hI ag ho zd;have ae:=aq.out;subst ae;have hk:GAk [61,62,63,64,65,66,67,68,69,70] [(0,61,vP b 0),(1,62,vP b 0),(2,63,vP b 0),(3,64,vP b 4),(4,65,.slice A4 m ij),(5,66,.agg #[vI xa,vI xn]),(8,69,vP b 0),(9,70,vP b 4)] (b::(Value.slice A4 m ij).ownBlock.toList) 6 67 7 68 10 b 27 152 (.slice A4 m ij) 72:=⟨rfl,by decide,HY.out,.head _⟩
    have hj:=Up.of_false ag;have hj12:j<11:=by rw[ap]at hj;exact hj
    have e0x:a1.eval (.tmp 0)=vP b 0:=(hI.off.eval (by decide)).trans de;have e3x:a1.eval (.tmp 3)=vP bx 0:=(hI.off.eval (by decide)).trans jt;rcases(by omega:j=0\/j=1\/j=2\/j=3\/j=4\/j=5\/j=6\/j=7\/j=8\/j=9\/j=10) with rfl|rfl|rfl|rfl|rfl|rfl|rfl|rfl|rfl|rfl|rfl<;>obtain rfl:=oi ho
    ·exact bH hk hI hs (.head _) ag ho rfl rfl (by simp[execOp,go_sem,bQ e0x])
    ·exact bH hk hI hs (.tail _ (.head _)) ag ho rfl rfl (by simp[execOp,go_sem,bQ e0x])
    ·have d1:=ud zd 1;have p1:=pk hI.pt 1 rfl d1;exact bH hk hI hs (mm 2 rfl) ag ho rfl rfl (by simp[execOp,go_sem,bQ p1])
    ·have d2:=ud zd 2;have p2:=pk hI.pt 2 rfl d2;exact bH hk hI hs (mm 3 rfl) ag ho rfl rfl (by simp[execOp,go_sem,bQ p2])
    ·have d3:=ud zd 3;have p3:=pk hI.pt 3 rfl d3;have c0:=(hI.unl ag).cell 4;simp only[za,zb,zf]at c0;exact bH hk hI hs (mm 4 rfl) ag ho rfl rfl (by simp[execOp,go_sem,bQ p3,c0])
    ·have hLb:=hI.kp.lies hL5.out ut.out;have l0:=hLb.cell 0;have l1:=hLb.cell 1;simp only[za,zb,zf]at l0 l1;exact bH hk hI hs (mm 5 rfl) ag ho rfl rfl (by simp[execOp,go_sem,bQ e3x,l0,l1])
    ·have d5:=ud zd 5;have p5:=pk hI.pt 5 rfl d5;exact qM hk hI hs ag ho rfl rfl (by simp[execOp,go_sem,bQ p5])
    ·have d4:=ud zd 4;have p4:=pk hI.pt 4 rfl d4;have d6:=ud zd 6;obtain⟨i1,gi,gz0,gz1,gz2⟩:=info_parts uS;exact zK hk hI hs ag ho rfl rfl d4 d6 35 65 rfl p4 i1 (.agg #[vI 0,vI 0]) 16 Tryz.underlying35 gi gz0 gz1 gz2 rfl (by decide) rfl (by intro u hu;simp at hu;rcases hu with rfl|rfl <;> rfl) (by unfold maxLen;omega) (by omega) (by have:=hZ5.out;have:=hI.kp.size;omega)
    ·have d0:=ud zd 0;have p0:=pk hI.pt 0 rfl d0;exact bH hk hI hs (mm 6 rfl) ag ho rfl rfl (by simp[execOp,go_sem,bQ p0])
    ·have d8:=ud zd 8;have p8:=pk hI.pt 6 rfl d8;exact bH hk hI hs (mm 7 rfl) ag ho rfl rfl (by simp[execOp,go_sem,bQ p8])
    have d9:=ud zd 9;have p9:=pk hI.pt 7 rfl d9;have d7:=ud zd 7;exact qN hk hI ag ho rfl rfl d7 (fun hL jp=>by
     obtain⟨gs,cs,jp⟩:=jp;have c0:=hL.cell 4;have k0:=hL.frozen 4;simp at c0;rw[jp];simp[execOp,go_sem,bQ p9,bQ jp,c0,k0])
   intro zl a1 w1 hI az;have ae:=aq.out;subst ae;have i7:=hI.kp;have aw:=hI.o2 (az 7 (by decide));have i8:=(hI.b2 (az 10 (by decide))).2;obtain⟨ff,rfl,hf⟩:=hI.off.forms;rw[<- hf 68]at aw i8;clear hI;generalize ff 68=v' at *;simp only[List.foldl,Act.put,yz,List.set];have pj:=zh i8;have fu:=zh aw;have tj:=zh i7;obtain⟨A4',cap4',hv4⟩:=aZ aw;clear i8 aw i7 az aq;have hA6:Hid (∃ cs:Array Value,Lies w1 (q+1) 3 cs/\cs.size=n/\Aheads ids fl (k+1) cs):=zh (by
    obtain⟨cs,h1,h2⟩:=hA5.out;refine⟨cs,tj.out.lies h1 (fun hm=>?_),h2⟩;rcases ym.1 hm with h|h
    ·exact hq1b h
    have:=(bR zz.out (q+1) (by simpa using h)).1;omega)
   have hM6:=zh (hM5.out.at (tj.out.block q hM5.out.lt (fun hm=>by
    rcases ym.1 hm with h|h
    ·exact hqb h
    have:=(bR zz.out q (by simpa using h)).1;omega)))
   have hK6:=zh (hK5.out.andThen tj.out (fun g hg=>by
    rcases ym.1 hg with h|h
    ·exact .inl (by rw[h];exact .head _)
    have:=(bR zz.out g (by simpa using h)).1;exact .inr (by rw[HQ.out];omega)))
   have hZ6:Hid (q+2<=w1.heap.size):=zh (by have:=hZ5.out;have:=tj.out.size;omega);clear tj hX5 zz hA5 hM5 hK5 HY ut hL5
   go_wp2_with fail
   go_roundw
   case rel=>
    refine⟨k+1,v',by go_num,by omega,pj,?_,hA6,?_,hK6,hZ6⟩
    ·rw[i6.out,hac];exact hM6
    rw[i6.out,wo.out,lh];simp only[if_true,yl,yi,List.length_nil,Nat.zero_add,hle,iQ];exact fu
   case measure=>simp[intOf];omega
  obtain rfl:k=n:=by omega
  have e1:ids.take k=ids:=by rw[HN.out,List.take_length]
  have e2:fl.take k=fl:=by rw[HN.out,HLf.out,List.take_length]
  rw[e1,e2]at hO;rw[e1]at hM;have HO:=zh hO.out;clear hO e1 e2
  go_wp2_with fail
  go_end0
  obtain⟨cs,ed,nh,hca⟩:=hA.out;have gw:wr.ownsRow base 27 2 (.slice A1 k bw) k (aJ ids):=by
   have h1:=HR.out.r1;rw[<- HN.out]at h1;exact bN h1 hK.out (fun g hg hm=>aY (by decide) HR.out.r1 HR.out.ax (by rw[hg];simp at hm;rw[hm]))
  have j4:wr.ownsRow base 4 1 (.slice A2 k cy) k (dD fl):=by
   have h1:=HR.out.r2;rw[<- HLf.out,<- HN.out]at h1;exact bN h1 hK.out (fun g hg hm=>aY (by decide) HR.out.r2 HR.out.ax (by rw[hg];simp at hm;rw[hm]))
  refine⟨rfl,⟨_,_,_,_,_,cs,?_,⟨_,by rw[<- HN.out];exact gw⟩,⟨_,by rw[<- HLf.out,<- HN.out];exact j4⟩,hM.out,ed,?_,?_,lP HO.out (by rw[HQ.out];omega)⟩,hK.out⟩
  ·rw[<- HN.out];exact hX.out
  ·rw[<- HN.out];exact nh
  rw[<- HN.out];exact hca
def gF(x:IdR):Nat->List IdR->Int
 |_,[]=>-1
 |i,y::r=>if y=x then (i:Int) else gF x (i+1) r
def bG(l:List IdR)(x:IdR):Int:=gF x 0 l
theorem iA(x:IdR):∀ (l:List IdR) (i k:Nat),x∉l.take k->l[k]?=some x->gF x i l=((i+k:Nat):Int)
 | [],_,_,_,h=>by simp at h
 |y::r,i,0,_,h=>by
  simp at h;unfold gF;rw[if_pos h];rfl
 |y::r,i,k+1,hn,h=>by
  rw[List.take_succ_cons,ym,not_or]at hn;unfold gF;rw[if_neg (fun e=>hn.1 e.symm),iA x r (i+1) k hn.2 (by simpa using h)]
  congr 1
  omega
theorem eW(x:IdR):∀ (l:List IdR) (i:Nat),x∉l->gF x i l=-1
 | [],_,_=>rfl
 |y::r,i,hn=>by
  rw[ym,not_or]at hn;unfold gF;rw[if_neg (fun e=>hn.1 e.symm),eW x r (i+1) hn.2]
theorem iB(x:IdR):∀ (l:List IdR) (i:Nat),x∈l->∃ k:Nat,gF x i l=((i+k:Nat):Int)/\l[k]?=some x
 | [],_,h=>by cases h
 |y::r,i,h=>by
  by_cases e:y=x
  ·exact⟨0,by unfold gF;rw[if_pos e];rfl,by simp[e]⟩
  obtain⟨k,h1,h2⟩:=iB x r (i+1) ((ym.1 h).resolve_left (fun e'=>e e'.symm));exact⟨k+1,by unfold gF;rw[if_neg e,h1];congr 1;omega,by simpa using h2⟩
theorem tI(l:List IdR)(x:IdR):(bG l x<0↔x∉l):=by
 by_cases h:x∈l
 ·obtain⟨k,h1,_⟩:=iB x l 0 h;unfold bG;rw[h1];exact⟨fun h'=>by omega,fun h'=>absurd h h'⟩
 unfold bG;rw[eW x l 0 h];exact⟨fun _=>h,fun _=>by decide⟩
abbrev AxV:=Option (List IdR×List Bool)
def bC:AxV->IdR->Int
 |none,_=>-1
 |some (l,f),x=>bG (aN l f) x
def aO:AxV->IdR->IdR->List IdR
 |none,_,_=>[]
 |some (l,f),a,b=>
  if bG l a<0\/bG l b<0 then [] else
  let x:=(min (bG l a) (bG l b)).toNat
  let y:=(max (bG l a) (bG l b)).toNat
  aN ((l.drop x).take (y+1-x)) ((f.drop x).take (y+1-x))
def fV:AxV->IdR->IdR->Bool
 |none,_,_=>false
 |some (l,_),a,b=>decide (bG l b<bG l a)
def dG(A:AxV)(a b:IdR):Option (Int×Int):=match aO A a b with
 | []=>none
 |x::r=>
  let p:=bC A x
  let q:=bC A ((x::r).getLast (by simp))
  if fV A a b then some (q,p) else some (p,q)
inductive Say where
 |plain
 |seen (row col:Nat)
abbrev tk(k:Int)(s:Bs):RTok:=⟨k,s,0⟩
def lC(place from':Nat)(fix:Bool):Bs:=if fix then Lib.decDigits (place+1) else if place=from' then [] else 91::(Lib.itoa ((place:Int)-(from':Int))++[93])
def eJ(v:Say)(row col:Nat)(fr fc:Bool):RTok:=match v with
 | .plain=>tk 4 (mJ row col fr fc)
 | .seen r c=>tk 3 (82::(lC row r fr++67::lC col c fc))
def gI(v:Say)(row:Nat)(fix:Bool):RTok:=match v with
 | .plain=>if fix then tk 4 (36::Lib.decDigits (row+1)) else tk 1 (Lib.decDigits (row+1))
 | .seen r _=>tk 3 (82::lC row r fix)
def gH(v:Say)(col:Nat)(fix:Bool):RTok:=match v with
 | .plain=>if fix then tk 4 (36::dY (col+1)) else tk 3 (dY (col+1))
 | .seen _ c=>tk 3 (67::lC col c fix)
def dS:List RTok:=[tk 6 [35,82,69,70,33]]
def gZ(v:Say)(R C:AxV)(h:NodeH):List RTok :=
 if bC R h.a.row<0\/bC C h.a.col<0 then dS
 else eJ v (bC R h.a.row).toNat (bC C h.a.col).toNat h.a.fr h.a.fc::(if h.kind=3 then [tk 5 [35]] else [])
def jD(v:Say)(R C:AxV)(a b:Cor):List RTok :=
 if a.row=id0 then match dG C a.col b.col with
  |none=>dS
  |some (x,y)=>[gH v x.toNat a.fc,tk 5 [58],gH v y.toNat b.fc]
 else if a.col=id0 then match dG R a.row b.row with
  |none=>dS
  |some (x,y)=>[gI v x.toNat a.fr,tk 5 [58],gI v y.toNat b.fr]
 else match dG R a.row b.row,dG C a.col b.col with
  |some (x,y),some (p,q)=>[eJ v x.toNat p.toNat a.fr a.fc,tk 5 [58],eJ v y.toNat q.toNat b.fr b.fc]
  |_,_=>dS
def kR(x:Val):List RTok :=
 if x.kind=1 then if x.mant<0 then [tk 5 [45],tk 1 (cF (-x.mant) x.exp)] else [tk 1 (cF x.mant x.exp)]
 else if x.kind=2 then [tk 2 x.text]
 else if x.kind=4 then [tk 6 (bA x.fault)]
 else [tk 3 (dW x).1]
def bS(s:Bs):Int:=if s=[38] then 2 else if s=[43]\/s=[45] then 3 else if s=[42]\/s=[47] then 4 else if s=[94] then 5 else 1
def eI(t:Tree):Int:=if t.h.kind=6 then bS t.h.name else if t.h.kind=5 then if t.h.name=[37] then 7 else 6 else 8
def wrapT(level least:Int)(ts:List RTok):List RTok:=if least<=level then ts else tk 5 [40]::(ts++[tk 5 [41]])
def bO:List (List RTok)->List RTok
 | []=>[]
 | [a]=>a
 |a::b::r=>a++tk 5 [44]::bO (b::r)
def cA(wide:Nat)(ts:List (List RTok)):Nat->List RTok
 |0=>[]
 |k+1=>cA wide ts k++tk 5 (if k=0 then [123] else [59])::bO ((ts.drop (k*wide)).take wide)
def dT(v:Say)(R C:AxV)(h:NodeH)(lv:List Int)(ts:List (List RTok)):List RTok :=
 if h.kind=0 then kR h.v
 else if h.kind=1\/h.kind=3 then gZ v R C h
 else if h.kind=2 then jD v R C h.a h.b
 else if h.kind=4 then tk 3 h.name::tk 5 [40]::(bO ts++[tk 5 [41]])
 else if h.kind=5 then
  if h.name=[37] then wrapT (lv.headD 0) 7 (ts.headD [])++[tk 5 h.name] else tk 5 h.name::wrapT (lv.headD 0) 6 (ts.headD [])
 else if h.kind=6 then wrapT (lv.headD 0) (bS h.name) (ts.headD [])++tk 5 h.name::wrapT (lv.tail.headD 0) (bS h.name+1) (ts.tail.headD [])
 else if h.kind=7 then [tk 3 h.name]
 else if h.kind=8 then cA (ts.length / h.rows.toNat) ts h.rows.toNat++[tk 5 [125]]
 else []
mutual
def Tree.toks(v:Say)(R C:AxV):Tree->List RTok
 | .mk h l=>dT v R C h (l.map eI) (bE v R C l)
def bE(v:Say)(R C:AxV):List Tree->List (List RTok)
 | []=>[]
 |t::r=>t.toks v R C::bE v R C r
end
def cZ(v:Say)(R C:AxV)(t:Tree):Bs:=if cI t≠0 then [] else dK none (t.toks v R C++[⟨0,[],0⟩])
theorem cW:∀ (l:List IdR) (fl:List Bool),∀ y∈aN l fl,y∈l
 | [],_,_,h=>by cases h
 |x::r,[],_,h=>by cases h
 |x::r,b::s,y,h=>by
  unfold aN at h
  split at h
  ·rcases ym.1 h with h|h
   ·exact h ▸ List.mem_cons_self
   exact zg _ (cW r s y h)
  exact zg _ (cW r s y h)
theorem kY:∀ (r1:List IdR) (s1:List Bool) (r2:List IdR) (s2:List Bool),r1.length=s1.length->aN (r1++r2) (s1++s2)=aN r1 s1++aN r2 s2
 | [],[],_,_,_=>by simp[aN]
 |x::r,b::s,r2,s2,h=>by
  have ih:=kY r s r2 s2 (by simpa using h);simp only[yp,aN];rw[ih];cases b <;> simp
 | [],_::_,_,_,h=>by simp at h
 |_::_,[],_,_,h=>by simp at h
theorem cN(ids:List IdR)(fl:List Bool)(k:Nat)(he:ids.length=fl.length):aN ids fl=aN (ids.take k) (fl.take k)++aN (ids.drop k) (fl.drop k):=by
 rw[<- kY _ _ _ _ (by simp[he]),List.take_append_drop,List.take_append_drop]
theorem tF{ids:List IdR}{fl:List Bool}{k:Nat}(he:ids.length=fl.length)(hk:k<ids.length):aN ids fl=aN (ids.take k) (fl.take k)++((if fl[k]'(by omega) then [ids[k]] else [])++aN (ids.drop (k+1)) (fl.drop (k+1))):=by
 rw[cN ids fl k he,yx hk,yx (by omega:k<fl.length)];rw[aN];cases fl[k]'(by omega) <;> simp
theorem lN{ids:List IdR}(hd:ids.Nodup){k:Nat}(hk:k<ids.length):ids[k]∉ids.take k:=fun hm=>by
 obtain⟨j,hj,e⟩:=List.getElem_of_mem hm;rw[zc]at hj;rw[List.getElem_take]at e;have:=(List.getElem_inj hd).1 e;omega
theorem uAC{ids:List IdR}(hd:ids.Nodup){k:Nat}(hk:k<ids.length):ids[k]∉ids.drop (k+1):=fun hm=>by
 obtain⟨j,hj,e⟩:=List.getElem_of_mem hm;rw[yk]at hj;rw[List.getElem_drop]at e;have:=(List.getElem_inj hd).1 e;omega
theorem iW{a b:List IdR}{x:IdR}(h:x∉a):bG (a++x::b) x=(a.length:Int):=by
 have h1:=iA x (a++x::b) 0 a.length (by simpa using h) (by simp);rw[Nat.zero_add]at h1;exact h1
theorem mL{l:List IdR}{x:IdR}(h:x∉l):bG l x=-1:=eW x l 0 h
theorem nQ{l:List IdR}(hd:l.Nodup){k:Nat}(hk:k<l.length):bG l l[k]=(k:Int):=by
 have h1:=iA l[k] l 0 k (lN hd hk) (by rw[List.getElem?_eq_getElem hk]);rw[Nat.zero_add]at h1;exact h1
theorem uAN{ids:List IdR}{fl:List Bool}(he:ids.length=fl.length)(hd:ids.Nodup){k:Nat}(hk:k<ids.length)(hl:fl[k]'(by omega)=true):bG (aN ids fl) ids[k]=((aN (ids.take k) (fl.take k)).length:Int):=by
 rw[tF he hk,hl,if_pos rfl,List.singleton_append];exact iW (fun hm=>lN hd hk (cW _ _ _ hm))
theorem uAM{ids:List IdR}{fl:List Bool}(he:ids.length=fl.length)(hd:ids.Nodup){k:Nat}(hk:k<ids.length)(hl:fl[k]'(by omega)=false):bG (aN ids fl) ids[k]=-1:=by
 refine mL (fun hm=>?_);rw[tF he hk,hl,if_neg (by decide),List.nil_append,List.mem_append]at hm;rcases hm with hm|hm
 ·exact lN hd hk (cW _ _ _ hm)
 exact uAC hd hk (cW _ _ _ hm)
theorem uAO{ids:List IdR}{fl:List Bool}{x:IdR}(h:x∉ids):bG (aN ids fl) x=-1:=mL (fun hm=>h (cW _ _ _ hm))
theorem live_mid{ids:List IdR}{fl:List Bool}(he:ids.length=fl.length){f l:Nat}(hf:f<=l)(_hl:l<ids.length) :
  ((aN ids fl).take (aN (ids.take (l+1)) (fl.take (l+1))).length).drop (aN (ids.take f) (fl.take f)).length=aN ((ids.drop f).take (l+1-f)) ((fl.drop f).take (l+1-f)):=by
 have h1:=cN ids fl (l+1) he;have h2:=cN (ids.take (l+1)) (fl.take (l+1)) f (by simp[he]);rw[List.take_take,List.take_take,Nat.min_eq_left (by omega)]at h2;rw[h1,List.take_left];rw[h2,List.drop_left,List.drop_take,List.drop_take]
theorem AxFull.next{b base:Nat}{ids:List IdR}{fl:List Bool}{W W':World}(h:AxFull b base ids fl W)(hb:Below W.heap.size W W'):AxFull b base ids fl W':=by
 obtain⟨v1,v2,v4,m,ga,cs,h1,⟨b1,h2⟩,⟨b2,h3⟩,h4,h5,h6,h7,h8⟩:=h.ex;exact⟨v1,v2,v4,m,ga,cs,h1.next hb,⟨b1,aI hb h2⟩,⟨b2,aI hb h3⟩,h4.at (hb.block _ h4.lt),h5.next hb,h6,h7,aI hb h8⟩
def NoAx(W:World)(Y:List Nat):Prop:=∀ y∈Y,y<W.heap.size->∃ t cs,Lies W y t cs/\t≠27/\t≠4/\t≠3/\t≠152
theorem fG{W:World}{b y:Nat}{t t':TypeId}{cs lm:Array Value}(h:Lies W b t cs)(h':Lies W y t' lm)(hn:t'≠t):b≠y:=fun e=>by
 unfold Lies at h h';rw[e,h']at h;injection h with h;injection h with _ h _;exact hn h
theorem NoAx.lies{W:World}{Y:List Nat}{b:Nat}{t:TypeId}{cs:Array Value}(hY:NoAx W Y)(h:Lies W b t cs)(ht:t=3\/t=152):b∉Y:=fun hm=>by
 obtain⟨t',lm,h1,h2,h3,h4,h5⟩:=hY b hm h.lt;refine fG h h1 ?_ rfl;rcases ht with rfl|rfl
 ·exact h4
 exact h5
theorem NoAx.own{W:World}{Y:List Nat}{b n sz:Nat}{te:TypeId}{v:Value}{xs:List Value}(hY:NoAx W Y)(h:W.ownsRow b te sz v n xs)(ht:te=27\/te=4):∀ g,v.ownBlock=some g->g∉Y:=fun g hg hm=>by
 have hlt:=(h.lt g hg).2;obtain⟨t',lm,h1,h2,h3,h4,h5⟩:=hY g hm hlt;rcases h.2 with⟨rfl,_⟩|⟨g1,cap,cur,rfl,_,hh,_⟩
 ·simp[Value.ownBlock]at hg
 simp[Value.ownBlock]at hg;subst hg;have h0:Lies W g1 te cur:=hh;refine fG h0 h1 ?_ rfl;rcases ht with rfl|rfl
 ·exact h2
 exact h3
theorem AxFull.kp{b base:Nat}{ids:List IdR}{fl:List Bool}{Y:List Nat}{W W':World}(h:AxFull b base ids fl W)(hk:Kp Y W W')(hY:NoAx W Y):AxFull b base ids fl W':=by
 obtain⟨v1,v2,v4,m,ga,cs,h1,⟨b1,h2⟩,⟨b2,h3⟩,h4,h5,h6,h7,h8⟩:=h.ex;refine⟨v1,v2,v4,m,ga,cs,hk.lies h1 (hY.lies h1 (.inr rfl)),⟨b1,bN h2 hk (hY.own h2 (.inl rfl))⟩,⟨b2,bN h3 hk (hY.own h3 (.inr rfl))⟩,h4.at (hk.block _ h4.lt (fun hm=>?_)),hk.lies h5 (hY.lies h5 (.inl rfl)),h6,h7,bN h8 hk (hY.own h8 (.inl rfl))⟩;obtain⟨t',lm,g1,_⟩:=hY m hm h4.lt;obtain⟨es,ck,g2,_⟩:=h4;unfold Lies at g1;rw[g1]at g2;cases g2
def AxF(W:World):Option Nat->AxV->Prop
 |none,none=>True
 |some b,some (ids,fl)=>ids.length=fl.length/\ids.length<=300/\(∀ y∈ids,y.fits)/\ids.Nodup/\((∃ base v1 v2,AxRaw b base ids fl v1 v2 W)\/(∃ base,AxFull b base ids fl W))
 |_,_=>False
theorem AxF.kp{W W':World}{p:Option Nat}{A:AxV}{Y:List Nat}(h:AxF W p A)(hk:Kp Y W W')(hY:NoAx W Y):AxF W' p A:=by
 match p,A,h with
 |none,none,_=>trivial
 |some b,some (ids,fl),⟨h1,h2,h3,h4,h5⟩=>
  refine⟨h1,h2,h3,h4,?_⟩;rcases h5 with⟨base,v1,v2,g⟩|⟨base,g⟩
  ·exact .inl ⟨base,v1,v2,hk.lies g.ax (hY.lies g.ax (.inr rfl)),bN g.r1 hk (hY.own g.r1 (.inl rfl)),bN g.r2 hk (hY.own g.r2 (.inr rfl))⟩
  exact .inr ⟨base,g.kp hk hY⟩
theorem AxF.next{W W':World}{p:Option Nat}{A:AxV}(h:AxF W p A)(hb:Below W.heap.size W W'):AxF W' p A:=h.kp (Kp.of_below (Y:=[]) hb) (fun y hy=>by cases hy)
theorem sG(b base:Nat)(ids:List IdR)(fl:List Bool)(w:World)(hR:AxFull b base ids fl w) :
  Calls Tryz.prog 88 #[vP b 0] w fun e w'=>e=.returned (.tuple #[])/\w'=w:=by
 obtain⟨v1,v2,v4,m,ga,cs,hx,_⟩:=hR.ex;have hnq:=neq_some m;have a2:=hx.cell 2;simp only[za,zb,zf]at a2;clear hx
 go_in
 go_wp2_with fail
 (try simp only[Exit.inBlock,Exit.then])
 refine yt (results_none rfl _ _ _) rfl ?_;exact⟨rfl,rfl⟩
theorem oF(b:Nat)(ids:List IdR)(fl:List Bool)(w:World)(h:AxF w (some b) (some (ids,fl))) :
  Calls Tryz.prog 88 #[vP b 0] w fun e w'=>e=.returned (.tuple #[])/\(∃ base,AxFull b base ids fl w')/\Kp [b] w w':=by
 obtain⟨h1,h2,h3,h4,⟨base,v1,v2,g⟩|⟨base,g⟩⟩:=h
 ·refine(uF b base ids fl v1 v2 w g h1 h2 h3 h4).mono ?_;rintro e w' ⟨rfl,h6,h7⟩;exact⟨rfl,⟨_,h6⟩,h7⟩
 refine(sG b base ids fl w g).mono ?_;rintro e w' ⟨rfl,rfl⟩;exact⟨rfl,⟨_,g⟩,Kp.refl _ _⟩
def rH(A:AxV)(x:IdR):Value:=.tuple #[vI (if bC A x<0 then 0 else bC A x),.bool (decide (0<=bC A x))]
theorem oW(ids:List IdR)(fl:List Bool)(x:IdR):rH (some (ids,fl)) x=.tuple #[vI (if bG (aN ids fl) x<0 then 0 else bG (aN ids fl) x),.bool (decide (0<=bG (aN ids fl) x))]:=rfl
theorem fK(p:Option Nat)(A:AxV)(x:IdR)(w:World)(hA:AxF w p A)(hx:x.fits) :
  Calls Tryz.prog 40 #[.pointer (ptr p),idV x] w fun e w'=>e=.returned (rH A x)/\AxF w' p A/\Kp p.toList w w':=by
 have HB:Hid (Below w.heap.size w (w.alloc (.cells #[vI x.a,vI x.n] 27))):=zh ((Below.refl _ w).alloc zr _)
 match p,A,hA with
 |none,none,_=>
  unfold ptr
  go_in
  go_wp2_with fail
  refine yt (results_tmp2 rfl _ _ _) rfl ?_;exact⟨rfl,trivial,Kp.of_below HB.out⟩
 |some b,some (ids,fl),h=>
  obtain⟨hl,hn,hf,hd,_⟩:=id h;have HS:=zh (And.intro hl (And.intro hn (And.intro hf hd)));have CR:=zh (oF b ids fl _ (AxF.next (p:=some b) (A:=some (ids,fl)) h HB.out));have HI:Hid (Lies (w.alloc (.cells #[vI x.a,vI x.n] 27)) w.heap.size 27 #[vI x.a,vI x.n]):=zh (Lies.new _ _ _);have hbw:b<w.heap.size:=by
   obtain⟨_,_,_,_,⟨base,v1,v2,g⟩|⟨base,g⟩⟩:=h
   ·exact g.ax.lt
   obtain⟨_,_,_,_,_,_,g1,_⟩:=g.ex;exact g1.lt
  have ux:=zh hbw;have HX:=zh hx;clear h hl hn hf hd hx hbw;obtain⟨e0,he0⟩:=zD (rH (some (ids,fl)) x)
  have HE:=zh he0;rw[<- he0];clear he0;unfold ptr
  go_in
  go_wp2_with fail
  refine CR.out.mono ?_;rintro e W2 ⟨rfl,⟨base,hF⟩,hk⟩;have ie:Hid (Lies W2 w.heap.size 27 #[vI x.a,vI x.n]):=zh (hk.lies HI.out (by have:=ux.out;simp;omega));have ep:Hid (Kp [b] w W2):=zh ((Kp.of_below HB.out).trans hk);have li:=zh hF;clear hF hk CR HI HB;obtain⟨W5,ee⟩:∃ W,W=W2.drew:=⟨_,rfl⟩
  have z8:Hid (AxFull b base ids fl W5):=zh (by rw[ee];exact li.out.next (Below.refl _ W2).drew);have j3:Hid (Kp [b] w W5):=zh (by rw[ee];exact ep.out.drew);obtain⟨v1,v2,v4,m,ga,cs,h1,⟨b1,h2⟩,⟨b2,h3⟩,h4,h5,h6,h7,-⟩:=li.out.ex;have wd:=(h4.at (rfl:W2.drew.heap[m]?=W2.heap[m]?)).look (t:=149) Tryz.underlying149 HS.out.2.2.1 x HX.out;have a2:=h1.cell 2;have x0:=ie.out.cell 0;have x1:=ie.out.cell 1;simp only[za,zb,zf]at a2 x0 x1;have hxl:=ie.out.lt;clear h2 h3 h4 h5 h6 h7 h1 li ep;dsimp only[idV]at wd;rcases wd with⟨wn,az⟩|⟨k,hk,si,az⟩
  ·have HV:Hid (e0=.tuple #[vI 0,.bool false]):=zh (by rw[HE.out,oW,uAO wn];rfl)
   go_upto_region 4 with fail
   go_cut [6,7] (fun va vb wx=>va=vI 0/\vb=.bool false/\Hid (wx=W5))
   case first=>
    go_region
    all_goals go_wp2_with fail
    all_goals go_meet
    all_goals exact⟨rfl,rfl,zh ee.symm⟩
   case rest=>
   obtain⟨rfl,rfl,hcut⟩:=hcut;obtain rfl:W5=wc:=hcut.out.symm;clear az a2 x0 x1 ee hcut
   go_wp2_with fail
   refine yt (results_tmp2 rfl _ _ _) rfl ?_;exact⟨by rw[HV.out];rfl,⟨HS.out.1,HS.out.2.1,HS.out.2.2.1,HS.out.2.2.2,.inr ⟨_,z8.out⟩⟩,j3.out⟩
  have uv:k<fl.length:=by rw[<- HS.out.1];exact hk
  obtain⟨lv,lh⟩:=zE (fl[k])
  have HV:Hid (e0=if lv then .tuple #[vI ((aN (ids.take k) (fl.take k)).length:Int),.bool true] else .tuple #[vI 0,.bool false]):=zh (by
   rw[HE.out,oW,<- si];cases lv with
   |true=>
    rw[uAN HS.out.1 HS.out.2.2.2 hk lh,if_pos rfl,if_neg (by omega),decide_eq_true (by omega)]
   |false=>
    rw[uAM HS.out.1 HS.out.2.2.2 hk lh];rfl)
  go_upto_region 4 with fail
  go_cut [6,7] (fun va vb wx=>va=vI (k:Int)/\vb=.bool true/\Hid (wx=W5))
  case first=>
   go_region
   all_goals go_wp2_with fail
   all_goals go_meet
   all_goals exact⟨rfl,rfl,zh ee.symm⟩
  case rest=>
  obtain⟨rfl,rfl,hcut⟩:=hcut;obtain rfl:W5=wc:=hcut.out.symm;clear az a2 x0 x1 hxl ee;obtain⟨v1,v2,v4,m',ga,cs,h1,-,⟨b2,h3⟩,-,h5,h6,h7,-⟩:=z8.out.ex;obtain⟨g2,cy,rfl,-,ko,bi⟩:=fB h3 (by omega);have y0:=bi k (.bool lv) (by simp[dD,uv,lh]);have z0:W5.cell? ⟨ga,k,none⟩=some (vI ((aN (ids.take k) (fl.take k)).length:Int)):=by rw[h5.cell];exact h7 k hk
  have a1:=h1.cell 1;have a3:=h1.cell 3;simp only[za,zb,zf]at a1 a3;have ii:(k:Int)<(ids.length:Int):=by omega
  have hkj:(k:Int)<(fl.length:Int):=by omega
  generalize (aN (ids.take k) (fl.take k)).length=pl at *;clear h1 h3 h5 h6 h7 bi hk uv si lh;cases lv
  ·go_wp2_with fail
   refine yt (results_tmp2 rfl _ _ _) rfl ?_;exact⟨by rw[HV.out];rfl,⟨HS.out.1,HS.out.2.1,HS.out.2.2.1,HS.out.2.2.2,.inr ⟨_,z8.out⟩⟩,j3.out⟩
  go_wp2_with fail
  refine yt (results_tmp2 rfl _ _ _) rfl ?_;exact⟨by rw[HV.out];rfl,⟨HS.out.1,HS.out.2.1,HS.out.2.2.1,HS.out.2.2.2,.inr ⟨_,z8.out⟩⟩,j3.out⟩
theorem wC(l:List IdR):∀ u∈aJ l,u.oneCell'=true:=by
 intro u hu;unfold aJ at hu;obtain⟨x,_,hx⟩:=List.mem_flatMap.1 hu;simp only[ym,List.not_mem_nil,or_false]at hx;rcases hx with rfl|rfl <;> rfl
theorem sl_nil(w:World):(binOp .eql 35 (.slice none 0 0) (.slice none 0 0)).run Tryz.prog w=.ok (.bool true) w:=by kernel_rfl
theorem sl_some(a:Addr)(n c:Nat)(w:World):(binOp .eql 35 (.slice (some a) n c) (.slice none 0 0)).run Tryz.prog w=.ok (.bool false) w:=by kernel_rfl
theorem jC:∀ (a b:List IdR),aJ (a++b)=aJ a++aJ b:=fun a b=>by simp[aJ]
theorem oH(g off n c:Nat)(l:List IdR)(w:World)(hl:l.length=n)(hn:n<=300)(hc:∀ j u,(aJ l)[j]?=some u->w.cell? ⟨g,off+j,none⟩=some u) :
  Calls Tryz.prog 244 #[.slice (some ⟨g,off,none⟩) n c] w fun e w'=>∃ A' c',e=.returned (.slice A' n c')/\w'.ownsRow w.heap.size 27 2 (.slice A' n c') n (aJ l)/\Below w.heap.size w w':=by
 have ev:=sl_some ⟨g,off,none⟩ n c;have HC:=zh hc;have HL:=zh hl;clear hc hl;obtain⟨i1,gi,gz0,gz1,gz2⟩:=info_parts uS;have HO:Hid ((w.alloc (.cells #[] 27)).ownsRow w.heap.size 27 2 (.slice (some ⟨w.heap.size,0,none⟩) 0 0) 0 []):=zh ⟨rfl,.inr ⟨_,0,#[],rfl,zr,heap_alloc_new _ _,zr,by unfold maxLen;omega,rfl,rfl⟩⟩;have HB:Hid (Below w.heap.size w (w.alloc (.cells #[] 27))):=zh ((Below.refl _ w).alloc zr _);have HN:Hid (∀ j u,(aJ l)[j]?=some u->(w.alloc (.cells #[] 27)).cell? ((⟨g,off,none⟩:Addr).add j)=some u):=zh (fun j u hj=>by
  have h0:=HC.out j u hj;have e:(⟨g,off,none⟩:Addr).add j=⟨g,off+j,none⟩:=by cases j <;> simp[Addr.add]
  rw[e];exact(HB.out.cell (p:=⟨g,off+j,none⟩) (cY h0)).trans h0)
 go_in
 go_wp2_with (first |(refine wpList_append_own (P:=Tryz.prog) _ rfl (.tmp 5) (.tmp 6) 35 rfl w.heap.size 27 i1 (.agg #[vI 0,vI 0]) 2 16 Tryz.underlying35 gi gz0 gz1 gz2 rfl (by decide) _ 0 [] rfl HO.out ⟨g,off,none⟩ n c (aJ l) rfl (by rw[fF,HL.out]) HN.out (wC l) (by unfold maxLen;omega) (by omega) HB.out.size (fun v' w' k1 k2 _=>?_);obtain⟨A',c',rfl⟩:=aZ k1;have K1:=zh k1;have K2:=zh k2;clear k1 k2))
 go_ret
 have h1:=K1.out;rw[Nat.zero_add,List.nil_append]at h1;have h2:Below w.heap.size w w':=HB.out.grown K2.out HB.out.size (fun k hk=>by injection hk with hk;exact Nat.le_of_eq hk);exact⟨A',c',rfl,h1,h2⟩
theorem oI(w:World) :
  Calls Tryz.prog 244 #[.slice none 0 0] w fun e w'=>e=.returned (.slice none 0 0)/\Below w.heap.size w w':=by
 have ev:=sl_nil
 go_in
 go_wp2_with fail
 go_ret
 exact⟨rfl,Below.refl _ _⟩
theorem uR{l:List IdR}{lo hi j:Nat}{u:Value}(h:(aJ ((l.take hi).drop lo))[j]?=some u):(aJ l)[lo*2+j]?=some u:=by
 have e1:aJ l=aJ (l.take hi)++aJ (l.drop hi):=by rw[<- jC,List.take_append_drop]
 have e2:aJ (l.take hi)=aJ ((l.take hi).take lo)++aJ ((l.take hi).drop lo):=by rw[<- jC,List.take_append_drop]
 have hj:=(List.getElem?_eq_some_iff.1 h).1;rcases Nat.lt_or_ge lo (l.take hi).length with kq|kq
 ·have e3:(aJ ((l.take hi).take lo)).length=lo*2:=by rw[fF,zc];omega
  rw[e1,List.getElem?_append_left (by rw[e2,yl];omega),e2,List.getElem?_append_right (by omega),e3,Nat.add_sub_cancel_left];exact h
 rw[List.drop_of_length_le kq]at hj;simp[aJ]at hj
theorem yN{ids:List IdR}{fl:List Bool}(hd:ids.Nodup){a b:Nat}(ha:a<ids.length)(hb:b<ids.length):aO (some (ids,fl)) ids[a] ids[b]=aN ((ids.drop (min a b)).take (max a b+1-min a b)) ((fl.drop (min a b)).take (max a b+1-min a b)):=by
 unfold aO;dsimp only;rw[nQ hd ha,nQ hd hb,if_neg (by omega),show (min (a:Int) (b:Int)).toNat=min a b by omega,show (max (a:Int) (b:Int)).toNat=max a b by omega]
theorem lI{ids:List IdR}{fl:List Bool}{x y:IdR}(h:x∉ids\/y∉ids):aO (some (ids,fl)) x y=[]:=by
 unfold aO;dsimp only;rw[if_pos];rcases h with h|h
 ·rw[mL h];exact .inl (by decide)
 rw[mL h];exact .inr (by decide)
theorem vO(g k j:Nat):(⟨g,k,none⟩:Addr).add j=⟨g,k+j,none⟩:=by
 unfold Addr.add;by_cases e:j=0
 ·simp[e]
 simp[e]
theorem uX(ids:List IdR)(fl:List Bool)(he:ids.length=fl.length)(k:Nat):(aN (ids.take k) (fl.take k)).length<=(aN ids fl).length:=by
 rw[cN ids fl k he,yl];omega
theorem sL{ids:List IdR}{fl:List Bool}(he:ids.length=fl.length){k:Nat}(hk:k<ids.length):(aN (ids.take (k+1)) (fl.take (k+1))).length=(aN (ids.take k) (fl.take k)).length+(if fl[k]'(by omega) then 1 else 0):=by
 have h1:=cN (ids.take (k+1)) (fl.take (k+1)) k (by simp[he]);rw[List.take_take,List.take_take,Nat.min_eq_left (by omega)]at h1;rw[h1,yl]
 congr 1
 rw[yw hk,yw (by omega:k<fl.length),List.drop_left' (by simp;omega),List.drop_left' (by simp;omega)];simp only[aN];cases fl[k]'(by omega) <;> simp
theorem wK{ids:List IdR}{fl:List Bool}(he:ids.length=fl.length){f l:Nat}(hf:f<=l):(aN (ids.take f) (fl.take f)).length<=(aN (ids.take l) (fl.take l)).length:=by
 have h1:=cN (ids.take l) (fl.take l) f (by simp[he]);rw[List.take_take,List.take_take,Nat.min_eq_left hf]at h1;rw[h1,yl];omega
theorem yS{base:Nat}{v4:Value}{lv:List IdR}{W0:World}(h:W0.ownsRow base 27 2 v4 lv.length (aJ lv))(hn:lv.length<=300)(lo hi:Nat)(a b:Int)(ha:a=lo)(hb:b=hi)(kq:lo<=hi)(hhi:hi<=lv.length) :
  ∃ S,(∀ W,(Instr.slice 35 v4 (some (vI a)) (some (vI b)) none).run Tryz.prog W=.ok S W)/\(∀ W,(Instr.sliceAt 35 v4 (some (vI a)) (some (vI b)) none).run Tryz.prog W=.ok S W) /\
   ∀ W,Below W0.heap.size W0 W->Calls Tryz.prog 244 #[S] W fun e w'=>∃ B c,e=.returned (.slice B (hi-lo) c)/\w'.ownsRow W0.heap.size 27 2 (.slice B (hi-lo) c) (hi-lo) (aJ ((lv.take hi).drop lo))/\Below W0.heap.size W0 w':=by
 subst ha hb;have td:∀ W,(sizeOf (Tryz.prog.elem 35)).run Tryz.prog W=.ok 2 W:=fun W=>by kernel_rfl
 have ag:Tryz.prog.underlying 35=some (.slice (Tryz.prog.elem 35)):=by kernel_rfl
 have hlen:((lv.take hi).drop lo).length=hi-lo:=by rw[yk,zc];omega
 have key:∀ (A:Option Addr) (cap:Nat),v4=.slice A lv.length cap->lv.length<=cap->∀ W,(Instr.slice 35 v4 (some (vI (lo:Int))) (some (vI (hi:Int))) none).run Tryz.prog W=.ok (sliced A lo hi cap 2) W:=fun A cap e hc W=>by
  subst e;rw[run_slice_lh W 35 A lv.length cap ag .i64 .i64 lo hi (by omega) (by omega) (by omega),td];simp[Result.andThen]
 have at':∀ S,(∀ W,(Instr.slice 35 v4 (some (vI (lo:Int))) (some (vI (hi:Int))) none).run Tryz.prog W=.ok S W)->(∀ W,(Instr.sliceAt 35 v4 (some (vI (lo:Int))) (some (vI (hi:Int))) none).run Tryz.prog W=.ok S W):=fun S hS W=>by
  rw[run_sliceAt_slice W 35 _ _ _ _ ag];exact hS W
 have h2:=h.2;rcases h2 with⟨e1,e2⟩|⟨g,cap,cur,e1,e2,e3,e4,e5,e6,e7⟩
 ·have dr:lv.length=0:=by
   have:=h.1;rw[fF]at this
   simp_all
  have z1:hi=0:=by omega
  have z2:lo=0:=by omega
  subst z1 z2;have hS:=key none 0 (by rw[e1,dr]) (by omega);refine⟨_,hS,at' _ hS,fun W hW=>?_⟩;have e:sliced none 0 0 0 2=.slice none 0 0:=by rfl
  rw[e];refine(oI W).mono ?_;rintro e w' ⟨rfl,hb⟩;refine⟨none,0,rfl,⟨by simp[aJ],.inl ⟨rfl,by simp⟩⟩,zU hW hb⟩
 have hS:=key (some ⟨g,0,none⟩) cap e1 e4;have e:sliced (some ⟨g,0,none⟩) lo hi cap 2=.slice (some ⟨g,if cap=lo then 0 else lo*2,none⟩) (hi-lo) (cap-lo):=by
  unfold sliced;by_cases hc:cap=lo
  ·rw[if_pos hc,if_pos hc]
  rw[if_neg hc,if_neg hc,Option.map_some,vO,Nat.zero_add]
 rw[e]at hS;refine⟨_,hS,at' _ hS,fun W hW=>?_⟩;refine(oH g _ (hi-lo) (cap-lo) ((lv.take hi).drop lo) W hlen (by omega) (fun j u hj=>?_)).mono ?_
 ·have hp:=uR hj;have hj2:=(List.getElem?_eq_some_iff.1 hj).1;rw[fF,hlen]at hj2;have hc:¬ cap=lo:=by omega
  rw[if_neg hc];obtain⟨g',pd,q1,_,q2,q3⟩:=fB h (by omega);rw[e1]at q1;injection q1 with q1;injection q1 with q1;injection q1 with q1;subst q1;exact(hW.cell (p:=⟨g,lo*2+j,none⟩) q2).trans (q3 _ _ hp)
 rintro e w' ⟨A',c',rfl,ho,hb⟩;exact⟨A',c',rfl,lP ho hW.size,zU hW hb⟩
theorem KIdx.find{W:World}{m:Nat}{ys:List IdR}{t:TypeId}(h:KIdx W m ys)(hu:Tryz.prog.underlying t=some (.map 27 3))(hf:∀ y∈ys,y.fits)(x:IdR)(hx:x.fits) :
  ∃ (k:Nat) (b:Bool),(Instr.lookup t (.map (some m)) (idV x) true).run Tryz.prog W=.ok (.tuple #[vI (k:Int),.bool b]) W/\Hid ((b=false/\k=0/\x∉ys)\/(b=true/\∃ hk:k<ys.length,ys[k]=x)):=by
 rcases h.look hu hf x hx with⟨h1,h2⟩|⟨k,hk,hx,h2⟩
 ·exact⟨0,false,h2,zh (.inl ⟨rfl,rfl,h1⟩)⟩
 exact⟨k,true,h2,zh (.inr ⟨rfl,hk,hx⟩)⟩
theorem jG(p:Option Nat)(A:AxV)(x y:IdR)(w:World)(hA:AxF w p A)(hx:x.fits)(hy:y.fits) :
  Calls Tryz.prog 227 #[.pointer (ptr p),idV x,idV y] w fun e w'=>∃ B c,e=.returned (.slice B (aO A x y).length c)/\w'.ownsRow w.heap.size 27 2 (.slice B (aO A x y).length c) (aO A x y).length (aJ (aO A x y))/\AxF w' p A/\Kp p.toList w w':=by
 have HB:Hid (Below w.heap.size w ((w.alloc (.cells #[vI x.a,vI x.n] 27)).alloc (.cells #[vI y.a,vI y.n] 27))):=zh (((Below.refl _ w).alloc zr _).alloc (by rw[World.size_alloc];omega) _)
 match p,A,hA with
 |none,none,_=>
  unfold ptr;obtain⟨L,hL⟩:=zD (aO none x y)
  have HL:Hid (L=[]):=zh hL;rw[<- hL];clear hL
  go_in
  go_wp2_with fail
  go_ret
  have hL:=HL.out;subst hL;exact⟨none,0,rfl,⟨rfl,.inl ⟨rfl,rfl⟩⟩,trivial,Kp.of_below HB.out⟩
 |some b,some (ids,fl),h=>
  obtain⟨hl,hn,hf,hd,_⟩:=id h;have HS:=zh (And.intro hl (And.intro hn (And.intro hf hd)));have hbw:b<w.heap.size:=by
   obtain⟨_,_,_,_,⟨base,v1,v2,g⟩|⟨base,g⟩⟩:=h
   ·exact g.ax.lt
   obtain⟨_,_,_,_,_,_,g1,_⟩:=g.ex;exact g1.lt
  have ux:=zh hbw;have HF0:=zh (AxF.next (p:=some b) (A:=some (ids,fl)) h HB.out);have HX:=zh hx;have HY:=zh hy;obtain⟨L,hL⟩:=zD (aO (some (ids,fl)) x y)
  have HL:=zh hL;rw[<- hL];obtain⟨nL,hnL⟩:=zD L.length
  have HNl:=zh hnL;rw[<- hnL];clear hnL;clear h hl hn hf hd hx hy hbw hL;unfold ptr
  go_in
  go_upto_region 1 with fail
  have HI0:Hid (Lies ((w.alloc (.cells #[vI x.a,vI x.n] 27)).alloc (.cells #[vI y.a,vI y.n] 27)) w.heap.size 27 #[vI x.a,vI x.n]):=zh ((Lies.new _ _ _).alloc _);have z9:Hid (Lies ((w.alloc (.cells #[vI x.a,vI x.n] 27)).alloc (.cells #[vI y.a,vI y.n] 27)) (w.heap.size+1) 27 #[vI y.a,vI y.n]):=zh (by
   have h:=Lies.new (w.alloc (.cells #[vI x.a,vI x.n] 27)) 27 #[vI y.a,vI y.n];rw[World.size_alloc]at h;exact h)
  generalize (w.alloc (.cells #[vI x.a,vI x.n] 27)).alloc (.cells #[vI y.a,vI y.n] 27)=W1 at *;have CR:=zh (oF b ids fl _ HF0.out);clear HF0
  go_wp2_with fail
  refine CR.out.mono ?_;rintro e W2 ⟨rfl,⟨base,hF⟩,hk⟩;have ql:Hid (Lies W2 w.heap.size 27 #[vI x.a,vI x.n]):=zh (hk.lies HI0.out (by have:=ux.out;simp;omega));have HY2:Hid (Lies W2 (w.heap.size+1) 27 #[vI y.a,vI y.n]):=zh (hk.lies z9.out (by have:=ux.out;simp;omega));have ep:Hid (Kp [b] w W2):=zh ((Kp.of_below HB.out).trans hk);have li:=zh hF;clear hF hk CR HI0 z9 HB;obtain⟨W3,ix⟩:∃ W,W=W2.drew:=⟨_,rfl⟩
  obtain⟨W4,nc⟩:∃ W,W=W3.drew:=⟨_,rfl⟩
  have HF4:Hid (AxFull b base ids fl W4):=zh (by rw[nc,ix];exact(li.out.next (Below.refl _ W2).drew).next zB.drew);have fh:Hid (Kp [b] w W4):=zh (by rw[nc,ix];exact ep.out.drew.drew);obtain⟨v1,v2,v4,m,ga,cs,h1,⟨b1,h2⟩,⟨b2,h3⟩,h4,h5,h6,h7,h8⟩:=li.out.ex;obtain⟨kx,fx,hlx,zt⟩:=(h4.at (rfl:W2.drew.heap[m]?=W2.heap[m]?)).find (t:=149) Tryz.underlying149 HS.out.2.2.1 x HX.out;obtain⟨ky,fy,hly,rd⟩:=(h4.at (rfl:W2.drew.drew.heap[m]?=W2.heap[m]?)).find (t:=149) Tryz.underlying149 HS.out.2.2.1 y HY.out;have a2:=h1.cell 2;have x0:=ql.out.cell 0;have x1:=ql.out.cell 1;simp only[za,zb,zf]at a2 x0 x1;have hxl:=ql.out.lt;have hyl:=HY2.out.lt;dsimp only[idV]at hlx;have HLY:=zh hly;have i9:=zh h1;clear h2 h3 h4 h5 h6 h7 h8 h1 li ep hly
  go_upto_region 4 with fail
  go_cut [7,8] (fun va vb wx=>va=vI (kx:Int)/\vb=.bool fx/\Hid (wx=W3))
  case first=>
   go_region
   all_goals go_wp2_with fail
   all_goals go_meet
   all_goals exact⟨rfl,rfl,zh ix.symm⟩
  case rest=>
  obtain⟨rfl,rfl,hcut⟩:=hcut;obtain rfl:W3=wc:=hcut.out.symm;clear hlx x0 x1 hxl a2 hyl;have hly:=HLY.out;rw[<- ix]at hly;have gm:=i9.out.next (Below.refl _ W2).drew;have hY2:=HY2.out.next (Below.refl _ W2).drew;rw[<- ix]at gm hY2;have a2:=gm.cell 2;have y0:=hY2.cell 0;have y1:=hY2.cell 1;simp only[za,zb,zf]at a2 y0 y1;have hyl:=hY2.lt;dsimp only[idV]at hly;clear gm hY2 HLY i9 hcut ql HY2 ix
  go_upto_region 5 with fail
  go_cut [9,10] (fun va vb wx=>va=vI (ky:Int)/\vb=.bool fy/\Hid (wx=W4))
  case first=>
   go_region
   all_goals go_wp2_with fail
   all_goals go_meet
   all_goals exact⟨rfl,rfl,zh nc.symm⟩
  case rest=>
  obtain⟨rfl,rfl,hcut⟩:=hcut;obtain rfl:W4=wc:=hcut.out.symm;clear hly y0 y1 hyl a2 nc hcut;by_cases ox:fx=true/\fy=true
  ·obtain⟨rfl,rfl⟩:=ox;obtain⟨-,si,ex⟩:=zt.out.resolve_left (fun h=>by cases h.1);obtain⟨-,hky,ey⟩:=rd.out.resolve_left (fun h=>by cases h.1);have au:=HL.out;rw[<- ex,<- ey,yN HS.out.2.2.2 si hky]at au;have b6:=zh au;clear au ex ey zt rd HL;have hlt:∃ f l:Nat,(f=kx/\l=ky/\(kx:Int)<=(ky:Int)\/f=ky/\l=kx/\(ky:Int)<(kx:Int)):=by
    rcases Nat.lt_or_ge ky kx with h|h
    ·exact⟨ky,kx,.inr ⟨rfl,rfl,by omega⟩⟩
    exact⟨kx,ky,.inl ⟨rfl,rfl,by omega⟩⟩
   have hn3:=HS.out.2.1;have hle:=HS.out.1;rcases Nat.lt_or_ge ky kx with hgt|hgt
   case' inl=>
    have hz:(ky:Int)<(kx:Int):=by omega
    have bm:Hid (L=aN ((ids.drop ky).take (kx+1-ky)) ((fl.drop ky).take (kx+1-ky))):=zh (by
     have h:=b6.out;rw[Nat.min_eq_right (by omega),Nat.max_eq_left (by omega)]at h;exact h)
    have xy:ky<=kx:=by omega
    have mq:=si;have uv:=hky;clear si hky;obtain⟨l,rfl⟩:=zD kx
    obtain⟨f,rfl⟩:=zD ky
   case' inr=>
    have hz:(kx:Int)<=(ky:Int):=by omega
    have bm:Hid (L=aN ((ids.drop kx).take (ky+1-kx)) ((fl.drop kx).take (ky+1-kx))):=zh (by
     have h:=b6.out;rw[Nat.min_eq_left (by omega),Nat.max_eq_right (by omega)]at h;exact h)
    have xy:kx<=ky:=by omega
    have uv:=si;have mq:=hky;clear si hky;obtain⟨f,rfl⟩:=zD kx
    obtain⟨l,rfl⟩:=zD ky
   all_goals
    clear hlt b6;have hm:=live_mid hle xy mq;have hs:=sL hle mq;have hp:=wK hle (f:=f) (l:=l+1) (by omega);have hq:=uX ids fl hle (l+1);have hr:=eU ids fl;obtain⟨v1,v2,v4,m',ga,cs,h1,-,⟨b2,h3⟩,-,h5,h6,h7,h8⟩:=HF4.out.ex;obtain⟨g2,cy,rfl,-,ko,bi⟩:=fB h3 (by omega);have hklf:l<fl.length:=by omega
    obtain⟨lv,lh⟩:=zE (fl[l]'hklf)
    have r0:=bi l (.bool lv) (by simp[dD,hklf,lh]);have z0:W4.cell? ⟨ga,l,none⟩=some (vI ((aN (ids.take l) (fl.take l)).length:Int)):=by rw[h5.cell];exact h7 l mq
    have z1:W4.cell? ⟨ga,f,none⟩=some (vI ((aN (ids.take f) (fl.take f)).length:Int)):=by rw[h5.cell];exact h7 f uv
    have bj:=zh (bm.out.trans hm.symm);rw[lh]at hs;have a1:=h1.cell 1;have a3:=h1.cell 3;have a4:=h1.cell 4;simp only[za,zb,zf]at a1 a3 a4;have hkfi:(f:Int)<(ids.length:Int):=by omega
    have hkli:(l:Int)<(ids.length:Int):=by omega
    have hklj:(l:Int)<(fl.length:Int):=by omega
    have HP8:=zh h8;clear h1 h3 h5 h6 h7 h8 bi lh hm bm;generalize (aN (ids.take (l+1)) (fl.take (l+1))).length=ce at *;generalize (aN (ids.take l) (fl.take l)).length=cl at *;generalize (aN (ids.take f) (fl.take f)).length=cf at *;have hcw:IntKind.i64.wrap ((cl:Int)+1)=(cl:Int)+1:=IntWalk.i64_in _ (by cases lv <;> simp at hs <;> omega);have j9:Hid (L.length=ce-cf):=zh (by rw[bj.out,yk,zc];omega);have HNL:Hid (nL=ce-cf):=zh (HNl.out.trans j9.out);clear j9;obtain⟨be,hbe,kr⟩:∃ be:Int,(be=if lv then (cl:Int)+1 else (cl:Int))/\be=(ce:Int):=⟨_,rfl,by cases lv <;> simp at hs <;> simp <;> omega⟩
    obtain⟨S,f6,ja,lx⟩:=yS HP8.out (by omega) cf ce (cf:Int) be rfl kr hp hq;have HCC:Hid (∀ W,Below W4.heap.size W4 W->Calls Tryz.prog 244 #[S] W fun e w'=>∃ B c,e=.returned (.slice B nL c)/\w'.ownsRow W4.heap.size 27 2 (.slice B nL c) nL (aJ L)/\Below W4.heap.size W4 w'):=zh (by
     rw[HNL.out,bj.out];exact lx)
    have hba4:b<W4.heap.size:=yu ux.out fh.out.size;clear lx HP8 hs hp hq hr kr;subst hbe;cases lv
    all_goals
     simp only[Bool.false_eq_true,if_false,if_true]at f6 ja
     go_upto_region 13 with fail
     go_cut [6] (fun v6 wx=>∃ B c,v6=.slice B nL c/\Hid (wx.ownsRow W4.heap.size 27 2 (.slice B nL c) nL (aJ L))/\Hid (Below W4.heap.size W4 wx))
     case first=>
      go_region_with ((go_at_call 244;(with_reducible refine(HCC.out _ ?hbw).mono ?_);(case hbw=>(first|assumption|exact zB.drew |(go_split_ands;assumption)));rintro e wx ⟨B,c,rfl,ho,hb⟩;have HO:=zh ho;have HBl:=zh hb))
      all_goals go_wp2_with fail
      all_goals go_meet
      all_goals exact⟨_,_,rfl,HO,HBl⟩
     case rest=>
     obtain⟨B,c,rfl,ho,hb⟩:=hcut;clear f6 ja HCC
     go_wp2_with fail
     go_ret
     exact⟨B,c,rfl,lP ho.out (by have:=fh.out.size;omega),⟨HS.out.1,HS.out.2.1,HS.out.2.2.1,HS.out.2.2.2,.inr ⟨_,HF4.out.next hb.out⟩⟩,fh.out.trans (Kp.of_below hb.out)⟩
  have o6:Hid (L=[]):=zh (by
   rw[HL.out];refine lI ?_;rcases zt.out with⟨_,_,h⟩|⟨h,_⟩
   ·exact .inl h
   rcases rd.out with⟨_,_,h'⟩|⟨h',_⟩
   ·exact .inr h'
   exact absurd ⟨h,h'⟩ ox)
  clear HL zt rd;cases fx <;> cases fy
  case true.true=>exact absurd ⟨rfl,rfl⟩ ox
  all_goals clear ox
  all_goals go_wp2_with fail
  all_goals go_ret
  all_goals
   have hL:=o6.out;subst hL;obtain rfl:nL=0:=HNl.out;exact⟨none,0,rfl,⟨rfl,.inl ⟨rfl,rfl⟩⟩,⟨HS.out.1,HS.out.2.1,HS.out.2.2.1,HS.out.2.2.2,.inr ⟨_,HF4.out⟩⟩,fh.out⟩
abbrev arV(a b:Cor):Value:=.agg #[vI a.row.a,vI a.row.n,vI a.col.a,vI a.col.n,.bool a.fr,.bool a.fc,vI b.row.a,vI b.row.n,vI b.col.a,vI b.col.n,.bool b.fr,.bool b.fc]
theorem eql_area(a b a2 b2:Cor)(w:World):(binOp .eql 31 (arV a b) (arV a2 b2)).run Tryz.prog w=.ok (.bool (decide (a=a2)&&decide (b=b2))) w:=by
 obtain⟨⟨x0,x1⟩,⟨x2,x3⟩,x4,x5⟩:=a;obtain⟨⟨x6,x7⟩,⟨x8,x9⟩,xa,xb⟩:=b;obtain⟨⟨y0,y1⟩,⟨y2,y3⟩,y4,y5⟩:=a2;obtain⟨⟨y6,y7⟩,⟨y8,y9⟩,ya,yb⟩:=b2;dsimp only[arV]
 go_simp
 by_cases h0:x0=y0
 case neg=>simp[h0]
 by_cases h1:x1=y1
 case neg=>simp[h0,h1]
 by_cases h2:x2=y2
 case neg=>simp[h0,h1,h2]
 by_cases h3:x3=y3
 case neg=>simp[h0,h1,h2,h3]
 by_cases h4:x4=y4
 case neg=>simp[h0,h1,h2,h3,h4]
 by_cases h5:x5=y5
 case neg=>simp[h0,h1,h2,h3,h4,h5]
 by_cases h6:x6=y6
 case neg=>simp[h0,h1,h2,h3,h4,h5,h6]
 by_cases h7:x7=y7
 case neg=>simp[h0,h1,h2,h3,h4,h5,h6,h7]
 by_cases h8:x8=y8
 case neg=>simp[h0,h1,h2,h3,h4,h5,h6,h7,h8]
 by_cases h9:x9=y9
 case neg=>simp[h0,h1,h2,h3,h4,h5,h6,h7,h8,h9]
 by_cases ha:xa=ya
 case neg=>simp[h0,h1,h2,h3,h4,h5,h6,h7,h8,h9,ha]
 by_cases hb:xb=yb
 case neg=>simp[h0,h1,h2,h3,h4,h5,h6,h7,h8,h9,ha,hb]
 simp[h0,h1,h2,h3,h4,h5,h6,h7,h8,h9,ha,hb]
theorem neq_area(a b a2 b2:Cor)(w:World):(binOp .neq 31 (arV a b) (arV a2 b2)).run Tryz.prog w=.ok (.bool (!(decide (a=a2)&&decide (b=b2)))) w:=by
 obtain⟨⟨x0,x1⟩,⟨x2,x3⟩,x4,x5⟩:=a;obtain⟨⟨x6,x7⟩,⟨x8,x9⟩,xa,xb⟩:=b;obtain⟨⟨y0,y1⟩,⟨y2,y3⟩,y4,y5⟩:=a2;obtain⟨⟨y6,y7⟩,⟨y8,y9⟩,ya,yb⟩:=b2;dsimp only[arV]
 go_simp
 by_cases h0:x0=y0
 case neg=>simp[h0]
 by_cases h1:x1=y1
 case neg=>simp[h0,h1]
 by_cases h2:x2=y2
 case neg=>simp[h0,h1,h2]
 by_cases h3:x3=y3
 case neg=>simp[h0,h1,h2,h3]
 by_cases h4:x4=y4
 case neg=>simp[h0,h1,h2,h3,h4]
 by_cases h5:x5=y5
 case neg=>simp[h0,h1,h2,h3,h4,h5]
 by_cases h6:x6=y6
 case neg=>simp[h0,h1,h2,h3,h4,h5,h6]
 by_cases h7:x7=y7
 case neg=>simp[h0,h1,h2,h3,h4,h5,h6,h7]
 by_cases h8:x8=y8
 case neg=>simp[h0,h1,h2,h3,h4,h5,h6,h7,h8]
 by_cases h9:x9=y9
 case neg=>simp[h0,h1,h2,h3,h4,h5,h6,h7,h8,h9]
 by_cases ha:xa=ya
 case neg=>simp[h0,h1,h2,h3,h4,h5,h6,h7,h8,h9,ha]
 by_cases hb:xb=yb
 case neg=>simp[h0,h1,h2,h3,h4,h5,h6,h7,h8,h9,ha,hb]
 simp[h0,h1,h2,h3,h4,h5,h6,h7,h8,h9,ha,hb]
theorem neq_val(a b:Val)(w:World):(binOp .neq 25 (.agg #[vI a.kind,vI a.mant,vI a.exp,vT a.text,.bool a.truth,vI a.fault]) (.agg #[vI b.kind,vI b.mant,vI b.exp,vT b.text,.bool b.truth,vI b.fault])).run Tryz.prog w=.ok (.bool (!aX a b)) w:=by
 obtain⟨x0,x1,x2,x3,x4,x5⟩:=a;obtain⟨y0,y1,y2,y3,y4,y5⟩:=b;unfold aX;dsimp only
 go_simp
 by_cases h0:x0=y0
 case neg=>simp[h0]
 by_cases h1:x1=y1
 case neg=>simp[h0,h1]
 by_cases h2:x2=y2
 case neg=>simp[h0,h1,h2]
 by_cases h3:x3=y3
 case neg=>simp[h0,h1,h2,h3]
 by_cases h4:x4=y4
 case neg=>simp[h0,h1,h2,h3,h4]
 by_cases h5:x5=y5
 case neg=>simp[h0,h1,h2,h3,h4,h5]
 simp[h0,h1,h2,h3,h4,h5]
end Go.Proofs.YtjfihpaeglpblaaGreatDoor
