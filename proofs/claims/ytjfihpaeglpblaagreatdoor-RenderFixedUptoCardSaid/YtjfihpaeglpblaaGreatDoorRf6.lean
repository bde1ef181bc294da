/-
  Lemmas, part 6: Ax1 Ax2 Ax3 Ax4.
-/
import Derived.DeepKeys4
import Derived.WideKeyArgs2
import Derived.MapViews
import Derived.Laws.MakeOwn
import Derived.Test.YtjfihpaeglpblaaGreatDoorRf5
set_option maxHeartbeats 100000000
set_option maxRecDepth 1000000
namespace Go.Proofs.YtjfihpaeglpblaaGreatDoor
open Go.RowKit
abbrev idV(x:IdR):Value:=.agg #[.int .i64 x.a,.int .i64 x.n]
theorem uDD{x y:IdR}(h:idV x=idV y):x=y:=by
 injection h with h1;simp at h1;exact IdR.ext' h1.1 h1.2
theorem cP(x y:IdR)(w:World):(binOp .eql 27 (idV x) (idV y)).run Tryz.prog w=.ok (.bool (decide (x=y))) w:=by
 obtain⟨a,n⟩:=x;obtain⟨a2,n2⟩:=y
 go_simp
 by_cases h0:a=a2
 case neg=>simp[h0]
 by_cases h1:n=n2
 case neg=>simp[h0,h1]
 simp[h0,h1]
theorem vM:Tryz.prog.cellsOf 27=2:=by kernel_rfl
theorem rB:Tryz.prog.cellsOf 3=1:=by kernel_rfl
theorem idKeyT:Tryz.prog.keyType 27=true:=by kernel_rfl
theorem idSize:∃ m,Tryz.prog.types.size+1=m+1+1:=⟨Tryz.prog.types.size-1,by have h:0<Tryz.prog.types.size:=of_decide_eq_true (by kernel_rfl);omega⟩
theorem idLaid:laidOutB Tryz.prog=true:=by kernel_rfl
theorem idRow:(27:TypeId)<Tryz.prog.types.size:=of_decide_eq_true (by kernel_rfl)
theorem idWide:(match Tryz.prog.underlying 27 with|some (.array _ _)|some (.struct _)=>true|_=>false)=true:=by kernel_rfl
theorem tW:WideMaps.KeyLaw Tryz.prog 27:=deep_law_laid idLaid (m:=2) (by omega) idRow (by kernel_rfl) idWide
def IdR.fits(x:IdR):Prop:=(Lit.int .i64 x.a).wf=true/\(Lit.int .i64 x.n).wf=true
theorem nR(x:IdR)(h:x.fits):∃ l,keyOf Tryz.prog 27 (idV x)=some l:=by
 obtain⟨m,hm⟩:=idSize;have hf:(idV x).formed Tryz.prog 27=true:=by simp[Value.formed,Tryz.underlying27,vM]
 have hl:Tryz.prog.keyLits (m+1+1) 27 [.int .i64 x.a,.int .i64 x.n]=some [.int .i64 x.a,.int .i64 x.n]:=by
  simp[Program.keyLits,Tryz.underlying27,Tryz.underlying3,vM,rB,h.1,h.2]
 refine⟨.string (keyBytes [.int .i64 x.a,.int .i64 x.n]),?_⟩;unfold keyOf;rw[Tryz.underlying27];simp only[idKeyT,hf,Bool.and_self,if_true];rw[hm];show Option.map _ (Tryz.prog.keyLits (m+1+1) 27 [.int .i64 x.a,.int .i64 x.n])=_;rw[hl];rfl
def KMap(W:World)(m:Nat)(ys:List IdR)(Pv:Value->Prop):Prop:=∃ es clock,W.heap[m]?=some (.map es clock)/\es.toList.map (·.key)=ys.map idV/\∀ e∈es.toList,Pv e.val
theorem KMap.at{W W':World}{m:Nat}{ys:List IdR}{Pv:Value->Prop}(h:KMap W m ys Pv)(hb:W'.heap[m]?=W.heap[m]?):KMap W' m ys Pv:=by
 obtain⟨es,clock,h1,h2⟩:=h;exact⟨es,clock,hb.trans h1,h2⟩
theorem KMap.lt{W:World}{m:Nat}{ys:List IdR}{Pv:Value->Prop}(h:KMap W m ys Pv):m<W.heap.size:=by
 obtain⟨es,clock,h1,_⟩:=h;exact(zk.1 h1).1
theorem wW{es:List MapEntry}{ys:List IdR}(h:es.map (·.key)=ys.map idV)(hf:∀ y∈ys,y.fits):∀ e∈es,∃ l,keyOf Tryz.prog 27 e.key=some l:=by
 intro e he;have h1:e.key∈es.map (·.key):=yj.2 ⟨e,he,rfl⟩
 rw[h]at h1;obtain⟨y,hy,e1⟩:=yj.1 h1;rw[<- e1];exact nR y (hf y hy)
theorem KMap.find{W:World}{es:Array MapEntry}{ys:List IdR}(h:es.toList.map (·.key)=ys.map idV)(hf:∀ y∈ys,y.fits)(x:IdR)(hx:x.fits) :
  (x∉ys/\(Instr.findKey 27 (idV x) es.toList).run Tryz.prog W=.ok none W)\/(x∈ys/\∃ j e,(Instr.findKey 27 (idV x) es.toList).run Tryz.prog W=.ok (some (j,e.val)) W/\e∈es.toList):=by
 obtain⟨l,hl⟩:=nR x hx;have hm:∀ y,y∈ys↔idV y∈es.toList.map (·.key):=fun y=>by
  rw[h];exact⟨fun hy=>yj.2 ⟨y,hy,rfl⟩,fun hy=>by obtain⟨z,hz,e⟩:=yj.1 hy;rw[<- uDD e];exact hz⟩
 rcases tW.find W hl es.toList (wW h hf) with⟨h1,h2⟩|⟨j,e,h1,h2,h3⟩
 ·refine .inl ⟨fun hxy=>?_,h1⟩;obtain⟨e,he,e1⟩:=yj.1 ((hm x).1 hxy);exact h2 e he e1
 have he:=List.mem_of_getElem? h2;exact .inr ⟨(hm x).2 (yj.2 ⟨e,he,h3⟩),j,e,h1,he⟩
theorem KMap.look{W:World}{m:Nat}{ys:List IdR}{u z:Value}{t et:TypeId}(h:KMap W m ys (fun v=>v=u))(hu:Tryz.prog.underlying t=some (.map 27 et))(hz:(zeroValue et).run Tryz.prog W=.ok z W)(hf:∀ y∈ys,y.fits)(x:IdR)(hx:x.fits) :
  (Instr.lookup t (.map (some m)) (idV x) false).run Tryz.prog W=.ok (if x∈ys then u else z) W:=by
 obtain⟨es,clock,h1,h2,h3⟩:=h;obtain⟨l,hl⟩:=nR x hx;have hc:=tW.check W es.isEmpty hl;rcases KMap.find (W:=W) h2 hf x hx with⟨g1,g2⟩|⟨g1,j,e,g2,g3⟩
 ·simp[Instr.lookup,run_underlying hu,MapKept.run_getObj_map h1,hc,g2,hz,Result.andThen,g1]
 simp[Instr.lookup,run_underlying hu,MapKept.run_getObj_map h1,hc,g2,Result.andThen,g1,h3 e g3]
theorem KMap.put{W:World}{m:Nat}{ys:List IdR}{Pv:Value->Prop}{t et:TypeId}(h:KMap W m ys Pv)(hu:Tryz.prog.underlying t=some (.map 27 et))(hf:∀ y∈ys,y.fits)(x:IdR)(hx:x.fits)(hn:x∉ys)(val:Value)(hv:Pv val) :
  ∃ W',(Instr.mapUpdate t (.map (some m)) (idV x) val).run Tryz.prog W=.ok () W'/\KMap W' m (ys++[x]) Pv/\Only m W W':=by
 obtain⟨es,clock,h1,h2,h3⟩:=h;obtain⟨l,hl⟩:=nR x hx;have hc:=tW.check W false hl;rcases KMap.find (W:=W) h2 hf x hx with⟨g1,g2⟩|⟨g1,_⟩
 ·have hlt:=(zk.1 h1).1;refine⟨{ W with heap:=W.heap.setIfInBounds m (.map (es.push { key:=idV x,val:=val,born:=clock }) (clock+1)) },?_,⟨es.push { key:=idV x,val:=val,born:=clock },clock+1,?_,?_,?_⟩,⟨rfl,rfl,rfl,by simp,fun k hk=>by simp[Ne.symm hk]⟩⟩
  ·simp[Instr.mapUpdate,run_underlying hu,MapKept.run_getObj_map h1,hc,g2,MapKept.run_setObj_map _ h1,Result.andThen]
  ·simp[hlt]
  ·simp[h2]
  intro e he;simp only[Array.toList_push,List.mem_append,yf]at he;rcases he with he|he
  ·exact h3 e he
  rw[he];exact hv
 exact absurd g1 hn
def IdRow(W:World)(g o:Nat)(l:List IdR):Prop:=g<W.heap.size/\∀ j (h:j<l.length),W.cell? ⟨g,o+j*2,none⟩=some (.int .i64 l[j].a)/\W.cell? ⟨g,o+j*2+1,none⟩=some (.int .i64 l[j].n)
theorem IdRow.at{W W':World}{g o:Nat}{l:List IdR}(h:IdRow W g o l)(hs:W.heap.size<=W'.heap.size)(hb:W'.heap[g]?=W.heap[g]?):IdRow W' g o l :=
 ⟨yu h.1 hs,fun j hj=>⟨(World.cell?_of_block (w:=W) (a:=⟨g,_,none⟩) hb).trans (h.2 j hj).1,(World.cell?_of_block (w:=W) (a:=⟨g,_,none⟩) hb).trans (h.2 j hj).2⟩⟩
def aJ(l:List IdR):List Value:=l.flatMap (fun x=>[vI x.a,vI x.n])
theorem iV(l:List IdR)(x:IdR):aJ (l++[x])=aJ l++[vI x.a,vI x.n]:=by simp[aJ]
theorem qZ:(Tryz.prog.info? 27).map (fun i=>(i.zero,i.size,i.bytes))=some (some (.agg #[vI 0,vI 0]),2,16):=by kernel_rfl
theorem mK:(Tryz.prog.info? 4).map (fun i=>(i.zero,i.size,i.bytes))=some (some (.bool false),1,1):=by kernel_rfl
theorem aY{w:World}{b n sz:Nat}{te:TypeId}{v:Value}{xs:List Value}(h:w.ownsRow b te sz v n xs):∃ A c,v=.slice A n c:=by
 rcases h.2 with⟨rfl,rfl⟩|⟨g,cap,cur,e,_⟩
 ·exact⟨none,0,rfl⟩
 exact⟨_,_,e⟩
theorem bL{w w':World}{Y:List Nat}{b n sz:Nat}{te:TypeId}{v:Value}{xs:List Value}(h:w.ownsRow b te sz v n xs)(hk:Kp Y w w')(hn:∀ g,v.ownBlock=some g->g∉Y):w'.ownsRow b te sz v n xs:=by
 rcases h with⟨hl,⟨e,hz⟩|⟨g,cap,cur,e1,e2,e3,e4⟩⟩
 ·exact⟨hl,.inl ⟨e,hz⟩⟩
 have hg:g∉Y:=hn g (by rw[e1];rfl);exact⟨hl,.inr ⟨g,cap,cur,e1,e2,(hk.block g (zk.1 e3).1 hg).trans e3,e4⟩⟩
theorem gK{w:World}{b b' n n' sz sz':Nat}{te te':TypeId}(ht:te≠te'){v v':Value}{xs xs':List Value}(h:w.ownsRow b te sz v n xs)(h':w.ownsRow b' te' sz' v' n' xs'):∀ g,v.ownBlock=some g->v'.ownBlock≠some g:=by
 intro g hg jq;rcases h.2 with⟨rfl,_⟩|⟨g1,cap,cur,rfl,_,hh,_⟩
 ·simp[Value.ownBlock]at hg
 rcases h'.2 with⟨rfl,_⟩|⟨g2,o5,cur',rfl,_,hh',_⟩
 ·simp[Value.ownBlock]at jq
 simp[Value.ownBlock]at hg jq;subst hg;subst jq;rw[hh]at hh';injection hh' with e1;injection e1 with _ e2 _;exact ht e2
theorem bP{w:World}{b n sz:Nat}{te:TypeId}{v:Value}{xs:List Value}(h:w.ownsRow b te sz v n xs):∀ g,v.ownBlock=some g->b<=g/\g<w.heap.size:=h.lt
def iO(acc:List IdR)(x:IdR):List IdR:=if x=id0\/x∈acc then acc else acc++[x]
def bD(ids:List IdR):List IdR:=ids.foldl iO []
theorem gL(ids:List IdR)(k:Nat)(h:k<ids.length):bD (ids.take (k+1))=iO (bD (ids.take k)) ids[k]:=by
 rw[yw h];unfold bD;rw[List.foldl_append];rfl
theorem yV(acc:List IdR)(x:IdR):(iO acc x).length<=acc.length+1:=by
 unfold iO
 split
 ·omega
 simp
theorem yW(acc:List IdR)(x y:IdR)(h:y∈iO acc x):y∈acc\/y=x:=by
 unfold iO at h
 split at h
 ·exact .inl h
 simpa using h
theorem nU(ids:List IdR):∀ k,k<=ids.length->(bD (ids.take k)).length<=k:=by
 intro k
 induction k with
 |zero=>intro _;exact zr
 |succ k ih=>
  intro h;rw[gL ids k h];have:=yV (bD (ids.take k)) ids[k];have:=ih (by omega);omega
theorem uE(ids:List IdR):∀ k,k<=ids.length->∀ y∈bD (ids.take k),y∈ids:=by
 intro k
 induction k with
 |zero=>intro _ y hy;cases hy
 |succ k ih=>
  intro h y hy;rw[gL ids k h]at hy;rcases yW _ _ _ hy with h1|h1
  ·exact ih (by omega) y h1
  rw[h1];exact List.getElem_mem h
structure AxMk(q base:Nat)(acc:List IdR)(v1 v2:Value)(W:World):Prop where
 ax:Lies W q 152 #[v1,v2,.map none,.slice none 0 0,.slice none 0 0]
 r1:W.ownsRow base 27 2 v1 acc.length (aJ acc)
 r2:W.ownsRow base 4 1 v2 acc.length (List.replicate acc.length (.bool true))
theorem AxMk.next{q base:Nat}{acc:List IdR}{v1 v2:Value}{W W':World}(h:AxMk q base acc v1 v2 W)(hb:Below W.heap.size W W'):AxMk q base acc v1 v2 W' :=
 ⟨h.ax.next hb,aL hb h.r1,aL hb h.r2⟩
def eA(W:World)(A:Option Addr)(l:List IdR):Prop:=0<l.length->∃ g o,A=some ⟨g,o,none⟩/\IdRow W g o l
theorem uDX(A:Option Addr)(cap:Nat)(ids:List IdR)(w:World)(hA:eA w A ids)(hn:ids.length<=300)(hf:∀ y∈ids,y.fits) :
  Calls Tryz.prog 69 #[.slice A ids.length cap] w fun e w'=>∃ v1 v2,e=.returned (vP w.heap.size 0)/\AxMk w.heap.size (w.heap.size+2) (bD ids) v1 v2 w'/\Below w.heap.size w w':=by
 have wi:=@run_makeMap Tryz.prog;have HF:=zh hf;have HA:=zh hA;have HS:=zh (gL ids);have gx:=zh (nU ids);have HMm:=zh (uE ids);have lz:Hid (bD (ids.take ids.length)=bD ids):=zh (by rw[List.take_length]);obtain⟨n,fi⟩:=zD ids.length
 have HN:=zh fi;rw[<- fi]at hn ⊢;clear hf hA fi
 go_in
 go_upto_region 4 with fail
 generalize dx:(w.alloc (.cells #[.slice none 0 0,.slice none 0 0,.map none,.slice none 0 0,.slice none 0 0] 152)).alloc (.map #[] 0)=W2 at *;have HM0:Hid (AxMk w.heap.size (w.heap.size+2) [] (.slice none 0 0) (.slice none 0 0) W2):=zh (by
  rw[<- dx];exact⟨(Lies.new w _ _).alloc _,⟨rfl,.inl ⟨rfl,rfl⟩⟩,⟨rfl,.inl ⟨rfl,rfl⟩⟩⟩)
 have HK0:Hid (KMap W2 (w.heap.size+1) [] (fun v=>v=.bool true)):=zh (by
  rw[<- dx];refine⟨#[],0,?_,rfl,fun e he=>by cases he⟩;have h:=heap_alloc_new (w.alloc (.cells #[.slice none 0 0,.slice none 0 0,.map none,.slice none 0 0,.slice none 0 0] 152)) (.map #[] 0);rw[World.size_alloc]at h;exact h)
 have aq:Hid (Below w.heap.size w W2):=zh (by rw[<- dx];exact((Below.refl _ w).alloc zr _).alloc (by simp) _);have wj:Hid (w.heap.size+2<=W2.heap.size):=zh (by rw[<- dx];simp);clear dx
 go_loopw [12] (fun v12 wx=>∃ (k:Nat) (v1 v2:Value),v12=vI (k:Int)/\k<=n/\Hid (AxMk w.heap.size (w.heap.size+2) (bD (ids.take k)) v1 v2 wx)/\Hid (KMap wx (w.heap.size+1) (bD (ids.take k)) (fun v=>v=.bool true))/\Hid (Below w.heap.size w wx)/\Hid (w.heap.size+2<=wx.heap.size)) (fun v12 _=>n-(intOf v12).toNat)
 case atStart=>exact⟨0,_,_,rfl,zm _,HM0,HK0,aq,wj⟩
 case round=>
  obtain⟨k,v1,v2,rfl,hk,hM,hK,hB,hZ⟩:=hrel;generalize qc:w.heap.size=q at *;have HQ:=zh qc;clear qc;clear HM0 HK0 aq wj;by_cases hlt:k<n
  ·have ip:k<ids.length:=by rw[<- HN.out];exact hlt
   obtain⟨ga,oa,rfl,kc,bp⟩:=HA.out (by omega);obtain⟨c0,c1⟩:=bp k ip;have hxf:=HF.out _ (List.getElem_mem ip);have nn:=yv (gx.out k (by omega)) (Nat.le_of_lt ip);have qd:=zh (fun y hy=>HF.out y (HMm.out k (by omega) y hy));have sr:=zh (HS.out k ip);have d0:wr.cell? ⟨ga,oa+k*2,none⟩=some (vI ids[k].a):=(hB.out.cell (p:=⟨ga,_,none⟩) (by rw[<- HQ.out];exact kc)).trans c0;have d1:wr.cell? ⟨ga,oa+k*2+1,none⟩=some (vI ids[k].n):=(hB.out.cell (p:=⟨ga,_,none⟩) (by rw[<- HQ.out];exact kc)).trans c1;rw[<- HN.out]at nn;generalize ids[k]=x at *;generalize bD (ids.take k)=acc at *;generalize np:bD (ids.take (k+1))=acc' at *;have jr:=zh np;clear np c0 c1 bp;obtain⟨xa,xn⟩:=x;dsimp only at d0 d1;obtain⟨A1,b6,rfl⟩:=aY hM.out.r1;obtain⟨A2,cy,rfl⟩:=aY hM.out.r2;generalize hle:acc.length=m at *
   go_upto_region 6 with fail
   have q9:=zh (hM.out.next ((Below.refl _ wr).alloc zr (.cells #[vI xa,vI xn] 27)));have zx:=zh (hK.out.at (Below.heap_alloc wr (.cells #[vI xa,vI xn] 27) (q+1) hK.out.lt));have hB3:=zh (hB.out.alloc (yv (Nat.le_add_right q 2) hZ.out) (.cells #[vI xa,vI xn] 27));have vf:=zh (Lies.new wr 27 #[vI xa,vI xn]);have zy:Hid (q+2<=(wr.alloc (.cells #[vI xa,vI xn] 27)).heap.size):=zh (by rw[World.size_alloc];have:=hZ.out;omega);have hbq:q+2<=wr.heap.size:=hZ.out;have zz:Hid (∀ g,(Value.slice A1 m b6).ownBlock=some g->g<wr.heap.size):=zh (fun g hg=>(bP hM.out.r1 g hg).2);generalize wr.alloc (.cells #[vI xa,vI xn] 27)=W3 at *;generalize wr.heap.size=bx at *;clear d0 d1 hM hK hB hZ;have a0:=q9.out.ax.cell 0;have a1:=q9.out.ax.cell 1;have b0:=vf.out.cell 0;have b1:=vf.out.cell 1
   simp only[za,zb,zf]at a0 a1 b0 b1;have sv:((m:Int)==1000)=false:=by simp;omega
   have hlk0:=zx.out.look (t:=183) (et:=4) Tryz.underlying183 (z:=.bool false) (by kernel_rfl) qd.out ⟨xa,xn⟩ hxf;have hlk:∀ a' n',a'=xa->n'=xn->(Instr.lookup 183 (.map (some (q+1))) (.agg #[vI a',vI n']) false).run Tryz.prog W3=.ok (.bool (decide ((⟨xa,xn⟩:IdR)∈acc))) W3:=by
    intro a' n' e1 e2;rw[e1,e2];refine hlk0.trans ?_;by_cases h:(⟨xa,xn⟩:IdR)∈acc <;> simp[h]
   have HD:Hid (∀ d,(d=true↔((⟨xa,xn⟩:IdR)=id0\/(⟨xa,xn⟩:IdR)∈acc))->acc'=if d then acc else acc++[⟨xa,xn⟩]):=zh (by
    intro d hd;rw[sr.out,iO];cases d
    ·rw[if_neg (fun h=>by have:=hd.2 h;cases this)];rfl
    rw[if_pos (hd.1 rfl)];rfl)
   clear hlk0
   go_upto_region 7 with fail
   go_cut [29] (fun v29 wx=>∃ d:Bool,v29=.bool d/\Hid (d=true↔((⟨xa,xn⟩:IdR)=id0\/(⟨xa,xn⟩:IdR)∈acc))/\Hid (wx=W3))
   case first=>
    by_cases hxa:xa=0
    ·subst hxa;by_cases hxn:xn=0
     ·subst hxn
      go_wp2_with fail
      go_meet
      exact⟨true,rfl,zh (by simp),zh rfl⟩
     have hxb:(xn==0)=false:=by simpa using hxn
     have hid:¬ (⟨0,xn⟩:IdR)=id0:=fun h=>hxn (congrArg IdR.n h)
     clear hxn
     go_wp2_with fail
     all_goals go_meet
     all_goals exact⟨_,rfl,zh (by simp[hid]),zh rfl⟩
    have hxb:(xa==0)=false:=by simpa using hxa
    have hid:¬ (⟨xa,xn⟩:IdR)=id0:=fun h=>hxa (congrArg IdR.a h)
    clear hxa
    go_wp2_with fail
    all_goals go_meet
    all_goals exact⟨_,rfl,zh (by simp[hid]),zh rfl⟩
   case rest=>
    obtain⟨d,rfl,hd,hw⟩:=hcut;obtain rfl:=hw.out;clear hw hlk;have en:=HD.out d hd.out;cases d
    ·rw[if_neg (by decide)]at en;have vg:¬ (⟨xa,xn⟩:IdR)∈acc:=fun h=>by have:=hd.out.2 (.inr h);cases this
     obtain⟨W4,bd,hK4,sw⟩:=zx.out.put (t:=183) (et:=4) Tryz.underlying183 qd.out ⟨xa,xn⟩ hxf vg (.bool true) rfl;dsimp only[idV]at bd;clear hd HD vg
     go_upto_region 9 with fail
     clear a0 a1 b0 b1;have om:=sw.kp;have mq:Lies W4 bx 27 #[vI xa,vI xn]:=om.lies vf.out (by simp;omega);have wk:Lies W4 q 152 #[.slice A1 m b6,.slice A2 m cy,.map none,.slice none 0 0,.slice none 0 0]:=om.lies q9.out.ax (by simp);have hR1:W4.ownsRow (q+2) 27 2 (.slice A1 m b6) m (aJ acc):=bL (hle ▸ q9.out.r1) om (fun g hg=>by have:=(bP q9.out.r1 g hg).1;simp;omega);have hR2:W4.ownsRow (q+2) 4 1 (.slice A2 m cy) m (List.replicate m (.bool true)):=bL (hle ▸ q9.out.r2) om (fun g hg=>by have:=(bP q9.out.r2 g hg).1;simp;omega);have hB4:=zh (hB3.out.trans ((om.below (B:=q) (by simp) (by have:=zy.out;omega))));have HY:Hid (∀ g,(Value.slice A1 m b6).ownBlock=some g->g∈q::(Value.slice A1 m b6).ownBlock.toList):=zh (fun g hg=>by rw[hg];simp);have o6:=zh mq;have HX4:=zh wk;have kv:=zh hR1;have j3:=zh hR2;have fv:=zh hK4
     have uk:Hid (q+2<=W4.heap.size):=zh (by rw[sw.size];exact zy.out);clear bd sw om mq wk hR1 hR2 hK4 q9 zx hB3 vf zy;have hb2:bx≠q:=by omega
     have wl:Hid (bx∉q::(Value.slice A1 m b6).ownBlock.toList):=zh (fun h=>by
      rcases ym.1 h with h|h
      ·exact hb2 h
      have:=zz.out bx (by simpa using h);omega)
     go_cut [39] (fun v39 wx=>∃ v1',Hid (Lies wx q 152 #[v1',.slice A2 m cy,.map none,.slice none 0 0,.slice none 0 0])/\Hid (wx.ownsRow (q+2) 27 2 v1' (m+1) (aJ acc++[vI xa,vI xn]))/\Hid (Kp (q::(Value.slice A1 m b6).ownBlock.toList) W4 wx))
     case first=>
      obtain⟨TT,ag⟩:∃ TT:List (Nat×Nat×Value),TT=[(0,32,vP q 0),(1,33,vP q 0),(2,34,vP q 0),(3,35,vP q 0),(4,36,.slice A1 m b6),(5,37,.agg #[vI xa,vI xn]),(8,40,vP q 0),(9,41,vP q 0)]:=⟨_,rfl⟩
      have aw:=zh ag;clear ag;refine eW (by kernel_rfl) (by kernel_rfl) (fun a0=>53<=a0.tmps.size/\a0.eval (.tmp 3)=vP q 0/\a0.eval (.tmp 6)=vP bx 0) (GA [32,33,34,35,36,37,38,39,40,41] TT (q::(Value.slice A1 m b6).ownBlock.toList) W4 4 6 38 7 39 10 q 0 27 152 #[.slice A1 m b6,.slice A2 m cy,.map none,.slice none 0 0,.slice none 0 0] (q+2) 2 m (.slice A1 m b6) (aJ acc) [vI xa,vI xn]) ⟨by simp,rfl,rfl⟩ (GA.start _ _ (Kp.refl _ _).drew kv.out HX4.out) ?_ ?_
      ·rintro a0 ⟨hs,kg,vh⟩ zl a1 w1 j o ap hI ah ho zd;have ag:=aw.out;subst ag;have hk:GAk [32,33,34,35,36,37,38,39,40,41] [(0,32,vP q 0),(1,33,vP q 0),(2,34,vP q 0),(3,35,vP q 0),(4,36,.slice A1 m b6),(5,37,.agg #[vI xa,vI xn]),(8,40,vP q 0),(9,41,vP q 0)] (q::(Value.slice A1 m b6).ownBlock.toList) 6 38 7 39 10 q 27 152 (.slice A1 m b6) 53:=⟨rfl,by decide,HY.out,.head _⟩
       have hj:=Up.of_false ah;have hj12:j<11:=by rw[ap]at hj;exact hj
       have e3x:a1.eval (.tmp 3)=vP q 0:=(hI.off.eval (by decide)).trans kg;have e6x:a1.eval (.tmp 6)=vP bx 0:=(hI.off.eval (by decide)).trans vh;rcases(by omega:j=0\/j=1\/j=2\/j=3\/j=4\/j=5\/j=6\/j=7\/j=8\/j=9\/j=10) with rfl|rfl|rfl|rfl|rfl|rfl|rfl|rfl|rfl|rfl|rfl<;>obtain rfl:=oi ho
       ·exact bG hk hI hs (.head _) ah ho rfl rfl (by simp[execOp,go_sem,bR e3x])
       ·exact bG hk hI hs (.tail _ (.head _)) ah ho rfl rfl (by simp[execOp,go_sem,bR e3x])
       ·have d1:=ud zd 1;have p1:=pk hI.pt 1 rfl d1;exact bG hk hI hs (mm 2 rfl) ah ho rfl rfl (by simp[execOp,go_sem,bR p1])
       ·have d2:=ud zd 2;have p2:=pk hI.pt 2 rfl d2;exact bG hk hI hs (mm 3 rfl) ah ho rfl rfl (by simp[execOp,go_sem,bR p2])
       ·have d3:=ud zd 3;have p3:=pk hI.pt 3 rfl d3;have c0:=(hI.unl ah).cell 0;simp only[za,zb]at c0;exact bG hk hI hs (mm 4 rfl) ah ho rfl rfl (by simp[execOp,go_sem,bR p3,c0])
       ·have hLb:=hI.kp.lies o6.out wl.out;have l0:=hLb.cell 0;have l1:=hLb.cell 1;simp only[za,zb,zf]at l0 l1;exact bG hk hI hs (mm 5 rfl) ah ho rfl rfl (by simp[execOp,go_sem,bR e6x,l0,l1])
       ·have d5:=ud zd 5;have p5:=pk hI.pt 5 rfl d5;exact qW hk hI hs ah ho rfl rfl (by simp[execOp,go_sem,bR p5])
       ·have d4:=ud zd 4;have p4:=pk hI.pt 4 rfl d4;have d6:=ud zd 6;obtain⟨i1,gi,gz0,gz1,gz2⟩:=info_parts qZ;exact uAC hk hI hs ah ho rfl rfl d4 d6 35 36 rfl p4 i1 (.agg #[vI 0,vI 0]) 16 Tryz.underlying35 gi gz0 gz1 gz2 rfl (by decide) rfl (by intro u hu;simp at hu;rcases hu with rfl|rfl <;> rfl) (by unfold maxLen;omega) (by omega) (yv uk.out hI.kp.size)
       ·have d0:=ud zd 0;have p0:=pk hI.pt 0 rfl d0;exact bG hk hI hs (mm 6 rfl) ah ho rfl rfl (by simp[execOp,go_sem,bR p0])
       ·have d8:=ud zd 8;have p8:=pk hI.pt 6 rfl d8;exact bG hk hI hs (mm 7 rfl) ah ho rfl rfl (by simp[execOp,go_sem,bR p8])
       have d9:=ud zd 9;have p9:=pk hI.pt 7 rfl d9;have d7:=ud zd 7;exact qX hk hI ah ho rfl rfl d7 (fun hL j6=>by
        obtain⟨gs,cs,j6⟩:=j6;have c0:=hL.cell 0;have k0:=hL.frozen 0;simp at c0;rw[j6];simp[execOp,go_sem,bR p9,bR j6,c0,k0])
      intro zl a1 w1 hI bd;have ag:=aw.out;subst ag;have gq:=hI.kp;have az:=hI.o2 (bd 7 (by decide));have js:=(hI.b2 (bd 10 (by decide))).2;obtain⟨ff,rfl,hf⟩:=hI.off.forms;rw[<- hf 39]at az js;clear hI;generalize ff 39=v' at *;simp only[List.foldl,Act.put,yz,List.set];simp only[Exit.then]
      go_step
      go_meet
      exact⟨v',zh js,zh az,zh gq⟩
     case rest=>
      obtain⟨v1',ra,lh,kw⟩:=hcut;obtain⟨A1',nr,rfl⟩:=aY lh.out;have kj:=zh (bL j3.out kw.out (fun g hg=>by
       intro hm;rcases ym.1 hm with h|h
       ·subst h;exact aX (by decide) j3.out HX4.out hg.symm
       exact gK (by decide) j3.out kv.out g hg (by simpa using h)))
      have HK52:=zh (fv.out.at (kw.out.block (q+1) fv.out.lt (fun hm=>by
       rcases ym.1 hm with h|h
       ·omega
       have:=(bP kv.out (q+1) (by simpa using h)).1;omega)))
      have bk:=zh (hB4.out.trans (kw.out.below (B:=q) (fun g hg=>by
       rcases ym.1 hg with h|h
       ·omega
       have:=(bP kv.out g (by simpa using h)).1;omega) (by have:=uk.out;omega)))
      have o7:Hid (q+2<=wc.heap.size):=zh (yv uk.out kw.out.size);clear HX4 kv j3 fv kw o6 hB4 uk HY wl;have x1:=ra.out.cell 1;have f1:=ra.out.frozen 1;simp only[za,zb,zf]at x1;have hqz:q<wc.heap.size:=by have:=o7.out;omega
      obtain⟨i1,gi,gz0,gz1,gz2⟩:=info_parts mK
      go_wp2_with (at_builtin;refine wpList_append_own _ rfl _ _ 148 rfl (q+2) 4 i1 (.bool false) 1 1 Tryz.underlying148 gi gz0 gz1 gz2 rfl (by decide) _ _ _ rfl (World.ownsRow.alloc kj.out _) ⟨wc.heap.size,0,none⟩ 1 1 [.bool true] rfl rfl ?c1 ?c2 ?c3 ?c4 ?c5 ?_)
      case c1=>
       intro j u hj
       match j,hj with
       |0,hj=>simp at hj;subst hj;simp[Addr.add]
      case c2=>intro u hu;simp at hu;subst hu;rfl
      case c3=>unfold maxLen;omega
      case c4=>omega
      case c5=>have:=o7.out;rw[World.size_alloc];omega
      intro v2' W6 ee dg _;obtain⟨A2',ns,rfl⟩:=aY ee;have kc:wc.grownBy W6 (Value.slice A2 m cy).ownBlock:=(World.grownBy_alloc wc _ _).trans dg;have rd:=zh (ra.out.grownA kc (aX (by decide) kj.out ra.out));have HR6:=zh (World.ownsRow.kept lh.out kc (by
       cases hv:(Value.slice A1' (m+1) nr).ownBlock with
       |none=>exact .inl rfl
       |some g=>exact .inr (fun e=>gK (by decide) lh.out kj.out g hv e.symm)))
      have HR62:=zh ee;have vk:=zh (HK52.out.at (kc.block (q+1) HK52.out.lt (fun e=>by have:=(bP kj.out (q+1) e.symm).1;omega)));have qe:=zh (bk.out.grown kc (by have:=o7.out;omega) (fun g hg=>by have:=(bP kj.out g hg).1;omega));have HZ6:Hid (q+2<=W6.heap.size):=zh (yv o7.out kc.size);clear kc dg ee ra lh kj HK52 bk o7 x1 f1 hqz;have x1:=rd.out.cell 1;have f1:=rd.out.frozen 1;simp only[za,zb,zf]at x1
      go_wp2_with fail
      go_roundw
      case rel=>
       refine⟨k+1,.slice A1' (m+1) nr,.slice A2' (m+1) ns,by go_num,by omega,zh ⟨rd.out.put 1 _,?_,?_⟩,zh ?_,zh (qe.out.setCell (p:=⟨q,1,none⟩) (Nat.le_refl q) _),zh (by rw[World.size_setCell];exact HZ6.out)⟩
       ·rw[jr.out,en,iV,yl,hle];exact kM (by decide) HR6.out rd.out 1 _
       ·rw[jr.out,en,yl,hle];have h:=kM (by decide) HR62.out rd.out 1 (.slice A2' (m+1) ns);rw[<- List.replicate_succ']at h;exact h
       rw[jr.out,en];exact vk.out.at (Below.heap_setCell _ _ _ _ (by show q+1≠q;omega))
      case measure=>simp[intOf];omega
    rw[if_pos rfl]at en
    go_wp2_with fail
    go_roundw
    case rel=>exact⟨k+1,_,_,by go_num,by omega,by rw[jr.out,en];exact q9,by rw[jr.out,en];exact zx,hB3,zy⟩
    case measure=>simp[intOf];omega
  obtain rfl:k=n:=by omega
  rw[HN.out,lz.out]at hM
  go_wp2_with fail
  go_ret
  exact⟨v1,v2,by rw[HQ.out];rfl,by rw[HQ.out];exact hM.out,by rw[HQ.out];exact hB.out⟩
def aK:List IdR->List Bool->List IdR
 |x::r,b::s=>if b then x::aK r s else aK r s
 |_,_=>[]
theorem oZ:∀ (r:List IdR) (s:List Bool) (x:IdR) (b:Bool),r.length=s.length->aK (r++[x]) (s++[b])=aK r s++(if b then [x] else [])
 | [],[],x,b,_=>by cases b <;> rfl
 |y::r,c::s,x,b,h=>by
  have ih:=oZ r s x b (by simpa using h);simp only[yp,aK];rw[ih];cases c <;> simp
 | [],_::_,_,_,h=>by simp at h
 |_::_,[],_,_,h=>by simp at h
theorem dO:∀ (r:List IdR) (s:List Bool),(aK r s).length<=r.length
 | [],_=>by simp[aK]
 |_::_,[]=>by simp[aK]
 |x::r,b::s=>by
  have ih:=dO r s;unfold aK
  split
  ·simp;exact ih
  simp;omega
theorem pA(r:List IdR)(s:List Bool)(k:Nat)(h:r.length=s.length)(hk:k<r.length):aK (r.take (k+1)) (s.take (k+1))=aK (r.take k) (s.take k)++(if s[k]'(by omega) then [r[k]] else []):=by
 rw[yw hk,yw (by omega:k<s.length)];exact oZ _ _ _ _ (by simp;omega)
def dF(fl:List Bool):List Value:=fl.map Value.bool
structure AxRaw(b base:Nat)(ids:List IdR)(fl:List Bool)(v1 v2:Value)(W:World):Prop where
 ax:Lies W b 152 #[v1,v2,.map none,.slice none 0 0,.slice none 0 0]
 r1:W.ownsRow base 27 2 v1 ids.length (aJ ids)
 r2:W.ownsRow base 4 1 v2 fl.length (dF fl)
theorem lU{W:World}{b b' n sz:Nat}{te:TypeId}{v:Value}{xs:List Value}(h:W.ownsRow b te sz v n xs)(hb:b'<=b):W.ownsRow b' te sz v n xs:=by
 rcases h with⟨hl,⟨e,hz⟩|⟨g,cap,cur,e1,e2,e3⟩⟩
 ·exact⟨hl,.inl ⟨e,hz⟩⟩
 exact⟨hl,.inr ⟨g,cap,cur,e1,yv hb e2,e3⟩⟩
theorem lS:∀ (l:List IdR) (j:Nat) (h:j<l.length),(aJ l)[j*2]?=some (vI l[j].a)/\(aJ l)[j*2+1]?=some (vI l[j].n)
 |x::l,0,_=>⟨rfl,rfl⟩
 |x::l,j+1,h=>by
  have ih:=lS l j (by simpa using h);have e1:(j+1)*2=j*2+2:=by omega
  rw[e1];exact ih
theorem fK:∀ l:List IdR,(aJ l).length=l.length*2
 | []=>rfl
 |x::l=>by
  show (aJ l).length+2=_;rw[fK l,yi];omega
theorem fI{W:World}{base n sz:Nat}{te:TypeId}{v:Value}{xs:List Value}(h:W.ownsRow base te sz v n xs)(h0:0<n):∃ g cap,v=.slice (some ⟨g,0,none⟩) n cap/\base<=g/\g<W.heap.size/\∀ j u,xs[j]?=some u->W.cell? ⟨g,j,none⟩=some u:=by
 obtain⟨hl,⟨e,hz⟩|⟨g,cap,cur,e1,e2,e3,e4,e5,e6,e7⟩⟩:=h
 ·omega
 refine⟨g,cap,e1,e2,(zk.1 e3).1,fun j u hj=>?_⟩;rw[Lib.cell_of_heap e3];have hj':j<xs.length:=(List.getElem?_eq_some_iff.1 hj).1;have h2:(cur.toList.take (n*sz))[j]?=cur.toList[j]?:=List.getElem?_take_of_lt (by omega);rw[e7,hj]at h2;show cur[j]?=_;rw[<- Array.getElem?_toList,<- h2]
theorem own_ids{W:World}{base:Nat}{v:Value}{l:List IdR}(h:W.ownsRow base 27 2 v l.length (aJ l))(h0:0<l.length):∃ g cap,v=.slice (some ⟨g,0,none⟩) l.length cap/\base<=g/\IdRow W g 0 l:=by
 obtain⟨g,cap,e1,e2,e3,e4⟩:=fI h h0;refine⟨g,cap,e1,e2,e3,fun j hj=>?_⟩;rw[Nat.zero_add];exact⟨e4 _ _ (lS l j hj).1,e4 _ _ (lS l j hj).2⟩
theorem infoI64x:(Tryz.prog.info? 3).map (fun i=>(i.zero,i.size,i.bytes))=some (some (vI 0),1,8):=by kernel_rfl
theorem mk_ints(n:Nat)(hn:n<=300)(w:World):(Instr.makeSlice 150 (vI (n:Int)) (vI (n:Int))).run Tryz.prog w=.ok (.slice (some ⟨w.heap.size,0,none⟩) n n) (w.alloc (.cells (madeCells (vI 0).cells n) 3)):=by
 obtain⟨i0,hi,m6,ix,ku⟩:=info_parts infoI64x;have h:=run_makeSlice (P:=Tryz.prog) w 150 3 i0 (vI 0) Tryz.underlying150 hi m6 .i64 .i64 (n:Int) (n:Int) (by omega) (Int.le_refl _) (by rw[ix];omega) (by rw[ku];omega) (by omega);rw[ix]at h;simpa using h
theorem neq_nil(w:World):(binOp .neq 149 (.map none) (.map none)).run Tryz.prog w=.ok (.bool false) w:=by kernel_rfl
theorem neq_some(m:Nat)(w:World):(binOp .neq 149 (.map (some m)) (.map none)).run Tryz.prog w=.ok (.bool true) w:=by kernel_rfl
theorem mk_map(n:Nat)(w:World):(Instr.makeMap 149 (some (vI (n:Int)))).run Tryz.prog w=.ok (.map (some w.heap.size)) (w.alloc (.map #[] 0)):=by
 simp[Instr.makeMap,run_underlying Tryz.underlying149,go_sem,Result.andThen]
def ptr:Option Nat->Option Addr
 |none=>none
 |some b=>some ⟨b,0,none⟩
end Go.Proofs.YtjfihpaeglpblaaGreatDoor
