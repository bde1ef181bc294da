/-
  Lemmas, part 6: Ax1 Ax2 Ax3 Ax4 Ax5.
-/
import Derived.DeepKeys4
import Derived.WideKeyArgs2
import Derived.MapViews
import Derived.Laws.MakeOwn
import Derived.Test.YtjfihpaeglpblaaGreatDoorRv5
set_option maxHeartbeats 100000000
set_option maxRecDepth 1000000
namespace Go.Proofs.YtjfihpaeglpblaaGreatDoor
open Go.RowKit
abbrev idV(x:IdR):Value:=.agg #[.int .i64 x.a,.int .i64 x.n]
theorem uDY{x y:IdR}(h:idV x=idV y):x=y:=by
 injection h with h1;simp at h1;exact IdR.ext' h1.1 h1.2
theorem dG(x y:IdR)(w:World):(binOp .eql 27 (idV x) (idV y)).run Tryz.prog w=.ok (.bool (decide (x=y))) w:=by
 obtain⟨a,n⟩:=x;obtain⟨a2,n2⟩:=y
 go_simp
 by_cases h0:a=a2
 case neg=>simp[h0]
 by_cases h1:n=n2
 case neg=>simp[h0,h1]
 simp[h0,h1]
theorem wR:Tryz.prog.cellsOf 27=2:=by kernel_rfl
theorem sE:Tryz.prog.cellsOf 3=1:=by kernel_rfl
theorem idKeyT:Tryz.prog.keyType 27=true:=by kernel_rfl
theorem idSize:∃ m,Tryz.prog.types.size+1=m+1+1:=⟨Tryz.prog.types.size-1,by have h:0<Tryz.prog.types.size:=of_decide_eq_true (by kernel_rfl);omega⟩
theorem idLaid:laidOutB Tryz.prog=true:=by kernel_rfl
theorem idRow:(27:TypeId)<Tryz.prog.types.size:=of_decide_eq_true (by kernel_rfl)
theorem idWide:(match Tryz.prog.underlying 27 with|some (.array _ _)|some (.struct _)=>true|_=>false)=true:=by kernel_rfl
theorem uZ:WideMaps.KeyLaw Tryz.prog 27:=deep_law_laid idLaid (m:=2) (by omega) idRow (by kernel_rfl) idWide
def IdR.fits(x:IdR):Prop:=(Lit.int .i64 x.a).wf=true/\(Lit.int .i64 x.n).wf=true
theorem pA(x:IdR)(h:x.fits):∃ l,keyOf Tryz.prog 27 (idV x)=some l:=by
 obtain⟨m,hm⟩:=idSize;have hf:(idV x).formed Tryz.prog 27=true:=by simp[Value.formed,Tryz.underlying27,wR]
 have hl:Tryz.prog.keyLits (m+1+1) 27 [.int .i64 x.a,.int .i64 x.n]=some [.int .i64 x.a,.int .i64 x.n]:=by
  simp[Program.keyLits,Tryz.underlying27,Tryz.underlying3,wR,sE,h.1,h.2]
 refine⟨.string (keyBytes [.int .i64 x.a,.int .i64 x.n]),?_⟩;unfold keyOf;rw[Tryz.underlying27];simp only[idKeyT,hf,Bool.and_self,if_true];rw[hm];show Option.map _ (Tryz.prog.keyLits (m+1+1) 27 [.int .i64 x.a,.int .i64 x.n])=_;rw[hl];rfl
def KMap(W:World)(m:Nat)(ys:List IdR)(Pv:Value->Prop):Prop:=∃ es clock,W.heap[m]?=some (.map es clock)/\es.toList.map (·.key)=ys.map idV/\∀ e∈es.toList,Pv e.val
theorem KMap.at{W W':World}{m:Nat}{ys:List IdR}{Pv:Value->Prop}(h:KMap W m ys Pv)(hb:W'.heap[m]?=W.heap[m]?):KMap W' m ys Pv:=by
 obtain⟨es,clock,h1,h2⟩:=h;exact⟨es,clock,hb.trans h1,h2⟩
theorem KMap.lt{W:World}{m:Nat}{ys:List IdR}{Pv:Value->Prop}(h:KMap W m ys Pv):m<W.heap.size:=by
 obtain⟨es,clock,h1,_⟩:=h;exact(zk.1 h1).1
theorem yD{es:List MapEntry}{ys:List IdR}(h:es.map (·.key)=ys.map idV)(hf:∀ y∈ys,y.fits):∀ e∈es,∃ l,keyOf Tryz.prog 27 e.key=some l:=by
 intro e he;have h1:e.key∈es.map (·.key):=yj.2 ⟨e,he,rfl⟩
 rw[h]at h1;obtain⟨y,hy,e1⟩:=yj.1 h1;rw[<- e1];exact pA y (hf y hy)
theorem KMap.find{W:World}{es:Array MapEntry}{ys:List IdR}(h:es.toList.map (·.key)=ys.map idV)(hf:∀ y∈ys,y.fits)(x:IdR)(hx:x.fits) :
  (x∉ys/\(Instr.findKey 27 (idV x) es.toList).run Tryz.prog W=.ok none W)\/(x∈ys/\∃ j e,(Instr.findKey 27 (idV x) es.toList).run Tryz.prog W=.ok (some (j,e.val)) W/\e∈es.toList):=by
 obtain⟨l,hl⟩:=pA x hx;have hm:∀ y,y∈ys↔idV y∈es.toList.map (·.key):=fun y=>by
  rw[h];exact⟨fun hy=>yj.2 ⟨y,hy,rfl⟩,fun hy=>by obtain⟨z,hz,e⟩:=yj.1 hy;rw[<- uDY e];exact hz⟩
 rcases uZ.find W hl es.toList (yD h hf) with⟨h1,h2⟩|⟨j,e,h1,h2,h3⟩
 ·refine .inl ⟨fun hxy=>?_,h1⟩;obtain⟨e,he,e1⟩:=yj.1 ((hm x).1 hxy);exact h2 e he e1
 have he:=List.mem_of_getElem? h2;exact .inr ⟨(hm x).2 (yj.2 ⟨e,he,h3⟩),j,e,h1,he⟩
theorem KMap.look{W:World}{m:Nat}{ys:List IdR}{u z:Value}{t et:TypeId}(h:KMap W m ys (fun v=>v=u))(hu:Tryz.prog.underlying t=some (.map 27 et))(hz:(zeroValue et).run Tryz.prog W=.ok z W)(hf:∀ y∈ys,y.fits)(x:IdR)(hx:x.fits) :
  (Instr.lookup t (.map (some m)) (idV x) false).run Tryz.prog W=.ok (if x∈ys then u else z) W:=by
 obtain⟨es,clock,h1,h2,h3⟩:=h;obtain⟨l,hl⟩:=pA x hx;have hc:=uZ.check W es.isEmpty hl;rcases KMap.find (W:=W) h2 hf x hx with⟨g1,g2⟩|⟨g1,j,e,g2,g3⟩
 ·simp[Instr.lookup,run_underlying hu,MapKept.run_getObj_map h1,hc,g2,hz,Result.andThen,g1]
 simp[Instr.lookup,run_underlying hu,MapKept.run_getObj_map h1,hc,g2,Result.andThen,g1,h3 e g3]
theorem KMap.put{W:World}{m:Nat}{ys:List IdR}{Pv:Value->Prop}{t et:TypeId}(h:KMap W m ys Pv)(hu:Tryz.prog.underlying t=some (.map 27 et))(hf:∀ y∈ys,y.fits)(x:IdR)(hx:x.fits)(hn:x∉ys)(val:Value)(hv:Pv val) :
  ∃ W',(Instr.mapUpdate t (.map (some m)) (idV x) val).run Tryz.prog W=.ok () W'/\KMap W' m (ys++[x]) Pv/\Only m W W':=by
 obtain⟨es,clock,h1,h2,h3⟩:=h;obtain⟨l,hl⟩:=pA x hx;have hc:=uZ.check W false hl;rcases KMap.find (W:=W) h2 hf x hx with⟨g1,g2⟩|⟨g1,_⟩
 ·have hlt:=(zk.1 h1).1;refine⟨{ W with heap:=W.heap.setIfInBounds m (.map (es.push { key:=idV x,val:=val,born:=clock }) (clock+1)) },?_,⟨es.push { key:=idV x,val:=val,born:=clock },clock+1,?_,?_,?_⟩,⟨rfl,rfl,rfl,by simp,fun k hk=>by simp[Ne.symm hk]⟩⟩
  ·simp[Instr.mapUpdate,run_underlying hu,MapKept.run_getObj_map h1,hc,g2,MapKept.run_setObj_map _ h1,Result.andThen]
  ·simp[hlt]
  ·simp[h2]
  intro e he;simp only[Array.toList_push,List.mem_append,yf]at he;rcases he with he|he
  ·exact h3 e he
  rw[he];exact hv
 exact absurd g1 hn
def IdRow(W:World)(g o:Nat)(l:List IdR):Prop:=g<W.heap.size/\∀ j (h:j<l.length),W.cell? ⟨g,o+j*2,none⟩=some (.int .i64 l[j].a)/\W.cell? ⟨g,o+j*2+1,none⟩=some (.int .i64 l[j].n)
theorem IdRow.at{W W':World}{g o:Nat}{l:List IdR}(h:IdRow W g o l)(hs:W.heap.size<=W'.heap.size)(hb:W'.heap[g]?=W.heap[g]?):IdRow W' g o l :=
 ⟨yu h.1 hs,fun j hj=>⟨(World.cell?_of_block (w:=W) (a:=⟨g,_,none⟩) hb).trans (h.2 j hj).1,(World.cell?_of_block (w:=W) (a:=⟨g,_,none⟩) hb).trans (h.2 j hj).2⟩⟩
def aJ(l:List IdR):List Value:=l.flatMap (fun x=>[vI x.a,vI x.n])
theorem jS(l:List IdR)(x:IdR):aJ (l++[x])=aJ l++[vI x.a,vI x.n]:=by simp[aJ]
theorem sC:(Tryz.prog.info? 27).map (fun i=>(i.zero,i.size,i.bytes))=some (some (.agg #[vI 0,vI 0]),2,16):=by kernel_rfl
theorem nT:(Tryz.prog.info? 4).map (fun i=>(i.zero,i.size,i.bytes))=some (some (.bool false),1,1):=by kernel_rfl
theorem aV{w:World}{b n sz:Nat}{te:TypeId}{v:Value}{xs:List Value}(h:w.ownsRow b te sz v n xs):∃ A c,v=.slice A n c:=by
 rcases h.2 with⟨rfl,rfl⟩|⟨g,cap,cur,e,_⟩
 ·exact⟨none,0,rfl⟩
 exact⟨_,_,e⟩
theorem bV{w w':World}{Y:List Nat}{b n sz:Nat}{te:TypeId}{v:Value}{xs:List Value}(h:w.ownsRow b te sz v n xs)(hk:Kp Y w w')(hn:∀ g,v.ownBlock=some g->g∉Y):w'.ownsRow b te sz v n xs:=by
 rcases h with⟨hl,⟨e,hz⟩|⟨g,cap,cur,e1,e2,e3,e4⟩⟩
 ·exact⟨hl,.inl ⟨e,hz⟩⟩
 have hg:g∉Y:=hn g (by rw[e1];rfl);exact⟨hl,.inr ⟨g,cap,cur,e1,e2,(hk.block g (zk.1 e3).1 hg).trans e3,e4⟩⟩
theorem iE{w:World}{b b' n n' sz sz':Nat}{te te':TypeId}(ht:te≠te'){v v':Value}{xs xs':List Value}(h:w.ownsRow b te sz v n xs)(h':w.ownsRow b' te' sz' v' n' xs'):∀ g,v.ownBlock=some g->v'.ownBlock≠some g:=by
 intro g hg jk;rcases h.2 with⟨rfl,_⟩|⟨g1,cap,cur,rfl,_,hh,_⟩
 ·simp[Value.ownBlock]at hg
 rcases h'.2 with⟨rfl,_⟩|⟨g2,o5,cur',rfl,_,hh',_⟩
 ·simp[Value.ownBlock]at jk
 simp[Value.ownBlock]at hg jk;subst hg;subst jk;rw[hh]at hh';injection hh' with e1;injection e1 with _ e2 _;exact ht e2
theorem cA{w:World}{b n sz:Nat}{te:TypeId}{v:Value}{xs:List Value}(h:w.ownsRow b te sz v n xs):∀ g,v.ownBlock=some g->b<=g/\g<w.heap.size:=h.lt
def jJ(acc:List IdR)(x:IdR):List IdR:=if x=id0\/x∈acc then acc else acc++[x]
def bN(ids:List IdR):List IdR:=ids.foldl jJ []
theorem iF(ids:List IdR)(k:Nat)(h:k<ids.length):bN (ids.take (k+1))=jJ (bN (ids.take k)) ids[k]:=by
 rw[yw h];unfold bN;rw[List.foldl_append];rfl
theorem uAM(acc:List IdR)(x:IdR):(jJ acc x).length<=acc.length+1:=by
 unfold jJ
 split
 ·omega
 simp
theorem uAN(acc:List IdR)(x y:IdR)(h:y∈jJ acc x):y∈acc\/y=x:=by
 unfold jJ at h
 split at h
 ·exact .inl h
 simpa using h
theorem pF(ids:List IdR):∀ k,k<=ids.length->(bN (ids.take k)).length<=k:=by
 intro k
 induction k with
 |zero=>intro _;exact zr
 |succ k ih=>
  intro h;rw[iF ids k h];have:=uAM (bN (ids.take k)) ids[k];have:=ih (by omega);omega
theorem vF(ids:List IdR):∀ k,k<=ids.length->∀ y∈bN (ids.take k),y∈ids:=by
 intro k
 induction k with
 |zero=>intro _ y hy;cases hy
 |succ k ih=>
  intro h y hy;rw[iF ids k h]at hy;rcases uAN _ _ _ hy with h1|h1
  ·exact ih (by omega) y h1
  rw[h1];exact List.getElem_mem h
structure AxMk(q base:Nat)(acc:List IdR)(v1 v2:Value)(W:World):Prop where
 ax:Lies W q 152 #[v1,v2,.map none,.slice none 0 0,.slice none 0 0]
 r1:W.ownsRow base 27 2 v1 acc.length (aJ acc)
 r2:W.ownsRow base 4 1 v2 acc.length (List.replicate acc.length (.bool true))
theorem AxMk.next{q base:Nat}{acc:List IdR}{v1 v2:Value}{W W':World}(h:AxMk q base acc v1 v2 W)(hb:Below W.heap.size W W'):AxMk q base acc v1 v2 W' :=
 ⟨h.ax.next hb,aD hb h.r1,aD hb h.r2⟩
def eS(W:World)(A:Option Addr)(l:List IdR):Prop:=0<l.length->∃ g o,A=some ⟨g,o,none⟩/\IdRow W g o l
theorem uEP(A:Option Addr)(cap:Nat)(ids:List IdR)(w:World)(hA:eS w A ids)(hn:ids.length<=300)(hf:∀ y∈ids,y.fits) :
  Calls Tryz.prog 69 #[.slice A ids.length cap] w fun e w'=>∃ v1 v2,e=.returned (vP w.heap.size 0)/\AxMk w.heap.size (w.heap.size+2) (bN ids) v1 v2 w'/\Below w.heap.size w w':=by
 have t7:=@run_makeMap Tryz.prog;have HF:=zh hf;have HA:=zh hA;have HS:=zh (iF ids);have ja:=zh (pF ids);have HMm:=zh (vF ids);have mr:Hid (bN (ids.take ids.length)=bN ids):=zh (by rw[List.take_length]);obtain⟨n,dx⟩:=zD ids.length
 have HN:=zh dx;rw[<- dx]at hn ⊢;clear hf hA dx
 go_in
 go_upto_region 4 with fail
 generalize fj:(w.alloc (.cells #[.slice none 0 0,.slice none 0 0,.map none,.slice none 0 0,.slice none 0 0] 152)).alloc (.map #[] 0)=W2 at *;have HM0:Hid (AxMk w.heap.size (w.heap.size+2) [] (.slice none 0 0) (.slice none 0 0) W2):=zh (by
  rw[<- fj];exact⟨(Lies.new w _ _).alloc _,⟨rfl,.inl ⟨rfl,rfl⟩⟩,⟨rfl,.inl ⟨rfl,rfl⟩⟩⟩)
 have HK0:Hid (KMap W2 (w.heap.size+1) [] (fun v=>v=.bool true)):=zh (by
  rw[<- fj];refine⟨#[],0,?_,rfl,fun e he=>by cases he⟩;have h:=heap_alloc_new (w.alloc (.cells #[.slice none 0 0,.slice none 0 0,.map none,.slice none 0 0,.slice none 0 0] 152)) (.map #[] 0);rw[World.size_alloc]at h;exact h)
 have af:Hid (Below w.heap.size w W2):=zh (by rw[<- fj];exact((Below.refl _ w).alloc zr _).alloc (by simp) _);have ye:Hid (w.heap.size+2<=W2.heap.size):=zh (by rw[<- fj];simp);clear fj
 go_loopw [12] (fun v12 wx=>∃ (k:Nat) (v1 v2:Value),v12=vI (k:Int)/\k<=n/\Hid (AxMk w.heap.size (w.heap.size+2) (bN (ids.take k)) v1 v2 wx)/\Hid (KMap wx (w.heap.size+1) (bN (ids.take k)) (fun v=>v=.bool true))/\Hid (Below w.heap.size w wx)/\Hid (w.heap.size+2<=wx.heap.size)) (fun v12 _=>n-(intOf v12).toNat)
 case atStart=>exact⟨0,_,_,rfl,zm _,HM0,HK0,af,ye⟩
 case round=>
  obtain⟨k,v1,v2,rfl,hk,hM,hK,hB,hZ⟩:=hrel;generalize ro:w.heap.size=q at *;have HQ:=zh ro;clear ro;clear HM0 HK0 af ye;by_cases hlt:k<n
  ·have ix:k<ids.length:=by rw[<- HN.out];exact hlt
   obtain⟨ga,oa,rfl,ku,bq⟩:=HA.out (by omega);obtain⟨c0,c1⟩:=bq k ix;have hxf:=HF.out _ (List.getElem_mem ix);have jy:=yv (ja.out k (by omega)) (Nat.le_of_lt ix);have rq:=zh (fun y hy=>HF.out y (HMm.out k (by omega) y hy));have rt:=zh (HS.out k ix);have d0:wr.cell? ⟨ga,oa+k*2,none⟩=some (vI ids[k].a):=(hB.out.cell (p:=⟨ga,_,none⟩) (by rw[<- HQ.out];exact ku)).trans c0;have d1:wr.cell? ⟨ga,oa+k*2+1,none⟩=some (vI ids[k].n):=(hB.out.cell (p:=⟨ga,_,none⟩) (by rw[<- HQ.out];exact ku)).trans c1;rw[<- HN.out]at jy;generalize ids[k]=x at *;generalize bN (ids.take k)=acc at *;generalize o6:bN (ids.take (k+1))=acc' at *;have jz:=zh o6;clear o6 c0 c1 bq;obtain⟨xa,xn⟩:=x;dsimp only at d0 d1;obtain⟨A1,co,rfl⟩:=aV hM.out.r1;obtain⟨A2,di,rfl⟩:=aV hM.out.r2;generalize hle:acc.length=m at *
   go_upto_region 6 with fail
   have r9:=zh (hM.out.next ((Below.refl _ wr).alloc zr (.cells #[vI xa,vI xn] 27)));have hK3:=zh (hK.out.at (Below.heap_alloc wr (.cells #[vI xa,vI xn] 27) (q+1) hK.out.lt));have hB3:=zh (hB.out.alloc (yv (Nat.le_add_right q 2) hZ.out) (.cells #[vI xa,vI xn] 27));have wl:=zh (Lies.new wr 27 #[vI xa,vI xn]);have hZ3:Hid (q+2<=(wr.alloc (.cells #[vI xa,vI xn] 27)).heap.size):=zh (by rw[World.size_alloc];have:=hZ.out;omega);have hbq:q+2<=wr.heap.size:=hZ.out;have hbo:Hid (∀ g,(Value.slice A1 m co).ownBlock=some g->g<wr.heap.size):=zh (fun g hg=>(cA hM.out.r1 g hg).2);generalize wr.alloc (.cells #[vI xa,vI xn] 27)=W3 at *;generalize wr.heap.size=bx at *;clear d0 d1 hM hK hB hZ;have a0:=r9.out.ax.cell 0;have a1:=r9.out.ax.cell 1;have b0:=wl.out.cell 0;have b1:=wl.out.cell 1
   simp only[za,zb,zf]at a0 a1 b0 b1;have t8:((m:Int)==1000)=false:=by simp;omega
   have hlk0:=hK3.out.look (t:=183) (et:=4) Tryz.underlying183 (z:=.bool false) (by kernel_rfl) rq.out ⟨xa,xn⟩ hxf;have hlk:∀ a' n',a'=xa->n'=xn->(Instr.lookup 183 (.map (some (q+1))) (.agg #[vI a',vI n']) false).run Tryz.prog W3=.ok (.bool (decide ((⟨xa,xn⟩:IdR)∈acc))) W3:=by
    intro a' n' e1 e2;rw[e1,e2];refine hlk0.trans ?_;by_cases h:(⟨xa,xn⟩:IdR)∈acc <;> simp[h]
   have HD:Hid (∀ d,(d=true↔((⟨xa,xn⟩:IdR)=id0\/(⟨xa,xn⟩:IdR)∈acc))->acc'=if d then acc else acc++[⟨xa,xn⟩]):=zh (by
    intro d hd;rw[rt.out,jJ];cases d
    ·rw[if_neg (fun h=>by have:=hd.2 h;cases this)];rfl
    rw[if_pos (hd.1 rfl)];rfl)
   clear hlk0
   go_upto_region 7 with fail
   go_cut [29] (fun v29 wx=>∃ d:Bool,v29=.bool d/\Hid (d=true↔((⟨xa,xn⟩:IdR)=id0\/(⟨xa,xn⟩:IdR)∈acc))/\Hid (wx=W3))
   case first=>
    by_cases hxa:xa=0
    ·subst hxa;by_cases hxn:xn=0
     ·subst hxn
      go_wp2_with fail
      go_meet
      exact⟨true,rfl,zh (by simp),zh rfl⟩
     have hxb:(xn==0)=false:=by simpa using hxn
     have hid:¬ (⟨0,xn⟩:IdR)=id0:=fun h=>hxn (congrArg IdR.n h)
     clear hxn
     go_wp2_with fail
     all_goals go_meet
     all_goals exact⟨_,rfl,zh (by simp[hid]),zh rfl⟩
    have hxb:(xa==0)=false:=by simpa using hxa
    have hid:¬ (⟨xa,xn⟩:IdR)=id0:=fun h=>hxa (congrArg IdR.a h)
    clear hxa
    go_wp2_with fail
    all_goals go_meet
    all_goals exact⟨_,rfl,zh (by simp[hid]),zh rfl⟩
   case rest=>
    obtain⟨d,rfl,hd,hw⟩:=hcut;obtain rfl:=hw.out;clear hw hlk;have ez:=HD.out d hd.out;cases d
    ·rw[if_neg (by decide)]at ez;have ru:¬ (⟨xa,xn⟩:IdR)∈acc:=fun h=>by have:=hd.out.2 (.inr h);cases this
     obtain⟨W4,bj,hK4,t9⟩:=hK3.out.put (t:=183) (et:=4) Tryz.underlying183 rq.out ⟨xa,xn⟩ hxf ru (.bool true) rfl;dsimp only[idV]at bj;clear hd HD ru
     go_upto_region 9 with fail
     clear a0 a1 b0 b1;have pu:=t9.kp;have hL4:Lies W4 bx 27 #[vI xa,vI xn]:=pu.lies wl.out (by simp;omega);have yy:Lies W4 q 152 #[.slice A1 m co,.slice A2 m di,.map none,.slice none 0 0,.slice none 0 0]:=pu.lies r9.out.ax (by simp);have hR1:W4.ownsRow (q+2) 27 2 (.slice A1 m co) m (aJ acc):=bV (hle ▸ r9.out.r1) pu (fun g hg=>by have:=(cA r9.out.r1 g hg).1;simp;omega);have vn:W4.ownsRow (q+2) 4 1 (.slice A2 m di) m (List.replicate m (.bool true)):=bV (hle ▸ r9.out.r2) pu (fun g hg=>by have:=(cA r9.out.r2 g hg).1;simp;omega);have hB4:=zh (hB3.out.trans ((pu.below (B:=q) (by simp) (by have:=hZ3.out;omega))));have HY:Hid (∀ g,(Value.slice A1 m co).ownBlock=some g->g∈q::(Value.slice A1 m co).ownBlock.toList):=zh (fun g hg=>by rw[hg];simp);have qq:=zh hL4;have HX4:=zh yy;have jl:=zh hR1;have jb:=zh vn;have gd:=zh hK4
     have vo:Hid (q+2<=W4.heap.size):=zh (by rw[t9.size];exact hZ3.out);clear bj t9 pu hL4 yy hR1 vn hK4 r9 hK3 hB3 wl hZ3;have hb2:bx≠q:=by omega
     have zo:Hid (bx∉q::(Value.slice A1 m co).ownBlock.toList):=zh (fun h=>by
      rcases ym.1 h with h|h
      ·exact hb2 h
      have:=hbo.out bx (by simpa using h);omega)
     go_cut [39] (fun v39 wx=>∃ v1',Hid (Lies wx q 152 #[v1',.slice A2 m di,.map none,.slice none 0 0,.slice none 0 0])/\Hid (wx.ownsRow (q+2) 27 2 v1' (m+1) (aJ acc++[vI xa,vI xn]))/\Hid (Kp (q::(Value.slice A1 m co).ownBlock.toList) W4 wx))
     case first=>
      obtain⟨TT,ai⟩:∃ TT:List (Nat×Nat×Value),TT=[(0,32,vP q 0),(1,33,vP q 0),(2,34,vP q 0),(3,35,vP q 0),(4,36,.slice A1 m co),(5,37,.agg #[vI xa,vI xn]),(8,40,vP q 0),(9,41,vP q 0)]:=⟨_,rfl⟩
      have az:=zh ai;clear ai;refine fJ (by kernel_rfl) (by kernel_rfl) (fun a0=>53<=a0.tmps.size/\a0.eval (.tmp 3)=vP q 0/\a0.eval (.tmp 6)=vP bx 0) (GA [32,33,34,35,36,37,38,39,40,41] TT (q::(Value.slice A1 m co).ownBlock.toList) W4 4 6 38 7 39 10 q 0 27 152 #[.slice A1 m co,.slice A2 m di,.map none,.slice none 0 0,.slice none 0 0] (q+2) 2 m (.slice A1 m co) (aJ acc) [vI xa,vI xn]) ⟨by simp,rfl,rfl⟩ (GA.start _ _ (Kp.refl _ _).drew jl.out HX4.out) ?_ ?_
      ·rintro a0 ⟨hs,kv,wm⟩ zl a1 w1 j o aq hI al ho zd;have ai:=az.out;subst ai;have hk:GAk [32,33,34,35,36,37,38,39,40,41] [(0,32,vP q 0),(1,33,vP q 0),(2,34,vP q 0),(3,35,vP q 0),(4,36,.slice A1 m co),(5,37,.agg #[vI xa,vI xn]),(8,40,vP q 0),(9,41,vP q 0)] (q::(Value.slice A1 m co).ownBlock.toList) 6 38 7 39 10 q 27 152 (.slice A1 m co) 53:=⟨rfl,by decide,HY.out,.head _⟩
       have hj:=Up.of_false al;have hj12:j<11:=by rw[aq]at hj;exact hj
       have e3x:a1.eval (.tmp 3)=vP q 0:=(hI.off.eval (by decide)).trans kv;have e6x:a1.eval (.tmp 6)=vP bx 0:=(hI.off.eval (by decide)).trans wm;rcases(by omega:j=0\/j=1\/j=2\/j=3\/j=4\/j=5\/j=6\/j=7\/j=8\/j=9\/j=10) with rfl|rfl|rfl|rfl|rfl|rfl|rfl|rfl|rfl|rfl|rfl<;>obtain rfl:=oi ho
       ·exact bR hk hI hs (.head _) al ho rfl rfl (by simp[execOp,go_sem,cD e3x])
       ·exact bR hk hI hs (.tail _ (.head _)) al ho rfl rfl (by simp[execOp,go_sem,cD e3x])
       ·have d1:=ud zd 1;have p1:=pk hI.pt 1 rfl d1;exact bR hk hI hs (mm 2 rfl) al ho rfl rfl (by simp[execOp,go_sem,cD p1])
       ·have d2:=ud zd 2;have p2:=pk hI.pt 2 rfl d2;exact bR hk hI hs (mm 3 rfl) al ho rfl rfl (by simp[execOp,go_sem,cD p2])
       ·have d3:=ud zd 3;have p3:=pk hI.pt 3 rfl d3;have c0:=(hI.unl al).cell 0;simp only[za,zb]at c0;exact bR hk hI hs (mm 4 rfl) al ho rfl rfl (by simp[execOp,go_sem,cD p3,c0])
       ·have hLb:=hI.kp.lies qq.out zo.out;have l0:=hLb.cell 0;have l1:=hLb.cell 1;simp only[za,zb,zf]at l0 l1;exact bR hk hI hs (mm 5 rfl) al ho rfl rfl (by simp[execOp,go_sem,cD e6x,l0,l1])
       ·have d5:=ud zd 5;have p5:=pk hI.pt 5 rfl d5;exact rZ hk hI hs al ho rfl rfl (by simp[execOp,go_sem,cD p5])
       ·have d4:=ud zd 4;have p4:=pk hI.pt 4 rfl d4;have d6:=ud zd 6;obtain⟨i1,gi,gz0,gz1,gz2⟩:=info_parts sC;exact uBC hk hI hs al ho rfl rfl d4 d6 35 36 rfl p4 i1 (.agg #[vI 0,vI 0]) 16 Tryz.underlying35 gi gz0 gz1 gz2 rfl (by decide) rfl (by intro u hu;simp at hu;rcases hu with rfl|rfl <;> rfl) (by unfold maxLen;omega) (by omega) (yv vo.out hI.kp.size)
       ·have d0:=ud zd 0;have p0:=pk hI.pt 0 rfl d0;exact bR hk hI hs (mm 6 rfl) al ho rfl rfl (by simp[execOp,go_sem,cD p0])
       ·have d8:=ud zd 8;have p8:=pk hI.pt 6 rfl d8;exact bR hk hI hs (mm 7 rfl) al ho rfl rfl (by simp[execOp,go_sem,cD p8])
       have d9:=ud zd 9;have p9:=pk hI.pt 7 rfl d9;have d7:=ud zd 7;exact sA hk hI al ho rfl rfl d7 (fun hL ji=>by
        obtain⟨gs,cs,ji⟩:=ji;have c0:=hL.cell 0;have k0:=hL.frozen 0;simp at c0;rw[ji];simp[execOp,go_sem,cD p9,cD ji,c0,k0])
      intro zl a1 w1 hI bj;have ai:=az.out;subst ai;have i6:=hI.kp;have bd:=hI.o2 (bj 7 (by decide));have j0:=(hI.b2 (bj 10 (by decide))).2;obtain⟨ff,rfl,hf⟩:=hI.off.forms;rw[<- hf 39]at bd j0;clear hI;generalize ff 39=v' at *;simp only[List.foldl,Act.put,yz,List.set];simp only[Exit.then]
      go_step
      go_meet
      exact⟨v',zh j0,zh bd,zh i6⟩
     case rest=>
      obtain⟨v1',sc,o7,lr⟩:=hcut;obtain⟨A1',o8,rfl⟩:=aV o7.out;have lj:=zh (bV jb.out lr.out (fun g hg=>by
       intro hm;rcases ym.1 hm with h|h
       ·subst h;exact bF (by decide) jb.out HX4.out hg.symm
       exact iE (by decide) jb.out jl.out g hg (by simpa using h)))
      have HK52:=zh (gd.out.at (lr.out.block (q+1) gd.out.lt (fun hm=>by
       rcases ym.1 hm with h|h
       ·omega
       have:=(cA jl.out (q+1) (by simpa using h)).1;omega)))
      have bm:=zh (hB4.out.trans (lr.out.below (B:=q) (fun g hg=>by
       rcases ym.1 hg with h|h
       ·omega
       have:=(cA jl.out g (by simpa using h)).1;omega) (by have:=vo.out;omega)))
      have qr:Hid (q+2<=wc.heap.size):=zh (yv vo.out lr.out.size);clear HX4 jl jb gd lr qq hB4 vo HY zo;have x1:=sc.out.cell 1;have f1:=sc.out.frozen 1;simp only[za,zb,zf]at x1;have hqz:q<wc.heap.size:=by have:=qr.out;omega
      obtain⟨i1,gi,gz0,gz1,gz2⟩:=info_parts nT
      go_wp2_with (at_builtin;refine wpList_append_own _ rfl _ _ 148 rfl (q+2) 4 i1 (.bool false) 1 1 Tryz.underlying148 gi gz0 gz1 gz2 rfl (by decide) _ _ _ rfl (World.ownsRow.alloc lj.out _) ⟨wc.heap.size,0,none⟩ 1 1 [.bool true] rfl rfl ?c1 ?c2 ?c3 ?c4 ?c5 ?_)
      case c1=>
       intro j u hj
       match j,hj with
       |0,hj=>simp at hj;subst hj;simp[Addr.add]
      case c2=>intro u hu;simp at hu;subst hu;rfl
      case c3=>unfold maxLen;omega
      case c4=>omega
      case c5=>have:=qr.out;rw[World.size_alloc];omega
      intro v2' W6 ep dt _;obtain⟨A2',o9,rfl⟩:=aV ep;have ku:wc.grownBy W6 (Value.slice A2 m di).ownBlock:=(World.grownBy_alloc wc _ _).trans dt;have sd:=zh (sc.out.grownA ku (bF (by decide) lj.out sc.out));have HR6:=zh (World.ownsRow.kept o7.out ku (by
       cases hv:(Value.slice A1' (m+1) o8).ownBlock with
       |none=>exact .inl rfl
       |some g=>exact .inr (fun e=>iE (by decide) o7.out lj.out g hv e.symm)))
      have HR62:=zh ep;have wn:=zh (HK52.out.at (ku.block (q+1) HK52.out.lt (fun e=>by have:=(cA lj.out (q+1) e.symm).1;omega)));have nu:=zh (bm.out.grown ku (by have:=qr.out;omega) (fun g hg=>by have:=(cA lj.out g hg).1;omega));have HZ6:Hid (q+2<=W6.heap.size):=zh (yv qr.out ku.size);clear ku dt ep sc o7 lj HK52 bm qr x1 f1 hqz;have x1:=sd.out.cell 1;have f1:=sd.out.frozen 1;simp only[za,zb,zf]at x1
      go_wp2_with fail
      go_roundw
      case rel=>
       refine⟨k+1,.slice A1' (m+1) o8,.slice A2' (m+1) o9,by go_num,by omega,zh ⟨sd.out.put 1 _,?_,?_⟩,zh ?_,zh (nu.out.setCell (p:=⟨q,1,none⟩) (Nat.le_refl q) _),zh (by rw[World.size_setCell];exact HZ6.out)⟩
       ·rw[jz.out,ez,jS,yl,hle];exact lT (by decide) HR6.out sd.out 1 _
       ·rw[jz.out,ez,yl,hle];have h:=lT (by decide) HR62.out sd.out 1 (.slice A2' (m+1) o9);rw[<- List.replicate_succ']at h;exact h
       rw[jz.out,ez];exact wn.out.at (Below.heap_setCell _ _ _ _ (by show q+1≠q;omega))
      case measure=>simp[intOf];omega
    rw[if_pos rfl]at ez
    go_wp2_with fail
    go_roundw
    case rel=>exact⟨k+1,_,_,by go_num,by omega,by rw[jz.out,ez];exact r9,by rw[jz.out,ez];exact hK3,hB3,hZ3⟩
    case measure=>simp[intOf];omega
  obtain rfl:k=n:=by omega
  rw[HN.out,mr.out]at hM
  go_wp2_with fail
  go_ret
  exact⟨v1,v2,by rw[HQ.out];rfl,by rw[HQ.out];exact hM.out,by rw[HQ.out];exact hB.out⟩
def aG:List IdR->List Bool->List IdR
 |x::r,b::s=>if b then x::aG r s else aG r s
 |_,_=>[]
theorem qE:∀ (r:List IdR) (s:List Bool) (x:IdR) (b:Bool),r.length=s.length->aG (r++[x]) (s++[b])=aG r s++(if b then [x] else [])
 | [],[],x,b,_=>by cases b <;> rfl
 |y::r,c::s,x,b,h=>by
  have ih:=qE r s x b (by simpa using h);simp only[yp,aG];rw[ih];cases c <;> simp
 | [],_::_,_,_,h=>by simp at h
 |_::_,[],_,_,h=>by simp at h
theorem dA:∀ (r:List IdR) (s:List Bool),(aG r s).length<=r.length
 | [],_=>by simp[aG]
 |_::_,[]=>by simp[aG]
 |x::r,b::s=>by
  have ih:=dA r s;unfold aG
  split
  ·simp;exact ih
  simp;omega
theorem kZ(r:List IdR)(s:List Bool)(k:Nat)(h:r.length=s.length)(hk:k<r.length):aG (r.take (k+1)) (s.take (k+1))=aG (r.take k) (s.take k)++(if s[k]'(by omega) then [r[k]] else []):=by
 rw[yw hk,yw (by omega:k<s.length)];exact qE _ _ _ _ (by simp;omega)
def dW(fl:List Bool):List Value:=fl.map Value.bool
structure AxRaw(b base:Nat)(ids:List IdR)(fl:List Bool)(v1 v2:Value)(W:World):Prop where
 ax:Lies W b 152 #[v1,v2,.map none,.slice none 0 0,.slice none 0 0]
 r1:W.ownsRow base 27 2 v1 ids.length (aJ ids)
 r2:W.ownsRow base 4 1 v2 fl.length (dW fl)
theorem aM{W:World}{b b' n sz:Nat}{te:TypeId}{v:Value}{xs:List Value}(h:W.ownsRow b te sz v n xs)(hb:b'<=b):W.ownsRow b' te sz v n xs:=by
 rcases h with⟨hl,⟨e,hz⟩|⟨g,cap,cur,e1,e2,e3⟩⟩
 ·exact⟨hl,.inl ⟨e,hz⟩⟩
 exact⟨hl,.inr ⟨g,cap,cur,e1,yv hb e2,e3⟩⟩
theorem mV:∀ (l:List IdR) (j:Nat) (h:j<l.length),(aJ l)[j*2]?=some (vI l[j].a)/\(aJ l)[j*2+1]?=some (vI l[j].n)
 |x::l,0,_=>⟨rfl,rfl⟩
 |x::l,j+1,h=>by
  have ih:=mV l j (by simpa using h);have e1:(j+1)*2=j*2+2:=by omega
  rw[e1];exact ih
theorem gA:∀ l:List IdR,(aJ l).length=l.length*2
 | []=>rfl
 |x::l=>by
  show (aJ l).length+2=_;rw[gA l,yi];omega
theorem fY{W:World}{base n sz:Nat}{te:TypeId}{v:Value}{xs:List Value}(h:W.ownsRow base te sz v n xs)(h0:0<n):∃ g cap,v=.slice (some ⟨g,0,none⟩) n cap/\base<=g/\g<W.heap.size/\∀ j u,xs[j]?=some u->W.cell? ⟨g,j,none⟩=some u:=by
 obtain⟨hl,⟨e,hz⟩|⟨g,cap,cur,e1,e2,e3,e4,e5,e6,e7⟩⟩:=h
 ·omega
 refine⟨g,cap,e1,e2,(zk.1 e3).1,fun j u hj=>?_⟩;rw[Lib.cell_of_heap e3];have hj':j<xs.length:=(List.getElem?_eq_some_iff.1 hj).1;have h2:(cur.toList.take (n*sz))[j]?=cur.toList[j]?:=List.getElem?_take_of_lt (by omega);rw[e7,hj]at h2;show cur[j]?=_;rw[<- Array.getElem?_toList,<- h2]
theorem own_ids{W:World}{base:Nat}{v:Value}{l:List IdR}(h:W.ownsRow base 27 2 v l.length (aJ l))(h0:0<l.length):∃ g cap,v=.slice (some ⟨g,0,none⟩) l.length cap/\base<=g/\IdRow W g 0 l:=by
 obtain⟨g,cap,e1,e2,e3,e4⟩:=fY h h0;refine⟨g,cap,e1,e2,e3,fun j hj=>?_⟩;rw[Nat.zero_add];exact⟨e4 _ _ (mV l j hj).1,e4 _ _ (mV l j hj).2⟩
theorem infoI64x:(Tryz.prog.info? 3).map (fun i=>(i.zero,i.size,i.bytes))=some (some (vI 0),1,8):=by kernel_rfl
theorem mk_ints(n:Nat)(hn:n<=300)(w:World):(Instr.makeSlice 150 (vI (n:Int)) (vI (n:Int))).run Tryz.prog w=.ok (.slice (some ⟨w.heap.size,0,none⟩) n n) (w.alloc (.cells (madeCells (vI 0).cells n) 3)):=by
 obtain⟨i0,hi,m9,i9,lq⟩:=info_parts infoI64x;have h:=run_makeSlice (P:=Tryz.prog) w 150 3 i0 (vI 0) Tryz.underlying150 hi m9 .i64 .i64 (n:Int) (n:Int) (by omega) (Int.le_refl _) (by rw[i9];omega) (by rw[lq];omega) (by omega);rw[i9]at h;simpa using h
theorem neq_nil(w:World):(binOp .neq 149 (.map none) (.map none)).run Tryz.prog w=.ok (.bool false) w:=by kernel_rfl
theorem neq_some(m:Nat)(w:World):(binOp .neq 149 (.map (some m)) (.map none)).run Tryz.prog w=.ok (.bool true) w:=by kernel_rfl
theorem mk_map(n:Nat)(w:World):(Instr.makeMap 149 (some (vI (n:Int)))).run Tryz.prog w=.ok (.map (some w.heap.size)) (w.alloc (.map #[] 0)):=by
 simp[Instr.makeMap,run_underlying Tryz.underlying149,go_sem,Result.andThen]
def ptr:Option Nat->Option Addr
 |none=>none
 |some b=>some ⟨b,0,none⟩
def KIdx(W:World)(m:Nat)(ys:List IdR):Prop:=∃ es clock,W.heap[m]?=some (.map es clock)/\es.toList.map (·.key)=ys.map idV/\es.toList.map (·.val)=(List.range ys.length).map (fun(i:Nat)=>vI (i:Int))
theorem KIdx.at{W W':World}{m:Nat}{ys:List IdR}(h:KIdx W m ys)(hb:W'.heap[m]?=W.heap[m]?):KIdx W' m ys:=by
 obtain⟨es,clock,h1,h2⟩:=h;exact⟨es,clock,hb.trans h1,h2⟩
theorem KIdx.lt{W:World}{m:Nat}{ys:List IdR}(h:KIdx W m ys):m<W.heap.size:=by
 obtain⟨es,clock,h1,_⟩:=h;exact(zk.1 h1).1
theorem KIdx.put{W:World}{m:Nat}{ys:List IdR}{t et:TypeId}(h:KIdx W m ys)(hu:Tryz.prog.underlying t=some (.map 27 et))(hf:∀ y∈ys,y.fits)(x:IdR)(hx:x.fits)(hn:x∉ys)(k:Nat)(hk:ys.length=k) :
  ∃ W',(Instr.mapUpdate t (.map (some m)) (idV x) (vI (k:Int))).run Tryz.prog W=.ok () W'/\KIdx W' m (ys++[x])/\Only m W W':=by
 obtain⟨es,clock,h1,h2,h3⟩:=h;obtain⟨l,hl⟩:=pA x hx;have hc:=uZ.check W false hl;rcases KMap.find (W:=W) h2 hf x hx with⟨g1,g2⟩|⟨g1,_⟩
 ·have hlt:=(zk.1 h1).1;refine⟨{ W with heap:=W.heap.setIfInBounds m (.map (es.push { key:=idV x,val:=vI (k:Int),born:=clock }) (clock+1)) },?_,⟨es.push { key:=idV x,val:=vI (k:Int),born:=clock },clock+1,?_,?_,?_⟩,⟨rfl,rfl,rfl,by simp,fun k hk=>by simp[Ne.symm hk]⟩⟩
  ·simp[Instr.mapUpdate,run_underlying hu,MapKept.run_getObj_map h1,hc,g2,MapKept.run_setObj_map _ h1,Result.andThen]
  ·simp[hlt]
  ·simp[h2]
  rw[yl,List.length_singleton,List.range_succ,List.map_append,<- h3,hk];simp
 exact absurd g1 hn
theorem KIdx.look{W:World}{m:Nat}{ys:List IdR}{t:TypeId}(h:KIdx W m ys)(hu:Tryz.prog.underlying t=some (.map 27 3))(hf:∀ y∈ys,y.fits)(x:IdR)(hx:x.fits) :
  (x∉ys/\(Instr.lookup t (.map (some m)) (idV x) true).run Tryz.prog W=.ok (.tuple #[vI 0,.bool false]) W)\/(∃ k:Nat,∃ hk:k<ys.length,ys[k]=x/\(Instr.lookup t (.map (some m)) (idV x) true).run Tryz.prog W=.ok (.tuple #[vI (k:Int),.bool true]) W):=by
 obtain⟨es,clock,h1,h2,h3⟩:=h;obtain⟨l,hl⟩:=pA x hx;have hc:=uZ.check W es.isEmpty hl;have hz:(zeroValue 3).run Tryz.prog W=.ok (vI 0) W:=by kernel_rfl
 have hlen:es.toList.length=ys.length:=by have:=congrArg List.length h2;simpa using this
 rcases uZ.find W hl es.toList (yD h2 hf) with⟨g1,g2⟩|⟨j,e,g1,g2,g3⟩
 ·refine .inl ⟨fun hxy=>?_,?_⟩
  ·have hm:idV x∈es.toList.map (·.key):=by rw[h2];exact yj.2 ⟨x,hxy,rfl⟩
   obtain⟨e,he,e1⟩:=yj.1 hm;exact g2 e he e1
  simp[Instr.lookup,run_underlying hu,MapKept.run_getObj_map h1,hc,g1,hz,Result.andThen]
 have hj:j<ys.length:=by rw[<- hlen];exact(List.getElem?_eq_some_iff.1 g2).1
 have hkey:ys[j]=x:=by
  have e1:(es.toList.map (·.key))[j]?=some e.key:=by rw[List.getElem?_map,g2];rfl
  rw[h2,List.getElem?_map,List.getElem?_eq_getElem hj]at e1;exact uDY ((Option.some.inj e1).trans g3)
 have hval:e.val=vI (j:Int):=by
  have e1:(es.toList.map (·.val))[j]?=some e.val:=by rw[List.getElem?_map,g2];rfl
  rw[h3,List.getElem?_map,List.getElem?_range hj]at e1;exact(Option.some.inj e1).symm
 refine .inr ⟨j,hj,hkey,?_⟩;simp[Instr.lookup,run_underlying hu,MapKept.run_getObj_map h1,hc,g1,Result.andThen,hval]
def Aheads(ids:List IdR)(fl:List Bool)(k:Nat)(cs:Array Value):Prop:=∀ j,j<k->cs[j]?=some (vI ((aG (ids.take j) (fl.take j)).length:Int))
theorem Aheads.put{ids:List IdR}{fl:List Bool}{k m:Nat}{cs:Array Value}(h:Aheads ids fl k cs)(hk:k<cs.size)(hm:(aG (ids.take k) (fl.take k)).length=m):Aheads ids fl (k+1) (cs.setIfInBounds k (vI (m:Int))):=fun j hj=>by
 rcases Nat.lt_or_ge j k with h1|h1
 ·rw[Array.getElem?_setIfInBounds_ne (by omega)];exact h j h1
 obtain rfl:j=k:=by omega
 rw[Array.getElem?_setIfInBounds_self_of_lt hk,hm]
structure AxFull(b base:Nat)(ids:List IdR)(fl:List Bool)(W:World):Prop where
 ex:∃ v1 v2 v4 m ga cs,Lies W b 152 #[v1,v2,.map (some m),.slice (some ⟨ga,0,none⟩) ids.length ids.length,v4]/\(∃ b1,W.ownsRow b1 27 2 v1 ids.length (aJ ids))/\(∃ b2,W.ownsRow b2 4 1 v2 fl.length (dW fl))/\KIdx W m ids/\Lies W ga 3 cs/\cs.size=ids.length/\Aheads ids fl ids.length cs/\W.ownsRow base 27 2 v4 (aG ids fl).length (aJ (aG ids fl))
theorem wI(b base:Nat)(ids:List IdR)(fl:List Bool)(v1 v2:Value)(w:World)(hR:AxRaw b base ids fl v1 v2 w)(hl:ids.length=fl.length)(hn:ids.length<=300)(hf:∀ y∈ids,y.fits)(hd:ids.Nodup) :
  Calls Tryz.prog 88 #[vP b 0] w fun e w'=>e=.returned (.tuple #[])/\AxFull b w.heap.size ids fl w'/\Kp [b] w w':=by
 have t7:=mk_map;have hnq:=neq_nil;have hms:=fun w=>mk_ints ids.length hn w
 have HF:=zh hf;have HD:=zh hd;have HR:=zh hR;obtain⟨A1,co,rfl⟩:=aV hR.r1;obtain⟨A2,di,rfl⟩:=aV hR.r2;rw[<- hl]at HR;obtain⟨n,dx⟩:=zD ids.length
 have HN:=zh dx;have HLf:=zh hl;rw[<- dx]at hn HR hms;have a0:=HR.out.ax.cell 0;have a2:=HR.out.ax.cell 2;have f2:=HR.out.ax.frozen 2;simp only[za,zb,zf]at a0 a2;have hbs:=HR.out.ax.lt;clear hf hd hR dx hl
 go_in
 go_upto_region 2 with fail
 obtain⟨W1,an⟩:∃ W1,W1=(w.setCell ⟨b,2,none⟩ (.map (some w.heap.size))).alloc (.map #[] 0):=⟨_,rfl⟩
 have HX1:Hid (Lies W1 b 152 #[.slice A1 n co,.slice A2 n di,.map (some w.heap.size),.slice none 0 0,.slice none 0 0]):=zh (by rw[an];exact(HR.out.ax.put 2 _).alloc _);have HK1:Hid (Kp [b] w W1):=zh (by rw[an];exact((Kp.refl _ w).set (.inl (.head _)) 2 _).alloc _);have HM1:Hid (KIdx W1 w.heap.size []):=zh (by
  rw[an];refine⟨#[],0,?_,rfl,rfl⟩;have h:=heap_alloc_new (w.setCell ⟨b,2,none⟩ (.map (some w.heap.size))) (.map #[] 0);rw[World.size_setCell]at h;exact h)
 have i9:W1.heap.size=w.heap.size+1:=by rw[an,World.size_alloc,World.size_setCell]
 rw[<- an];clear an a0 a2 f2;have a0:=HX1.out.cell 0;have a3:=HX1.out.cell 3;have f3:=HX1.out.frozen 3;simp only[za,zb,zf]at a0 a3;have hbs1:b<W1.heap.size:=HX1.out.lt
 go_upto_region 3 with fail
 obtain⟨W2,fj⟩:∃ W2,W2=(W1.setCell ⟨b,3,none⟩ (.slice (some ⟨w.heap.size+1,0,none⟩) n n)).alloc (.cells (madeCells #[vI 0] n) 3):=⟨_,rfl⟩
 have tn:Hid (Lies W2 b 152 #[.slice A1 n co,.slice A2 n di,.map (some w.heap.size),.slice (some ⟨w.heap.size+1,0,none⟩) n n,.slice none 0 0]):=zh (by rw[fj];exact(HX1.out.put 3 _).alloc _);have fu:Hid (Kp [b] w W2):=zh (by rw[fj];exact(HK1.out.set (.inl (.head _)) 3 _).alloc _);have kw:Hid (KIdx W2 w.heap.size []):=zh (by
  rw[fj];exact(HM1.out.at (Below.heap_setCell _ _ _ _ (by show w.heap.size≠b;omega))).at (Below.heap_alloc _ _ _ (by rw[World.size_setCell,i9];omega)))
 have HA2:Hid (∃ cs:Array Value,Lies W2 (w.heap.size+1) 3 cs/\cs.size=n/\Aheads ids fl 0 cs):=zh (by
  rw[fj];refine⟨madeCells #[vI 0] n,?_,by simp[madeCells],fun j hj=>absurd hj (Nat.not_lt_zero _)⟩;have h:=Lies.new (W1.setCell ⟨b,3,none⟩ (.slice (some ⟨w.heap.size+1,0,none⟩) n n)) 3 (madeCells #[vI 0] n);rw[World.size_setCell,i9]at h;exact h)
 have jd:Hid (w.heap.size+2<=W2.heap.size):=zh (by rw[fj,World.size_alloc,World.size_setCell,i9];omega);rw[<- fj];clear fj a0 a3 f3 HX1 HK1 HM1 i9 hbs1;have HRi:Hid (∀ wx,Kp [b] w wx->∀ k (h:k<ids.length),∃ g,A1=some ⟨g,0,none⟩/\wx.cell? ⟨g,k*2,none⟩=some (vI ids[k].a)/\wx.cell? ⟨g,k*2+1,none⟩=some (vI ids[k].n)):=zh (fun wx hk k h=>by
  have hr:=HR.out.r1;rw[HN.out]at hr;obtain⟨g,cap,e,_,bq⟩:=own_ids hr (by omega);have mw:g∉[b]:=fun hm=>by
   have e2:g=b:=by simpa using hm
   exact bF (by decide) HR.out.r1 HR.out.ax (by injection e with e;rw[e,e2];rfl)
  obtain⟨q0,q1⟩:=bq.2 k h;rw[Nat.zero_add]at q0 q1;exact⟨g,by injection e,(hk.cell bq.1 mw).trans q0,(hk.cell bq.1 mw).trans q1⟩)
 have HRl:Hid (∀ wx,Kp [b] w wx->∀ k (h:k<fl.length),∃ g,A2=some ⟨g,0,none⟩/\wx.cell? ⟨g,k,none⟩=some (.bool fl[k])):=zh (fun wx hk k h=>by
  obtain⟨g,cap,e,_,hg,bq⟩:=fY HR.out.r2 (by omega);have mw:g∉[b]:=fun hm=>by
   have e2:g=b:=by simpa using hm
   exact bF (by decide) HR.out.r2 HR.out.ax (by injection e with e;rw[e,e2];rfl)
  exact⟨g,by injection e,(hk.cell hg mw).trans (bq k _ (by simp[dW,h]))⟩)
 have a0:=tn.out.cell 0;simp only[za,zb]at a0;have hbs2:b<W2.heap.size:=tn.out.lt
 go_upto_region 4 with fail
 clear a0 hbs2
 go_loopw [32] (fun v32 wx=>∃ (k:Nat) (v4:Value),v32=vI (k:Int)/\k<=n/\Hid (Lies wx b 152 #[.slice A1 n co,.slice A2 n di,.map (some w.heap.size),.slice (some ⟨w.heap.size+1,0,none⟩) n n,v4])/\Hid (KIdx wx w.heap.size (ids.take k))/\Hid (∃ cs:Array Value,Lies wx (w.heap.size+1) 3 cs/\cs.size=n/\Aheads ids fl k cs)/\Hid (wx.ownsRow (w.heap.size+2) 27 2 v4 (aG (ids.take k) (fl.take k)).length (aJ (aG (ids.take k) (fl.take k))))/\Hid (Kp [b] w wx)/\Hid (w.heap.size+2<=wx.heap.size)) (fun v32 _=>n-(intOf v32).toNat)
 case atStart=>exact⟨0,_,rfl,zm _,tn,kw,HA2,zh ⟨rfl,.inl ⟨rfl,rfl⟩⟩,fu,jd⟩
 case round=>
  obtain⟨k,v4,rfl,hk,hX,hM,hA,hO,hK,hZ⟩:=hrel;clear tn kw HA2 fu jd;generalize ro:w.heap.size=q at *;have HQ:=zh ro;clear ro;by_cases hlt:k<n
  ·have ix:k<ids.length:=by rw[<- HN.out];exact hlt
   have ua:k<fl.length:=by rw[<- HLf.out];exact ix
   obtain⟨gi,rfl,d0,d1⟩:=HRi.out wr hK.out k ix;obtain⟨gl,rfl,d2⟩:=HRl.out wr hK.out k ua;have D2:Hid (∀ wx,Kp [b] w wx->wx.cell? ⟨gl,k,none⟩=some (.bool fl[k])):=zh (fun wx h=>by
    obtain⟨g,e,hc⟩:=HRl.out wx h k ua;injection e with e;injection e with e;rw[e];exact hc)
   clear d2;have hxf:=HF.out _ (List.getElem_mem ix);have rq:=zh (fun y (hy:y∈ids.take k)=>HF.out y (List.mem_of_mem_take hy));have rt:=zh (kZ ids fl k HLf.out ix);have HTk:=zh (yw ix);have hnin:ids[k]∉ids.take k:=fun hm=>by
    obtain⟨j,hj,e⟩:=List.getElem_of_mem hm;rw[zc]at hj;rw[List.getElem_take]at e;have:=(List.getElem_inj HD.out).1 e;omega
   have hml:(aG (ids.take k) (fl.take k)).length<=k:=yv (dA _ _) (by rw[zc];omega);generalize ids[k]=x at *;generalize fl[k]=fk at *;have rx:Hid ((ids.take k).length=k):=zh (by rw[zc];omega);generalize jy:ids.take k=acc at *;generalize ng:aG acc (fl.take k)=lv at *;generalize o6:ids.take (k+1)=acc' at *;generalize hlv2:aG acc' (fl.take (k+1))=lv' at *;have jz:=zh o6;have HAcc:=zh (And.intro jy ng);have HLv2:=zh hlv2;clear o6 jy ng hlv2;obtain⟨xa,xn⟩:=x;dsimp only at d0 d1;obtain⟨A4,jm,rfl⟩:=aV hO.out;generalize hle:lv.length=m at *
   go_upto_region 6 with fail
   have hX3:=zh (hX.out.next ((Below.refl _ wr).alloc zr (.cells #[vI xa,vI xn] 27)));have r9:=zh (hM.out.at (Below.heap_alloc wr (.cells #[vI xa,vI xn] 27) q hM.out.lt));have hA3:Hid (∃ cs:Array Value,Lies (wr.alloc (.cells #[vI xa,vI xn] 27)) (q+1) 3 cs/\cs.size=n/\Aheads ids fl k cs):=zh (by
    obtain⟨cs,h1,h2⟩:=hA.out;exact⟨cs,h1.next ((Below.refl _ wr).alloc zr _),h2⟩)
   have hO3:=zh (World.ownsRow.alloc hO.out (.cells #[vI xa,vI xn] 27));have hK3:=zh (hK.out.alloc (.cells #[vI xa,vI xn] 27));have wl:=zh (Lies.new wr 27 #[vI xa,vI xn]);have ub:b<wr.heap.size:=hX.out.lt;have hbq:q+2<=wr.heap.size:=hZ.out;have hbo:Hid (∀ g,(Value.slice A4 m jm).ownBlock=some g->g<wr.heap.size):=zh (fun g hg=>(cA hO.out g hg).2);have hZ3:Hid (wr.heap.size<(wr.alloc (.cells #[vI xa,vI xn] 27)).heap.size):=zh (by rw[World.size_alloc];omega);generalize wr.alloc (.cells #[vI xa,vI xn] 27)=W3 at *;generalize wr.heap.size=bx at *;clear d0 d1 hX hM hA hO hK hZ;have c2:=hX3.out.cell 2;have b0:=wl.out.cell 0;have b1:=wl.out.cell 1;simp only[za,zb,zf]at c2 b0 b1
   obtain⟨W4,bj,zy,t9⟩:=(r9.out.at (rfl:W3.drew.heap[q]?=W3.heap[q]?)).put (t:=149) (et:=3) Tryz.underlying149 rq.out ⟨xa,xn⟩ hxf hnin k rx.out;dsimp only[idV]at bj
   go_cut [42] (fun v42 wx=>Hid (wx=W4))
   case first=>
    go_region
    all_goals go_wp2_with fail
    all_goals go_meet
    all_goals exact zh rfl
   case rest=>
   obtain rfl:W4=wc:=hcut.out.symm;have pu:=t9.kp;have hqb:q≠b:=by
    intro e;have h1:=hX3.out;obtain⟨es,ck,h2,_⟩:=r9.out;unfold Lies at h1;rw[e,h1]at h2;cases h2
   have yy:=zh (pu.lies (hX3.out.next (Below.refl _ W3).drew) (by simp;omega));have hL4:=zh (pu.lies (wl.out.next (Below.refl _ W3).drew) (by simp;omega));have hA4:Hid (∃ cs:Array Value,Lies W4 (q+1) 3 cs/\cs.size=n/\Aheads ids fl k cs):=zh (by
    obtain⟨cs,h1,h2⟩:=hA3.out;exact⟨cs,pu.lies (h1.next (Below.refl _ W3).drew) (by simp),h2⟩)
   have hO4:=zh (bV (aD (Below.refl _ W3).drew hO3.out) pu (fun g hg=>by have:=(cA hO3.out g hg).1;simp;omega));have hK4:=zh (hK3.out.drew.andThen pu (fun g hg=>.inr (by rw[HQ.out];simp at hg;omega)));have HM4:=zh zy;have hs4:W4.heap.size=W3.heap.size:=t9.size;clear bj zy t9 pu hX3 r9 hA3 hO3 hK3 wl c2 b0 b1;obtain⟨cs,fp,rm,hca⟩:=hA4.out;have hkc:k<cs.size:=by omega
   have e0:W4.cell? ⟨q+1,k,none⟩=some cs[k]:=by rw[fp.cell,Array.getElem?_eq_getElem hkc]
   have e1:=fp.frozen k;generalize cs[k]=u0 at e0;have c3:=yy.out.cell 3;have c4:=yy.out.cell 4;simp only[za,zb,zf]at c3 c4;have HC:=zh fp;have sj:=zh rm;have HCa:=zh (hca.put (m:=m) (by omega) (by rw[HAcc.out.1,HAcc.out.2];exact hle));clear fp rm hkc hA4 hca
   go_upto_region 7 with fail
   obtain⟨W5,fe⟩:=zD (W4.drew.setCell ⟨q+1,k,none⟩ (vI (m:Int)))
   go_cut [54] (fun v54 wx=>Hid (wx=W5))
   case first=>
    go_region
    all_goals go_wp2_with fail
    all_goals go_meet
    all_goals exact zh fe.symm
   case rest=>
   obtain rfl:W5=wc:=hcut.out.symm;have hq1b:q+1≠b:=by
    intro e;have h1:=yy.out;have h2:=HC.out;unfold Lies at h1 h2;rw[e,h1]at h2;injection h2 with h2;injection h2 with _ h2 _;exact absurd h2 (by decide)
   have hX5:Hid (Lies W5 b 152 #[.slice (some ⟨gi,0,none⟩) n co,.slice (some ⟨gl,0,none⟩) n di,.map (some q),.slice (some ⟨q+1,0,none⟩) n n,.slice A4 m jm]):=zh (by rw[fe];exact(aC (yy.out.next (Below.refl _ W4).drew) (Ne.symm hq1b) k _));have hL5:Hid (Lies W5 bx 27 #[vI xa,vI xn]):=zh (by rw[fe];exact(aC (hL4.out.next (Below.refl _ W4).drew) (by omega) k _));have hA5:Hid (∃ cs:Array Value,Lies W5 (q+1) 3 cs/\cs.size=n/\Aheads ids fl (k+1) cs):=zh (by
    rw[fe];exact⟨_,(HC.out.next (Below.refl _ W4).drew).put k _,by rw[Array.size_setIfInBounds];exact sj.out,HCa.out⟩)
   have hO5:Hid (W5.ownsRow (q+2) 27 2 (.slice A4 m jm) m (aJ lv)):=zh (by rw[fe];exact lT (by decide) (aD (Below.refl _ W4).drew hO4.out) (HC.out.next (Below.refl _ W4).drew) k _);have hM5:=zh (show KIdx W5 q (acc++[⟨xa,xn⟩]) by rw[fe];exact HM4.out.at (Below.heap_setCell _ _ _ _ (by show q≠q+1;omega)));have hK5:Hid (Kp [b] w W5):=zh (by rw[fe];exact hK4.out.drew.set (.inr (by rw[HQ.out];omega)) k _);have hZ5:Hid (bx<W5.heap.size):=zh (by rw[fe,World.size_setCell];show bx<W4.heap.size;rw[hs4];exact hZ3.out);clear fe e0 e1 c3 c4 HC sj HCa yy hL4 hO4 HM4 hK4 hs4 hZ3;have c1:=hX5.out.cell 1;have d2:=D2.out W5 hK5.out;simp only[za,zb,zf]at c1;have ng:lv'=lv++(if fk then [⟨xa,xn⟩] else []):=HLv2.out ▸ rt.out;have ww:acc'=acc++[⟨xa,xn⟩]:=HTk.out;cases fk
   ·go_wp2_with fail
    go_roundw
    case rel=>
     refine⟨k+1,.slice A4 m jm,by go_num,by omega,hX5,?_,hA5,?_,hK5,zh (by have:=hZ5.out;omega)⟩
     ·rw[jz.out,ww];exact hM5
     rw[jz.out,HLv2.out,ng];simp only[Bool.false_eq_true,if_false,List.append_nil,hle];exact hO5
    case measure=>simp[intOf];omega
   go_upto_region 9 with fail
   clear c1 d2;have HY:Hid (∀ g,(Value.slice A4 m jm).ownBlock=some g->g∈b::(Value.slice A4 m jm).ownBlock.toList):=zh (fun g hg=>by rw[hg];simp);have hb2:bx≠b:=by omega
   have zo:Hid (bx∉b::(Value.slice A4 m jm).ownBlock.toList):=zh (fun h=>by
    rcases ym.1 h with h|h
    ·exact hb2 h
    have:=hbo.out bx (by simpa using h);omega)
   obtain⟨TT,ai⟩:∃ TT:List (Nat×Nat×Value),TT=[(0,61,vP b 0),(1,62,vP b 0),(2,63,vP b 0),(3,64,vP b 4),(4,65,.slice A4 m jm),(5,66,.agg #[vI xa,vI xn]),(8,69,vP b 0),(9,70,vP b 4)]:=⟨_,rfl⟩
   have az:=zh ai;clear ai;refine fJ (by kernel_rfl) (by kernel_rfl) (fun a0=>72<=a0.tmps.size/\a0.eval (.tmp 0)=vP b 0/\a0.eval (.tmp 3)=vP bx 0) (GA [61,62,63,64,65,66,67,68,69,70] TT (b::(Value.slice A4 m jm).ownBlock.toList) W5 4 6 67 7 68 10 b 4 27 152 #[.slice (some ⟨gi,0,none⟩) n co,.slice (some ⟨gl,0,none⟩) n di,.map (some q),.slice (some ⟨q+1,0,none⟩) n n,.slice A4 m jm] (q+2) 2 m (.slice A4 m jm) (aJ lv) [vI xa,vI xn]) ⟨by simp,rfl,rfl⟩ (GA.start _ _ (Kp.refl _ _).drew hO5.out hX5.out) ?_ ?_
   ·rintro a0 ⟨hs,dw,kv⟩ zl a1 w1 j o aq hI al ho zd;have ai:=az.out;subst ai;have hk:GAk [61,62,63,64,65,66,67,68,69,70] [(0,61,vP b 0),(1,62,vP b 0),(2,63,vP b 0),(3,64,vP b 4),(4,65,.slice A4 m jm),(5,66,.agg #[vI xa,vI xn]),(8,69,vP b 0),(9,70,vP b 4)] (b::(Value.slice A4 m jm).ownBlock.toList) 6 67 7 68 10 b 27 152 (.slice A4 m jm) 72:=⟨rfl,by decide,HY.out,.head _⟩
    have hj:=Up.of_false al;have hj12:j<11:=by rw[aq]at hj;exact hj
    have e0x:a1.eval (.tmp 0)=vP b 0:=(hI.off.eval (by decide)).trans dw;have e3x:a1.eval (.tmp 3)=vP bx 0:=(hI.off.eval (by decide)).trans kv;rcases(by omega:j=0\/j=1\/j=2\/j=3\/j=4\/j=5\/j=6\/j=7\/j=8\/j=9\/j=10) with rfl|rfl|rfl|rfl|rfl|rfl|rfl|rfl|rfl|rfl|rfl<;>obtain rfl:=oi ho
    ·exact bR hk hI hs (.head _) al ho rfl rfl (by simp[execOp,go_sem,cD e0x])
    ·exact bR hk hI hs (.tail _ (.head _)) al ho rfl rfl (by simp[execOp,go_sem,cD e0x])
    ·have d1:=ud zd 1;have p1:=pk hI.pt 1 rfl d1;exact bR hk hI hs (mm 2 rfl) al ho rfl rfl (by simp[execOp,go_sem,cD p1])
    ·have d2:=ud zd 2;have p2:=pk hI.pt 2 rfl d2;exact bR hk hI hs (mm 3 rfl) al ho rfl rfl (by simp[execOp,go_sem,cD p2])
    ·have d3:=ud zd 3;have p3:=pk hI.pt 3 rfl d3;have c0:=(hI.unl al).cell 4;simp only[za,zb,zf]at c0;exact bR hk hI hs (mm 4 rfl) al ho rfl rfl (by simp[execOp,go_sem,cD p3,c0])
    ·have hLb:=hI.kp.lies hL5.out zo.out;have l0:=hLb.cell 0;have l1:=hLb.cell 1;simp only[za,zb,zf]at l0 l1;exact bR hk hI hs (mm 5 rfl) al ho rfl rfl (by simp[execOp,go_sem,cD e3x,l0,l1])
    ·have d5:=ud zd 5;have p5:=pk hI.pt 5 rfl d5;exact rZ hk hI hs al ho rfl rfl (by simp[execOp,go_sem,cD p5])
    ·have d4:=ud zd 4;have p4:=pk hI.pt 4 rfl d4;have d6:=ud zd 6;obtain⟨i1,gi,gz0,gz1,gz2⟩:=info_parts sC;exact uBC hk hI hs al ho rfl rfl d4 d6 35 65 rfl p4 i1 (.agg #[vI 0,vI 0]) 16 Tryz.underlying35 gi gz0 gz1 gz2 rfl (by decide) rfl (by intro u hu;simp at hu;rcases hu with rfl|rfl <;> rfl) (by unfold maxLen;omega) (by omega) (by have:=hZ5.out;have:=hI.kp.size;omega)
    ·have d0:=ud zd 0;have p0:=pk hI.pt 0 rfl d0;exact bR hk hI hs (mm 6 rfl) al ho rfl rfl (by simp[execOp,go_sem,cD p0])
    ·have d8:=ud zd 8;have p8:=pk hI.pt 6 rfl d8;exact bR hk hI hs (mm 7 rfl) al ho rfl rfl (by simp[execOp,go_sem,cD p8])
    have d9:=ud zd 9;have p9:=pk hI.pt 7 rfl d9;have d7:=ud zd 7;exact sA hk hI al ho rfl rfl d7 (fun hL ji=>by
     obtain⟨gs,cs,ji⟩:=ji;have c0:=hL.cell 4;have k0:=hL.frozen 4;simp at c0;rw[ji];simp[execOp,go_sem,cD p9,cD ji,c0,k0])
   intro zl a1 w1 hI bj;have ai:=az.out;subst ai;have i6:=hI.kp;have bd:=hI.o2 (bj 7 (by decide));have j0:=(hI.b2 (bj 10 (by decide))).2;obtain⟨ff,rfl,hf⟩:=hI.off.forms;rw[<- hf 68]at bd j0;clear hI;generalize ff 68=v' at *;simp only[List.foldl,Act.put,yz,List.set];have sd:=zh j0;have fg:=zh bd;have wn:=zh i6;obtain⟨A4',cap4',hv4⟩:=aV bd;clear j0 bd i6 bj az;have hA6:Hid (∃ cs:Array Value,Lies w1 (q+1) 3 cs/\cs.size=n/\Aheads ids fl (k+1) cs):=zh (by
    obtain⟨cs,h1,h2⟩:=hA5.out;refine⟨cs,wn.out.lies h1 (fun hm=>?_),h2⟩;rcases ym.1 hm with h|h
    ·exact hq1b h
    have:=(cA hO5.out (q+1) (by simpa using h)).1;omega)
   have hM6:=zh (hM5.out.at (wn.out.block q hM5.out.lt (fun hm=>by
    rcases ym.1 hm with h|h
    ·exact hqb h
    have:=(cA hO5.out q (by simpa using h)).1;omega)))
   have hK6:=zh (hK5.out.andThen wn.out (fun g hg=>by
    rcases ym.1 hg with h|h
    ·exact .inl (by rw[h];exact .head _)
    have:=(cA hO5.out g (by simpa using h)).1;exact .inr (by rw[HQ.out];omega)))
   have hZ6:Hid (q+2<=w1.heap.size):=zh (by have:=hZ5.out;have:=wn.out.size;omega);clear wn hX5 hO5 hA5 hM5 hK5 HY zo hL5
   go_wp2_with fail
   go_roundw
   case rel=>
    refine⟨k+1,v',by go_num,by omega,sd,?_,hA6,?_,hK6,hZ6⟩
    ·rw[jz.out,ww];exact hM6
    rw[jz.out,HLv2.out,ng];simp only[if_true,yl,yi,List.length_nil,Nat.zero_add,hle,jS];exact fg
   case measure=>simp[intOf];omega
  obtain rfl:k=n:=by omega
  have e1:ids.take k=ids:=by rw[HN.out,List.take_length]
  have e2:fl.take k=fl:=by rw[HN.out,HLf.out,List.take_length]
  rw[e1,e2]at hO;rw[e1]at hM;have HO:=zh hO.out;clear hO e1 e2
  go_wp2_with fail
  go_end0
  obtain⟨cs,fp,rm,hca⟩:=hA.out;have fh:wr.ownsRow base 27 2 (.slice A1 k co) k (aJ ids):=by
   have h1:=HR.out.r1;rw[<- HN.out]at h1;exact bV h1 hK.out (fun g hg hm=>bF (by decide) HR.out.r1 HR.out.ax (by rw[hg];simp at hm;rw[hm]))
  have lu:wr.ownsRow base 4 1 (.slice A2 k di) k (dW fl):=by
   have h1:=HR.out.r2;rw[<- HLf.out,<- HN.out]at h1;exact bV h1 hK.out (fun g hg hm=>bF (by decide) HR.out.r2 HR.out.ax (by rw[hg];simp at hm;rw[hm]))
  refine⟨rfl,⟨_,_,_,_,_,cs,?_,⟨_,by rw[<- HN.out];exact fh⟩,⟨_,by rw[<- HLf.out,<- HN.out];exact lu⟩,hM.out,fp,?_,?_,aM HO.out (by rw[HQ.out];omega)⟩,hK.out⟩
  ·rw[<- HN.out];exact hX.out
  ·rw[<- HN.out];exact rm
  rw[<- HN.out];exact hca
end Go.Proofs.YtjfihpaeglpblaaGreatDoor
