/-
  Lemmas, part 6: Ax1 Ax2 Ax3 Ax4.
-/
import Derived.DeepKeys4
import Derived.WideKeyArgs2
import Derived.MapViews
import Derived.Laws.MakeOwn
import Derived.Test.YtmgjidnalpgegaaGreatDoorPg5
namespace Go.Proofs.YtmgjidnalpgegaaGreatDoor
open Go.RowKit
abbrev idV(x:IdR):Value:=.agg #[.int .i64 x.a,.int .i64 x.n]
theorem idV_inj{x y:IdR}(h:idV x=idV y):x=y:=by
 injection h with h1;simp at h1;exact IdR.ext' h1.1 h1.2
theorem xL:Tryz.prog.cellsOf 34=2:=by kernel_rfl
theorem tC:Tryz.prog.cellsOf 3=1:=by kernel_rfl
theorem idKeyT:Tryz.prog.keyType 34=true:=by kernel_rfl
theorem idSize:∃ m,Tryz.prog.types.size+1=m+1+1:=⟨Tryz.prog.types.size-1,by have h:0<Tryz.prog.types.size:=of_decide_eq_true (by kernel_rfl);omega⟩
theorem idLaid:laidOutB Tryz.prog=true:=by kernel_rfl
theorem idRow:(34:TypeId)<Tryz.prog.types.size:=of_decide_eq_true (by kernel_rfl)
theorem idWide:(match Tryz.prog.underlying 34 with | some (.array _ _) | some (.struct _)=>true | _=>false)=true:=by kernel_rfl
set_option maxRecDepth 100000 in
theorem idLaw:WideMaps.KeyLaw Tryz.prog 34:=deep_law_laid idLaid (m:=2) (by omega) idRow (by kernel_rfl) idWide
def IdR.fits(x:IdR):Prop:=(Lit.int .i64 x.a).wf=true∧(Lit.int .i64 x.n).wf=true
theorem xM(x:IdR)(h:x.fits):∃ l,keyOf Tryz.prog 34 (idV x)=some l:=by
 obtain⟨m,hm⟩:=idSize;have hf:(idV x).formed Tryz.prog 34=true:=by simp[Value.formed,Tryz.underlying34,xL]
 have hl:Tryz.prog.keyLits (m+1+1) 34 [.int .i64 x.a,.int .i64 x.n]=some [.int .i64 x.a,.int .i64 x.n]:=by
  simp[Program.keyLits,Tryz.underlying34,Tryz.underlying3,xL,tC,h.1,h.2]
 refine⟨.string (keyBytes [.int .i64 x.a,.int .i64 x.n]),?_⟩;unfold keyOf;rw[Tryz.underlying34];simp only[idKeyT,hf,Bool.and_self,if_true];rw[hm];show Option.map _ (Tryz.prog.keyLits (m+1+1) 34 [.int .i64 x.a,.int .i64 x.n])=_;rw[hl];rfl
def KMap(W:World)(m:Nat)(ys:List IdR)(Pv:Value→Prop):Prop:=∃ es clock,W.heap[m]?=some (.map es clock)∧es.toList.map (·.key)=ys.map idV∧∀ e∈es.toList,Pv e.val
theorem KMap.at{W W':World}{m:Nat}{ys:List IdR}{Pv:Value→Prop}(h:KMap W m ys Pv)(hb:W'.heap[m]?=W.heap[m]?):KMap W' m ys Pv:=by
 obtain⟨es,clock,h1,h2⟩:=h;exact⟨es,clock,hb.trans h1,h2⟩
theorem KMap.lt{W:World}{m:Nat}{ys:List IdR}{Pv:Value→Prop}(h:KMap W m ys Pv):m<W.heap.size:=by
 obtain⟨es,clock,h1,_⟩:=h;exact(Array.getElem?_eq_some_iff.1 h1).1
theorem keys_fit{es:List MapEntry}{ys:List IdR}(h:es.map (·.key)=ys.map idV)(hf:∀ y∈ys,y.fits):∀ e∈es,∃ l,keyOf Tryz.prog 34 e.key=some l:=by
 intro e he;have h1:e.key∈es.map (·.key):=List.mem_map.2 ⟨e,he,rfl⟩;rw[h]at h1;obtain⟨y,hy,e1⟩:=List.mem_map.1 h1;rw[← e1];exact xM y (hf y hy)
theorem KMap.find{W:World}{es:Array MapEntry}{ys:List IdR}(h:es.toList.map (·.key)=ys.map idV)(hf:∀ y∈ys,y.fits)(x:IdR)(hx:x.fits) :
  (x∉ys∧(Instr.findKey 34 (idV x) es.toList).run Tryz.prog W=.ok none W)∨(x∈ys∧∃ j e,(Instr.findKey 34 (idV x) es.toList).run Tryz.prog W=.ok (some (j,e.val)) W∧e∈es.toList):=by
 obtain⟨l,hl⟩:=xM x hx;have hm:∀ y,y∈ys↔idV y∈es.toList.map (·.key):=fun y=>by
  rw[h];exact⟨fun hy=>List.mem_map.2 ⟨y,hy,rfl⟩,fun hy=>by obtain⟨z,hz,e⟩:=List.mem_map.1 hy;rw[← idV_inj e];exact hz⟩
 rcases idLaw.find W hl es.toList (keys_fit h hf) with⟨h1,h2⟩ | ⟨j,e,h1,h2,h3⟩
 ·refine .inl ⟨fun hxy=>?_,h1⟩;obtain⟨e,he,e1⟩:=List.mem_map.1 ((hm x).1 hxy);exact h2 e he e1
 ·have he:=List.mem_of_getElem? h2;exact .inr ⟨(hm x).2 (List.mem_map.2 ⟨e,he,h3⟩),j,e,h1,he⟩
theorem KMap.look{W:World}{m:Nat}{ys:List IdR}{u z:Value}{t et:TypeId}(h:KMap W m ys (fun v=>v=u))(hu:Tryz.prog.underlying t=some (.map 34 et))(hz:(zeroValue et).run Tryz.prog W=.ok z W)(hf:∀ y∈ys,y.fits)(x:IdR)(hx:x.fits) :
  (Instr.lookup t (.map (some m)) (idV x) false).run Tryz.prog W=.ok (if x∈ys then u else z) W:=by
 obtain⟨es,clock,h1,h2,h3⟩:=h;obtain⟨l,hl⟩:=xM x hx;have hc:=idLaw.check W es.isEmpty hl;rcases KMap.find (W:=W) h2 hf x hx with⟨g1,g2⟩ | ⟨g1,j,e,g2,g3⟩
 ·simp[Instr.lookup,run_underlying hu,MapKept.run_getObj_map h1,hc,g2,hz,Result.andThen,g1]
 ·simp[Instr.lookup,run_underlying hu,MapKept.run_getObj_map h1,hc,g2,Result.andThen,g1,h3 e g3]
theorem KMap.put{W:World}{m:Nat}{ys:List IdR}{Pv:Value→Prop}{t et:TypeId}(h:KMap W m ys Pv)(hu:Tryz.prog.underlying t=some (.map 34 et))(hf:∀ y∈ys,y.fits)(x:IdR)(hx:x.fits)(hn:x∉ys)(val:Value)(hv:Pv val) :
  ∃ W',(Instr.mapUpdate t (.map (some m)) (idV x) val).run Tryz.prog W=.ok () W'∧KMap W' m (ys++[x]) Pv∧Only m W W':=by
 obtain⟨es,clock,h1,h2,h3⟩:=h;obtain⟨l,hl⟩:=xM x hx;have hc:=idLaw.check W false hl;rcases KMap.find (W:=W) h2 hf x hx with⟨g1,g2⟩ | ⟨g1,_⟩
 ·have hlt:=(Array.getElem?_eq_some_iff.1 h1).1;refine⟨{ W with heap:=W.heap.setIfInBounds m (.map (es.push { key:=idV x,val:=val,born:=clock }) (clock+1)) },?_,⟨es.push { key:=idV x,val:=val,born:=clock },clock+1,?_,?_,?_⟩,⟨rfl,rfl,rfl,by simp,fun k hk=>by simp[Ne.symm hk]⟩⟩
  ·simp[Instr.mapUpdate,run_underlying hu,MapKept.run_getObj_map h1,hc,g2,MapKept.run_setObj_map _ h1,Result.andThen]
  ·simp[hlt]
  ·simp[h2]
  ·intro e he;simp only[Array.toList_push,List.mem_append,List.mem_singleton]at he;rcases he with he | he
   ·exact h3 e he
   ·rw[he];exact hv
 ·exact absurd g1 hn
def IdRow(W:World)(g o:Nat)(l:List IdR):Prop:=g<W.heap.size∧∀ j (h:j<l.length),W.cell? ⟨g,o+j*2,none⟩=some (.int .i64 l[j].a)∧W.cell? ⟨g,o+j*2+1,none⟩=some (.int .i64 l[j].n)
theorem IdRow.at{W W':World}{g o:Nat}{l:List IdR}(h:IdRow W g o l)(hs:W.heap.size≤W'.heap.size)(hb:W'.heap[g]?=W.heap[g]?):IdRow W' g o l :=
 ⟨Nat.lt_of_lt_of_le h.1 hs,fun j hj=>⟨(World.cell?_of_block (w:=W) (a:=⟨g,_,none⟩) hb).trans (h.2 j hj).1,(World.cell?_of_block (w:=W) (a:=⟨g,_,none⟩) hb).trans (h.2 j hj).2⟩⟩
def cM(l:List IdR):List Value:=l.flatMap (fun x=>[.int .i64 x.a,.int .i64 x.n])
theorem lO(l:List IdR)(x:IdR):cM (l++[x])=cM l++[.int .i64 x.a,.int .i64 x.n]:=by simp[cM]
theorem uCW:(Tryz.prog.info? 34).map (fun i=>(i.zero,i.size,i.bytes))=some (some (.agg #[.int .i64 0,.int .i64 0]),2,16):=by kernel_rfl
theorem zP:(Tryz.prog.info? 4).map (fun i=>(i.zero,i.size,i.bytes))=some (some (.bool false),1,1):=by kernel_rfl
theorem fC{w:World}{b n sz:Nat}{te:TypeId}{v:Value}{xs:List Value}(h:w.ownsRow b te sz v n xs):∃ A c,v=.slice A n c:=by
 rcases h.2 with⟨rfl,rfl⟩ | ⟨g,cap,cur,e,_⟩
 ·exact⟨none,0,rfl⟩
 ·exact⟨_,_,e⟩
theorem jF{w w':World}{Y:List Nat}{b n sz:Nat}{te:TypeId}{v:Value}{xs:List Value}(h:w.ownsRow b te sz v n xs)(hk:Kp Y w w')(hn:∀ g,v.ownBlock=some g→g∉Y):w'.ownsRow b te sz v n xs:=by
 rcases h with⟨hl,⟨e,hz⟩ | ⟨g,cap,cur,e1,e2,e3,e4⟩⟩
 ·exact⟨hl,.inl ⟨e,hz⟩⟩
 ·have hg:g∉Y:=hn g (by rw[e1];rfl);exact⟨hl,.inr ⟨g,cap,cur,e1,e2,(hk.block g (Array.getElem?_eq_some_iff.1 e3).1 hg).trans e3,e4⟩⟩
theorem pG{w:World}{b b' n n' sz sz':Nat}{te te':TypeId}(ht:te≠te'){v v':Value}{xs xs':List Value}(h:w.ownsRow b te sz v n xs)(h':w.ownsRow b' te' sz' v' n' xs'):∀ g,v.ownBlock=some g→v'.ownBlock≠some g:=by
 intro g hg hg';rcases h.2 with⟨rfl,_⟩ | ⟨g1,cap,cur,rfl,_,hh,_⟩
 ·simp[Value.ownBlock]at hg
 ·rcases h'.2 with⟨rfl,_⟩ | ⟨g2,cap',cur',rfl,_,hh',_⟩
  ·simp[Value.ownBlock]at hg'
  ·simp[Value.ownBlock]at hg hg';subst hg;subst hg';rw[hh]at hh';injection hh' with e1;injection e1 with _ e2 _;exact ht e2
theorem cN{w:World}{b n sz:Nat}{te:TypeId}{v:Value}{xs:List Value}(h:w.ownsRow b te sz v n xs):∀ g,v.ownBlock=some g→b≤g∧g<w.heap.size:=h.lt
def lE(acc:List IdR)(x:IdR):List IdR:=if x=id0∨x∈acc then acc else acc++[x]
def cO(ids:List IdR):List IdR:=ids.foldl lE []
theorem jG(ids:List IdR)(k:Nat)(h:k<ids.length):cO (ids.take (k+1))=lE (cO (ids.take k)) ids[k]:=by
 rw[List.take_succ_eq_append_getElem h];unfold cO;rw[List.foldl_append];rfl
theorem uCA(acc:List IdR)(x:IdR):(lE acc x).length≤acc.length+1:=by
 unfold lE
 split
 ·omega
 ·simp
theorem uCB(acc:List IdR)(x y:IdR)(h:y∈lE acc x):y∈acc∨y=x:=by
 unfold lE at h
 split at h
 ·exact .inl h
 ·simpa using h
theorem qI(ids:List IdR):∀ k,k≤ids.length→(cO (ids.take k)).length≤k:=by
 intro k
 induction k with
 | zero=>intro _;exact Nat.le_refl _
 | succ k ih=>
  intro h;rw[jG ids k h];have:=uCA (cO (ids.take k)) ids[k];have:=ih (by omega);omega
theorem wD(ids:List IdR):∀ k,k≤ids.length→∀ y∈cO (ids.take k),y∈ids:=by
 intro k
 induction k with
 | zero=>intro _ y hy;cases hy
 | succ k ih=>
  intro h y hy;rw[jG ids k h]at hy;rcases uCB _ _ _ hy with h1 | h1
  ·exact ih (by omega) y h1
  ·rw[h1];exact List.getElem_mem h
structure AxMk(q base:Nat)(acc:List IdR)(v1 v2:Value)(W:World):Prop where
 ax:Lies W q 82 #[v1,v2,.map none,.slice none 0 0,.slice none 0 0]
 r1:W.ownsRow base 34 2 v1 acc.length (cM acc)
 r2:W.ownsRow base 4 1 v2 acc.length (List.replicate acc.length (.bool true))
theorem AxMk.next{q base:Nat}{acc:List IdR}{v1 v2:Value}{W W':World}(h:AxMk q base acc v1 v2 W)(hb:Below W.heap.size W W'):AxMk q base acc v1 v2 W' :=
 ⟨h.ax.next hb,fW hb h.r1,fW hb h.r2⟩
def lW(W:World)(A:Option Addr)(l:List IdR):Prop:=0<l.length→∃ g o,A=some ⟨g,o,none⟩∧IdRow W g o l
set_option maxRecDepth 100000 in
set_option maxHeartbeats 6400000 in
theorem uGG(A:Option Addr)(cap:Nat)(ids:List IdR)(w:World)(hA:lW w A ids)(hn:ids.length≤300)(hf:∀ y∈ids,y.fits) :
  Calls Tryz.prog 18 #[.slice A ids.length cap] w fun e w'=>∃ v1 v2,e=.returned (.pointer (some ⟨w.heap.size,0,none⟩))∧AxMk w.heap.size (w.heap.size+2) (cO ids) v1 v2 w'∧Below w.heap.size w w':=by
 have hmm:=@run_makeMap Tryz.prog;have HF:=zh hf;have HA:=zh hA;have HS:=zh (jG ids);have HLn:=zh (qI ids);have HMm:=zh (wD ids);have HAll:Hid (cO (ids.take ids.length)=cO ids):=zh (by rw[List.take_length]);obtain⟨n,hnn⟩:∃ n,n=ids.length:=⟨_,rfl⟩
 have HN:=zh hnn;rw[← hnn]at hn ⊢;clear hf hA hnn
 go_enter Tryz.func18,Tryz.ntmps18
 go_upto_region 4 with fail
 generalize hW2:(w.alloc (.cells #[.slice none 0 0,.slice none 0 0,.map none,.slice none 0 0,.slice none 0 0] 82)).alloc (.map #[] 0)=W2 at *;have HM0:Hid (AxMk w.heap.size (w.heap.size+2) [] (.slice none 0 0) (.slice none 0 0) W2):=zh (by
  rw[← hW2];exact⟨(Lies.new w _ _).alloc _,⟨rfl,.inl ⟨rfl,rfl⟩⟩,⟨rfl,.inl ⟨rfl,rfl⟩⟩⟩)
 have HK0:Hid (KMap W2 (w.heap.size+1) [] (fun v=>v=.bool true)):=zh (by
  rw[← hW2];refine⟨#[],0,?_,rfl,fun e he=>by cases he⟩;have h:=heap_alloc_new (w.alloc (.cells #[.slice none 0 0,.slice none 0 0,.map none,.slice none 0 0,.slice none 0 0] 82)) (.map #[] 0);rw[World.size_alloc]at h;exact h)
 have HB0:Hid (Below w.heap.size w W2):=zh (by rw[← hW2];exact((Below.refl _ w).alloc (Nat.le_refl _) _).alloc (by simp) _);have HZ0:Hid (w.heap.size+2≤W2.heap.size):=zh (by rw[← hW2];simp);clear hW2
 go_loopw [12] (fun v12 wx=>∃ (k:Nat) (v1 v2:Value),v12=.int .i64 (k:Int)∧k≤n∧Hid (AxMk w.heap.size (w.heap.size+2) (cO (ids.take k)) v1 v2 wx)∧Hid (KMap wx (w.heap.size+1) (cO (ids.take k)) (fun v=>v=.bool true))∧Hid (Below w.heap.size w wx)∧Hid (w.heap.size+2≤wx.heap.size)) (fun v12 _=>n-(intOf v12).toNat)
 case atStart=>exact⟨0,_,_,rfl,Nat.zero_le _,HM0,HK0,HB0,HZ0⟩
 case round=>
  obtain⟨k,v1,v2,rfl,hk,hM,hK,hB,hZ⟩:=hrel;generalize hqe:w.heap.size=q at *;have HQ:=zh hqe;clear hqe;clear HM0 HK0 HB0 HZ0;by_cases hlt:k<n
  ·have hki:k<ids.length:=by rw[← HN.out];exact hlt
   obtain⟨ga,oa,rfl,hga,hrow⟩:=HA.out (by omega);obtain⟨c0,c1⟩:=hrow k hki;have hxf:=HF.out _ (List.getElem_mem hki);have hacc:=Nat.le_trans (HLn.out k (by omega)) (Nat.le_of_lt hki);have haccf:=zh (fun y hy=>HF.out y (HMm.out k (by omega) y hy));have HSt:=zh (HS.out k hki);have d0:wr.cell? ⟨ga,oa+k*2,none⟩=some (.int .i64 ids[k].a):=(hB.out.cell (p:=⟨ga,_,none⟩) (by rw[← HQ.out];exact hga)).trans c0;have d1:wr.cell? ⟨ga,oa+k*2+1,none⟩=some (.int .i64 ids[k].n):=(hB.out.cell (p:=⟨ga,_,none⟩) (by rw[← HQ.out];exact hga)).trans c1;rw[← HN.out]at hacc;generalize ids[k]=x at *;generalize cO (ids.take k)=acc at *;generalize hnew:cO (ids.take (k+1))=acc' at *;have HNew:=zh hnew;clear hnew c0 c1 hrow;obtain⟨xa,xn⟩:=x;dsimp only at d0 d1;obtain⟨A1,cap1,rfl⟩:=fC hM.out.r1;obtain⟨A2,cap2,rfl⟩:=fC hM.out.r2;generalize hle:acc.length=m at *
   go_upto_region 6 with fail
   have hM3:=zh (hM.out.next ((Below.refl _ wr).alloc (Nat.le_refl _) (.cells #[.int .i64 xa,.int .i64 xn] 34)));have hK3:=zh (hK.out.at (Below.heap_alloc wr (.cells #[.int .i64 xa,.int .i64 xn] 34) (q+1) hK.out.lt));have hB3:=zh (hB.out.alloc (Nat.le_trans (Nat.le_add_right q 2) hZ.out) (.cells #[.int .i64 xa,.int .i64 xn] 34));have hL3:=zh (Lies.new wr 34 #[.int .i64 xa,.int .i64 xn]);have hZ3:Hid (q+2≤(wr.alloc (.cells #[.int .i64 xa,.int .i64 xn] 34)).heap.size):=zh (by rw[World.size_alloc];have:=hZ.out;omega);have hbq:q+2≤wr.heap.size:=hZ.out;have hbo:Hid (∀ g,(Value.slice A1 m cap1).ownBlock=some g→g<wr.heap.size):=zh (fun g hg=>(cN hM.out.r1 g hg).2);generalize wr.alloc (.cells #[.int .i64 xa,.int .i64 xn] 34)=W3 at *;generalize wr.heap.size=bx at *;clear d0 d1 hM hK hB hZ;have a0:=hM3.out.ax.cell 0;have a1:=hM3.out.ax.cell 1;have b0:=hL3.out.cell 0;have b1:=hL3.out.cell 1
   simp only[List.getElem?_toArray,List.getElem?_cons_zero,List.getElem?_cons_succ]at a0 a1 b0 b1;have hm1000:((m:Int)==1000)=false:=by simp;omega
   have hlk0:=hK3.out.look (t:=83) (et:=4) Tryz.underlying83 (z:=.bool false) (by kernel_rfl) haccf.out ⟨xa,xn⟩ hxf;have hlk:∀ a' n',a'=xa→n'=xn→(Instr.lookup 83 (.map (some (q+1))) (.agg #[.int .i64 a',.int .i64 n']) false).run Tryz.prog W3=.ok (.bool (decide ((⟨xa,xn⟩:IdR)∈acc))) W3:=by
    intro a' n' e1 e2;rw[e1,e2];refine hlk0.trans ?_;by_cases h:(⟨xa,xn⟩:IdR)∈acc <;> simp[h]
   have HD:Hid (∀ d,(d=true↔((⟨xa,xn⟩:IdR)=id0∨(⟨xa,xn⟩:IdR)∈acc))→acc'=if d then acc else acc++[⟨xa,xn⟩]):=zh (by
    intro d hd;rw[HSt.out,lE];cases d
    ·rw[if_neg (fun h=>by have:=hd.2 h;cases this)];rfl
    ·rw[if_pos (hd.1 rfl)];rfl)
   clear hlk0
   go_upto_region 7 with fail
   go_cut [29] (fun v29 wx=>∃ d:Bool,v29=.bool d∧Hid (d=true↔((⟨xa,xn⟩:IdR)=id0∨(⟨xa,xn⟩:IdR)∈acc))∧Hid (wx=W3))
   case first=>
    by_cases hxa:xa=0
    ·subst hxa;by_cases hxn:xn=0
     ·subst hxn
      go_wp2_with fail
      go_meet
      exact⟨true,rfl,zh (by simp),zh rfl⟩
     ·have hxb:(xn==0)=false:=by simpa using hxn
      have hid:¬ (⟨0,xn⟩:IdR)=id0:=fun h=>hxn (congrArg IdR.n h)
      clear hxn
      go_wp2_with fail
      all_goals go_meet
      all_goals exact⟨_,rfl,zh (by simp[hid]),zh rfl⟩
    ·have hxb:(xa==0)=false:=by simpa using hxa
     have hid:¬ (⟨xa,xn⟩:IdR)=id0:=fun h=>hxa (congrArg IdR.a h)
     clear hxa
     go_wp2_with fail
     all_goals go_meet
     all_goals exact⟨_,rfl,zh (by simp[hid]),zh rfl⟩
   case rest=>
    obtain⟨d,rfl,hd,hw⟩:=hcut;obtain rfl:=hw.out;clear hw hlk;have hst:=HD.out d hd.out;cases d
    ·rw[if_neg (by decide)]at hst;have hin:¬ (⟨xa,xn⟩:IdR)∈acc:=fun h=>by have:=hd.out.2 (.inr h);cases this
     obtain⟨W4,hup,hK4,ho4⟩:=hK3.out.put (t:=83) (et:=4) Tryz.underlying83 haccf.out ⟨xa,xn⟩ hxf hin (.bool true) rfl;dsimp only[idV]at hup;clear hd HD hin
     go_upto_region 9 with fail
     clear a0 a1 b0 b1;have hk4:=ho4.kp;have hL4:Lies W4 bx 34 #[.int .i64 xa,.int .i64 xn]:=hk4.lies hL3.out (by simp;omega);have hX4:Lies W4 q 82 #[.slice A1 m cap1,.slice A2 m cap2,.map none,.slice none 0 0,.slice none 0 0]:=hk4.lies hM3.out.ax (by simp);have hR1:W4.ownsRow (q+2) 34 2 (.slice A1 m cap1) m (cM acc):=jF (hle ▸ hM3.out.r1) hk4 (fun g hg=>by have:=(cN hM3.out.r1 g hg).1;simp;omega);have hR2:W4.ownsRow (q+2) 4 1 (.slice A2 m cap2) m (List.replicate m (.bool true)):=jF (hle ▸ hM3.out.r2) hk4 (fun g hg=>by have:=(cN hM3.out.r2 g hg).1;simp;omega);have hB4:=zh (hB3.out.trans ((hk4.below (B:=q) (by simp) (by have:=hZ3.out;omega))));have HY:Hid (∀ g,(Value.slice A1 m cap1).ownBlock=some g→g∈q::(Value.slice A1 m cap1).ownBlock.toList):=zh (fun g hg=>by rw[hg];simp);have HL4:=zh hL4;have HX4:=zh hX4;have HR1:=zh hR1;have HR2:=zh hR2;have HK4:=zh hK4
     have HZ4:Hid (q+2≤W4.heap.size):=zh (by rw[ho4.size];exact hZ3.out);clear hup ho4 hk4 hL4 hX4 hR1 hR2 hK4 hM3 hK3 hB3 hL3 hZ3;have hb2:bx≠q:=by omega
     have hbY:Hid (bx∉q::(Value.slice A1 m cap1).ownBlock.toList):=zh (fun h=>by
      rcases List.mem_cons.1 h with h | h
      ·exact hb2 h
      ·have:=hbo.out bx (by simpa using h);omega)
     go_cut [39] (fun v39 wx=>∃ v1',Hid (Lies wx q 82 #[v1',.slice A2 m cap2,.map none,.slice none 0 0,.slice none 0 0])∧Hid (wx.ownsRow (q+2) 34 2 v1' (m+1) (cM acc++[.int .i64 xa,.int .i64 xn]))∧Hid (Kp (q::(Value.slice A1 m cap1).ownBlock.toList) W4 wx))
     case first=>
      obtain⟨TT,hTT⟩:∃ TT:List (Nat×Nat×Value),TT=[(0,32,.pointer (some ⟨q,0,none⟩)),(1,33,.pointer (some ⟨q,0,none⟩)),(2,34,.pointer (some ⟨q,0,none⟩)),(3,35,.pointer (some ⟨q,0,none⟩)),(4,36,.slice A1 m cap1),(5,37,.agg #[.int .i64 xa,.int .i64 xn]),(8,40,.pointer (some ⟨q,0,none⟩)),(9,41,.pointer (some ⟨q,0,none⟩))]:=⟨_,rfl⟩
      have HTT:=zh hTT;clear hTT;refine fL (by kernel_rfl) (by kernel_rfl) (fun a0=>53≤a0.tmps.size∧a0.eval (.tmp 3)=.pointer (some ⟨q,0,none⟩)∧a0.eval (.tmp 6)=.pointer (some ⟨bx,0,none⟩)) (GA [32,33,34,35,36,37,38,39,40,41] TT (q::(Value.slice A1 m cap1).ownBlock.toList) W4 4 6 38 7 39 10 q 0 34 82 #[.slice A1 m cap1,.slice A2 m cap2,.map none,.slice none 0 0,.slice none 0 0] (q+2) 2 m (.slice A1 m cap1) (cM acc) [.int .i64 xa,.int .i64 xn]) ⟨by simp,rfl,rfl⟩ (GA.start _ _ (Kp.refl _ _).drew HR1.out HX4.out) ?_ ?_
      ·rintro a0 ⟨hs,hq3,hq6⟩ zl a1 w1 j o hsz hI hun ho zd;have hTT:=HTT.out;subst hTT;have hk:GAk [32,33,34,35,36,37,38,39,40,41] [(0,32,.pointer (some ⟨q,0,none⟩)),(1,33,.pointer (some ⟨q,0,none⟩)),(2,34,.pointer (some ⟨q,0,none⟩)),(3,35,.pointer (some ⟨q,0,none⟩)),(4,36,.slice A1 m cap1),(5,37,.agg #[.int .i64 xa,.int .i64 xn]),(8,40,.pointer (some ⟨q,0,none⟩)),(9,41,.pointer (some ⟨q,0,none⟩))] (q::(Value.slice A1 m cap1).ownBlock.toList) 6 38 7 39 10 q 34 82 (.slice A1 m cap1) 53:=⟨rfl,by decide,HY.out,.head _⟩
       have hj:=Up.of_false hun;have hj12:j<11:=by rw[hsz]at hj;exact hj
       have e3x:a1.eval (.tmp 3)=.pointer (some ⟨q,0,none⟩):=(hI.off.eval (by decide)).trans hq3;have e6x:a1.eval (.tmp 6)=.pointer (some ⟨bx,0,none⟩):=(hI.off.eval (by decide)).trans hq6;rcases(by omega:j=0∨j=1∨j=2∨j=3∨j=4∨j=5∨j=6∨j=7∨j=8∨j=9∨j=10) with rfl | rfl | rfl | rfl | rfl | rfl | rfl | rfl | rfl | rfl | rfl
       ·obtain rfl:=oi ho;exact bY hk hI hs (.head _) hun ho rfl rfl (by simp[execOp,go_sem,aA e3x])
       ·obtain rfl:=oi ho;exact bY hk hI hs (.tail _ (.head _)) hun ho rfl rfl (by simp[execOp,go_sem,aA e3x])
       ·obtain rfl:=oi ho;have d1:=ud zd 1;have p1:=pk hI.pt 1 rfl d1;exact bY hk hI hs (mm 2 rfl) hun ho rfl rfl (by simp[execOp,go_sem,aA p1])
       ·obtain rfl:=oi ho;have d2:=ud zd 2;have p2:=pk hI.pt 2 rfl d2;exact bY hk hI hs (mm 3 rfl) hun ho rfl rfl (by simp[execOp,go_sem,aA p2])
       ·obtain rfl:=oi ho;have d3:=ud zd 3;have p3:=pk hI.pt 3 rfl d3;have c0:=(hI.unl hun).cell 0;simp only[List.getElem?_toArray,List.getElem?_cons_zero]at c0;exact bY hk hI hs (mm 4 rfl) hun ho rfl rfl (by simp[execOp,go_sem,aA p3,c0])
       ·obtain rfl:=oi ho;have hLb:=hI.kp.lies HL4.out hbY.out;have l0:=hLb.cell 0;have l1:=hLb.cell 1;simp only[List.getElem?_toArray,List.getElem?_cons_zero,List.getElem?_cons_succ]at l0 l1;exact bY hk hI hs (mm 5 rfl) hun ho rfl rfl (by simp[execOp,go_sem,aA e6x,l0,l1])
       ·obtain rfl:=oi ho;have d5:=ud zd 5;have p5:=pk hI.pt 5 rfl d5;exact sZ hk hI hs hun ho rfl rfl (by simp[execOp,go_sem,aA p5])
       ·obtain rfl:=oi ho;have d4:=ud zd 4;have p4:=pk hI.pt 4 rfl d4;have d6:=ud zd 6;obtain⟨i1,gi,gz0,gz1,gz2⟩:=info_parts uCW;exact uCU hk hI hs hun ho rfl rfl d4 d6 22 36 rfl p4 i1 (.agg #[.int .i64 0,.int .i64 0]) 16 Tryz.underlying22 gi gz0 gz1 gz2 rfl (by decide) rfl (by intro u hu;simp at hu;rcases hu with rfl | rfl <;> rfl) (by unfold maxLen;omega) (by omega) (Nat.le_trans HZ4.out hI.kp.size)
       ·obtain rfl:=oi ho;have d0:=ud zd 0;have p0:=pk hI.pt 0 rfl d0;exact bY hk hI hs (mm 6 rfl) hun ho rfl rfl (by simp[execOp,go_sem,aA p0])
       ·obtain rfl:=oi ho;have d8:=ud zd 8;have p8:=pk hI.pt 6 rfl d8;exact bY hk hI hs (mm 7 rfl) hun ho rfl rfl (by simp[execOp,go_sem,aA p8])
       ·obtain rfl:=oi ho;have d9:=ud zd 9;have p9:=pk hI.pt 7 rfl d9;have d7:=ud zd 7;exact tA hk hI hun ho rfl rfl d7 (fun hL hsl=>by
         obtain⟨gs,cs,hsl⟩:=hsl;have c0:=hL.cell 0;have k0:=hL.frozen 0;simp at c0;rw[hsl];simp[execOp,go_sem,aA p9,aA hsl,c0,k0])
      ·intro zl a1 w1 hI hup;have hTT:=HTT.out;subst hTT;have hkp:=hI.kp;have hown:=hI.o2 (hup 7 (by decide));have hlies:=(hI.b2 (hup 10 (by decide))).2;obtain⟨ff,rfl,hf⟩:=hI.off.forms;rw[← hf 39]at hown hlies;clear hI;generalize ff 39=v' at *;simp only[List.foldl,Act.put,List.setIfInBounds_toArray,List.set];simp only[Exit.then]
       go_step
       go_meet
       exact⟨v',zh hlies,zh hown,zh hkp⟩
     case rest=>
      obtain⟨v1',HX5,HR5,HK5⟩:=hcut;obtain⟨A1',cap1',rfl⟩:=fC HR5.out;have HR52:=zh (jF HR2.out HK5.out (fun g hg=>by
       intro hm;rcases List.mem_cons.1 hm with h | h
       ·subst h;exact fY (by decide) HR2.out HX4.out hg.symm
       ·exact pG (by decide) HR2.out HR1.out g hg (by simpa using h)))
      have HK52:=zh (HK4.out.at (HK5.out.block (q+1) HK4.out.lt (fun hm=>by
       rcases List.mem_cons.1 hm with h | h
       ·omega
       ·have:=(cN HR1.out (q+1) (by simpa using h)).1;omega)))
      have HB5:=zh (hB4.out.trans (HK5.out.below (B:=q) (fun g hg=>by
       rcases List.mem_cons.1 hg with h | h
       ·omega
       ·have:=(cN HR1.out g (by simpa using h)).1;omega) (by have:=HZ4.out;omega)))
      have HZ5:Hid (q+2≤wc.heap.size):=zh (Nat.le_trans HZ4.out HK5.out.size);clear HX4 HR1 HR2 HK4 HK5 HL4 hB4 HZ4 HY hbY;have x1:=HX5.out.cell 1;have f1:=HX5.out.frozen 1;simp only[List.getElem?_toArray,List.getElem?_cons_zero,List.getElem?_cons_succ]at x1;have hqz:q<wc.heap.size:=by have:=HZ5.out;omega
      obtain⟨i1,gi,gz0,gz1,gz2⟩:=info_parts zP
      go_wp2_with (at_builtin;refine wpList_append_own _ rfl _ _ 78 rfl (q+2) 4 i1 (.bool false) 1 1 Tryz.underlying78 gi gz0 gz1 gz2 rfl (by decide) _ _ _ rfl (World.ownsRow.alloc HR52.out _) ⟨wc.heap.size,0,none⟩ 1 1 [.bool true] rfl rfl ?c1 ?c2 ?c3 ?c4 ?c5 ?_)
      case c1=>
       intro j u hj
       match j,hj with
       | 0,hj=>simp at hj;subst hj;simp[Addr.add]
      case c2=>intro u hu;simp at hu;subst hu;rfl
      case c3=>unfold maxLen;omega
      case c4=>omega
      case c5=>have:=HZ5.out;rw[World.size_alloc];omega
      intro v2' W6 hown' hgrow _;obtain⟨A2',cap2',rfl⟩:=fC hown';have hga:wc.grownBy W6 (Value.slice A2 m cap2).ownBlock:=(World.grownBy_alloc wc _ _).trans hgrow;have HX6:=zh (HX5.out.grownA hga (fY (by decide) HR52.out HX5.out));have HR6:=zh (World.ownsRow.kept HR5.out hga (by
       cases hv:(Value.slice A1' (m+1) cap1').ownBlock with
       | none=>exact .inl rfl
       | some g=>exact .inr (fun e=>pG (by decide) HR5.out HR52.out g hv e.symm)))
      have HR62:=zh hown';have HK6:=zh (HK52.out.at (hga.block (q+1) HK52.out.lt (fun e=>by have:=(cN HR52.out (q+1) e.symm).1;omega)));have HB6:=zh (HB5.out.grown hga (by have:=HZ5.out;omega) (fun g hg=>by have:=(cN HR52.out g hg).1;omega));have HZ6:Hid (q+2≤W6.heap.size):=zh (Nat.le_trans HZ5.out hga.size);clear hga hgrow hown' HX5 HR5 HR52 HK52 HB5 HZ5 x1 f1 hqz;have x1:=HX6.out.cell 1;have f1:=HX6.out.frozen 1;simp only[List.getElem?_toArray,List.getElem?_cons_zero,List.getElem?_cons_succ]at x1
      go_wp2_with fail
      go_roundw
      case rel=>
       refine⟨k+1,.slice A1' (m+1) cap1',.slice A2' (m+1) cap2',by go_num,by omega,zh ⟨HX6.out.put 1 _,?_,?_⟩,zh ?_,zh (HB6.out.setCell (p:=⟨q,1,none⟩) (Nat.le_refl q) _),zh (by rw[World.size_setCell];exact HZ6.out)⟩
       ·rw[HNew.out,hst,lO,List.length_append,hle];exact nC (by decide) HR6.out HX6.out 1 _
       ·rw[HNew.out,hst,List.length_append,hle];have h:=nC (by decide) HR62.out HX6.out 1 (.slice A2' (m+1) cap2');rw[← List.replicate_succ']at h;exact h
       ·rw[HNew.out,hst];exact HK6.out.at (Below.heap_setCell _ _ _ _ (by show q+1≠q;omega))
      case measure=>simp[intOf];omega
    ·rw[if_pos rfl]at hst
     go_wp2_with fail
     go_roundw
     case rel=>exact⟨k+1,_,_,by go_num,by omega,by rw[HNew.out,hst];exact hM3,by rw[HNew.out,hst];exact hK3,hB3,hZ3⟩
     case measure=>simp[intOf];omega
  ·obtain rfl:k=n:=by omega
   rw[HN.out,HAll.out]at hM
   go_wp2_with fail
   go_ret
   exact⟨v1,v2,by rw[HQ.out];rfl,by rw[HQ.out];exact hM.out,by rw[HQ.out];exact hB.out⟩
def eL:List IdR→List Bool→List IdR
 | x::r,b::s=>if b then x::eL r s else eL r s
 | _,_=>[]
theorem qW:∀ (r:List IdR) (s:List Bool) (x:IdR) (b:Bool),r.length=s.length→eL (r++[x]) (s++[b])=eL r s++(if b then [x] else [])
 | [],[],x,b,_=>by cases b <;> rfl
 | y::r,c::s,x,b,h=>by
  have ih:=qW r s x b (by simpa using h);simp only[List.cons_append,eL];rw[ih];cases c <;> simp
 | [],_::_,_,_,h=>by simp at h
 | _::_,[],_,_,h=>by simp at h
theorem tJ:∀ (r:List IdR) (s:List Bool),(eL r s).length≤r.length
 | [],_=>by simp[eL]
 | _::_,[]=>by simp[eL]
 | x::r,b::s=>by
  have ih:=tJ r s;unfold eL
  split
  ·simp;exact ih
  ·simp;omega
theorem uAC(r:List IdR)(s:List Bool)(k:Nat)(h:r.length=s.length)(hk:k<r.length):eL (r.take (k+1)) (s.take (k+1))=eL (r.take k) (s.take k)++(if s[k]'(by omega) then [r[k]] else []):=by
 rw[List.take_succ_eq_append_getElem hk,List.take_succ_eq_append_getElem (by omega:k<s.length)];exact qW _ _ _ _ (by simp;omega)
theorem tI:∀ r:List IdR,eL r (List.replicate r.length true)=r
 | []=>rfl
 | x::r=>by simp only[List.length_cons,List.replicate_succ,eL,if_true];rw[tI r]
def bools(fl:List Bool):List Value:=fl.map Value.bool
structure AxRaw(b base:Nat)(ids:List IdR)(fl:List Bool)(v1 v2:Value)(W:World):Prop where
 ax:Lies W b 82 #[v1,v2,.map none,.slice none 0 0,.slice none 0 0]
 r1:W.ownsRow base 34 2 v1 ids.length (cM ids)
 r2:W.ownsRow base 4 1 v2 fl.length (bools fl)
structure rY(b base:Nat)(l:List IdR)(W:World):Prop where
 ax:∃ v1 v2 v3 v4 m,Lies W b 82 #[v1,v2,.map (some m),v3,v4]∧W.ownsRow base 34 2 v4 l.length (cM l)
theorem own_le{W:World}{b b' n sz:Nat}{te:TypeId}{v:Value}{xs:List Value}(h:W.ownsRow b te sz v n xs)(hb:b'≤b):W.ownsRow b' te sz v n xs:=by
 rcases h with⟨hl,⟨e,hz⟩ | ⟨g,cap,cur,e1,e2,e3⟩⟩
 ·exact⟨hl,.inl ⟨e,hz⟩⟩
 ·exact⟨hl,.inr ⟨g,cap,cur,e1,Nat.le_trans hb e2,e3⟩⟩
theorem nW:∀ (l:List IdR) (j:Nat) (h:j<l.length),(cM l)[j*2]?=some (.int .i64 l[j].a)∧(cM l)[j*2+1]?=some (.int .i64 l[j].n)
 | x::l,0,_=>⟨rfl,rfl⟩
 | x::l,j+1,h=>by
  have ih:=nW l j (by simpa using h);have e1:(j+1)*2=j*2+2:=by omega
  rw[e1];exact ih
theorem uFL{W:World}{base n sz:Nat}{te:TypeId}{v:Value}{xs:List Value}(h:W.ownsRow base te sz v n xs)(h0:0<n):∃ g cap,v=.slice (some ⟨g,0,none⟩) n cap∧base≤g∧g<W.heap.size∧∀ j u,xs[j]?=some u→W.cell? ⟨g,j,none⟩=some u:=by
 obtain⟨hl,⟨e,hz⟩ | ⟨g,cap,cur,e1,e2,e3,e4,e5,e6,e7⟩⟩:=h
 ·omega
 ·refine⟨g,cap,e1,e2,(Array.getElem?_eq_some_iff.1 e3).1,fun j u hj=>?_⟩;rw[Lib.cell_of_heap e3];have hj':j<xs.length:=(List.getElem?_eq_some_iff.1 hj).1;have h2:(cur.toList.take (n*sz))[j]?=cur.toList[j]?:=List.getElem?_take_of_lt (by omega);rw[e7,hj]at h2;show cur[j]?=_;rw[← Array.getElem?_toList,← h2]
theorem uFK{W:World}{base:Nat}{v:Value}{l:List IdR}(h:W.ownsRow base 34 2 v l.length (cM l))(h0:0<l.length):∃ g cap,v=.slice (some ⟨g,0,none⟩) l.length cap∧base≤g∧IdRow W g 0 l:=by
 obtain⟨g,cap,e1,e2,e3,e4⟩:=uFL h h0;refine⟨g,cap,e1,e2,e3,fun j hj=>?_⟩;rw[Nat.zero_add];exact⟨e4 _ _ (nW l j hj).1,e4 _ _ (nW l j hj).2⟩
theorem infoI64x:(Tryz.prog.info? 3).map (fun i=>(i.zero,i.size,i.bytes))=some (some (.int .i64 0),1,8):=by kernel_rfl
theorem mk_ints(n:Nat)(hn:n≤300)(w:World):(Instr.makeSlice 80 (.int .i64 (n:Int)) (.int .i64 (n:Int))).run Tryz.prog w=.ok (.slice (some ⟨w.heap.size,0,none⟩) n n) (w.alloc (.cells (madeCells (Value.int .i64 0).cells n) 3)):=by
 obtain⟨i0,hi,hz0,hz1,hz2⟩:=info_parts infoI64x;have h:=run_makeSlice (P:=Tryz.prog) w 80 3 i0 (.int .i64 0) Tryz.underlying80 hi hz0 .i64 .i64 (n:Int) (n:Int) (by omega) (Int.le_refl _) (by rw[hz1];omega) (by rw[hz2];omega) (by omega);rw[hz1]at h;simpa using h
theorem neq_nil(w:World):(binOp .neq 79 (.map none) (.map none)).run Tryz.prog w=.ok (.bool false) w:=by kernel_rfl
theorem neq_some(m:Nat)(w:World):(binOp .neq 79 (.map (some m)) (.map none)).run Tryz.prog w=.ok (.bool true) w:=by kernel_rfl
theorem mk_map(n:Nat)(w:World):(Instr.makeMap 79 (some (.int .i64 (n:Int)))).run Tryz.prog w=.ok (.map (some w.heap.size)) (w.alloc (.map #[] 0)):=by
 simp[Instr.makeMap,run_underlying Tryz.underlying79,go_sem,Result.andThen]
set_option maxRecDepth 100000 in
set_option maxHeartbeats 6400000 in
theorem yS(b base:Nat)(ids:List IdR)(fl:List Bool)(v1 v2:Value)(w:World)(hR:AxRaw b base ids fl v1 v2 w)(hl:ids.length=fl.length)(hn:ids.length≤300)(hf:∀ y∈ids,y.fits)(hd:ids.Nodup) :
  Calls Tryz.prog 146 #[.pointer (some ⟨b,0,none⟩)] w fun e w'=>e=.returned (.tuple #[])∧rY b w.heap.size (eL ids fl) w'∧Kp [b] w w':=by
 have hmm:=mk_map;have hnq:=neq_nil;have hms:=fun w=>mk_ints ids.length hn w
 have HF:=zh hf;have HD:=zh hd;have HR:=zh hR;obtain⟨A1,cap1,rfl⟩:=fC hR.r1;obtain⟨A2,cap2,rfl⟩:=fC hR.r2;rw[← hl]at HR;obtain⟨n,hnn⟩:∃ n,n=ids.length:=⟨_,rfl⟩
 have HN:=zh hnn;have HLf:=zh hl;rw[← hnn]at hn HR hms;have a0:=HR.out.ax.cell 0;have a2:=HR.out.ax.cell 2;have f2:=HR.out.ax.frozen 2;simp only[List.getElem?_toArray,List.getElem?_cons_zero,List.getElem?_cons_succ]at a0 a2;have hbs:=HR.out.ax.lt;clear hf hd hR hnn hl
 go_enter Tryz.func146,Tryz.ntmps146
 go_upto_region 2 with fail
 obtain⟨W1,hW1⟩:∃ W1,W1=(w.setCell ⟨b,2,none⟩ (.map (some w.heap.size))).alloc (.map #[] 0):=⟨_,rfl⟩
 have HX1:Hid (Lies W1 b 82 #[.slice A1 n cap1,.slice A2 n cap2,.map (some w.heap.size),.slice none 0 0,.slice none 0 0]):=zh (by rw[hW1];exact(HR.out.ax.put 2 _).alloc _);have HK1:Hid (Kp [b] w W1):=zh (by rw[hW1];exact((Kp.refl _ w).set (.inl (.head _)) 2 _).alloc _);have HM1:Hid (KMap W1 w.heap.size [] (fun _=>True)):=zh (by
  rw[hW1];refine⟨#[],0,?_,rfl,fun e he=>by cases he⟩;have h:=heap_alloc_new (w.setCell ⟨b,2,none⟩ (.map (some w.heap.size))) (.map #[] 0);rw[World.size_setCell]at h;exact h)
 have hz1:W1.heap.size=w.heap.size+1:=by rw[hW1,World.size_alloc,World.size_setCell]
 rw[← hW1];clear hW1 a0 a2 f2;have a0:=HX1.out.cell 0;have a3:=HX1.out.cell 3;have f3:=HX1.out.frozen 3;simp only[List.getElem?_toArray,List.getElem?_cons_zero,List.getElem?_cons_succ]at a0 a3;have hbs1:b<W1.heap.size:=HX1.out.lt
 go_upto_region 3 with fail
 obtain⟨W2,hW2⟩:∃ W2,W2=(W1.setCell ⟨b,3,none⟩ (.slice (some ⟨w.heap.size+1,0,none⟩) n n)).alloc (.cells (madeCells #[.int .i64 0] n) 3):=⟨_,rfl⟩
 have HX2:Hid (Lies W2 b 82 #[.slice A1 n cap1,.slice A2 n cap2,.map (some w.heap.size),.slice (some ⟨w.heap.size+1,0,none⟩) n n,.slice none 0 0]):=zh (by rw[hW2];exact(HX1.out.put 3 _).alloc _);have HK2:Hid (Kp [b] w W2):=zh (by rw[hW2];exact(HK1.out.set (.inl (.head _)) 3 _).alloc _);have HM2:Hid (KMap W2 w.heap.size [] (fun _=>True)):=zh (by
  rw[hW2];exact(HM1.out.at (Below.heap_setCell _ _ _ _ (by show w.heap.size≠b;omega))).at (Below.heap_alloc _ _ _ (by rw[World.size_setCell,hz1];omega)))
 have HA2:Hid (∃ cs:Array Value,Lies W2 (w.heap.size+1) 3 cs∧cs.size=n):=zh (by
  rw[hW2];refine⟨madeCells #[.int .i64 0] n,?_,by simp[madeCells]⟩;have h:=Lies.new (W1.setCell ⟨b,3,none⟩ (.slice (some ⟨w.heap.size+1,0,none⟩) n n)) 3 (madeCells #[.int .i64 0] n);rw[World.size_setCell,hz1]at h;exact h)
 have HZ2:Hid (w.heap.size+2≤W2.heap.size):=zh (by rw[hW2,World.size_alloc,World.size_setCell,hz1];omega);rw[← hW2];clear hW2 a0 a3 f3 HX1 HK1 HM1 hz1 hbs1;have HRi:Hid (∀ wx,Kp [b] w wx→∀ k (h:k<ids.length),∃ g,A1=some ⟨g,0,none⟩∧wx.cell? ⟨g,k*2,none⟩=some (.int .i64 ids[k].a)∧wx.cell? ⟨g,k*2+1,none⟩=some (.int .i64 ids[k].n)):=zh (fun wx hk k h=>by
  have hr:=HR.out.r1;rw[HN.out]at hr;obtain⟨g,cap,e,_,hrow⟩:=uFK hr (by omega);have hgb:g∉[b]:=fun hm=>by
   have e2:g=b:=by simpa using hm
   exact fY (by decide) HR.out.r1 HR.out.ax (by injection e with e;rw[e,e2];rfl)
  obtain⟨q0,q1⟩:=hrow.2 k h;rw[Nat.zero_add]at q0 q1;exact⟨g,by injection e,(hk.cell hrow.1 hgb).trans q0,(hk.cell hrow.1 hgb).trans q1⟩)
 have HRl:Hid (∀ wx,Kp [b] w wx→∀ k (h:k<fl.length),∃ g,A2=some ⟨g,0,none⟩∧wx.cell? ⟨g,k,none⟩=some (.bool fl[k])):=zh (fun wx hk k h=>by
  obtain⟨g,cap,e,_,hg,hrow⟩:=uFL HR.out.r2 (by omega);have hgb:g∉[b]:=fun hm=>by
   have e2:g=b:=by simpa using hm
   exact fY (by decide) HR.out.r2 HR.out.ax (by injection e with e;rw[e,e2];rfl)
  exact⟨g,by injection e,(hk.cell hg hgb).trans (hrow k _ (by simp[bools,h]))⟩)
 have a0:=HX2.out.cell 0;simp only[List.getElem?_toArray,List.getElem?_cons_zero]at a0;have hbs2:b<W2.heap.size:=HX2.out.lt
 go_upto_region 4 with fail
 clear a0 hbs2
 go_loopw [32] (fun v32 wx=>∃ (k:Nat) (v4:Value),v32=.int .i64 (k:Int)∧k≤n∧Hid (Lies wx b 82 #[.slice A1 n cap1,.slice A2 n cap2,.map (some w.heap.size),.slice (some ⟨w.heap.size+1,0,none⟩) n n,v4])∧Hid (KMap wx w.heap.size (ids.take k) (fun _=>True))∧Hid (∃ cs:Array Value,Lies wx (w.heap.size+1) 3 cs∧cs.size=n)∧Hid (wx.ownsRow (w.heap.size+2) 34 2 v4 (eL (ids.take k) (fl.take k)).length (cM (eL (ids.take k) (fl.take k))))∧Hid (Kp [b] w wx)∧Hid (w.heap.size+2≤wx.heap.size)) (fun v32 _=>n-(intOf v32).toNat)
 case atStart=>exact⟨0,_,rfl,Nat.zero_le _,HX2,HM2,HA2,zh ⟨rfl,.inl ⟨rfl,rfl⟩⟩,HK2,HZ2⟩
 case round=>
  obtain⟨k,v4,rfl,hk,hX,hM,hA,hO,hK,hZ⟩:=hrel;clear HX2 HM2 HA2 HK2 HZ2;generalize hqe:w.heap.size=q at *;have HQ:=zh hqe;clear hqe;by_cases hlt:k<n
  ·have hki:k<ids.length:=by rw[← HN.out];exact hlt
   have hkf:k<fl.length:=by rw[← HLf.out];exact hki
   obtain⟨gi,rfl,d0,d1⟩:=HRi.out wr hK.out k hki;obtain⟨gl,rfl,d2⟩:=HRl.out wr hK.out k hkf;have D2:Hid (∀ wx,Kp [b] w wx→wx.cell? ⟨gl,k,none⟩=some (.bool fl[k])):=zh (fun wx h=>by
    obtain⟨g,e,hc⟩:=HRl.out wx h k hkf;injection e with e;injection e with e;rw[e];exact hc)
   clear d2;have hxf:=HF.out _ (List.getElem_mem hki);have haccf:=zh (fun y (hy:y∈ids.take k)=>HF.out y (List.mem_of_mem_take hy));have HSt:=zh (uAC ids fl k HLf.out hki);have HTk:=zh (List.take_succ_eq_append_getElem hki);have hnin:ids[k]∉ids.take k:=fun hm=>by
    obtain⟨j,hj,e⟩:=List.getElem_of_mem hm;rw[List.length_take]at hj;rw[List.getElem_take]at e;have:=(List.getElem_inj HD.out).1 e;omega
   have hml:(eL (ids.take k) (fl.take k)).length≤k:=Nat.le_trans (tJ _ _) (by rw[List.length_take];omega);generalize ids[k]=x at *;generalize fl[k]=fk at *;generalize hacc:ids.take k=acc at *;generalize hlv:eL acc (fl.take k)=lv at *;generalize hnew:ids.take (k+1)=acc' at *;generalize hlv2:eL acc' (fl.take (k+1))=lv' at *;have HNew:=zh hnew;have HLv2:=zh hlv2;clear hnew hacc hlv hlv2;obtain⟨xa,xn⟩:=x;dsimp only at d0 d1;obtain⟨A4,cap4,rfl⟩:=fC hO.out;generalize hle:lv.length=m at *
   go_upto_region 6 with fail
   have hX3:=zh (hX.out.next ((Below.refl _ wr).alloc (Nat.le_refl _) (.cells #[.int .i64 xa,.int .i64 xn] 34)));have hM3:=zh (hM.out.at (Below.heap_alloc wr (.cells #[.int .i64 xa,.int .i64 xn] 34) q hM.out.lt));have hA3:Hid (∃ cs:Array Value,Lies (wr.alloc (.cells #[.int .i64 xa,.int .i64 xn] 34)) (q+1) 3 cs∧cs.size=n):=zh (by
    obtain⟨cs,h1,h2⟩:=hA.out;exact⟨cs,h1.next ((Below.refl _ wr).alloc (Nat.le_refl _) _),h2⟩)
   have hO3:=zh (World.ownsRow.alloc hO.out (.cells #[.int .i64 xa,.int .i64 xn] 34));have hK3:=zh (hK.out.alloc (.cells #[.int .i64 xa,.int .i64 xn] 34));have hL3:=zh (Lies.new wr 34 #[.int .i64 xa,.int .i64 xn]);have hbb:b<wr.heap.size:=hX.out.lt;have hbq:q+2≤wr.heap.size:=hZ.out;have hbo:Hid (∀ g,(Value.slice A4 m cap4).ownBlock=some g→g<wr.heap.size):=zh (fun g hg=>(cN hO.out g hg).2);have hZ3:Hid (wr.heap.size<(wr.alloc (.cells #[.int .i64 xa,.int .i64 xn] 34)).heap.size):=zh (by rw[World.size_alloc];omega);generalize wr.alloc (.cells #[.int .i64 xa,.int .i64 xn] 34)=W3 at *;generalize wr.heap.size=bx at *;clear d0 d1 hX hM hA hO hK hZ;have c2:=hX3.out.cell 2;have b0:=hL3.out.cell 0;have b1:=hL3.out.cell 1;simp only[List.getElem?_toArray,List.getElem?_cons_zero,List.getElem?_cons_succ]at c2 b0 b1
   obtain⟨W4,hup,hM4,ho4⟩:=(hM3.out.at (rfl:W3.drew.heap[q]?=W3.heap[q]?)).put (t:=79) (et:=3) Tryz.underlying79 haccf.out ⟨xa,xn⟩ hxf hnin (.int .i64 (k:Int)) trivial;dsimp only[idV]at hup
   go_cut [42] (fun v42 wx=>Hid (wx=W4))
   case first=>
    go_region
    all_goals go_wp2_with fail
    all_goals go_meet
    all_goals exact zh rfl
   case rest=>
   obtain rfl:W4=wc:=hcut.out.symm;have hk4:=ho4.kp;have hqb:q≠b:=by
    intro e;have h1:=hX3.out;obtain⟨es,ck,h2,_⟩:=hM3.out;unfold Lies at h1;rw[e,h1]at h2;cases h2
   have hX4:=zh (hk4.lies (hX3.out.next (Below.refl _ W3).drew) (by simp;omega));have hL4:=zh (hk4.lies (hL3.out.next (Below.refl _ W3).drew) (by simp;omega));have hA4:Hid (∃ cs:Array Value,Lies W4 (q+1) 3 cs∧cs.size=n):=zh (by
    obtain⟨cs,h1,h2⟩:=hA3.out;exact⟨cs,hk4.lies (h1.next (Below.refl _ W3).drew) (by simp),h2⟩)
   have hO4:=zh (jF (fW (Below.refl _ W3).drew hO3.out) hk4 (fun g hg=>by have:=(cN hO3.out g hg).1;simp;omega));have hK4:=zh (hK3.out.drew.andThen hk4 (fun g hg=>.inr (by rw[HQ.out];simp at hg;omega)));have HM4:=zh hM4;have hs4:W4.heap.size=W3.heap.size:=ho4.size;clear hup hM4 ho4 hk4 hX3 hM3 hA3 hO3 hK3 hL3 c2 b0 b1;obtain⟨cs,hcs,hcn⟩:=hA4.out;have hkc:k<cs.size:=by omega
   have e0:W4.cell? ⟨q+1,k,none⟩=some cs[k]:=by rw[hcs.cell,Array.getElem?_eq_getElem hkc]
   have e1:=hcs.frozen k;generalize cs[k]=u0 at e0;have c3:=hX4.out.cell 3;have c4:=hX4.out.cell 4;simp only[List.getElem?_toArray,List.getElem?_cons_zero,List.getElem?_cons_succ]at c3 c4;have HC:=zh hcs;have HCn:=zh hcn;clear hcs hcn hkc hA4
   go_upto_region 7 with fail
   obtain⟨W5,hW5⟩:∃ W5,W5=W4.drew.setCell ⟨q+1,k,none⟩ (.int .i64 (m:Int)):=⟨_,rfl⟩
   go_cut [54] (fun v54 wx=>Hid (wx=W5))
   case first=>
    go_region
    all_goals go_wp2_with fail
    all_goals go_meet
    all_goals exact zh hW5.symm
   case rest=>
   obtain rfl:W5=wc:=hcut.out.symm;have hq1b:q+1≠b:=by
    intro e;have h1:=hX4.out;have h2:=HC.out;unfold Lies at h1 h2;rw[e,h1]at h2;injection h2 with h2;injection h2 with _ h2 _;exact absurd h2 (by decide)
   have hX5:Hid (Lies W5 b 82 #[.slice (some ⟨gi,0,none⟩) n cap1,.slice (some ⟨gl,0,none⟩) n cap2,.map (some q),.slice (some ⟨q+1,0,none⟩) n n,.slice A4 m cap4]):=zh (by rw[hW5];exact(bI (hX4.out.next (Below.refl _ W4).drew) (Ne.symm hq1b) k _));have hL5:Hid (Lies W5 bx 34 #[.int .i64 xa,.int .i64 xn]):=zh (by rw[hW5];exact(bI (hL4.out.next (Below.refl _ W4).drew) (by omega) k _));have hA5:Hid (∃ cs:Array Value,Lies W5 (q+1) 3 cs∧cs.size=n):=zh (by
    rw[hW5];exact⟨_,(HC.out.next (Below.refl _ W4).drew).put k _,by rw[Array.size_setIfInBounds];exact HCn.out⟩)
   have hO5:Hid (W5.ownsRow (q+2) 34 2 (.slice A4 m cap4) m (cM lv)):=zh (by rw[hW5];exact nC (by decide) (fW (Below.refl _ W4).drew hO4.out) (HC.out.next (Below.refl _ W4).drew) k _);have hM5:=zh (show KMap W5 q (acc++[⟨xa,xn⟩]) (fun _=>True) by rw[hW5];exact HM4.out.at (Below.heap_setCell _ _ _ _ (by show q≠q+1;omega)));have hK5:Hid (Kp [b] w W5):=zh (by rw[hW5];exact hK4.out.drew.set (.inr (by rw[HQ.out];omega)) k _);have hZ5:Hid (bx<W5.heap.size):=zh (by rw[hW5,World.size_setCell];show bx<W4.heap.size;rw[hs4];exact hZ3.out);clear hW5 e0 e1 c3 c4 HC HCn hX4 hL4 hO4 HM4 hK4 hs4 hZ3;have c1:=hX5.out.cell 1;have d2:=D2.out W5 hK5.out;simp only[List.getElem?_toArray,List.getElem?_cons_zero,List.getElem?_cons_succ]at c1;have hlv:lv'=lv++(if fk then [⟨xa,xn⟩] else []):=HLv2.out ▸ HSt.out;have hac:acc'=acc++[⟨xa,xn⟩]:=HTk.out;cases fk
   ·go_wp2_with fail
    go_roundw
    case rel=>
     refine⟨k+1,.slice A4 m cap4,by go_num,by omega,hX5,?_,hA5,?_,hK5,zh (by have:=hZ5.out;omega)⟩
     ·rw[HNew.out,hac];exact hM5
     ·rw[HNew.out,HLv2.out,hlv];simp only[Bool.false_eq_true,if_false,List.append_nil,hle];exact hO5
    case measure=>simp[intOf];omega
   ·go_upto_region 9 with fail
    clear c1 d2;have HY:Hid (∀ g,(Value.slice A4 m cap4).ownBlock=some g→g∈b::(Value.slice A4 m cap4).ownBlock.toList):=zh (fun g hg=>by rw[hg];simp);have hb2:bx≠b:=by omega
    have hbY:Hid (bx∉b::(Value.slice A4 m cap4).ownBlock.toList):=zh (fun h=>by
     rcases List.mem_cons.1 h with h | h
     ·exact hb2 h
     ·have:=hbo.out bx (by simpa using h);omega)
    obtain⟨TT,hTT⟩:∃ TT:List (Nat×Nat×Value),TT=[(0,61,.pointer (some ⟨b,0,none⟩)),(1,62,.pointer (some ⟨b,0,none⟩)),(2,63,.pointer (some ⟨b,0,none⟩)),(3,64,.pointer (some ⟨b,4,none⟩)),(4,65,.slice A4 m cap4),(5,66,.agg #[.int .i64 xa,.int .i64 xn]),(8,69,.pointer (some ⟨b,0,none⟩)),(9,70,.pointer (some ⟨b,4,none⟩))]:=⟨_,rfl⟩
    have HTT:=zh hTT;clear hTT;refine fL (by kernel_rfl) (by kernel_rfl) (fun a0=>72≤a0.tmps.size∧a0.eval (.tmp 0)=.pointer (some ⟨b,0,none⟩)∧a0.eval (.tmp 3)=.pointer (some ⟨bx,0,none⟩)) (GA [61,62,63,64,65,66,67,68,69,70] TT (b::(Value.slice A4 m cap4).ownBlock.toList) W5 4 6 67 7 68 10 b 4 34 82 #[.slice (some ⟨gi,0,none⟩) n cap1,.slice (some ⟨gl,0,none⟩) n cap2,.map (some q),.slice (some ⟨q+1,0,none⟩) n n,.slice A4 m cap4] (q+2) 2 m (.slice A4 m cap4) (cM lv) [.int .i64 xa,.int .i64 xn]) ⟨by simp,rfl,rfl⟩ (GA.start _ _ (Kp.refl _ _).drew hO5.out hX5.out) ?_ ?_
    ·rintro a0 ⟨hs,hq0,hq3⟩ zl a1 w1 j o hsz hI hun ho zd;have hTT:=HTT.out;subst hTT;have hk:GAk [61,62,63,64,65,66,67,68,69,70] [(0,61,.pointer (some ⟨b,0,none⟩)),(1,62,.pointer (some ⟨b,0,none⟩)),(2,63,.pointer (some ⟨b,0,none⟩)),(3,64,.pointer (some ⟨b,4,none⟩)),(4,65,.slice A4 m cap4),(5,66,.agg #[.int .i64 xa,.int .i64 xn]),(8,69,.pointer (some ⟨b,0,none⟩)),(9,70,.pointer (some ⟨b,4,none⟩))] (b::(Value.slice A4 m cap4).ownBlock.toList) 6 67 7 68 10 b 34 82 (.slice A4 m cap4) 72:=⟨rfl,by decide,HY.out,.head _⟩
     have hj:=Up.of_false hun;have hj12:j<11:=by rw[hsz]at hj;exact hj
     have e0x:a1.eval (.tmp 0)=.pointer (some ⟨b,0,none⟩):=(hI.off.eval (by decide)).trans hq0;have e3x:a1.eval (.tmp 3)=.pointer (some ⟨bx,0,none⟩):=(hI.off.eval (by decide)).trans hq3;rcases(by omega:j=0∨j=1∨j=2∨j=3∨j=4∨j=5∨j=6∨j=7∨j=8∨j=9∨j=10) with rfl | rfl | rfl | rfl | rfl | rfl | rfl | rfl | rfl | rfl | rfl
     ·obtain rfl:=oi ho;exact bY hk hI hs (.head _) hun ho rfl rfl (by simp[execOp,go_sem,aA e0x])
     ·obtain rfl:=oi ho;exact bY hk hI hs (.tail _ (.head _)) hun ho rfl rfl (by simp[execOp,go_sem,aA e0x])
     ·obtain rfl:=oi ho;have d1:=ud zd 1;have p1:=pk hI.pt 1 rfl d1;exact bY hk hI hs (mm 2 rfl) hun ho rfl rfl (by simp[execOp,go_sem,aA p1])
     ·obtain rfl:=oi ho;have d2:=ud zd 2;have p2:=pk hI.pt 2 rfl d2;exact bY hk hI hs (mm 3 rfl) hun ho rfl rfl (by simp[execOp,go_sem,aA p2])
     ·obtain rfl:=oi ho;have d3:=ud zd 3;have p3:=pk hI.pt 3 rfl d3;have c0:=(hI.unl hun).cell 4;simp only[List.getElem?_toArray,List.getElem?_cons_zero,List.getElem?_cons_succ]at c0;exact bY hk hI hs (mm 4 rfl) hun ho rfl rfl (by simp[execOp,go_sem,aA p3,c0])
     ·obtain rfl:=oi ho;have hLb:=hI.kp.lies hL5.out hbY.out;have l0:=hLb.cell 0;have l1:=hLb.cell 1;simp only[List.getElem?_toArray,List.getElem?_cons_zero,List.getElem?_cons_succ]at l0 l1;exact bY hk hI hs (mm 5 rfl) hun ho rfl rfl (by simp[execOp,go_sem,aA e3x,l0,l1])
     ·obtain rfl:=oi ho;have d5:=ud zd 5;have p5:=pk hI.pt 5 rfl d5;exact sZ hk hI hs hun ho rfl rfl (by simp[execOp,go_sem,aA p5])
     ·obtain rfl:=oi ho;have d4:=ud zd 4;have p4:=pk hI.pt 4 rfl d4;have d6:=ud zd 6;obtain⟨i1,gi,gz0,gz1,gz2⟩:=info_parts uCW;exact uCU hk hI hs hun ho rfl rfl d4 d6 22 65 rfl p4 i1 (.agg #[.int .i64 0,.int .i64 0]) 16 Tryz.underlying22 gi gz0 gz1 gz2 rfl (by decide) rfl (by intro u hu;simp at hu;rcases hu with rfl | rfl <;> rfl) (by unfold maxLen;omega) (by omega) (by have:=hZ5.out;have:=hI.kp.size;omega)
     ·obtain rfl:=oi ho;have d0:=ud zd 0;have p0:=pk hI.pt 0 rfl d0;exact bY hk hI hs (mm 6 rfl) hun ho rfl rfl (by simp[execOp,go_sem,aA p0])
     ·obtain rfl:=oi ho;have d8:=ud zd 8;have p8:=pk hI.pt 6 rfl d8;exact bY hk hI hs (mm 7 rfl) hun ho rfl rfl (by simp[execOp,go_sem,aA p8])
     ·obtain rfl:=oi ho;have d9:=ud zd 9;have p9:=pk hI.pt 7 rfl d9;have d7:=ud zd 7;exact tA hk hI hun ho rfl rfl d7 (fun hL hsl=>by
       obtain⟨gs,cs,hsl⟩:=hsl;have c0:=hL.cell 4;have k0:=hL.frozen 4;simp at c0;rw[hsl];simp[execOp,go_sem,aA p9,aA hsl,c0,k0])
    ·intro zl a1 w1 hI hup;have hTT:=HTT.out;subst hTT;have hkp:=hI.kp;have hown:=hI.o2 (hup 7 (by decide));have hlies:=(hI.b2 (hup 10 (by decide))).2;obtain⟨ff,rfl,hf⟩:=hI.off.forms;rw[← hf 68]at hown hlies;clear hI;generalize ff 68=v' at *;simp only[List.foldl,Act.put,List.setIfInBounds_toArray,List.set];have HX6:=zh hlies;have HO6:=zh hown;have HK6:=zh hkp;obtain⟨A4',cap4',hv4⟩:=fC hown;clear hlies hown hkp hup HTT;have hA6:Hid (∃ cs:Array Value,Lies w1 (q+1) 3 cs∧cs.size=n):=zh (by
      obtain⟨cs,h1,h2⟩:=hA5.out;refine⟨cs,HK6.out.lies h1 (fun hm=>?_),h2⟩;rcases List.mem_cons.1 hm with h | h
      ·exact hq1b h
      ·have:=(cN hO5.out (q+1) (by simpa using h)).1;omega)
     have hM6:=zh (hM5.out.at (HK6.out.block q hM5.out.lt (fun hm=>by
      rcases List.mem_cons.1 hm with h | h
      ·exact hqb h
      ·have:=(cN hO5.out q (by simpa using h)).1;omega)))
     have hK6:=zh (hK5.out.andThen HK6.out (fun g hg=>by
      rcases List.mem_cons.1 hg with h | h
      ·exact .inl (by rw[h];exact .head _)
      ·have:=(cN hO5.out g (by simpa using h)).1;exact .inr (by rw[HQ.out];omega)))
     have hZ6:Hid (q+2≤w1.heap.size):=zh (by have:=hZ5.out;have:=HK6.out.size;omega);clear HK6 hX5 hO5 hA5 hM5 hK5 HY hbY hL5
     go_wp2_with fail
     go_roundw
     case rel=>
      refine⟨k+1,v',by go_num,by omega,HX6,?_,hA6,?_,hK6,hZ6⟩
      ·rw[HNew.out,hac];exact hM6
      ·rw[HNew.out,HLv2.out,hlv];simp only[if_true,List.length_append,List.length_cons,List.length_nil,Nat.zero_add,hle,lO];exact HO6
     case measure=>simp[intOf];omega
  ·obtain rfl:k=n:=by omega
   have e1:ids.take k=ids:=by rw[HN.out,List.take_length]
   have e2:fl.take k=fl:=by rw[HN.out,HLf.out,List.take_length]
   rw[e1,e2]at hO;have HO:=zh hO.out;clear hO e1 e2
   go_wp2_with fail
   go_end0
   exact⟨rfl,⟨_,_,_,_,_,hX.out,own_le HO.out (by rw[HQ.out];omega)⟩,hK.out⟩
def ptr:Option Nat→Option Addr
 | none=>none
 | some b=>some ⟨b,0,none⟩
def AxIn(W:World)(p:Option Nat)(l:List IdR):Prop:=match p with
 | none=>l=[]
 | some b=>(∃ base ids fl v1 v2,AxRaw b base ids fl v1 v2 W∧ids.length=fl.length∧ids.length≤300∧(∀ y∈ids,y.fits)∧ids.Nodup∧l=eL ids fl)∨(∃ base,rY b base l W)
set_option maxRecDepth 100000 in
theorem xB(b base:Nat)(l:List IdR)(w:World)(hR:rY b base l w) :
  Calls Tryz.prog 146 #[.pointer (some ⟨b,0,none⟩)] w fun e w'=>e=.returned (.tuple #[])∧w'=w:=by
 obtain⟨v1,v2,v3,v4,m,hx,_⟩:=hR;have hnq:=neq_some m;have a2:=hx.cell 2;simp only[List.getElem?_toArray,List.getElem?_cons_zero,List.getElem?_cons_succ]at a2;clear hx
 go_enter Tryz.func146,Tryz.ntmps146
 go_wp2_with fail
 (try simp only[Exit.inBlock,Exit.then])
 refine bodyPost_ret (results_none rfl _ _ _) rfl ?_;exact⟨rfl,rfl⟩
theorem uBZ(b:Nat)(l:List IdR)(w:World)(h:AxIn w (some b) l) :
  Calls Tryz.prog 146 #[.pointer (some ⟨b,0,none⟩)] w fun e w'=>e=.returned (.tuple #[])∧(∃ base,rY b base l w'∧(w.heap.size≤base∨w'=w))∧Kp [b] w w':=by
 rcases h with⟨base,ids,fl,v1,v2,h1,h2,h3,h4,h5,rfl⟩ | ⟨base,h1⟩
 ·refine(yS b base ids fl v1 v2 w h1 h2 h3 h4 h5).mono ?_;rintro e w' ⟨rfl,h6,h7⟩;exact⟨rfl,⟨_,h6,.inl (Nat.le_refl _)⟩,h7⟩
 ·refine(xB b base l w h1).mono ?_;rintro e w' ⟨rfl,rfl⟩;exact⟨rfl,⟨_,h1,.inr rfl⟩,Kp.refl _ _⟩
set_option maxRecDepth 100000 in
theorem uGF(p:Option Nat)(l:List IdR)(w:World)(h:AxIn w p l) :
  Calls Tryz.prog 145 #[.pointer (ptr p)] w fun e w'=>e=.returned (.int .i64 (l.length:Int))∧(∀ b,p=some b→∃ base,rY b base l w'∧(w.heap.size≤base∨w'=w))∧Kp p.toList w w':=by
 cases p with
 | none=>
  have h0:l=[]:=h;subst h0;unfold ptr
  go_enter Tryz.func145,Tryz.ntmps145
  go_wp2_with fail
  go_ret
  exact⟨rfl,(fun b e=>by cases e),Kp.refl _ _⟩
 | some b=>
  have CR:=zh (uBZ b l w h);clear h;unfold ptr
  go_enter Tryz.func145,Tryz.ntmps145
  go_wp2_with fail
  refine CR.out.mono ?_;rintro e w1 ⟨rfl,⟨base,hd,hor⟩,hk⟩;have HD:=zh (And.intro hd hor);clear hor;obtain⟨v1,v2,v3,v4,m,hx,ho⟩:=hd;obtain⟨A4,cap4,rfl⟩:=fC ho;have a4:=hx.cell 4;simp only[List.getElem?_toArray,List.getElem?_cons_zero,List.getElem?_cons_succ]at a4;have HK:=zh hk;clear hx ho hk CR
  go_wp2_with fail
  go_ret
  exact⟨rfl,(fun b' e=>by cases e;exact⟨_,HD.out⟩),HK.out⟩
def AxOwn(W:World)(p:Option Nat)(z:Nat):Prop:=∃ b v1 v2 v3 v4 mm,p=some b∧Lies W b 82 #[v1,v2,.map mm,v3,v4]∧((mm=none∧(v1.ownBlock=some z∨v2.ownBlock=some z))∨(mm≠none∧v4.ownBlock=some z))
theorem Lies.same{W:World}{b:Nat}{t:TypeId}{c d:Array Value}(h:Lies W b t c)(k:Lies W b t d):c=d:=by
 unfold Lies at h k;rw[h]at k;injection k with k;injection k
set_option maxRecDepth 100000 in
set_option maxHeartbeats 1600000 in
theorem yQ(p:Option Nat)(l:List IdR)(place:Nat)(w:World)(h:AxIn w p l)(hp:place≤100000000) :
  Calls Tryz.prog 140 #[.pointer (ptr p),.int .i64 (place:Int)] w fun e w'=>e=.returned (.tuple #[idV (l[place]?.getD id0),.bool l[place]?.isSome])∧AxIn w' p l∧Kp p.toList w w'∧∀ z,AxOwn w' p z→AxOwn w p z∨w.heap.size≤z:=by
 obtain⟨ro,hro⟩:∃ ro,l[place]?=ro:=⟨_,rfl⟩
 rw[hro];have HRo:=zh hro;clear hro;have CL:=zh (fun W (h:AxIn W p l)=>uGF p l W h);have hp':Hid (∀ b,p=some b→b<w.heap.size):=zh (fun b e=>by
  subst e;rcases h with⟨base,ids,fl,v1,v2,h1,_⟩ | ⟨base,⟨v1,v2,v3,v4,m,h1,_⟩⟩
  ·exact h1.ax.lt
  ·exact h1.lt)
 have H0:Hid (AxIn (w.alloc (.cells #[.int .i64 0,.int .i64 0] 34)) p l):=zh (by
  cases p with
  | none=>exact h
  | some b=>
   have hb:=(Below.refl w.heap.size w).alloc (Nat.le_refl _) (.cells #[.int .i64 0,.int .i64 0] 34);rcases h with⟨base,ids,fl,v1,v2,h1,h2⟩ | ⟨base,⟨v1,v2,v3,v4,m,h1,h2⟩⟩
   ·exact .inl ⟨base,ids,fl,v1,v2,⟨h1.ax.next hb,fW hb h1.r1,fW hb h1.r2⟩,h2⟩
   ·exact .inr ⟨base,⟨v1,v2,v3,v4,m,h1.next hb,fW hb h2⟩⟩)
 have HR0:=zh (Lies.new w 34 #[.int .i64 0,.int .i64 0]);have HK0:Hid (Kp p.toList w (w.alloc (.cells #[.int .i64 0,.int .i64 0] 34))):=zh ((Kp.refl _ w).alloc _);have HZ:Hid (w.heap.size<(w.alloc (.cells #[.int .i64 0,.int .i64 0] 34)).heap.size):=zh (by simp);have HV:Hid (∀ b,p=some b→∀ v1 v2 v3 v4 m,Lies (w.alloc (.cells #[.int .i64 0,.int .i64 0] 34)) b 82 #[v1,v2,.map (some m),v3,v4]→∀ g,v4.ownBlock=some g→g<w.heap.size):=zh (by
  intro b e v1 v2 v3 v4 m hx g hg;subst e;have hb:=(Below.refl w.heap.size w).alloc (Nat.le_refl _) (.cells #[.int .i64 0,.int .i64 0] 34);rcases h with⟨base,ids,fl,u1,u2,h1,_⟩ | ⟨base,⟨u1,u2,u3,u4,m',h1,h2⟩⟩
  ·have h3:=h1.ax.next hb;unfold Lies at h3 hx;rw[h3]at hx;injection hx with hx;injection hx with hx;simp at hx
  ·have h3:=h1.next hb;unfold Lies at h3 hx;rw[h3]at hx;injection hx with hx;injection hx with hx;simp at hx;obtain⟨_,_,_,_,e4⟩:=hx;rw[← e4]at hg;exact(cN h2 g hg).2)
 have HW:Hid (∀ b,p=some b→∀ cs,Lies (w.alloc (.cells #[.int .i64 0,.int .i64 0] 34)) b 82 cs→Lies w b 82 cs):=zh (fun b e cs hx=>by
  have hb:=(Below.refl w.heap.size w).alloc (Nat.le_refl _) (.cells #[.int .i64 0,.int .i64 0] 34);exact(hb.block b (hp'.out b e)).symm.trans hx)
 have HI:Hid (p=none→l=[]):=zh (fun e=>by subst e;exact h);have hpi:¬ (place:Int)<0:=by omega
 clear h
 go_enter Tryz.func140,Tryz.ntmps140
 go_upto_region 1 with fail
 generalize w.alloc (.cells #[.int .i64 0,.int .i64 0] 34)=W1 at *;generalize hqe:w.heap.size=q at *;have HQ:=zh hqe;clear hqe
 go_wp2_with fail
 refine(CL.out W1 H0.out).mono ?_;rintro e w2 ⟨rfl,hd,hk⟩;have HK2:=zh (HK0.out.trans hk);have HR2:=zh (hk.lies HR0.out (fun hm=>by
  cases p with
  | none=>cases hm
  | some b=>
   have e:q=b:=by simpa using hm
   have:=hp'.out b rfl;omega))
 have HD:=zh hd;clear hd hk CL H0 HR0 HK0;have x0:=HR2.out.cell 0;have x1:=HR2.out.cell 1;have f0:=HR2.out.frozen 0;have f1:=HR2.out.frozen 1;simp only[List.getElem?_toArray,List.getElem?_cons_zero,List.getElem?_cons_succ]at x0 x1;have HI2:Hid (AxIn w2 p l):=zh (by
  cases p with
  | none=>exact HI.out rfl
  | some b=>
   obtain⟨base,h1,_⟩:=HD.out b rfl;exact .inr ⟨base,h1⟩)
 have HI3:Hid (∀ u v,AxIn ((w2.setCell ⟨q,0,none⟩ u).setCell ⟨q,1,none⟩ v) p l):=zh (fun u v=>by
  cases p with
  | none=>exact HI.out rfl
  | some b=>
   obtain⟨base,⟨v1,v2,v3,v4,m,hx,ho⟩,hor⟩:=HD.out b rfl;have hbq:b≠q:=by have:=hp'.out b rfl;omega
   have hgq:∀ g,v4.ownBlock=some g→g≠q:=by
    intro g hg;rcases hor with hge | hw
    ·have:=(cN ho g hg).1;have:=HZ.out;omega
    ·rw[hw]at hx;have:=HV.out b rfl _ _ _ _ _ hx g hg;omega
   refine .inr ⟨base,v1,v2,v3,v4,m,bI (bI hx hbq _ _) hbq _ _,jF ho (((Kp.refl [q] w2).set (.inl (.head _)) 0 u).set (.inl (.head _)) 1 v) (fun g hg hm=>hgq g hg (by simpa using hm))⟩)
 have HO3:Hid (∀ u v z,AxOwn ((w2.setCell ⟨q,0,none⟩ u).setCell ⟨q,1,none⟩ v) p z→AxOwn w p z∨w.heap.size≤z):=zh (fun u v z ⟨b,u1,u2,u3,u4,mm,e,hx',hor'⟩=>by
  obtain⟨base,⟨v1,v2,v3,v4,m,hx,ho⟩,hor⟩:=HD.out b e;have hbq:b≠q:=by have:=hp'.out b e;omega
  have he:=Lies.same (bI (bI hx hbq 0 u) hbq 1 v) hx';simp at he;obtain⟨e1,e2,e3,e4,e5⟩:=he;subst e1 e2 e3 e4 e5;rcases hor' with⟨hm,_⟩ | ⟨_,ho4⟩
  ·cases hm
  ·rcases hor with hge | hw
   ·have:=(cN ho z ho4).1;have:=HZ.out
    right
    rw[HQ.out];omega
   ·rw[hw]at hx;exact .inl ⟨b,_,_,_,_,_,e,HW.out b e _ hx,.inr ⟨by simp,ho4⟩⟩)
 by_cases hlt:place<l.length
 ·have hsm:Hid (ro=some l[place]):=zh (HRo.out.symm.trans (List.getElem?_eq_getElem hlt));obtain⟨b,rfl⟩:∃ b,p=some b:=by
   cases p with
   | none=>
    have h0:l=[]:=HI.out rfl;rw[h0]at hlt;cases hlt
   | some b=>exact⟨b,rfl⟩
  obtain⟨base,⟨v1,v2,v3,v4,m,hx,ho⟩,_⟩:=HD.out b rfl;obtain⟨g,cap,rfl,_,hrow⟩:=uFK ho (by omega);obtain⟨d0,d1⟩:=hrow.2 place hlt;rw[Nat.zero_add]at d0 d1;have a4:=hx.cell 4;simp only[List.getElem?_toArray,List.getElem?_cons_zero,List.getElem?_cons_succ]at a4;generalize l[place]=x at *;obtain⟨xa,xn⟩:=x;dsimp only at d0 d1;have hli:(place:Int)<(l.length:Int):=by omega
  unfold ptr;clear hx ho hrow
  go_wp2_with fail
  refine bodyPost_ret (v:=.tuple #[.agg #[.int .i64 xa,.int .i64 xn],.bool true]) (by simp[results,Tryz.results140,go_sem,x0,x1]) rfl ?_;exact⟨by rw[hsm.out];rfl,HI3.out _ _,(HK2.out.set (.inr (by rw[HQ.out];exact Nat.le_refl _)) 0 _).set (.inr (by rw[HQ.out];exact Nat.le_refl _)) 1 _,HO3.out _ _⟩
 ·have hnn:Hid (ro=none):=zh (HRo.out.symm.trans (List.getElem?_eq_none (by omega)));have hli:¬ (place:Int)<(l.length:Int):=by omega
  go_wp2_with fail
  refine bodyPost_ret (v:=.tuple #[.agg #[.int .i64 0,.int .i64 0],.bool false]) (by simp[results,Tryz.results140,go_sem,x0,x1]) rfl ?_;exact⟨by rw[hnn.out];rfl,HI3.out _ _,(HK2.out.set (.inr (by rw[HQ.out];exact Nat.le_refl _)) 0 _).set (.inr (by rw[HQ.out];exact Nat.le_refl _)) 1 _,HO3.out _ _⟩
end Go.Proofs.YtmgjidnalpgegaaGreatDoor
