/-
  Lemmas, part 22: TakeA NdC RangeS WrA WrB SnA.
-/
import Derived.Test.YtjfihpaeglpblaaGreatDoorProg
import Derived.Test.YtjfihpaeglpblaaGreatDoorRf16
import Derived.Test.YtjfihpaeglpblaaGreatDoorRf21
set_option maxHeartbeats 100000000
set_option maxRecDepth 1000000
namespace Go.Proofs.YtjfihpaeglpblaaGreatDoor
open Go.RowKit
section
variable {P:Program} {md:Region.Mode} {ops:Array Oper} {Q:Exit->Act->World->Prop} {S:World->Prop} {fuel:Nat} {zl:Array Bool} {a:Act} {w:World} {o:Oper}
theorem TkC(i:Nat)(v:Value)(hi:ops[i]?=some o)(hy:YieldsIf P ops S o v a)(h:wpAnyH P md ops Q S fuel (zl.setIfInBounds i true) (a.put o.dst v) w)
  (hs:Region.noSelect ops=true:=by kernel_rfl) (hf:Region.free md ops zl i=true:=by kernel_rfl) (hr:(Region.ready md ops zl).contains i=true:=by kernel_rfl)
  (hQ:∀ c a w,Q (.panic c) (a.put o.dst v) w->Q (.panic c) a w:=by exact fun _ _ _ h=>h) (hS:S w:=by assumption):wpAnyH P md ops Q S (fuel+1) zl a w :=
 wpAnyH_take hi hs hf hr hQ hy hS h
theorem TkA(i:Nat)(v:Value)(h:wpAnyH P md ops Q S fuel (zl.setIfInBounds i true) (a.put o.dst v) w)(hi:ops[i]?=some o:=by rfl)
  (hs:Region.noSelect ops=true:=by kernel_rfl) (hf:Region.free md ops zl i=true:=by kernel_rfl) (hr:(Region.ready md ops zl).contains i=true:=by kernel_rfl)
  (hQ:∀ c a w,Q (.panic c) (a.put o.dst v) w->Q (.panic c) a w:=by exact fun _ _ _ h=>h) (hy:YieldsIf P ops S o v a:=by exact Or.inl ⟨by rfl,fun w2 hS=>by simp[execOp,go_sem]⟩) (hS:S w:=by assumption):wpAnyH P md ops Q S (fuel+1) zl a w :=
 wpAnyH_take hi hs hf hr hQ hy hS h
theorem TkB(i:Nat)(v:Value)(h:wpAnyH P md ops Q S fuel (zl.setIfInBounds i true) (a.put o.dst v) w)(hi:ops[i]?=some o:=by rfl)
  (hs:Region.noSelect ops=true:=by kernel_rfl) (hf:Region.free md ops zl i=true:=by kernel_rfl) (hr:(Region.ready md ops zl).contains i=true:=by kernel_rfl)
  (hQ:∀ c a w,Q (.panic c) (a.put o.dst v) w->Q (.panic c) a w:=by exact fun _ _ _ h=>h) (hy:YieldsIf P ops S o v a:=by exact Or.inl ⟨by rfl,fun w2 hS=>by simp[execOp,go_sem,hS]⟩) (hS:S w:=by assumption):wpAnyH P md ops Q S (fuel+1) zl a w :=
 wpAnyH_take hi hs hf hr hQ hy hS h
theorem TkR(i:Nat)(h:∀ K':Act->World->Prop,Shut (∀ a w,S w->(S w->wpAnyH P md ops Q S fuel (zl.setIfInBounds i true) a w)->K' a w)->if Region.wanted o (yielded ops a.tmps)=true then Oper.wp P o a w K' Q else K' (a.put o.dst undef) w)
  (ho:ops[i]?=some o:=by rfl) (hr:Region.ready md ops zl=[i]:=by kernel_rfl):wpAnyH P md ops Q S (fuel+1) zl a w :=
 wpAnyH_ready hr (by simp) (AllReadyH.cons ho h AllReadyH.nil)
theorem TkD(h:Q .normal a w)(hr:Region.ready md ops zl=[]:=by kernel_rfl):wpAnyH P md ops Q S fuel zl a w:=wpAnyH_done hr h _
end
abbrev NdC(W:World)(q:Nat)(k:Int)(vv:Val)(s:Bs)(a b:Cor)(r:Int)(A:Option Addr)(n cp:Nat):Prop:=W.cell? ⟨q,0,none⟩=some (vI k)/\W.cell? ⟨q,1,none⟩=some (vI vv.kind)/\W.cell? ⟨q,2,none⟩=some (vI vv.mant)/\W.cell? ⟨q,3,none⟩=some (vI vv.exp)/\W.cell? ⟨q,4,none⟩=some (vT vv.text)/\W.cell? ⟨q,5,none⟩=some (.bool vv.truth)/\W.cell? ⟨q,6,none⟩=some (vI vv.fault)/\W.cell? ⟨q,7,none⟩=some (vT s)/\W.cell? ⟨q,8,none⟩=some (vI a.row.a)/\W.cell? ⟨q,9,none⟩=some (vI a.row.n)/\W.cell? ⟨q,10,none⟩=some (vI a.col.a)/\W.cell? ⟨q,11,none⟩=some (vI a.col.n)/\W.cell? ⟨q,12,none⟩=some (.bool a.fr)/\W.cell? ⟨q,13,none⟩=some (.bool a.fc)/\W.cell? ⟨q,14,none⟩=some (vI b.row.a)/\W.cell? ⟨q,15,none⟩=some (vI b.row.n)/\W.cell? ⟨q,16,none⟩=some (vI b.col.a)/\W.cell? ⟨q,17,none⟩=some (vI b.col.n)/\W.cell? ⟨q,18,none⟩=some (.bool b.fr)/\W.cell? ⟨q,19,none⟩=some (.bool b.fc)/\W.cell? ⟨q,20,none⟩=some (vI r)/\W.cell? ⟨q,21,none⟩=some (.slice A n cp)
theorem uAM{W:World}{q:Nat}{k:Int}{vv:Val}{s:Bs}{a b:Cor}{r:Int}{A:Option Addr}{n cp:Nat}{Cn:List Value}(h:Lies W q 34 Cn.toArray)(ai:Cn.toArray=aH ⟨k,vv,s,a,b,r⟩ A n cp):NdC W q k vv s a b r A n cp:=by
 rw[ai]at h;exact⟨h.cell 0,h.cell 1,h.cell 2,h.cell 3,h.cell 4,h.cell 5,h.cell 6,h.cell 7,h.cell 8,h.cell 9,h.cell 10,h.cell 11,h.cell 12,h.cell 13,h.cell 14,h.cell 15,h.cell 16,h.cell 17,h.cell 18,h.cell 19,h.cell 20,h.cell 21⟩
theorem iQ{W W':World}(hb:Below W.heap.size W W'):W.grownBy W' none:=⟨hb.os,hb.tape,hb.output,hb.size,fun k hk _=>hb.block k hk⟩
section
variable {F:Fence} {n:Nat} {P:Program}
theorem yK{α:Type}{g:Operand}{ps:Array Tmp}{assign body:Code}{Q:Exit->Act->World->Prop}{a:Act}{w:World}
  (hro:F.round=none) (h1:1<=n) {gf:Nat} {lb:Array Value} (hg:a.eval g=.func (.func gf) #[] lb) (hFg:F.fn gf) (eg:∀ args w,(callFunc gf args).run P w=.ok (.enter gf args) w)
  {encs:α->Array Value} {n₀:Addr->Prop} {R:List α->α->Prop} {S Sp:List α->Prop} (hseq:SeqQ F (n-1) P gf lb encs n₀ R S Sp w)
  (hn₀:∀ p,n₀ p->p.block<w.heap.size) (hps:∀ x,(encs x).size=ps.size)
  (I:List α->World->Prop) (Ix:Code->List α->World->Prop) (hI:OwnAll w.heap.size I) (vr:∀ c,OwnAll w.heap.size (Ix c)) (h0:I [] w) (a₁:α->World->Act) (w₁:α->World->World) (hw₁:∀ x W,Below W.heap.size W (w₁ x W))
  (mv:∀ (l:Nat) (x:α) (W:World) (K:Act->World->Prop),K (a₁ x W) (w₁ x W) ->
   assign.wpIn (F.inRound l) (n-1-1) P (Exit.then K (fun _ _ _=>False)) { tmps:=(ps.zip (encs x)).foldl (fun t (p,v)=>t.setIfInBounds p v) a.tmps,defers:=[] } W)
  (s7:∀ (l:Nat) (pre:List α) (x:α) (W:World),w.heap.size+2<=W.heap.size->I pre W->R pre x->∀ W',W'.heap.size=(w₁ x W).heap.size->(∀ k,k≠w.heap.size+1->W'.heap[k]?=(w₁ x W).heap[k]?)->I pre W'->body.wpIn (F.inRound l) (n-1-1) P (postQ w.heap.size n₀ I Ix (pre++[x]) W') (a₁ x W) W')
  (b7:∀ (D:Nat) (xs:List α) (W:World),w.heap.size<=D->S xs->I xs W->W.heap[D]?=some (.deferred (some []))->Q .normal { a with defers:={ target:=.collected D,args:=#[] }::a.defers } W)
  (ni:∀ (D:Nat) (c:Code) (pre:List α) (W:World),w.heap.size<=D->Sp pre->Ix c pre W->W.heap[D]?=some (.deferred (some []))->c.wpIn F n P Q { a with defers:={ target:=.collected D,args:=#[] }::a.defers } W) :
  (Code.rangeFunc g ps assign body).wpIn F n P Q a w:=by
 refine wpIn_rangeFunc fun fn hfn=>?_
 let rc:=recQ fn a.tmps ps assign body w.heap.size
 let W1:=(w.alloc (.deferred (some []))).alloc (rc .ready none)
 have hB1:BooksQ W1 w.heap.size (rc .ready none):=by
  refine⟨?_,(Below.heap_alloc _ _ _ (by simp)).trans (World.alloc_heap_new w _)⟩;have:=World.alloc_heap_new (w.alloc (.deferred (some []))) (rc .ready none)
  rwa [World.size_alloc]at this
 have cu:Below w.heap.size w W1:=((Below.refl _ w).alloc zr _).alloc (by simp) _;have ap:W1.heap.size=w.heap.size+2:=by simp[W1]
 have bp:∀ {row:Option Nat},(∀ r,row=some r->W1.heap.size<=r)->(∀ r,row=some r->w.heap.size<=r):=fun hr r e=>by
  have:=hr r e;omega
 refine⟨w.heap.size+1,[{ target:=.collected w.heap.size,args:=#[] }],W1,{ target:=.fn (.func gf) lb,args:=#[.func (.yield (w.heap.size+1)) #[] #[]] },W1,gf,#[.func (.yield (w.heap.size+1)) #[] #[]]++lb,W1,?_,?_,?_,?_,fun _=>h1,?_⟩
 ·rw[hro];exact run_enterLoop_outer _ _ _ _ _
 ·simp only[resolve,hg];simp[go_sem]
 ·intro f' ql;simp[Target.leads]at ql;subst ql;exact hFg
 ·simp[invoke,go_sem,eg]
 refine(hseq (w.heap.size+1) (fun pre W=>I pre W/\BooksQ W w.heap.size (rc .ready none)) (fun pre W=>∃ c,Ix c pre W/\BooksQ W w.heap.size (rc .done (some c))) W1 cu
  (fun s A B row hs jq hr=>⟨hI s A B row hs.1 jq (bp hr),hs.2.far jq (fun r e=>by have:=hr r e;omega)⟩)
  (fun s A B row hs jq hr=>by
   obtain⟨c,hc,fu⟩:=hs;exact⟨c,vr c s A B row hc jq (bp hr),fu.far jq (fun r e=>by have:=hr r e;omega)⟩)
  ?_ ⟨hI [] _ _ none (hI [] _ _ none h0 (World.grownBy_alloc w _ none) (fun r e=>by cases e)) (World.grownBy_alloc _ _ none) (fun r e=>by cases e),hB1⟩).mono ?_
 ·rintro pre x W hlt ⟨hi,fu⟩ hx;rw[ap]at hlt ⊢;have hy:=run_yield (P:=P) (args:=encs x) fu.loop (hps x);refine⟨fn,_,assign,body,hy,roundIn_of_wpIn hfn (mv _ x W _ ⟨_,run_beginRound (fu.far (row:=none) (iQ (hw₁ x W)) (fun r e=>by cases e)).loop rfl,?_⟩)⟩;have hbk1:BooksQ (w₁ x W) w.heap.size (rc .ready none):=fu.far (row:=none) (iQ (hw₁ x W)) (fun r e=>by cases e);have hi1:I pre (w₁ x W):=hI _ _ _ none hi (iQ (hw₁ x W)) (fun r e=>by cases e);have po:BooksQ ((w₁ x W).putObj (w.heap.size+1) (rc .busy none)) w.heap.size (rc .busy none):=hbk1.put _;have gq:∀ (X:World) (o':Obj),KeepsQ n₀ (w.heap.size+2) X (X.putObj (w.heap.size+1) o'):=fun X o'=>rF (fun p hp=>by have:=hn₀ p hp;omega) (by omega) o'
  have ri:KeepsQ n₀ (w.heap.size+2) W (w₁ x W):=⟨(hw₁ x W).size,fun p hp=>(hw₁ x W).cell (by have:=hn₀ p hp;omega),fun p hp=>World.frozen?_of_block ((hw₁ x W).block _ (by have:=hn₀ p hp;omega)),fun k _ hk=>(hw₁ x W).block k hk⟩
  refine wpIn_mono (s7 _ pre x W hlt hi hx _ (World.putObj_size ..) (fun k hk=>World.putObj_heap_other hk) (hI.putObj _ hi1 (by omega))) ?_;intro e a3 W3 hp;cases e with
  |normal=>
   obtain⟨dt,s8⟩:=hp;have ie:=po.kept dt;exact⟨_,_,run_endRound none ie.loop,.inl ⟨rfl,⟨hI.putObj _ s8 (by omega),ie.put _⟩,(ri.trans ((gq _ _).trans (dt.from (by omega)))).trans (gq _ _)⟩⟩
  |ret=>
   obtain⟨dt,s8⟩:=hp;have ie:=po.kept dt;exact⟨_,_,run_endRound (some .ret) ie.loop,.inr ⟨rfl,.ret,(vr _).putObj _ s8 (by omega),ie.put _⟩⟩
  |exit id=>
   obtain⟨dt,s8⟩:=hp;have ie:=po.kept dt;exact⟨_,_,run_endRound (some (.exit id)) ie.loop,.inr ⟨rfl,.exit id,(vr _).putObj _ s8 (by omega),ie.put _⟩⟩
  |goto t=>exact hp.elim
  |panic ch=>exact hp.elim
  |outgrown=>exact hp.elim
 rintro e W2 ⟨⟨v,rfl⟩,(⟨xs,hS,hi,fu⟩|⟨pre,vt,c,hi,fu⟩)⟩
 ·exact⟨none,_,run_endLoop fu.loop (by simp),b7 _ xs _ zr hS (hI.putObj _ hi (by omega)) (fu.put (o':=_)).dfr⟩
 exact⟨some c,_,run_endLoop fu.loop (by simp),ni _ c pre _ zr vt ((vr c).putObj _ hi (by omega)) (fu.put (o':=_)).dfr⟩
end
end Go.Proofs.YtjfihpaeglpblaaGreatDoor
namespace Go.Proofs.YtjfihpaeglpblaaGreatDoor
open Go.RowKit Go.Shelf
attribute [local go_sem] Oper.semAt_some
theorem slB_nil(w:World):(binOp .eql 148 (.slice none 0 0) (.slice none 0 0)).run Tryz.prog w=.ok (.bool true) w:=by kernel_rfl
theorem slB_some(a:Addr)(n c:Nat)(w:World):(binOp .eql 148 (.slice (some a) n c) (.slice none 0 0)).run Tryz.prog w=.ok (.bool false) w:=by kernel_rfl
theorem uDZ(l:List Bool):∀ u∈dF l,u.oneCell'=true:=by
 intro u hu;unfold dF at hu;obtain⟨x,_,rfl⟩:=yj.1 hu;rfl
theorem uDY(l:List Bool):(dF l).length=l.length*1:=by simp[dF]
theorem zC(g off n c:Nat)(l:List Bool)(w:World)(hl:l.length=n)(hn:n<=300)(hc:∀ j u,(dF l)[j]?=some u->w.cell? ⟨g,off+j,none⟩=some u) :
  Calls Tryz.prog 256 #[.slice (some ⟨g,off,none⟩) n c] w fun e w'=>∃ A' c',e=.returned (.slice A' n c')/\w'.ownsRow w.heap.size 4 1 (.slice A' n c') n (dF l)/\Below w.heap.size w w':=by
 have fi:=slB_some ⟨g,off,none⟩ n c;have HC:=zh hc;have HL:=zh hl;clear hc hl;obtain⟨i1,gi,gz0,gz1,gz2⟩:=info_parts mK;have HO:Hid ((w.alloc (.cells #[] 4)).ownsRow w.heap.size 4 1 (.slice (some ⟨w.heap.size,0,none⟩) 0 0) 0 []):=zh ⟨rfl,.inr ⟨_,0,#[],rfl,zr,heap_alloc_new _ _,zr,by unfold maxLen;omega,rfl,rfl⟩⟩;have HB:Hid (Below w.heap.size w (w.alloc (.cells #[] 4))):=zh ((Below.refl _ w).alloc zr _);have HN:Hid (∀ j u,(dF l)[j]?=some u->(w.alloc (.cells #[] 4)).cell? ((⟨g,off,none⟩:Addr).add j)=some u):=zh (fun j u hj=>by
  have h0:=HC.out j u hj;have e:(⟨g,off,none⟩:Addr).add j=⟨g,off+j,none⟩:=by cases j <;> simp[Addr.add]
  rw[e];exact(HB.out.cell (p:=⟨g,off+j,none⟩) (dA h0)).trans h0)
 go_in
 go_wp2_with (first |(refine wpList_append_own (P:=Tryz.prog) _ rfl (.tmp 5) (.tmp 6) 148 rfl w.heap.size 4 i1 (.bool false) 1 1 Tryz.underlying148 gi gz0 gz1 gz2 rfl (by decide) _ 0 [] rfl HO.out ⟨g,off,none⟩ n c (dF l) rfl (by rw[uDY,HL.out]) HN.out (uDZ l) (by unfold maxLen;omega) (by omega) HB.out.size (fun v' w' k1 k2 _=>?_);obtain⟨A',c',rfl⟩:=aY k1;have K1:=zh k1;have K2:=zh k2;clear k1 k2))
 go_ret
 have h1:=K1.out;rw[Nat.zero_add,List.nil_append]at h1;have h2:Below w.heap.size w w':=HB.out.grown K2.out HB.out.size (fun k hk=>by injection hk with hk;exact Nat.le_of_eq hk);exact⟨A',c',rfl,h1,h2⟩
theorem zG(w:World) :
  Calls Tryz.prog 256 #[.slice none 0 0] w fun e w'=>e=.returned (.slice none 0 0)/\Below w.heap.size w w':=by
 have fi:=slB_nil
 go_in
 go_wp2_with fail
 go_ret
 exact⟨rfl,Below.refl _ _⟩
theorem uEF{base n:Nat}{v:Value}{l:List IdR}{W0:World}(h:W0.ownsRow base 27 2 v n (aJ l))(hl:l.length=n)(hn:n<=300):∀ W,Below W0.heap.size W0 W->Calls Tryz.prog 244 #[v] W fun e w'=>∃ A c,e=.returned (.slice A n c)/\w'.ownsRow W.heap.size 27 2 (.slice A n c) n (aJ l)/\Below W.heap.size W w':=fun W hb=>by
 have h':=aL hb h;rcases h'.2 with⟨rfl,h0⟩|⟨g,cap,cur,rfl,h1,h2,h3⟩
 ·subst h0;refine(oQ W).mono ?_;rintro e w' ⟨rfl,um⟩;obtain rfl:l=[]:=List.eq_nil_of_length_eq_zero hl;exact⟨none,0,rfl,⟨rfl,.inl ⟨rfl,rfl⟩⟩,um⟩
 refine(oP g 0 n cap l W hl hn (fun j u hj=>?_)).mono ?_
 ·have:=h'.cells (g:=g) rfl j u hj
  rwa [Addr.add_mid]at this
 rintro e w' ⟨A,c,rfl,k1,k2⟩;exact⟨A,c,rfl,k1,k2⟩
theorem wN{base n:Nat}{v:Value}{l:List Bool}{W0:World}(h:W0.ownsRow base 4 1 v n (dF l))(hl:l.length=n)(hn:n<=300):∀ W,Below W0.heap.size W0 W->Calls Tryz.prog 256 #[v] W fun e w'=>∃ A c,e=.returned (.slice A n c)/\w'.ownsRow W.heap.size 4 1 (.slice A n c) n (dF l)/\Below W.heap.size W w':=fun W hb=>by
 have h':=aL hb h;rcases h'.2 with⟨rfl,h0⟩|⟨g,cap,cur,rfl,h1,h2,h3⟩
 ·subst h0;refine(zG W).mono ?_;rintro e w' ⟨rfl,um⟩;obtain rfl:l=[]:=List.eq_nil_of_length_eq_zero hl;exact⟨none,0,rfl,⟨rfl,.inl ⟨rfl,rfl⟩⟩,um⟩
 refine(zC g 0 n cap l W hl hn (fun j u hj=>?_)).mono ?_
 ·have:=h'.cells (g:=g) rfl j u hj
  rwa [Addr.add_mid]at this
 rintro e w' ⟨A,c,rfl,k1,k2⟩;exact⟨A,c,rfl,k1,k2⟩
theorem AxF.lists{W:World}{b:Nat}{ids:List IdR}{fl:List Bool}(h:AxF W (some b) (some (ids,fl))):∃ v1 v2 b1 b2,W.cell? ⟨b,0,none⟩=some v1/\W.cell? ⟨b,1,none⟩=some v2/\W.ownsRow b1 27 2 v1 ids.length (aJ ids)/\W.ownsRow b2 4 1 v2 fl.length (dF fl)/\b<W.heap.size:=by
 obtain⟨_,_,_,_,⟨base,v1,v2,g⟩|⟨base,g⟩⟩:=h
 ·exact⟨v1,v2,base,base,g.ax.cell 0,g.ax.cell 1,g.r1,g.r2,g.ax.lt⟩
 obtain⟨v1,v2,_,_,_,_,h1,⟨b1,h2⟩,⟨b2,h3⟩,_⟩:=g.ex;exact⟨v1,v2,b1,b2,h1.cell 0,h1.cell 1,h2,h3,h1.lt⟩
theorem fP:∀ (l:List IdR) (k:Nat) (h:k<l.length),(aJ l)[k*2]?=some (vI l[k].a)/\(aJ l)[k*2+1]?=some (vI l[k].n)
 | [],_,h=>absurd h (by simp)
 |x::r,0,_=>⟨rfl,rfl⟩
 |x::r,k+1,h=>by
  have:=fP r k (by simpa using h);have e:aJ (x::r)=[vI x.a,vI x.n]++aJ r:=rfl;rw[e,List.getElem?_append_right (by simp;omega),List.getElem?_append_right (by simp;omega)];simp only[yi,List.length_nil,Nat.zero_add];rw[show (k+1)*2-2=k*2 by omega,show (k+1)*2+1-2=k*2+1 by omega];exact this
theorem retB{A B C:Prop}{e:Ending}(h:(e=.returned (.bool true)/\A/\B)\/(e=.returned (.bool false)/\C)):∃ r:Bool,e=.returned (.bool r)/\((r=true/\A/\B)\/(r=false/\C)):=by
 rcases h with⟨h1,h2⟩|⟨h1,h2⟩
 ·exact⟨true,h1,.inl ⟨rfl,h2⟩⟩
 exact⟨false,h1,.inr ⟨rfl,h2⟩⟩
def encA(x:IdR×Bool):Array Value:=#[idV x.1,.bool x.2]
structure ASt(W:World)(J:List (IdR×Bool)->World->Prop)(ids:List IdR)(fl:List Bool)(n c1 c2:Nat)(A1 A2:Option Addr)(i:Nat)(wr:World):Prop where
 o1:wr.ownsRow W.heap.size 27 2 (.slice A1 n c1) n (aJ ids)
 o2:wr.ownsRow W.heap.size 4 1 (.slice A2 n c2) n (dF fl)
 j:J ((ids.zip fl).take i) wr
 size:W.heap.size<=wr.heap.size
theorem xG{w w':World}{b e s n:Nat}{v:Value}{xs:List Value}(h:w.ownsRow b e s v n xs)(hk:∀ k,b<=k->k<w.heap.size->w'.heap[k]?=w.heap[k]?):w'.ownsRow b e s v n xs:=by
 obtain⟨h1,h2⟩:=h;refine⟨h1,?_⟩;rcases h2 with h2|⟨g,cap,cur,hv,hb,hh,r⟩
 ·exact .inl h2
 exact .inr ⟨g,cap,cur,hv,hb,(hk g hb (zk.1 hh).1).trans hh,r⟩
theorem all1_in(n0:Nat)(hn:1<=n0)(ids:List IdR)(fl:List Bool)(b B:Nat)(w:World)(hb:w.cell? ⟨B,0,none⟩=some (vP b 0))(hA:AxF w (some b) (some (ids,fl))) :
  SeqQ Fence.wide n0 Tryz.prog 255 #[vP B 0] encA (fun _=>False) (fun pre x=>pre++[x] <+: ids.zip fl) (fun xs=>xs=ids.zip fl) (fun pre=>pre <+: ids.zip fl) w:=fun l J Jx W hW hJ hJx hY h0=>by
 have hbW:W.cell? ⟨B,0,none⟩=some (vP b 0):=(hW.cell (p:=⟨B,0,none⟩) (dA hb)).trans hb;obtain⟨v1,v2,b1,b2,a0,a1,o1,o2,hbs⟩:=(hA.next hW).lists;obtain⟨hl,hn3,-⟩:=id hA;obtain⟨n,fi⟩:=zD ids.length
 have CI:=zh (uEF (n:=n) (by rw[fi];exact o1) fi.symm (by omega));have CB:=zh (wN (n:=n) (by rw[fi,hl];exact o2) (by omega) (by omega));have hBs:=dA hbW;have bz:Hid (∀ W',Below W.heap.size W W'->W'.cell? ⟨B,0,none⟩=some (vP b 0)/\W'.cell? ⟨b,0,none⟩=some v1/\W'.cell? ⟨b,1,none⟩=some v2/\Below W.heap.size W W'):=zh (fun W' h=>⟨(h.cell (p:=⟨B,0,none⟩) hBs).trans hbW,(h.cell (p:=⟨b,0,none⟩) hbs).trans a0,(h.cell (p:=⟨b,1,none⟩) hbs).trans a1,h⟩);have HJ:=zh hJ;have HY:=zh hY;have H0:=zh h0;have HN:Hid (ids.length=n/\fl.length=n/\n<=300):=zh ⟨fi.symm,by omega,by omega⟩;have hni:(n:Int)<=300:=by omega
 clear hJ hY hW hJx h0 hb hA hbW hBs o1 o2 hbs a0 a1 hl hn3 fi;obtain⟨m0,a0,a1,cv⟩:=bz.out _ zB;refine callsIn_of_wp Tryz.func255 rfl trivial ?_ rfl;simp only[Tryz.ntmps255,yd,yi,List.length_nil,Nat.reduceAdd,Nat.reduceSub,Array.replicate_succ,Array.replicate_zero,List.push_toArray,List.append_toArray,List.nil_append,yp]
 gi_upto_region 1 with fail
 gi_cut [3,4] from 40 (fun v3 v4 wx=>∃ A1 c1 A2 c2,v3=.slice A1 n c1/\v4=.slice A2 n c2/\Hid (wx.ownsRow W.heap.size 27 2 (.slice A1 n c1) n (aJ ids))/\Hid (wx.ownsRow W.heap.size 4 1 (.slice A2 n c2) n (dF fl))/\Hid (Below W.heap.size W wx))
 case first=>
  refine wpIn_wide.2 ?_
  go_region_held3 (fun w'=>w'.cell? ⟨B,0,none⟩=some (vP b 0)/\w'.cell? ⟨b,0,none⟩=some v1/\w'.cell? ⟨b,1,none⟩=some v2/\Below W.heap.size W w')
   (first|exact bz.out _ cv|exact bz.out _ cv.drew |(go_split_ands;exact bz.out _ (Below.trans (by assumption) (Below.mono hb (Below.size (by assumption)))))|assumption)
   (first
    |(go_at_call 244;(with_reducible refine(CI.out _ ?hz).mono ?_);(case hz=>(first|assumption |(go_split_ands;assumption)));rintro e wx ⟨A1,cc1,rfl,ho,hb⟩;have rh:Hid (World.ownsRow _ W.heap.size _ _ _ _ _):=zh (lU ho (by first|exact Below.size (by assumption) |(go_split_ands;exact Below.size (by assumption)))))
    |(go_at_call 256;(with_reducible refine(CB.out _ ?hz).mono ?_);(case hz=>(first|assumption |(go_split_ands;assumption)));rintro e wx ⟨A2,cc2,rfl,ho,hb⟩;have tf:Hid (World.ownsRow _ W.heap.size _ _ _ _ _):=zh (lU ho (by first|exact Below.size (by assumption) |(go_split_ands;exact Below.size (by assumption))));replace rh:=zh (aL hb rh.out)))
  all_goals go_wp2_with fail
  all_goals go_meet
  all_goals refine⟨A1,cc1,A2,cc2,rfl,rfl,rh,tf,zh ?_⟩
  all_goals first|assumption |(go_split_ands;assumption)
 case rest=>
 obtain⟨A1,cc1,A2,cc2,rfl,rfl,rh,tf,HB⟩:=hcut;clear cv CI CB bz m0 a0 a1;obtain⟨W3,jk⟩:=zD wc
 subst jk;have pf:Hid (ASt W J ids fl n cc1 cc2 A1 A2 0 W3):=zh ⟨rh.out,tf.out,by rw[List.take_zero];exact HJ.out [] W W3 none H0.out ⟨HB.out.os,HB.out.tape,HB.out.output,HB.out.size,fun k hk _=>HB.out.block k hk⟩ (fun r e=>by cases e),HB.out.size⟩;clear rh tf HB H0
 gi_wp2_with fail
 gi_loopg [21] n (fun k v wr=>∃ i:Nat,v=vI (i:Int)/\i<=n/\k=n-i/\Hid (ASt W J ids fl n cc1 cc2 A1 A2 i wr))
 case atStart=>exact⟨0,rfl,zm _,rfl,pf⟩
 case round=>
  obtain⟨i,rfl,hi,hk,HS⟩:=hrel;have HK:=zh hk;clear hk pf;by_cases hlt:i<n
  ·have hlti:(i:Int)<(n:Int):=by omega
   have hi1:i<ids.length:=by rw[HN.out.1];exact hlt
   have hi2:i<fl.length:=by rw[HN.out.2.1];exact hlt
   obtain⟨g1,cp1,q1,-,-,i7⟩:=fI HS.out.o1 (by omega);obtain⟨g2,cp2,q2,-,-,la⟩:=fI HS.out.o2 (by omega);injection q1 with q1 _ q3;injection q2 with q2 _ q4;subst q1 q2 q3 q4;obtain⟨k0,k1⟩:=fP ids i hi1;have c0:=i7 _ _ k0;have c1:=i7 _ _ k1;have d0:=la i (.bool fl[i]) (by simp[dF,hi2]);obtain⟨x,hx⟩:=zD (ids[i])
   obtain⟨f,hf⟩:=zD (fl[i])
   rw[<- hx]at c0 c1;rw[<- hf]at d0;have rj:Hid ((ids.zip fl).take i++[(x,f)]=(ids.zip fl).take (i+1)):=zh (by
    rw[yw (by rw[List.length_zip];omega),hx,hf];simp)
   have li:=dA d0;have iy:=dA c0;obtain⟨Wy,td⟩:=zD (wr.alloc (.cells #[vI x.a,vI x.n] 27))
   have mo:Below wr.heap.size wr Wy:=by rw[td];exact(zp _)
   have HBy:=zh mo;have uq:=mo.drew;have hJy:J ((ids.zip fl).take i) Wy.drew:=HJ.out _ wr Wy.drew none HS.out.j ⟨uq.os,uq.tape,uq.output,uq.size,fun k hk _=>uq.block k hk⟩ (fun r e=>by cases e);obtain⟨fn,tmps,assign,body,hy,hRd⟩:=HY.out ((ids.zip fl).take i) (x,f) Wy.drew (yv HS.out.size uq.size) hJy (by rw[rj.out];exact List.take_prefix _ _);have HRd:=zh hRd;dsimp only[encA,idV]at hy;have z0:Wy.cell? ⟨wr.heap.size,0,none⟩=some (vI x.a):=by rw[td];simp[go_sem]
   have z1:Wy.cell? ⟨wr.heap.size,1,none⟩=some (vI x.n):=by rw[td];simp[go_sem]
   have zif:Wy.cell? ⟨g2,i,none⟩=some (.bool f):=(mo.cell (p:=⟨g2,i,none⟩) li).trans d0;have rh:Hid (Wy.ownsRow W.heap.size 27 2 (.slice (some ⟨g1,0,none⟩) n cc1) n (aJ ids)):=zh (aL mo HS.out.o1);have tf:Hid (Wy.ownsRow W.heap.size 4 1 (.slice (some ⟨g2,0,none⟩) n cc2) n (dF fl)):=zh (aL mo HS.out.o2);have HSy:Hid (W.heap.size<=Wy.heap.size):=zh (yv HS.out.size mo.size);have HWy:=zh td;clear td mo uq hJy hRd i7 la k0 k1 hx hf iy li HS HY HJ
   gi_upto_region 5 with fail
   rw[<- HWy.out]
   gi_wp2_with fail
   gi_region_with (refine HRd.out.mono ?_;rintro e w5 h5;obtain⟨r,rfl,hr⟩:=retB h5;have HR:=zh hr;clear h5 hr)
   all_goals
    clear HRd hy z0 z1 zif c0 c1 d0;cases r
    ·obtain⟨-,hj5⟩:=HR.out.resolve_left (fun h=>by cases h.1);have HJ5:=zh hj5;clear HR hj5
     gi_wp2_with fail
     refine yt (results_none rfl _ _ _) rfl ?_;exact⟨⟨_,rfl⟩,.inr ⟨_,by rw[rj.out];exact List.take_prefix _ _,HJ5.out⟩⟩
    obtain⟨-,hj5,vu⟩:=HR.out.resolve_right (fun h=>by cases h.1);have HN5:Hid (ASt W J ids fl n cc1 cc2 (some ⟨g1,0,none⟩) (some ⟨g2,0,none⟩) (i+1) w5):=zh ⟨xG (aL (Below.refl _ Wy).drew rh.out) vu.2.2.2,xG (aL (Below.refl _ Wy).drew tf.out) vu.2.2.2,by rw[<- rj.out];exact hj5,yv HSy.out vu.1⟩;clear HR hj5 vu rh tf
    gi_wp2_with fail
    go_roundg (n-(i+1))
    case measure=>rw[HK.out];omega
    case rel=>exact⟨i+1,by go_num,by omega,rfl,HN5⟩
  obtain rfl:i=n:=by omega
  gi_wp2_with fail
  refine bodyPost_end (results_none rfl _ _ _) rfl ?_;exact⟨⟨_,rfl⟩,.inl ⟨ids.zip fl,rfl,by have:=HS.out.j;rwa [List.take_of_length_le (by rw[List.length_zip,HN.out.1,HN.out.2.1];omega)]at this⟩⟩
end Go.Proofs.YtjfihpaeglpblaaGreatDoor
namespace Go.Proofs.YtjfihpaeglpblaaGreatDoor
open Go.RowKit Go.Shelf
attribute [local go_sem] Oper.semAt_some
theorem all_any(p:Option Addr)(w:World) :
  Calls Tryz.prog 245 #[.pointer p] w fun e w'=>e=.returned (.func (.func 255) #[] #[vP w.heap.size 0])/\w'=w.alloc (.cells #[.pointer p] 40):=by
 go_in
 go_wp2_with fail
 go_ret
 exact⟨rfl,rfl⟩
theorem uCY{P R:List IdR}{z x:IdR}(hx:x∉P)(hm:x∈P++z::R):(P.length:Int)<=bC (P++z::R) x/\(z≠x->(P.length:Int)<bC (P++z::R) x):=by
 obtain⟨k,h1,h2⟩:=iI x _ 0 hm;have e:bC (P++z::R) x=(k:Int):=by unfold bC;rw[h1];simp
 have hk:P.length<=k:=by
  rcases Nat.lt_or_ge k P.length with h|h
  ·rw[List.getElem?_append_left h]at h2;exact absurd (List.mem_of_getElem? h2) hx
  exact h
 refine⟨by rw[e];omega,fun hz=>?_⟩;rw[e];rcases Nat.lt_or_ge P.length k with h|h
 ·omega
 have:k=P.length:=by omega
 subst this;rw[List.getElem?_append_right zr,Nat.sub_self]at h2;simp at h2;exact absurd h2 hz
theorem yX{ids:List IdR}{fl:List Bool}{P R:List IdR}{z x y:IdR}(e:ids=P++z::R)(hx:x∉P)(hy:y∉P)(hmx:x∈ids)(hmy:y∈ids){r:Bool}(hr:(z=x/\r=false)\/(z≠x/\z=y/\r=true)):gC (some (ids,fl)) x y=r:=by
 show decide (bC ids y<bC ids x)=r;subst e;have f1:=uCY hx hmx;have f2:=uCY hy hmy;rcases hr with⟨rfl,rfl⟩|⟨h,rfl,rfl⟩
 ·have:=jB (b:=R) hx;rw[this];exact decide_eq_false (by omega)
 have:=jB (b:=R) hy;rw[this];exact decide_eq_true (f1.2 h)
structure CbI(w:World)(q:Nat)(x y:IdR)(pre:List (IdR×Bool))(X:World):Prop where
 bx:Lies X q 27 #[vI x.a,vI x.n]
 by':Lies X (q+1) 27 #[vI y.a,vI y.n]
 res:Lies X (q+2) 4 #[.bool false]
 no:∀ z∈pre,z.1≠x/\z.1≠y
 bel:Below q w X
structure CbX(w:World)(q:Nat)(x y:IdR)(c:Code)(pre:List (IdR×Bool))(X:World):Prop where
 ret:c=.ret
 ex:∃ pre' z r,pre=pre'++[z]/\(∀ u∈pre',u.1≠x/\u.1≠y)/\((z.1=x/\r=false)\/(z.1≠x/\z.1=y/\r=true))/\Lies X (q+2) 4 #[.bool r]
 bel:Below q w X
theorem CbI.own{w:World}{q b:Nat}{x y:IdR}(hb:q+3<=b):OwnAll b (CbI w q x y):=fun s A B row h hg hr=>by
 have ne:∀ k,k<b->some k≠row:=fun k hk e=>by have:=hr k e.symm;omega
 exact⟨h.bx.grown hg (ne _ (by omega)),h.by'.grown hg (ne _ (by omega)),h.res.grown hg (ne _ (by omega)),h.no,fG h.bel hg hr (by omega) (Nat.le_of_lt h.bx.lt)⟩
theorem CbX.own{w:World}{q b:Nat}{x y:IdR}(hb:q+3<=b):∀ c,OwnAll b (CbX w q x y c):=fun c s A B row h hg hr=>by
 have ne:∀ k,k<b->some k≠row:=fun k hk e=>by have:=hr k e.symm;omega
 obtain⟨p',z,r,e1,e2,e3,e4⟩:=h.ex;exact⟨h.ret,⟨p',z,r,e1,e2,e3,e4.grown hg (ne _ (by omega))⟩,fG h.bel hg hr (by omega) (by have:=e4.lt;omega)⟩
theorem cb_end{w X:World}{q D:Nat}{v:Value}(hb:Below q w X)(hr:Lies X (q+2) 4 #[v])(hD:q+3<=D):(X.putObj D (.deferred none)).cell? ⟨q+2,0,none⟩=some v/\Below q w (X.putObj D (.deferred none)):=by
 have hg:=grownBy_putObj' X D (.deferred none);refine⟨?_,⟨hg.os.trans hb.os,hg.tape.trans hb.tape,hg.output.trans hb.output,yv hb.size hg.size,fun j hj=>(World.putObj_heap_other (by omega)).trans (hb.block j hj)⟩⟩;have:Lies (X.putObj D (.deferred none)) (q+2) 4 #[v]:=(World.putObj_heap_other (by omega)).trans hr;exact this.cell 0
theorem vO(b:Nat)(ids:List IdR)(fl:List Bool)(x y:IdR)(w:World)(hA:AxF w (some b) (some (ids,fl)))(hmx:x∈ids)(hmy:y∈ids) :
  Calls Tryz.prog 228 #[vP b 0,idV x,idV y] w fun e w'=>e=.returned (.bool (gC (some (ids,fl)) x y))/\Below w.heap.size w w':=by
 rw[<- callsIn_wide (n:=5)];have CW:=zh (fun X=>(callsIn_wide (n:=4)).2 (all_any (some ⟨b,0,none⟩) X));have hl:ids.length=fl.length:=hA.1;obtain⟨ek,uv⟩:∃ e,e=gC (some (ids,fl)) x y:=⟨_,rfl⟩
 rw[<- uv];have HE:=zh uv;obtain⟨W1,am⟩:∃ W1,W1=((w.alloc (.cells #[vI x.a,vI x.n] 27)).alloc (.cells #[vI y.a,vI y.n] 27)).alloc (.cells #[.bool false] 4):=⟨_,rfl⟩
 have HI:Hid (CbI w w.heap.size x y [] W1):=zh (by
  rw[am];have e1:=Lies.new w 27 #[vI x.a,vI x.n];have e2:=Lies.new (w.alloc (.cells #[vI x.a,vI x.n] 27)) 27 #[vI y.a,vI y.n];have e3:=Lies.new ((w.alloc (.cells #[vI x.a,vI x.n] 27)).alloc (.cells #[vI y.a,vI y.n] 27)) 4 #[.bool false];simp only[World.size_alloc]at e2 e3;exact⟨(e1.alloc _).alloc _,e2.alloc _,e3,(fun z hz=>by cases hz),(((Below.refl _ w).alloc zr _).alloc (by simp) _).alloc (by simp;omega) _⟩)
 have ix:W1.heap.size=w.heap.size+3:=by rw[am];simp
 have al:=zh am;have HM:=zh (And.intro hmx (And.intro hmy hl));have hA1:AxF W1 (some b) (some (ids,fl)):=hA.next (by have:=HI.out.bel;exact this);clear am uv hmx hmy hl hA;unfold idV;refine callsIn_of_wp_marks Tryz.func228 rfl trivial ?_ rfl;simp only[Tryz.ntmps228,yd,yi,List.length_nil,Nat.reduceAdd,Nat.reduceSub,Array.replicate_succ,Array.replicate_zero,List.push_toArray,List.append_toArray,List.nil_append,yp]
 gi_upto_region 1 with fail
 rw[<- al.out];generalize hq:w.heap.size=q at *;clear al
 gi_wp2_with fail
 refine⟨trivial,?_⟩;refine(CW.out W1).mono ?_;rintro e W2 ⟨rfl,dx⟩;rw[ix];have hb2:Below W1.heap.size W1 W2:=by rw[dx];exact(zp _)
 have hbB:W2.cell? ⟨q+3,0,none⟩=some (vP b 0):=by
  have:=Lies.new W1 40 #[vP b 0];rw[<- dx,ix]at this;exact this.cell 0
 have ku:W2.heap.size=q+4:=by rw[dx,World.size_alloc,ix]
 have i5:Hid (CbI w q x y [] W2):=zh ⟨HI.out.bx.next hb2,HI.out.by'.next hb2,HI.out.res.next hb2,HI.out.no,HI.out.bel.trans (hb2.mono (by omega))⟩;have LI:=zh (all1_in 4 (by decide) ids fl b (q+3) W2 hbB (hA1.next hb2));have dv:=zh ku;have HQ:=zh hq;clear dx hbB hb2 HI CW ku hA1 ix hq
 gi_wp2_with fail
 have jp:q+4<=W2.heap.size:=Nat.le_of_eq dv.out.symm;refine yK rfl (by decide) (gf:=255) (lb:=#[vP (q+3) 0]) rfl trivial (enters_of Tryz.func255 (by kernel_rfl) rfl) LI.out (fun p h=>h.elim) (fun _=>rfl) (CbI w q x y) (CbX w q x y) (CbI.own (by omega)) (CbX.own (by omega)) i5.out
  (fun z W=>{ tmps:=#[vP b 0,.agg #[vI x.a,vI x.n],.agg #[vI y.a,vI y.n],undef,vP q 0,vP (q+1) 0,vP (q+1+1) 0,vP W.heap.size 0,vP b 0,.func (.func 255) #[] #[vP (q+3) 0],.agg #[vI z.1.a,vI z.1.n],.bool z.2,undef,undef,undef,undef,undef,undef],defers:=[] })
  (fun z W=>W.alloc (.cells #[vI z.1.a,vI z.1.n] 27)) (fun z W=>zp _) ?assign ?body ?done ?stop
 case assign=>
  intro l' z X K hK;dsimp only[encA,idV]
  gi_wp2
  exact hK
 case body=>
  rintro l' pre z X hX hI hR W' hs hh hI';have hXq:q+6<=X.heap.size:=by omega
  have hLz:Lies W' X.heap.size 27 #[vI z.1.a,vI z.1.n]:=(hh X.heap.size (by omega)).trans (Lies.new X 27 _);have HI:=zh hI';obtain⟨⟨zia,zn⟩,zif⟩:=z;obtain⟨xa,xn⟩:=x;obtain⟨ya,yn⟩:=y;have z0:=hLz.cell 0;have z1:=hLz.cell 1;have x0:=HI.out.bx.cell 0;have x1:=HI.out.bx.cell 1;have y0:=HI.out.by'.cell 0
  have y1:=HI.out.by'.cell 1
  have r0:=HI.out.res.cell 0;have r1:=HI.out.res.frozen 0;simp only[za,zb,zf]at x0 x1 y0 y1 z0 z1 r0;have hkq:Hid (∀ v:Value,KeepsQ (fun _=>False) W2.heap.size W' (W'.setCell ⟨q+1+1,0,none⟩ v)):=zh (fun v=>gJ (fun p hp=>hp.elim) (by omega) v);have hkr:Hid (KeepsQ (fun _=>False) W2.heap.size W' W'):=zh (KeepsQ.refl _ _ _);have qo:Hid (∀ u∈pre,u.1≠(⟨xa,xn⟩:IdR)/\u.1≠(⟨ya,yn⟩:IdR)):=zh HI.out.no;have my:Hid (∀ v:Value,Lies (W'.setCell ⟨q+1+1,0,none⟩ v) (q+2) 4 #[v]):=zh (fun v=>HI.out.res.put 0 v);have cu:Hid (∀ v:Value,Below q w (W'.setCell ⟨q+1+1,0,none⟩ v)):=zh (fun v=>HI.out.bel.setCell (p:=⟨q+1+1,0,none⟩) (by show q<=q+1+1;omega) v);clear hI hI' hR hh hLz hs LI i5 HE;by_cases h1:(⟨zia,zn⟩:IdR)=⟨xa,xn⟩
  ·have e1:∀ W:World,(binOp .eql 27 (.agg #[vI zia,vI zn]) (.agg #[vI xa,vI xn])).run Tryz.prog W=.ok (.bool true) W:=fun W=>by have:=cP ⟨zia,zn⟩ ⟨xa,xn⟩ W;rwa [decide_eq_true h1]at this
   have HH:=zh h1;clear h1
   gi_wp2_with fail
   exact⟨hkq.out _,rfl,⟨pre,_,false,rfl,qo.out,.inl ⟨HH.out,rfl⟩,my.out _⟩,cu.out _⟩
  have e1:∀ W:World,(binOp .eql 27 (.agg #[vI zia,vI zn]) (.agg #[vI xa,vI xn])).run Tryz.prog W=.ok (.bool false) W:=fun W=>by have:=cP ⟨zia,zn⟩ ⟨xa,xn⟩ W;rwa [decide_eq_false h1]at this
  have HH:=zh h1;clear h1;by_cases h2:(⟨zia,zn⟩:IdR)=⟨ya,yn⟩
  ·have e2:∀ W:World,(binOp .eql 27 (.agg #[vI zia,vI zn]) (.agg #[vI ya,vI yn])).run Tryz.prog W=.ok (.bool true) W:=fun W=>by have:=cP ⟨zia,zn⟩ ⟨ya,yn⟩ W;rwa [decide_eq_true h2]at this
   have HH2:=zh h2;clear h2
   gi_wp2_with fail
   exact⟨hkq.out _,rfl,⟨pre,_,true,rfl,qo.out,.inr ⟨HH.out,HH2.out,rfl⟩,my.out _⟩,cu.out _⟩
  have e2:∀ W:World,(binOp .eql 27 (.agg #[vI zia,vI zn]) (.agg #[vI ya,vI yn])).run Tryz.prog W=.ok (.bool false) W:=fun W=>by have:=cP ⟨zia,zn⟩ ⟨ya,yn⟩ W;rwa [decide_eq_false h2]at this
  have HH2:=zh h2;clear h2
  gi_wp2_with fail
  refine⟨hkr.out,HI.out.bx,HI.out.by',HI.out.res,fun u hu=>?_,HI.out.bel⟩;rcases List.mem_append.1 hu with hu|hu
  ·exact qo.out u hu
  rw[yf.1 hu];exact⟨HH.out,HH2.out⟩
 case done=>
  rintro D xs X hD hS hI hK
  exfalso
  obtain⟨h1,h2,h3⟩:=HM.out;obtain⟨k,hk,e⟩:=List.getElem_of_mem h1;have hz:(ids.zip fl)[k]?=some (x,fl[k]'(by omega)):=by
   rw[List.getElem?_eq_getElem (by rw[List.length_zip];omega)];simp[e]
  rw[<- hS]at hz;exact(hI.no _ (List.mem_of_getElem? hz)).1 rfl
 case stop=>
  rintro D c pre X hD vt hI hK;obtain rfl:=hI.ret;obtain⟨pre',z,r,rfl,hno,hr,hLr⟩:=hI.ex;have uv:ek=r:=by
   rw[HE.out];obtain⟨h1,h2,h3⟩:=HM.out;obtain⟨R,hR⟩:=vt;have e:ids=pre'.map Prod.fst++z.1::R.map Prod.fst:=by
    have:=congrArg (List.map Prod.fst) hR;rw[List.map_fst_zip (by omega)]at this;rw[<- this];simp
   refine yX e (fun hm=>?_) (fun hm=>?_) h1 h2 hr
   ·obtain⟨u,hu,e'⟩:=yj.1 hm;exact(hno u hu).1 e'
   obtain⟨u,hu,e'⟩:=yj.1 hm;exact(hno u hu).2 e'
  have hE:=zh (cb_end (D:=D) hI.bel hLr (by omega));have uw:=zh hK;have HR:=zh uv;clear LI i5 HE hI hK vt hD hno hr hLr uv
  gi_wp2_with fail
  refine⟨by simp,.inl ⟨_,_,rfl,run_takeDeferred uw.out,?_⟩⟩;have hc:=hE.out.1;refine⟨.bool r,by simp[results,Tryz.results228,go_sem,hc],by rw[HR.out],by first|exact hE.out.2 |(rw[HQ.out];exact hE.out.2)⟩
theorem uEL(n:Int)(w:World)(hp:PowTab w)(h1:-1000000000<=n)(h2:n<=1000000000) :
  Calls Tryz.prog 75 #[vI n] w fun e w'=>e=.returned (vT (Lib.itoa n))/\Below w.heap.size w w' :=
 (Tryz.strconv_Itoa n (by omega) (by omega) w hp).mono fun _ _ ⟨h1,k,os,h2⟩=>⟨h1,by
  rw[h2];exact(zN (Below.refl _ w) k).trans (below_grow (w.drewN k) os)⟩
theorem oW(n:Int)(h1:-1000<=n)(h2:n<=1000):(Lib.itoa n).length<=10:=by
 unfold Lib.itoa
 split
 ·have:=cO n.natAbs 6 (by omega);simp only[yi];omega
 have:=cO n.toNat 6 (by omega);omega
theorem lY(n m:Nat)(b:Bool)(hn:n<=400)(hm:m<=400):(bV n m b).length<=20:=by
 unfold bV
 split
 ·have:=cO (n+1) 6 (by omega);omega
 split
 ·simp
 have:=oW ((n:Int)-(m:Int)) (by omega) (by omega);simp only[yi,yl,List.length_nil];omega
theorem qF(n m:Nat)(b:Bool)(w:World)(hp:PowTab w)(hn:n<=400)(hm:m<=400) :
  Calls Tryz.prog 91 #[vI (n:Int),vI (m:Int),.bool b] w fun e w'=>e=.returned (vT (bV n m b))/\Below w.heap.size w w':=by
 cases b
 ·by_cases h:n=m
  ·subst h;have HE:Hid (bV n n false=[]):=zh (by unfold bV;simp);generalize bV n n false=R at *
   go_in
   go_wp2_with fail
   go_ret
   exact⟨by(rw[HE.out]) <;> rfl,Below.refl _ _⟩
  have CI:=zh (uEL ((n:Int)-(m:Int)) w hp (by omega) (by omega));have hw:IntKind.i64.wrap ((n:Int)-(m:Int))=(n:Int)-(m:Int):=IntWalk.i64_in _ (by omega);have HE:Hid (bV n m false=91::(Lib.itoa ((n:Int)-(m:Int))++[93])):=zh (by unfold bV;rw[if_neg (by decide),if_neg h]);have hl:=oW ((n:Int)-(m:Int)) (by omega) (by omega);have hnb:((n:Int)==(m:Int))=false:=by simp;omega
  have cg:¬ (n:Int)=(m:Int):=by omega
  generalize bV n m false=R at *;generalize Lib.itoa ((n:Int)-(m:Int))=D at *;have k1:¬ 9223372036854775807<D.length+1:=by omega
  have k2:¬ 9223372036854775807<D.length+1+1:=by omega
  clear h hp
  go_in
  go_wp2_with (with_reducible refine CI.out.mono ?_;rintro e wx ⟨rfl,hb⟩;have HB:=zh hb;clear hb)
  go_ret
  refine⟨?_,HB.out⟩;rw[HE.out];simp
 have CI:=zh (mL (n+1) w hp (by omega));have hw:IntKind.i64.wrap ((n:Int)+1)=(n:Int)+1:=IntWalk.i64_in _ (by omega);have HE:Hid (bV n m true=Lib.decDigits (n+1)):=zh rfl;generalize bV n m true=R at *;rw[<- HE.out]at CI;rw[show ((n+1:Nat):Int)=(n:Int)+1 by omega]at CI;clear HE hp
 go_in
 go_wp2_with (with_reducible refine CI.out.mono ?_;rintro e wx ⟨rfl,hb⟩;have HB:=zh hb;clear hb)
 go_ret
 exact⟨rfl,HB.out⟩
theorem nH(row col r c:Nat)(fr fc:Bool)(w:World)(hp:PowTab w)(hr:row<=400)(hc:col<=400)(hr':r<=400)(hc':c<=400) :
  Calls Tryz.prog 43 #[markV row col fr fc,vI (r:Int),vI (c:Int)] w fun e w'=>e=.returned (vT (82::(bV row r fr++67::bV col c fc)))/\Below w.heap.size w w':=by
 have T0:=zh (MarkIn.start w row col fr fc);have mg:Hid (PowTab (w.alloc (.cells #[vI row,vI col,.bool fr,.bool fc] 90))):=zh (hp.next T0.out.2.2.2.2.2);have CR1:=zh (fun W=>gS (row:Int) (col:Int) W (by omega) (by omega) (by omega) (by omega));have CR2:=zh (fun W=>gS (r:Int) (c:Int) W (by omega) (by omega) (by omega) (by omega));have C1:=zh (fun W h=>qF row r fr W h hr hr');have C2:=zh (fun W h=>qF col c fc W h hc hc');have si:=lY row r fr hr hr';have hd2:=lY col c fc hc hc';generalize bV row r fr=S1 at *;generalize bV col c fc=S2 at *;have k1:¬ 9223372036854775807<S1.length+1:=by omega
 have k2:¬ 9223372036854775807<S1.length+1+1:=by omega
 have k3:¬ 9223372036854775807<S1.length+1+1+S2.length:=by omega
 have k4:¬ 9223372036854775807<1+S1.length:=by omega
 have k5:¬ 9223372036854775807<1+S1.length+1:=by omega
 have k6:¬ 9223372036854775807<1+S1.length+1+S2.length:=by omega
 have k7:¬ 9223372036854775807<S1.length+1+(S2.length+1):=by omega
 have k8:¬ 9223372036854775807<S1.length+1+1+(S2.length+1):=by omega
 clear hp hr hc hr' hc';obtain⟨g0,g1,g2,g3,g4,g5⟩:=T0.out
 go_in
 go_wp2_with (first
  |(go_at_call 90;(with_reducible refine(CR1.out _).mono ?_);rintro e w1 ⟨rfl,rfl⟩)
  |(go_at_call 90;(with_reducible refine(CR2.out _).mono ?_);rintro e w1 ⟨rfl,rfl⟩))
 generalize hW:w.alloc (.cells #[vI (row:Int),vI (col:Int),.bool fr,.bool fc] 90)=W at *;clear hW;have HP9:Hid (PowTab W.drew):=mg
 go_cut [6] (fun va wx=>va=vT (82::(S1++67::S2))/\Hid (Below w.heap.size w wx))
 case first=>
  go_region_held3 (fun w'=>w.heap.size<w'.heap.size/\w'.cell? ⟨w.heap.size,0,none⟩=some (vI (row:Int))/\w'.cell? ⟨w.heap.size,1,none⟩=some (vI (col:Int))/\w'.cell? ⟨w.heap.size,2,none⟩=some (.bool fr)/\w'.cell? ⟨w.heap.size,3,none⟩=some (.bool fc)/\Below w.heap.size w w')
   (first|exact T0.out|exact T0.out.drew|exact(MarkIn.next T0.out.drew hb) |(go_split_ands;exact(MarkIn.next (w:=w) ⟨by assumption,by assumption,by assumption,by assumption,by assumption,by assumption⟩ hb))|assumption)
   (first
    |(go_at_call 91;(with_reducible refine(C1.out _ HP9.out).mono ?_);rintro e wx ⟨rfl,hb⟩;have wm:=zh (HP9.out.next hb))
    |(go_at_call 91;(with_reducible refine(C2.out _ wm.out).mono ?_);rintro e wx ⟨rfl,hb⟩))
  all_goals go_wp2_with fail
  all_goals go_meet
  all_goals refine⟨by simp,zh ?_⟩
  all_goals first|assumption |(go_split_ands;assumption)
 case rest=>
 obtain⟨rfl,hb⟩:=hcut;clear g0 g1 g2 g3 g4 g5
 go_wp2_with fail
 go_ret
 exact⟨rfl,hb.out⟩
end Go.Proofs.YtjfihpaeglpblaaGreatDoor
