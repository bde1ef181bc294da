/-
  Lemmas, part 22: RangeQ PaK PaL PaR PlSim2.
-/
import Derived.RangeFuncNested
import Derived.RangeFuncBound
import Derived.RangeFuncCalls
import Derived.RangeFuncLeaves
import Derived.Shelf.Abstract
import Derived.Shelf.RegionOpen
import Derived.OwnWalkIn
import Derived.TacticsInMore
import Derived.LoopNIn
import Derived.LoopIn
import Derived.Sort.LoopGhostIn
import Derived.Sort.CutIn
import Derived.Test.YtmgjidnalpgegaaGreatDoorPr21
set_option maxHeartbeats 100000000
namespace Go.Proofs.YtmgjidnalpgegaaGreatDoor
open Go.RowKit
def KeepsQ(K:Addr->Prop)(c:Nat)(W W':World):Prop:=W.heap.size<=W'.heap.size/\(∀ p,K p->W'.cell? p=W.cell? p)/\(∀ p,K p->W'.frozen? p=W.frozen? p)/\∀ k,c<=k->k<W.heap.size->W'.heap[k]?=W.heap[k]?
theorem KeepsQ.trans{K:Addr->Prop}{c:Nat}{A B C:World}(h1:KeepsQ K c A B)(h2:KeepsQ K c B C):KeepsQ K c A C:=⟨yv h1.1 h2.1,fun p h=>(h2.2.1 p h).trans (h1.2.1 p h),fun p h=>(h2.2.2.1 p h).trans (h1.2.2.1 p h),fun k hk hlt=>(h2.2.2.2 k hk (yu hlt h1.1)).trans (h1.2.2.2 k hk hlt)⟩
def OwnAll{α:Type}(b:Nat)(I:List α->World->Prop):Prop:=∀ s A B row,I s A->A.grownBy B row->(∀ r,row=some r->b<=r)->I s B
theorem OwnAll.putObj{α:Type}{b:Nat}{I:List α->World->Prop}(h:OwnAll b I){s:List α}{W:World}{l:Nat}(o':Obj)(hs:I s W)(hB:b<=l):I s (W.putObj l o'):=h s W _ (some l) hs (grownBy_putObj' W l o') (fun r e=>by cases e;exact hB)
def SeqQ{α:Type}(F:Fence)(n:Nat)(P:Program)(g:Nat)(lb:Array Value)(encs:α->Array Value)(n₀:Addr->Prop)(R:List α->α->Prop)(S Sp:List α->Prop)(w:World):Prop :=
 ∀ (l:Nat) (J Jx:List α->World->Prop) (W:World),Below w.heap.size w W->OwnAll W.heap.size J->OwnAll W.heap.size Jx ->
  (∀ pre x W1,W.heap.size<=W1.heap.size->J pre W1->R pre x->YieldAt F (n-1) P l (encs x) W1 fun e W'=>
   (e=.returned (.bool true)/\J (pre++[x]) W'/\KeepsQ n₀ W.heap.size W1 W')\/(e=.returned (.bool false)/\Jx (pre++[x]) W')) ->
  J [] W ->
  CallsIn F n P g (#[.func (.yield l) #[] #[]]++lb) W fun e W'=>(∃ v,e=.returned v)/\((∃ xs,S xs/\J xs W')\/(∃ pre,Sp pre/\Jx pre W'))
def postQ{α:Type}(b:Nat)(n₀:Addr->Prop)(I:List α->World->Prop)(Ix:Code->List α->World->Prop)(xs:List α)(W:World):Exit->Act->World->Prop
 | .normal,_,W'=>KeepsQ n₀ b W W'/\I xs W'
 | .ret,_,W'=>KeepsQ n₀ b W W'/\Ix .ret xs W'
 | .exit id,_,W'=>KeepsQ n₀ b W W'/\Ix (.exit id) xs W'
 |_,_,_=>False
def recQ(fn:FuncId)(tmps:Array Value)(ps:Array Tmp)(assign body:Code)(D:Nat)(st:LoopState)(pe:Option Code):Obj:=.loop { state:=st,pending:=pe,fn,tmps,params:=ps,assign,body,defers:=D }
section
variable {F:Fence} {n:Nat} {P:Program}
structure BooksQ(W:World)(b:Nat)(o:Obj):Prop where
 loop:W.heap[b+1]?=some o
 dfr:W.heap[b]?=some (.deferred (some []))
theorem BooksQ.lt{W:World}{b:Nat}{o:Obj}(h:BooksQ W b o):b+1<W.heap.size:=(zk.1 h.loop).1
theorem BooksQ.kept{W W':World}{b:Nat}{o:Obj}{K:Addr->Prop}(h:BooksQ W b o)(hk:KeepsQ K b W W'):BooksQ W' b o:=⟨(hk.2.2.2 _ (by omega) h.lt).trans h.loop,(hk.2.2.2 _ (by omega) (Nat.lt_of_succ_lt h.lt)).trans h.dfr⟩
theorem BooksQ.far{W W':World}{b:Nat}{o:Obj}{row:Option Nat}(h:BooksQ W b o)(hg:W.grownBy W' row)(hr:∀ r,row=some r->b+1<r):BooksQ W' b o:=by
 have e1:=hg.block (b+1) (zk.1 h.loop).1 (fun e=>by have:=hr _ e.symm;omega);have e2:=hg.block b (zk.1 h.dfr).1 (fun e=>by have:=hr _ e.symm;omega);exact⟨e1.trans h.loop,e2.trans h.dfr⟩
theorem BooksQ.put{W:World}{b:Nat}{o:Obj}(h:BooksQ W b o)(o':Obj):BooksQ (W.putObj (b+1) o') b o' :=
 ⟨World.putObj_heap_same (zk.1 h.loop).1,(World.putObj_heap_other (by omega)).trans h.dfr⟩
theorem uDG{n₀:Addr->Prop}{b c:Nat}{W:World}(hb:∀ p,n₀ p->p.block<b)(hc:b<c)(o':Obj):KeepsQ n₀ c W (W.putObj b o') :=
 ⟨by rw[World.putObj_size];exact zr,fun p hp=>World.cell?_of_block (World.putObj_heap_other (Nat.ne_of_lt (hb p hp))),fun p hp=>World.frozen?_of_block (World.putObj_heap_other (Nat.ne_of_lt (hb p hp))),fun k hk _=>World.putObj_heap_other (by omega)⟩
theorem KeepsQ.from{K:Addr->Prop}{c d:Nat}{A B:World}(h:KeepsQ K c A B)(hcd:c<=d):KeepsQ K d A B:=⟨h.1,h.2.1,h.2.2.1,fun k hk hl=>h.2.2.2 k (yv hcd hk) hl⟩
theorem uBU{α:Type}{g:Operand}{ps:Array Tmp}{assign body:Code}{Q:Exit->Act->World->Prop}{a:Act}{w:World}
  (hro:F.round=none) (h1:1<=n) {gf:Nat} {lb:Array Value} (hg:a.eval g=.func (.func gf) #[] lb) (hFg:F.fn gf) (eg:∀ args w,(callFunc gf args).run P w=.ok (.enter gf args) w)
  {encs:α->Array Value} {n₀:Addr->Prop} {R:List α->α->Prop} {S Sp:List α->Prop} (hseq:SeqQ F (n-1) P gf lb encs n₀ R S Sp w)
  (hn₀:∀ p,n₀ p->p.block<w.heap.size) (sw:∀ x,(encs x).size=ps.size)
  (I:List α->World->Prop) (Ix:Code->List α->World->Prop) (hI:OwnAll w.heap.size I) (hIx:∀ c,OwnAll w.heap.size (Ix c)) (h0:I [] w) (a₁:α->Act)
  (hassign:∀ (l:Nat) (x:α) (W:World) (K:Act->World->Prop),K (a₁ x) W ->
   assign.wpIn (F.inRound l) (n-1-1) P (Exit.then K (fun _ _ _=>False)) { tmps:=(ps.zip (encs x)).foldl (fun t (p,v)=>t.setIfInBounds p v) a.tmps,defers:=[] } W)
  (hbody:∀ (l:Nat) (pre:List α) (x:α) (W:World),w.heap.size+2<=W.heap.size->I pre W->R pre x->body.wpIn (F.inRound l) (n-1-1) P (postQ w.heap.size n₀ I Ix (pre++[x]) W) (a₁ x) W)
  (da:∀ (D:Nat) (xs:List α) (W:World),w.heap.size<=D->S xs->I xs W->W.heap[D]?=some (.deferred (some []))->Q .normal { a with defers:={ target:=.collected D,args:=#[] }::a.defers } W)
  (jl:∀ (D:Nat) (c:Code) (pre:List α) (W:World),w.heap.size<=D->Sp pre->Ix c pre W->W.heap[D]?=some (.deferred (some []))->c.wpIn F n P Q { a with defers:={ target:=.collected D,args:=#[] }::a.defers } W) :
  (Code.rangeFunc g ps assign body).wpIn F n P Q a w:=by
 refine wpIn_rangeFunc fun fn hfn=>?_
 let rc:=recQ fn a.tmps ps assign body w.heap.size
 let W1:=(w.alloc (.deferred (some []))).alloc (rc .ready none)
 have hB1:BooksQ W1 w.heap.size (rc .ready none):=by
  refine⟨?_,(Below.heap_alloc _ _ _ (by simp)).trans (World.alloc_heap_new w _)⟩;have:=World.alloc_heap_new (w.alloc (.deferred (some []))) (rc .ready none)
  rwa [World.size_alloc]at this
 have aw:Below w.heap.size w W1:=((Below.refl _ w).alloc zr _).alloc (by simp) _;have bg:W1.heap.size=w.heap.size+2:=by simp[W1]
 have bi:∀ {row:Option Nat},(∀ r,row=some r->W1.heap.size<=r)->(∀ r,row=some r->w.heap.size<=r):=fun hr r e=>by
  have:=hr r e;omega
 refine⟨w.heap.size+1,[{ target:=.collected w.heap.size,args:=#[] }],W1,{ target:=.fn (.func gf) lb,args:=#[.func (.yield (w.heap.size+1)) #[] #[]] },W1,gf,#[.func (.yield (w.heap.size+1)) #[] #[]]++lb,W1,?_,?_,?_,?_,fun _=>h1,?_⟩
 ·rw[hro];exact run_enterLoop_outer _ _ _ _ _
 ·simp only[resolve,hg];simp[go_sem]
 ·intro f' hf';simp[Target.leads]at hf';subst hf';exact hFg
 ·simp[invoke,go_sem,eg]
 refine(hseq (w.heap.size+1) (fun pre W=>I pre W/\BooksQ W w.heap.size (rc .ready none)) (fun pre W=>∃ c,Ix c pre W/\BooksQ W w.heap.size (rc .done (some c))) W1 aw
  (fun s A B row hs o6 hr=>⟨hI s A B row hs.1 o6 (bi hr),hs.2.far o6 (fun r e=>by have:=hr r e;omega)⟩)
  (fun s A B row hs o6 hr=>by
   obtain⟨c,hc,kh⟩:=hs;exact⟨c,hIx c s A B row hc o6 (bi hr),kh.far o6 (fun r e=>by have:=hr r e;omega)⟩)
  ?_ ⟨hI [] _ _ none (hI [] _ _ none h0 (World.grownBy_alloc w _ none) (fun r e=>by cases e)) (World.grownBy_alloc _ _ none) (fun r e=>by cases e),hB1⟩).mono ?_
 ·rintro pre x W hlt ⟨hi,kh⟩ hx;rw[bg]at hlt ⊢;have hy:=run_yield (P:=P) (args:=encs x) kh.loop (sw x);refine⟨fn,_,assign,body,hy,roundIn_of_wpIn hfn (hassign _ x W _ ⟨_,run_beginRound kh.loop rfl,?_⟩)⟩;have hbk2:BooksQ (W.putObj (w.heap.size+1) (rc .busy none)) w.heap.size (rc .busy none):=kh.put _;have gy:∀ (X:World) (o':Obj),KeepsQ n₀ (w.heap.size+2) X (X.putObj (w.heap.size+1) o'):=fun X o'=>uDG (fun p hp=>by have:=hn₀ p hp;omega) (by omega) o'
  refine wpIn_mono (hbody _ pre x _ (by rw[World.putObj_size];exact hlt) (hI.putObj _ hi (by omega)) hx) ?_;intro e a3 W3 hp;cases e with
  |normal=>
   obtain⟨b9,hi3⟩:=hp;have qr:=hbk2.kept b9;exact⟨_,_,run_endRound none qr.loop,.inl ⟨rfl,⟨hI.putObj _ hi3 (by omega),qr.put _⟩,((gy _ _).trans (b9.from (by omega))).trans (gy _ _)⟩⟩
  |ret=>
   obtain⟨b9,hi3⟩:=hp;have qr:=hbk2.kept b9;exact⟨_,_,run_endRound (some .ret) qr.loop,.inr ⟨rfl,.ret,(hIx _).putObj _ hi3 (by omega),qr.put _⟩⟩
  |exit id=>
   obtain⟨b9,hi3⟩:=hp;have qr:=hbk2.kept b9;exact⟨_,_,run_endRound (some (.exit id)) qr.loop,.inr ⟨rfl,.exit id,(hIx _).putObj _ hi3 (by omega),qr.put _⟩⟩
  |goto t=>exact hp.elim
  |panic ch=>exact hp.elim
  |outgrown=>exact hp.elim
 rintro e W2 ⟨⟨v,rfl⟩,(⟨xs,hS,hi,kh⟩|⟨pre,hSp,c,hi,kh⟩)⟩
 ·exact⟨none,_,run_endLoop kh.loop (by simp),da _ xs _ zr hS (hI.putObj _ hi (by omega)) (kh.put (o':=_)).dfr⟩
 exact⟨some c,_,run_endLoop kh.loop (by simp),jl _ c pre _ zr hSp ((hIx c).putObj _ hi (by omega)) (kh.put (o':=_)).dfr⟩
end
end Go.Proofs.YtmgjidnalpgegaaGreatDoor
namespace Go.Proofs.YtmgjidnalpgegaaGreatDoor
open Go.RowKit Go.Shelf
attribute [local go_sem] Oper.semAt_some
mutual
def Tree.depths:Tree->Nat->List Nat
 | .mk _ l,d=>d::gF l (d+1)
def gF:List Tree->Nat->List Nat
 | [],_=>[]
 |t::r,d=>t.depths d++gF r d
end
mutual
theorem iX:∀ (t:Tree) (d:Nat),(t.depths d).length=t.size
 | .mk h l,d=>by unfold Tree.depths Tree.size;rw[yi,qI l (d+1)]
theorem qI:∀ (l:List Tree) (d:Nat),(gF l d).length=bB l
 | [],_=>rfl
 |t::r,d=>by unfold gF bB;rw[yl,iX t d,qI r d]
end
theorem uD(t:Tree):1<=t.size:=by cases t;unfold Tree.size;omega
theorem vH(t:Tree):1<=t.depth:=by cases t;unfold Tree.depth;omega
mutual
theorem sD:∀ (t:Tree) (d a:Nat),(t.depths d).foldl max a=max a (d+t.depth-1)
 | .mk h l,d,a=>by
  unfold Tree.depths Tree.depth;rw[List.foldl_cons,qJ l (d+1) (max a d)];by_cases hz:dC l=0
  ·rw[if_pos hz,hz];rfl
  rw[if_neg hz];omega
theorem qJ:∀ (l:List Tree) (d a:Nat),(gF l d).foldl max a=if dC l=0 then a else max a (d+dC l-1)
 | [],_,_=>rfl
 |t::r,d,a=>by
  unfold gF dC;rw[List.foldl_append,sD t d a,qJ r d _];have:=vH t;by_cases hz:dC r=0
  ·rw[if_pos hz,if_neg (by omega),hz];omega
  rw[if_neg hz,if_neg (by omega)];omega
end
structure SE where
 g:Nat
 o:Nat
 d:Nat
 t:Tree
def SE.cells(x:SE):List Value:=[.pointer (some ⟨x.g,x.o,none⟩),.int .i64 (x.d:Int)]
def stC(l:List SE):List Value:=l.flatMap SE.cells
theorem xZ:∀ (l:List SE),(stC l).length=l.length*2
 | []=>rfl
 |x::r=>by
  have:=xZ r;unfold stC at *;rw[List.flatMap_cons,yl,this,yi];show 2+r.length*2=_;omega
theorem uBJ(l:List SE)(x:SE):stC (l++[x])=stC l++x.cells:=by unfold stC;simp
def jR(l:List SE):List Nat:=l.reverse.flatMap (fun x=>x.t.depths x.d)
theorem wK(l:List SE)(x:SE):jR (l++[x])=x.t.depths x.d++jR l:=by unfold jR;simp
theorem uAZ(l m:List SE):jR (l++m)=jR m++jR l:=by unfold jR;simp
theorem uBA:∀ (l:List SE),l.length<=(jR l).length
 | []=>zm _
 |x::r=>by
  have:=uBA r;have h1:jR (x::r)=jR r++x.t.depths x.d:=by
   have:=uAZ [x] r;rw[List.singleton_append]at this;rw[this];unfold jR;simp
  have h2:=iX x.t x.d;have h3:=uD x.t;rw[h1,yl,yi];omega
def jD(g d:Nat):Nat->List Tree->List SE
 |_,[]=>[]
 |i,t::r=>⟨g,i*22,d,t⟩::jD g d (i+1) r
theorem mO(g d:Nat):∀ (l:List Tree) (i:Nat),(jD g d i l).length=l.length
 | [],_=>rfl
 |t::r,i=>by unfold jD;rw[yi,mO g d r (i+1),yi]
theorem vR(g d:Nat):∀ (l:List Tree) (i k:Nat) (hk:k<l.length),(jD g d i l)[k]?=some ⟨g,(i+k)*22,d,l[k]⟩
 | [],_,_,hk=>absurd hk (by simp)
 |t::r,i,0,_=>rfl
 |t::r,i,k+1,hk=>by
  unfold jD;rw[zf,vR g d r (i+1) k (by simpa using hk),show i+1+k=i+(k+1) by omega];rfl
theorem sV(g d:Nat):∀ (l:List Tree) (i:Nat),(jD g d i l).flatMap (fun x=>x.t.depths x.d)=gF l d
 | [],_=>rfl
 |t::r,i=>by unfold jD gF;rw[List.flatMap_cons,sV g d r (i+1)]
def SeOk(w:World)(X:List Nat)(m:Nat)(x:SE):Prop:=x.g<w.heap.size/\x.g∉X/\NodeAt w X x.g x.o x.t/\x.d+x.t.size<=m
theorem zN{w:World}{X:List Nat}{m g d:Nat}(hg:g<w.heap.size)(hx:g∉X):∀ (l:List Tree) (i:Nat),KidsAt w X g i l->d+bB l<=m->∀ x∈jD g d i l,SeOk w X m x
 | [],_,_,_,x,hm=>by cases hm
 |t::r,i,hk,hs,x,hm=>by
  unfold bB at hs;rcases ym.1 hm with rfl|hm
  ·exact⟨hg,hx,hk.1,by show d+t.size<=m;omega⟩
  exact zN hg hx r (i+1) hk.2 (by omega) x hm
theorem own_pop{w:World}{b e k g cap:Nat}{xs:List Value}{u v:Value}(h:w.ownsRow b e 2 (.slice (some ⟨g,0,none⟩) (k+1) cap) (k+1) (xs++[u,v])):w.ownsRow b e 2 (.slice (some ⟨g,0,none⟩) k cap) k xs:=by
 obtain⟨h1,h2⟩:=h;rw[yl]at h1;have hl:xs.length=k*2:=by simp at h1;omega
 refine⟨hl,?_⟩;rcases h2 with⟨h3,_⟩|⟨g',gu,cur,hv,hb,hh,hc,hm,hs,ht⟩
 ·cases h3
 cases hv;refine .inr ⟨g,cap,cur,rfl,hb,hh,by omega,hm,hs,?_⟩;have h9:=congrArg (List.take (k*2)) ht;rw[List.take_take,Nat.min_eq_left (by omega)]at h9;rw[h9,<- hl,List.take_left]
theorem infoStep:(Tryz.prog.info? 101).map (fun i=>(i.zero,i.size,i.bytes))=some (some (.agg #[.pointer none,.int .i64 0]),2,16):=by kernel_rfl
end Go.Proofs.YtmgjidnalpgegaaGreatDoor
namespace Go.Proofs.YtmgjidnalpgegaaGreatDoor
open Go.RowKit Go.Shelf
attribute [local go_sem] Oper.semAt_some
def encD(x:SE):Array Value:=#[.pointer (some ⟨x.g,x.o,none⟩),.int .i64 (x.d:Int)]
theorem own_at{w w':World}{b e s g n c:Nat}{xs:List Value}(h:w.ownsRow b e s (.slice (some ⟨g,0,none⟩) n c) n xs)(hg:w'.heap[g]?=w.heap[g]?):w'.ownsRow b e s (.slice (some ⟨g,0,none⟩) n c) n xs:=by
 refine⟨h.1,?_⟩;rcases h.2 with⟨h3,_⟩|⟨g',gu,cur,hv,hb,hh,rest⟩
 ·cases h3
 cases hv;exact .inr ⟨g,c,cur,rfl,hb,hg.trans hh,rest⟩
theorem kV{W W':World}(hb:Below W.heap.size W W'):W.grownBy W' none:=⟨hb.os,hb.tape,hb.output,hb.size,fun k hk _=>hb.block k hk⟩
structure WSt(w W:World)(X:List Nat)(m:Nat)(ds:List Nat)(J:List SE->World->Prop)(pre st:List SE)(g cap:Nat)(wr:World):Prop where
 own:wr.ownsRow W.heap.size 101 2 (.slice (some ⟨g,0,none⟩) st.length cap) st.length (stC st)
 key:pre.map SE.d++jR st=ds
 ok:∀ x∈st,SeOk w X m x
 j:J pre wr
 size:W.heap.size<=wr.heap.size
 cell:∀ p:Addr,p.block<w.heap.size->p.block∉X->wr.cell? p=w.cell? p
structure WIn(w W:World)(X:List Nat)(J:List SE->World->Prop)(pre:List SE)(q d:Nat)(L:List SE)(g cap:Nat)(wr:World):Prop where
 own:wr.ownsRow W.heap.size 101 2 (.slice (some ⟨g,0,none⟩) L.length cap) L.length (stC L)
 j:J pre wr
 top:wr.cell? ⟨q,1,none⟩=some (.int .i64 (d:Int))
 ne:g≠q
 qs:q<wr.heap.size
 size:W.heap.size<=wr.heap.size
 cell:∀ p:Addr,p.block<w.heap.size->p.block∉X->wr.cell? p=w.cell? p
theorem WIn.next{w W wr wr':World}{X:List Nat}{J:List SE->World->Prop}{pre L:List SE}{q d g cap:Nat}(h:WIn w W X J pre q d L g cap wr)(hJ:OwnAll W.heap.size J)(hb:Below wr.heap.size wr wr')(hw:w.heap.size<=W.heap.size):WIn w W X J pre q d L g cap wr' :=
 ⟨own_at h.own (hb.block g (h.own.lt g rfl).2),hJ _ _ _ none h.j (kV hb) (fun r e=>by cases e),(hb.cell (p:=⟨q,1,none⟩) h.qs).trans h.top,h.ne,yu h.qs hb.size,yv h.size hb.size,fun p h1 h2=>(hb.cell (p:=p) (yu h1 (yv hw h.size))).trans (h.cell p h1 h2)⟩
theorem WIn.push{w W wr wr':World}{X:List Nat}{J:List SE->World->Prop}{pre L:List SE}{q d g cap gg cap2:Nat}{x:SE}(h:WIn w W X J pre q d L g cap wr)(hJ:OwnAll W.heap.size J)(hw:w.heap.size<=W.heap.size)(aj:wr'.ownsRow W.heap.size 101 2 (.slice (some ⟨gg,0,none⟩) (L.length+1) cap2) (L.length+1) (stC L++x.cells))(hg:wr.grownBy wr' (some g))(ec:some g=some gg\/gg=wr.heap.size):WIn w W X J pre q d (L++[x]) gg cap2 wr':=by
 have nk:=(h.own.lt g rfl).1;refine⟨by rw[uBJ,yl,List.length_singleton];exact aj,hJ _ _ _ (some g) h.j hg (fun r e=>by cases e;exact nk),(World.cell?_of_block (hg.block q h.qs (fun e=>h.ne (by injection e with e;exact e.symm)))).trans h.top,?_,yu h.qs hg.size,yv h.size hg.size,fun p h1 h2=>(World.cell?_of_block (hg.block p.block (yu h1 (yv hw h.size)) (fun e=>by injection e with e;omega))).trans (h.cell p h1 h2)⟩;rcases ec with ec|ec
 ·injection ec with ec;rw[<- ec];exact h.ne
 have:=h.qs;omega
theorem kid_push{l:List Tree}{g d k:Nat}(hk:k<l.length):(jD g d 0 l).reverse.take (l.length-k)=(jD g d 0 l).reverse.take (l.length-(k+1))++[⟨g,k*22,d,l[k]⟩]:=by
 have hl:=mO g d l 0;have hlt:l.length-(k+1)<(jD g d 0 l).reverse.length:=by rw[List.length_reverse,hl];omega
 rw[show l.length-k=l.length-(k+1)+1 by omega,yw hlt]
 congr 1
 have h1:(jD g d 0 l).reverse[l.length-(k+1)]?=some ⟨g,k*22,d,l[k]⟩:=by
  rw[List.getElem?_reverse (by rw[hl];omega),hl,show l.length-1-(l.length-(k+1))=k by omega,vR g d l 0 k hk,Nat.zero_add]
 rw[List.getElem?_eq_getElem hlt]at h1;rw[Option.some.inj h1]
theorem uIO(g d:Nat)(l:List Tree):jR (jD g d 0 l).reverse=gF l d:=by
 unfold jR;rw[List.reverse_reverse,sV]
theorem vV:∀ (l:List Tree),l.length<=bB l
 | []=>zm _
 |t::r=>by
  have:=vV r;have h1:=uD t;unfold bB;rw[yi];omega
set_option maxRecDepth 100000 in
theorem walk1_in(n:Nat)(hn:1<=n)(X:List Nat)(t:Tree)(g0 o0 B:Nat)(w:World)(ht:t.size<=1000000)(hb:w.cell? ⟨B,0,none⟩=some (.pointer (some ⟨g0,o0,none⟩)))(hB:B<w.heap.size)(hg0:g0<w.heap.size)(hgX:g0∉X)(hn0:NodeAt w X g0 o0 t) :
  SeqQ Fence.wide n Tryz.prog 50 #[.pointer (some ⟨B,0,none⟩)] encD (fun p=>p.block<w.heap.size/\p.block∉X) (fun pre x=>(pre++[x]).map SE.d <+: t.depths 1) (fun xs=>xs.map SE.d=t.depths 1) (fun pre=>pre.map SE.d <+: t.depths 1) w:=fun l J Jx W hW hJ hJx hY h0=>by
 have hbW:W.cell? ⟨B,0,none⟩=some (.pointer (some ⟨g0,o0,none⟩)):=(hW.cell (p:=⟨B,0,none⟩) (by show B<w.heap.size;omega)).trans hb;have bg:w.heap.size<=W.heap.size:=hW.size;have HJ:=zh hJ;have HY:=zh hY;have HT:=zh ht;obtain⟨i0,hi,ki,js,j7⟩:=info_parts infoStep;obtain⟨W1,bt⟩:∃ W1,W1=W.alloc (.cells #[.pointer (some ⟨g0,o0,none⟩),.int .i64 1] 101):=⟨_,rfl⟩
 have HS0:Hid (WSt w W X 1000001 (t.depths 1) J [] [⟨g0,o0,1,t⟩] W.heap.size 1 W1):=zh (by
  have af:Below W.heap.size W W1:=by rw[bt];exact(zp _)
  refine⟨⟨rfl,.inr ⟨W.heap.size,1,#[.pointer (some ⟨g0,o0,none⟩),.int .i64 1],rfl,zr,by rw[bt];exact heap_alloc_new W _,zr,by decide,rfl,rfl⟩⟩,by simp[jR],?_,hJ [] W W1 none h0 (kV af) (fun r e=>by cases e),af.size,fun p hp _=>?_⟩
  ·intro x hx;rw[yf.1 hx];exact⟨hg0,hgX,hn0,by show 1+t.size<=1000001;omega⟩
  exact(af.cell (p:=p) (by omega)).trans (hW.cell (p:=p) hp))
 clear hJ hY hW hJx hb h0 hn0 ht;have HWe:=zh bt;clear bt;refine callsIn_of_wp Tryz.func50 rfl trivial ?_ rfl;simp only[Tryz.ntmps50,yd,yi,List.length_nil,Nat.reduceAdd,Nat.reduceSub,Array.replicate_succ,Array.replicate_zero,List.push_toArray,List.append_toArray,List.nil_append,yp]
 gi_wp2
 rw[<- HWe.out]
 gi_loopg [3] ((t.depths 1).length) (fun k v wr=>∃ (pre st:List SE) (g cap:Nat),v=.slice (some ⟨g,0,none⟩) st.length cap/\k=(jR st).length/\Hid (WSt w W X 1000001 (t.depths 1) J pre st g cap wr))
 case atStart=>exact⟨[],[⟨g0,o0,1,t⟩],W.heap.size,1,rfl,by simp[jR],HS0⟩
 case round=>
  obtain⟨pre,st,g,cap,rfl,hk,HS⟩:=hrel;clear HS0 HWe hbW;have HK:=zh hk;clear hk;rcases List.eq_nil_or_concat st with rfl|⟨st0,x,rfl⟩
  ·gi_wp2
   go_end0
   exact⟨⟨_,rfl⟩,.inl ⟨pre,by have:=HS.out.key;simpa [jR] using this,HS.out.j⟩⟩
  rw[List.concat_eq_append]at HS HK ⊢;have hlen:(st0++[x]).length=st0.length+1:=by simp
  rw[hlen];have vj:st0.length<=1000000:=by
   have a:=congrArg List.length HS.out.key;have b:=uBA (st0++[x]);rw[yl,iX]at a;have:=HT.out;omega
  have sc:=HS.out.own;rw[hlen,uBJ]at sc;have hce:=sc.cells (g:=g) rfl;have c0:wr.cell? ⟨g,st0.length*2,none⟩=some (.pointer (some ⟨x.g,x.o,none⟩)):=by
   have:=hce (st0.length*2) (.pointer (some ⟨x.g,x.o,none⟩)) (by rw[<- xZ,List.getElem?_append_right zr,Nat.sub_self];rfl)
   rwa [Addr.add_mid,Nat.zero_add]at this
  have c1:wr.cell? ⟨g,st0.length*2+1,none⟩=some (.int .i64 (x.d:Int)):=by
   have:=hce (st0.length*2+1) (.int .i64 (x.d:Int)) (by rw[<- xZ,List.getElem?_append_right (by omega),Nat.add_sub_cancel_left];rfl)
   rwa [Addr.add_mid,Nat.zero_add]at this
  have xf:=zh (own_pop sc);clear sc hce hlen;have hk0:(0:Int)<=(st0.length:Int):=Int.natCast_nonneg _;have dq:(st0.length:Int)<(st0.length:Int)+1:=by omega
  have eu:st0.length<=cap:=by
   rcases xf.out.2 with⟨h9,_⟩|⟨_,_,_,h9,_,_,hc,_⟩
   ·cases h9
   cases h9;exact hc
  have hso:=HS.out.ok x (by simp);obtain⟨xg,xo,xd,⟨h,l'⟩⟩:=x;obtain⟨hxg,hxX,⟨A,cp,ik,zo⟩,hxd⟩:=hso;dsimp only at c0 c1 hxg hxX ik zo hxd;have rn:=ik 21 (by decide);have km:g<wr.heap.size:=xf.out.lt g rfl |>.2;obtain⟨Wy,hWy⟩:∃ Wy,Wy=wr.alloc (.cells #[.pointer (some ⟨xg,xo,none⟩),.int .i64 (xd:Int)] 101):=⟨_,rfl⟩
  have lk:Below wr.heap.size wr Wy:=by rw[hWy];exact(zp _)
  have HJy:Hid (J pre Wy):=zh (HJ.out pre wr Wy none HS.out.j (kV lk) (fun r e=>by cases e));have hszr:=HS.out.size;have c21:Wy.cell? ⟨xg,xo+21,none⟩=some (.slice A l'.length cp):=(lk.cell (p:=⟨xg,xo+21,none⟩) (by show xg<wr.heap.size;omega)).trans ((HS.out.cell ⟨xg,xo+21,none⟩ hxg hxX).trans rn);have t0:Wy.cell? ⟨wr.heap.size,0,none⟩=some (.pointer (some ⟨xg,xo,none⟩)):=by rw[hWy];simp[go_sem]
  have t1:Wy.cell? ⟨wr.heap.size,1,none⟩=some (.int .i64 (xd:Int)):=by rw[hWy];simp[go_sem]
  have HKEY:Hid ((pre++[SE.mk xg xo xd ⟨h,l'⟩]).map SE.d++(gF l' (xd+1)++jR st0)=t.depths 1):=zh (by
   rw[<- HS.out.key,wK];simp[Tree.depths])
  have HPre:Hid ((pre++[SE.mk xg xo xd ⟨h,l'⟩]).map SE.d <+: t.depths 1):=zh ⟨_,HKEY.out⟩;have HOk:Hid (∀ y∈st0,SeOk w X 1000001 y):=zh (fun y hy=>HS.out.ok y (by simp[hy]));have s9:Hid (∀ p:Addr,p.block<w.heap.size->p.block∉X->wr.cell? p=w.cell? p):=zh HS.out.cell;have HBy:=zh lk;obtain⟨fn,tmps,assign,body,hy,hRd⟩:=HY.out pre ⟨xg,xo,xd,⟨h,l'⟩⟩ Wy (by have:=lk.size;omega) HJy.out HPre.out;dsimp only[encD]at hy;have HRd:=zh hRd;have HWy:=zh hWy;have HKS:=zh zo;have HXD:=zh hxd;clear hWy lk ik rn HS hRd zo hxd
  gi_upto_region 3 with fail
  rw[<- HWy.out]
  gi_wp2_with fail
  refine HRd.out.mono ?_;rintro e W' (⟨rfl,hJ',hk⟩|⟨rfl,hJx'⟩)
  ·obtain⟨g',hKS⟩:∃ g',l'=[]\/(A=some ⟨g',0,none⟩/\g'∉X/\g'<w.heap.size/\KidsAt w X g' 0 l'):=by
    rcases HKS.out with h9|⟨g',h9⟩
    ·exact⟨0,.inl h9⟩
    exact⟨g',.inr h9⟩
   have HKS2:=zh hKS;have hqy:wr.heap.size<Wy.heap.size:=by rw[HWy.out,World.size_alloc];omega
   have t1':W'.cell? ⟨wr.heap.size,1,none⟩=some (.int .i64 (xd:Int)):=(World.cell?_of_block (hk.2.2.2 wr.heap.size hszr hqy)).trans t1;have HOW3:=zh (own_at xf.out ((hk.2.2.2 g (by have:=(xf.out.lt g rfl).1;omega) (by omega)).trans (HBy.out.block g km)));have HC':Hid (∀ p:Addr,p.block<w.heap.size->p.block∉X->W'.cell? p=w.cell? p):=zh (fun p h1 h2=>(hk.2.1 p ⟨h1,h2⟩).trans (((HBy.out.cell (p:=p) (by omega))).trans (s9.out p h1 h2)));have ag:Hid (wr.heap.size<W'.heap.size):=zh (by have:=hk.1;omega);have HJ2:=zh hJ';have hlb:l'.length<=1000000:=by
    have h1:=HXD.out;have h2:=vV l';have h3:(Tree.mk h l').size=bB l'+1:=rfl;omega
   have hgq:g≠wr.heap.size:=by omega
   have HIN:Hid (WIn w W X J (pre++[SE.mk xg xo xd ⟨h,l'⟩]) wr.heap.size xd st0 g cap W'):=zh ⟨HOW3.out,HJ2.out,t1',hgq,ag.out,yv hszr (Nat.le_of_lt ag.out),HC'.out⟩;have hxdb:xd<=1000001:=by have:=HXD.out;omega
   clear hk hJ' hKS HKS HRd HY HJy HBy HWy s9 xf c0 c1 t0 t1 c21 hy
   gi_wp2_with fail
   refine wpIn_wide.2 ?_;clear HOW3 HC' ag HJ2 t1';generalize hq:wr.heap.size=q at *
   go_loopw [3,6] (fun v i wr2=>∃ (L:List SE) (g2 cap2 m:Nat) (z:Int),v=.slice (some ⟨g2,0,none⟩) L.length cap2/\i=.int .i64 z/\m<=l'.length/\Hid (z=(m:Int)-1/\L=st0++(jD g' (xd+1) 0 l').reverse.take (l'.length-m))/\Hid (WIn w W X J (pre++[SE.mk xg xo xd ⟨h,l'⟩]) q xd L g2 cap2 wr2)) (fun _ i _=>(intOf i+1).toNat)
   case atStart=>exact⟨st0,g,cap,l'.length,_,rfl,rfl,zr,zh ⟨rfl,by simp⟩,HIN⟩
   case round=>
    obtain⟨L,g2,cap2,m,z,rfl,rfl,hm,hz,HW⟩:=hrel;cases m with
    |zero=>
     obtain rfl:z=-1:=by have:=hz.out.1;omega
     go_wp2_with fail
     obtain⟨E,hE⟩:∃ E,E=(jD g' (xd+1) 0 l').reverse:=⟨_,rfl⟩
     have hL:L=st0++E:=by
      rw[hz.out.2,hE,Nat.sub_zero,List.take_of_length_le (by rw[List.length_reverse,mO];exact zr)]
     have hrm:jR L=gF l' (xd+1)++jR st0:=by rw[hL,hE,uAZ,uIO]
     have HRm:=zh hrm;have HLE:=zh hL;have HEE:=zh hE;clear hL hrm hE
     go_roundg (jR L).length
     case measure=>rw[HRm.out,HK.out,wK];simp[Tree.depths]
     case rel=>exact⟨pre++[SE.mk xg xo xd ⟨h,l'⟩],L,g2,cap2,rfl,rfl,zh ⟨HW.out.own,by rw[HRm.out];exact HKEY.out,fun y hy=>by
      rw[HLE.out,List.mem_append]at hy;rcases hy with hy|hy
      ·exact HOk.out y hy
      rw[HEE.out,List.mem_reverse]at hy;rcases HKS2.out with h9|⟨_,h7,h8,h9⟩
      ·subst h9;cases hy
      exact zN h8 h7 l' 0 h9 (by have h1:=HXD.out;have h2:(Tree.mk h l').size=bB l'+1:=rfl;omega) y hy,HW.out.j,HW.out.size,HW.out.cell⟩⟩
    |succ k=>
     obtain rfl:z=(k:Int):=by have:=hz.out.1;omega
     rcases HKS2.out with h9|⟨rfl,hgX',hgl',hka⟩
     ·subst h9;simp at hm
     have hkl:k<l'.length:=by omega
     have ja:(k:Int)<(l'.length:Int):=by omega
     have hk00:(0:Int)<=(k:Int):=Int.natCast_nonneg _;have htop:=HW.out.top;have HLen:Hid (L.length<=2000000):=zh (by
      rw[hz.out.2,yl,zc,List.length_reverse,mO];omega)
     have H63:Hid (L.length+1<=maxLen):=zh (by have:=HLen.out;unfold maxLen;omega);have H47:Hid ((L.length+1)*16<=140737488355328):=zh (by have:=HLen.out;omega);have HA:=zh (HW.out.next HJ.out (((Below.refl _ wr).alloc zr (.cells #[.pointer (some ⟨g',k*22,none⟩),.int .i64 ((xd:Int)+1)] 101)).drew) bg);have HPu:=zh (kid_push (g:=g') (d:=xd+1) hkl);have HZ:=zh hz.out.2;have HSW:=zh HW.out.size;have hqs:=HW.out.qs;have hwx:IntKind.i64.wrap ((xd:Int)+1)=(xd:Int)+1:=IntWalk.i64_in _ (by omega);clear hz HKS2
     go_wp2_with fail
     go_region_law (refine step_append_lies _ (by rfl) _ _ _ (by rfl) W.heap.size 101 i0 _ 2 16 Tryz.underlying102 hi ki js j7 rfl (by decide) (.slice (some ⟨g2,0,none⟩) L.length cap2) L.length (stC L) (by rfl) HA.out.own ⟨wr.heap.size,0,none⟩ 1 1 [.pointer (some ⟨g',k*22,none⟩),.int .i64 ((xd:Int)+1)] (by rfl) (by rfl) (World.news_of_block (cs:=#[.pointer (some ⟨g',k*22,none⟩),.int .i64 ((xd:Int)+1)]) (t:=101) (fr:=(0,0)) (heap_alloc_new wr _)) (fun x hx=>by simp at hx;rcases hx with rfl|rfl <;> rfl) (by decide) H63.out H47.out (yv HSW.out (by simp)) (wr.heap.size+1) (by simp) ?_;intro gg cap3 w1 ep cu ec zw;have dy:=zh (HA.out.push HJ.out bg (x:=⟨g',k*22,xd+1,l'[k]⟩) ep cu (by simpa [Value.ownBlock] using ec));clear ep cu ec zw)
     go_wp2_with fail
     go_roundw
     case rel=>exact⟨L++[⟨g',k*22,xd+1,l'[k]⟩],gg,cap3,k,_,by rw[yl,List.length_singleton],rfl,by omega,zh ⟨rfl,by rw[HPu.out,<- List.append_assoc,<- HZ.out]⟩,dy⟩
     case measure=>first |(simp[intOf];done) |(simp[intOf];omega)
  gi_wp2_with fail
  refine yt (results_none rfl _ _ _) rfl ?_;exact⟨⟨_,rfl⟩,.inr ⟨pre++[SE.mk xg xo xd ⟨h,l'⟩],HPre.out,hJx'⟩⟩
end Go.Proofs.YtmgjidnalpgegaaGreatDoor
namespace Go.Proofs.YtmgjidnalpgegaaGreatDoor
open Go.RowKit Go.Shelf
attribute [local go_sem] Oper.semAt_some
set_option maxRecDepth 100000 in
theorem walk_any(g o:Nat)(w:World) :
  Calls Tryz.prog 37 #[.pointer (some ⟨g,o,none⟩)] w fun e w'=>e=.returned (.func (.func 50) #[] #[.pointer (some ⟨w.heap.size,0,none⟩)])/\w'=w.alloc (.cells #[.pointer (some ⟨g,o,none⟩)] 94):=by
 go_enter Tryz.func37,Tryz.ntmps37
 go_wp2_with fail
 go_ret
 exact⟨rfl,rfl⟩
structure CkI(w:World)(q:Nat)(cs:Array Value)(pre:List SE)(X:World):Prop where
 box:Lies X q 41 cs
 res:Lies X (q+1) 42 #[.int .i64 0]
 sz:Lies X (q+2) 3 #[.int .i64 (pre.length:Int)]
 dp:Lies X (q+3) 3 #[.int .i64 (((pre.map SE.d).foldl max 0:Nat):Int)]
 few:pre.length<=256
 bel:Below q w X
structure CkX(w:World)(q:Nat)(c:Code)(pre:List SE)(X:World):Prop where
 ret:c=.ret
 res:Lies X (q+1) 42 #[.int .i64 5]
 many:256<pre.length
 bel:Below q w X
theorem nC{b c:Nat}{w X Y:World}{row:Option Nat}(h:Below b w X)(hg:X.grownBy Y row)(hr:∀ r,row=some r->c<=r)(mw:b<=c)(hbX:b<=X.heap.size):Below b w Y :=
 ⟨hg.os.trans h.os,hg.tape.trans h.tape,hg.output.trans h.output,yv h.size hg.size,fun j hj=>(hg.block j (by omega) (fun e=>by have:=hr j e.symm;omega)).trans (h.block j hj)⟩
theorem CkI.own{w:World}{q b:Nat}{cs:Array Value}(hb:q+4<=b):OwnAll b (CkI w q cs):=fun s A B row h hg hr=>by
 have ne:∀ k,k<b->some k≠row:=fun k hk e=>by have:=hr k e.symm;omega
 exact⟨h.box.grown hg (ne _ (by omega)),h.res.grown hg (ne _ (by omega)),h.sz.grown hg (ne _ (by omega)),h.dp.grown hg (ne _ (by omega)),h.few,nC h.bel hg hr (by omega) (Nat.le_of_lt h.box.lt)⟩
theorem CkX.own{w:World}{q b:Nat}(hb:q+4<=b):∀ c,OwnAll b (CkX w q c):=fun c s A B row h hg hr=>by
 have ne:∀ k,k<b->some k≠row:=fun k hk e=>by have:=hr k e.symm;omega
 exact⟨h.ret,h.res.grown hg (ne _ (by omega)),h.many,nC h.bel hg hr (by omega) (by have:=h.res.lt;omega)⟩
theorem lE{n₀:Addr->Prop}{b c o:Nat}{W:World}(hb:∀ p,n₀ p->p.block≠b)(hc:b<c)(v:Value):KeepsQ n₀ c W (W.setCell ⟨b,o,none⟩ v) :=
 ⟨by simp,fun p hp=>World.cell?_setCell_other _ _ _ _ (fun e=>hb p hp (by rw[<- e])),fun p _=>World.frozen?_setCell _ _ _ _,fun k hk _=>heap_setCell_other W ⟨b,o,none⟩ k v (by show k≠b;omega)⟩
theorem CkI.step{w X:World}{q:Nat}{cs:Array Value}{pre:List SE}(x:SE)(h:CkI w q cs pre X)(hn:pre.length<256):CkI w q cs (pre++[x]) ((X.setCell ⟨q+2,0,none⟩ (.int .i64 ((pre.length:Int)+1))).setCell ⟨q+3,0,none⟩ (.int .i64 ((max ((pre.map SE.d).foldl max 0) x.d:Nat):Int))):=by
 refine⟨aK (aK h.box (by omega) _ _) (by omega) _ _,aK (aK h.res (by omega) _ _) (by omega) _ _,?_,?_,by simp;omega,(h.bel.setCell (by show q<=q+2;omega) _).setCell (by show q<=q+3;omega) _⟩
 ·have:=aK (b:=q+3) (h.sz.put 0 (.int .i64 ((pre.length:Int)+1))) (by omega) 0 (.int .i64 ((max ((pre.map SE.d).foldl max 0) x.d:Nat):Int));rw[yl,List.length_singleton];exact this
 have:=(aK (b:=q+2) h.dp (by omega) 0 (.int .i64 ((pre.length:Int)+1))).put 0 (.int .i64 ((max ((pre.map SE.d).foldl max 0) x.d:Nat):Int));rw[List.map_append,List.foldl_append];exact this
theorem uCG{w X:World}{q D:Nat}{v:Value}(hb:Below q w X)(hr:Lies X (q+1) 42 #[v])(hD:q+2<=D):(X.putObj D (.deferred none)).cell? ⟨q+1,0,none⟩=some v/\Below q w (X.putObj D (.deferred none)):=by
 have hg:=grownBy_putObj' X D (.deferred none);refine⟨?_,⟨hg.os.trans hb.os,hg.tape.trans hb.tape,hg.output.trans hb.output,yv hb.size hg.size,fun j hj=>(World.putObj_heap_other (by omega)).trans (hb.block j hj)⟩⟩;have:Lies (X.putObj D (.deferred none)) (q+1) 42 #[v]:=(World.putObj_heap_other (by omega)).trans hr;exact this.cell 0
theorem uCL{t:Tree}{l:List Nat}(h:l <+: t.depths 1):l.length<=t.size:=by
 have:=h.length_le
 rwa [iX]at this
set_option maxRecDepth 100000 in
theorem rY(t:Tree)(cs:Array Value)(w:World)(ht:TreeIn w t cs)(bg:t.size<=1000000)(hf:t.fine) :
  Calls Tryz.prog 27 #[.agg cs] w fun e w'=>e=.returned (.int .i64 (dE t:Nat))/\Below w.heap.size w w':=by
 rw[<- callsIn_wide (n:=5)];obtain⟨A,cp,rfl,hk⟩:=ht;have CW:=zh (fun g o X=>(callsIn_wide (n:=4)).2 (walk_any g o X));have HK:=zh hk;have HF:=zh hf;have HS:=zh bg;clear hk hf bg;obtain⟨ek,hek⟩:∃ x,dE t=x:=⟨_,rfl⟩
 rw[hek];have HE:=zh hek;clear hek;obtain⟨W1,bt⟩:∃ W1,W1=(((w.alloc (.cells (aY t.h A t.l.length cp) 41)).alloc (.cells #[.int .i64 0] 42)).alloc (.cells #[.int .i64 0] 3)).alloc (.cells #[.int .i64 0] 3):=⟨_,rfl⟩
 have HI:Hid (CkI w w.heap.size (aY t.h A t.l.length cp) [] W1):=zh (by
  rw[bt];have e1:=Lies.new w 41 (aY t.h A t.l.length cp);have e2:=Lies.new (w.alloc (.cells (aY t.h A t.l.length cp) 41)) 42 #[.int .i64 0];have e3:=Lies.new ((w.alloc (.cells (aY t.h A t.l.length cp) 41)).alloc (.cells #[.int .i64 0] 42)) 3 #[.int .i64 0];have e4:=Lies.new (((w.alloc (.cells (aY t.h A t.l.length cp) 41)).alloc (.cells #[.int .i64 0] 42)).alloc (.cells #[.int .i64 0] 3)) 3 #[.int .i64 0];simp only[World.size_alloc]at e2 e3 e4;exact⟨((e1.alloc _).alloc _).alloc _,(e2.alloc _).alloc _,e3.alloc _,e4,by simp,((((Below.refl _ w).alloc zr _).alloc (by simp) _).alloc (by simp;omega) _).alloc (by simp;omega) _⟩)
 have js:W1.heap.size=w.heap.size+4:=by rw[bt];simp
 have bu:=zh bt;clear bt;refine callsIn_of_wp_marks Tryz.func27 rfl trivial ?_ rfl;simp only[Tryz.ntmps27,yd,yi,List.length_nil,Nat.reduceAdd,Nat.reduceSub,Array.replicate_succ,Array.replicate_zero,List.push_toArray,List.append_toArray,List.nil_append,yp]
 gi_upto_region 2 with fail
 rw[<- bu.out];generalize hq:w.heap.size=q at *;clear bu
 gi_wp2_with fail
 refine⟨trivial,?_⟩;refine(CW.out q 0 W1).mono ?_;rintro e W2 ⟨rfl,jp⟩;rw[js];have j7:W2.heap.size=q+5:=by rw[jp,World.size_alloc,js]
 have hbB:W2.cell? ⟨q+4,0,none⟩=some (.pointer (some ⟨q,0,none⟩)):=by
  have:=Lies.new W1 94 #[.pointer (some ⟨q,0,none⟩)];rw[<- jp,js]at this;exact this.cell 0
 have ay:Below W1.heap.size W1 W2:=by rw[jp];exact(zp _)
 have dg:Hid (CkI w q (aY t.h A t.l.length cp) [] W2):=zh ⟨HI.out.box.next ay,HI.out.res.next ay,HI.out.sz.next ay,HI.out.dp.next ay,by simp,HI.out.bel.trans (ay.mono (by omega))⟩;have HNA:Hid (∀ X:World,Lies X q 41 (aY t.h A t.l.length cp)->Below q w X->NodeAt X [q+1,q+2,q+3] q 0 t):=zh (fun X hl hb=>by
  have hkx:KidsOk X [q+1,q+2,q+3] A t.l:=by
   have h0:KidsOk w [q+1,q+2,q+3] A t.l:=by
    rcases HK.out with h|⟨g2,hA2,_,qv,fm⟩
    ·exact .inl h
    exact .inr ⟨g2,hA2,by simp;omega,qv,KidsAt.anti (fun y hy hlt=>by simp at hy;omega) fm⟩
   exact h0.kp ((Kp.of_below (by rw[hq];exact hb:Below w.heap.size w X)).mono (Y:=[]) (fun k hk _=>by cases hk))
  obtain⟨th,tl⟩:=t;exact⟨A,cp,fun j _=>by rw[Nat.zero_add];exact hl.cell j,hkx⟩)
 have LI:=zh (walk1_in 4 (by decide) [q+1,q+2,q+3] t q 0 (q+4) W2 HS.out hbB (by omega) (by omega) (by simp) (HNA.out W2 dg.out.box dg.out.bel));clear jp hbB ay HI CW;obtain⟨N0,hN0⟩:∃ N0:Addr->Prop,N0=(fun p=>p.block<W2.heap.size/\p.block∉[q+1,q+2,q+3]):=⟨_,rfl⟩
 rw[<- hN0]at LI;have HN0:=zh hN0;have ph:=zh j7;clear hN0 j7
 gi_wp2_with fail
 refine uBU rfl (by decide) (gf:=50) (lb:=#[.pointer (some ⟨q+4,0,none⟩)]) rfl trivial (enters_of Tryz.func50 (by kernel_rfl) rfl) LI.out (fun p h=>by rw[HN0.out]at h;exact h.1) (fun _=>rfl) (CkI w q (aY t.h A t.l.length cp)) (CkX w q) (CkI.own (by rw[ph.out];omega)) (CkX.own (by rw[ph.out];omega)) dg.out
  (fun x=>{ tmps:=#[.agg (aY t.h A t.l.length cp),.pointer (some ⟨q,0,none⟩),.pointer (some ⟨q+1,0,none⟩),.pointer (some ⟨q+2,0,none⟩),.pointer (some ⟨q+3,0,none⟩),undef,.int .i64 (x.d:Int),.func (.func 50) #[] #[.pointer (some ⟨q+4,0,none⟩)],.pointer (some ⟨x.g,x.o,none⟩),.int .i64 (x.d:Int),undef,undef,undef,undef,undef,undef,undef,undef,undef,undef,undef],defers:=[] }) ?assign ?body ?done ?stop
 case assign=>
  intro l' x X K hK;dsimp only[encD]
  gi_wp2
  exact hK
 case body=>
  rintro l' pre x X hX hI hR;have HI:=zh hI;have s2:=hI.sz.cell 0;have f2:=hI.sz.frozen 0;have s3:=hI.dp.cell 0;have f3:=hI.dp.frozen 0;have s1:=hI.res.cell 0;have f1:=hI.res.frozen 0;have hfw:=hI.few;simp only[za,zb]at s1 s2 s3;clear hI HK LI HNA dg;obtain⟨a,ha⟩:∃ a,(pre.map SE.d).foldl max 0=a:=⟨_,rfl⟩
  rw[ha]at s3;obtain⟨n,hn⟩:∃ n,pre.length=n:=⟨_,rfl⟩
  rw[hn]at s2 hfw;have HA:=zh (And.intro ha hn);clear ha hn;rcases Nat.lt_or_ge n 256 with hlt|hge
  ·have hnb:¬ (256:Int)<(n:Int)+1:=by omega
   have cr:=zh (HI.out.step x (by have:=HA.out.2;omega));have bn:Hid (∀ v1 v2:Value,KeepsQ N0 W2.heap.size X ((X.setCell ⟨q+2,0,none⟩ v1).setCell ⟨q+3,0,none⟩ v2)):=zh (fun v1 v2=>(lE (fun p hp e=>by rw[HN0.out]at hp;exact hp.2 (by rw[e];simp)) (by rw[ph.out];omega) v1).trans (lE (fun p hp e=>by rw[HN0.out]at hp;exact hp.2 (by rw[e];simp)) (by rw[ph.out];omega) v2));rw[HA.out.1,HA.out.2]at cr;obtain⟨d,hd⟩:∃ d,x.d=d:=⟨_,rfl⟩
   rw[hd]at cr ⊢;rcases Nat.le_total a d with hm|hm
   ·rw[Nat.max_eq_right hm]at cr;have hmi:max (a:Int) (d:Int)=(d:Int):=by omega
    gi_wp2_with fail
    exact⟨bn.out _ _,cr.out⟩
   rw[Nat.max_eq_left hm]at cr;have hmi:max (a:Int) (d:Int)=(a:Int):=by omega
   gi_wp2_with fail
   exact⟨bn.out _ _,cr.out⟩
  obtain rfl:n=256:=by omega
  have bn:Hid (∀ v1 v2:Value,KeepsQ N0 W2.heap.size X ((X.setCell ⟨q+2,0,none⟩ v1).setCell ⟨q+1,0,none⟩ v2)):=zh (fun v1 v2=>(lE (fun p hp e=>by rw[HN0.out]at hp;exact hp.2 (by rw[e];simp)) (by rw[ph.out];omega) v1).trans (lE (fun p hp e=>by rw[HN0.out]at hp;exact hp.2 (by rw[e];simp)) (by rw[ph.out];omega) v2));have hx:Hid (CkX w q .ret (pre++[x]) ((X.setCell ⟨q+2,0,none⟩ (.int .i64 257)).setCell ⟨q+1,0,none⟩ (.int .i64 5))):=zh ⟨rfl,(aK HI.out.res (b:=q+2) (by omega) _ _).put 0 _,by rw[yl,HA.out.2];simp,(HI.out.bel.setCell (by show q<=q+2;omega) _).setCell (by show q<=q+1;omega) _⟩
  gi_wp2_with fail
  exact⟨bn.out _ _,hx.out⟩
 case done=>
  rintro D xs X hD hS hI hK;have hDq:q+5<=D:=by rw[ph.out]at hD;exact hD
  clear hD;have hlen:xs.length=t.size:=by rw[<- List.length_map (f:=SE.d),hS,iX]
  have hfew:=hI.few;have hmx:(xs.map SE.d).foldl max 0=t.depth:=by
   have:=vH t;rw[hS,sD];omega
  have hnode:=zh (NodeAt.anti (Y:=[]) (fun y hy _=>by cases hy) (HNA.out X hI.box hI.bel));have s3:=hI.dp.cell 0;have s1:=hI.res.cell 0;have f1:=hI.res.frozen 0;rw[hmx]at s3;simp only[za,zb]at s1 s3;rw[show q+3=q+1+1+1 by omega]at s3;have HI:=zh hI;have xi:=zh hK;have HP:Hid (ek=if 32<t.depth then 8 else if t.right 6 then 0 else 6):=zh (by rw[<- HE.out];unfold dE;rw[if_neg (by omega)]);have hqX:q<X.heap.size:=hI.box.lt;clear hS hI hK LI HNA dg HK hmx HE;by_cases hd:32<t.depth
  ·rw[if_pos hd]at HP;have hdi:(32:Int)<(t.depth:Int):=by omega
   have hKX:Hid ((X.setCell ⟨q+1,0,none⟩ (.int .i64 8)).heap[D]?=some (.deferred (some []))):=zh ((heap_setCell_other X ⟨q+1,0,none⟩ D _ (by show D≠q+1;omega)).trans xi.out);have hE:=zh (uCG (D:=D) (HI.out.bel.setCell (p:=⟨q+1,0,none⟩) (by show q<=q+1;omega) (.int .i64 8)) (HI.out.res.put 0 (.int .i64 8)) (by omega))
   gi_wp2_with fail
   refine⟨by simp,.inl ⟨_,_,rfl,run_takeDeferred hKX.out,?_⟩⟩;have hc:=hE.out.1;refine⟨.int .i64 8,by simp[results,Tryz.results27,go_sem,hc],by rw[HP.out];rfl,by first|exact hE.out.2 |(rw[hq];exact hE.out.2)⟩
  rw[if_neg hd]at HP;have hdi:¬ (32:Int)<(t.depth:Int):=by omega
  have CR:=zh ((callsIn_wide (n:=4)).2 (uFD t.size t 6 q 0 X zr HS.out HF.out hqX hnode.out));obtain⟨b,hb⟩:∃ b,t.right 6=b:=⟨_,rfl⟩
  rw[hb]at CR HP;clear hb hnode
  gi_wp2_with fail
  refine⟨trivial,?_⟩;refine CR.out.mono ?_;rintro e w3 ⟨rfl,b9⟩;have ez:Hid (Below q w w3/\Lies w3 (q+1) 42 #[.int .i64 0]/\w3.heap[D]?=some (.deferred (some []))):=zh ⟨HI.out.bel.trans (b9.mono (by omega)),HI.out.res.next b9,(b9.block D (zk.1 xi.out).1).trans xi.out⟩;have r1:=ez.out.2.1.cell 0;have rf1:=ez.out.2.1.frozen 0;simp only[za,zb]at r1;clear s1 s3 f1 b9 CR HI xi;have hKX:Hid (∀ v:Value,(w3.setCell ⟨q+1,0,none⟩ v).heap[D]?=some (.deferred (some []))):=zh (fun v=>(heap_setCell_other w3 ⟨q+1,0,none⟩ D _ (by show D≠q+1;omega)).trans ez.out.2.2);have hE:=zh (fun v:Value=>uCG (D:=D) (ez.out.1.setCell (p:=⟨q+1,0,none⟩) (by show q<=q+1;omega) v) (ez.out.2.1.put 0 v) (by omega));cases b
  ·gi_wp2_with fail
   refine⟨by simp,.inl ⟨_,_,rfl,run_takeDeferred (hKX.out _),?_⟩⟩;have hc:=(hE.out (.int .i64 6)).1;refine⟨.int .i64 6,by simp[results,Tryz.results27,go_sem,hc],by rw[HP.out];rfl,by first|exact(hE.out _).2 |(rw[hq];exact(hE.out _).2)⟩
  gi_wp2_with fail
  refine⟨by simp,.inl ⟨_,_,rfl,run_takeDeferred (hKX.out _),?_⟩⟩;have hc:=(hE.out (.int .i64 0)).1;refine⟨.int .i64 0,by simp[results,Tryz.results27,go_sem,hc],by rw[HP.out];rfl,by first|exact(hE.out _).2 |(rw[hq];exact(hE.out _).2)⟩
 case stop=>
  rintro D c pre X hD hSp hI hK;have hDq:q+5<=D:=by rw[ph.out]at hD;exact hD
  have hlen:=uCL hSp;rw[List.length_map]at hlen;have hmany:=hI.many;obtain rfl:=hI.ret;have HP:Hid (ek=5):=zh (by rw[<- HE.out];unfold dE;rw[if_pos (by omega)]);have hE:=zh (uCG (D:=D) hI.bel hI.res (by omega));have xi:=zh hK;clear LI HNA dg HK HE hI hK hSp hD
  gi_wp2_with fail
  refine⟨by simp,.inl ⟨_,_,rfl,run_takeDeferred xi.out,?_⟩⟩;have hc:=hE.out.1;refine⟨.int .i64 5,by simp[results,Tryz.results27,go_sem,hc],by rw[HP.out];rfl,by first|exact hE.out.2 |(rw[hq];exact hE.out.2)⟩
structure lO(ax:Ax):Prop where
 rows:∀ x∈ax.rows,x≠id0
 cols:∀ x∈ax.cols,x≠id0
section
variable {ρ:Tok->Tok->Prop} {G B:Prop} {d N:Nat} {ax:Ax}
theorem qY{k:Int}(hk:k=1\/k=3){a:Cor}(h1:a.row≠id0)(h2:a.col≠id0):(iP k a aG).right 6=true:=by
 have e:bE ⟨k,aD,[],a,aG,0⟩ 0 [] 6=true:=by
  unfold bE;rcases hk with rfl|rfl <;> simp[h1,h2,fC]
 show (bE ⟨k,aD,[],a,aG,0⟩ 0 [] 6&&bK [] k)=true;rw[e];rfl
theorem qZ{a b:Cor}(h:cY a b=true):(iP 2 a b).right 6=true:=by
 have e:bE ⟨2,aD,[],a,b,0⟩ 0 [] 6=true:=by
  unfold bE;simp[h,fC]
 show (bE ⟨2,aD,[],a,b,0⟩ 0 [] 6&&bK [] 2)=true;rw[e];rfl
theorem yO{ts bf:List Tok}(h:EndR ρ ts bf):fS ax ts=fS ax bf:=by
 unfold fS;rw[<- h.hd.kind,iH h.hd.fold]
theorem wD{ts:List Tok}{e:Nat}(h:fS ax ts=.error e):Er B e:=by
 unfold fS at h
 split at h
 ·injection h with h;rw[<- h];exact er6 B
 split at h
 ·injection h with h;rw[<- h];exact er6 B
 split at h
 ·injection h with h;rw[<- h];exact er18 B
 split at h
 ·injection h with h;rw[<- h];exact er18 B
 cases h
theorem tR(ha:lO ax){ts:List Tok}{a:Cor}(h:fS ax ts=.ok a):(hd ts).kind≠0/\a.row≠id0/\a.col≠id0:=by
 unfold fS at h
 split at h
 ·cases h
 rename_i h4
 have h4':(hd ts).kind=4:=Decidable.not_not.1 h4
 split at h
 ·cases h
 split at h
 ·cases h
 rename_i r hr
 split at h
 ·cases h
 rename_i k hk
 injection h with h;subst h;exact⟨by omega,ha.rows r (List.mem_of_getElem? hr),ha.cols k (List.mem_of_getElem? hk)⟩
theorem uHA(ha:lO ax):PR ρ G B d N (kD ax) (kD ax):=by
 intro ts bf c h hN;unfold kD;rw[<- yO h];cases hc:fS ax ts with
 |error e=>exact gU h (wD hc)
 |ok a=>
  dsimp only;obtain⟨f1,f2,f3⟩:=tR ha hc;have ht:=h.tail f1;have rj:cQ ts.tail<=N:=yv (bO ts) hN;rw[<- ht.hd.isS [35],<- ht.hd.isS [58]];by_cases zy:isS (hd ts.tail) [35]=true
  ·rw[if_pos zy,if_pos zy];exact .inl ⟨_,_,_,_,rfl,by rw[show c+d+1=c+1+d by omega],ht.tail (gH zy),yv (bO _) rj,fun _=>⟨rfl,qY (.inr rfl) f2 f3⟩⟩
  rw[if_neg zy,if_neg zy];by_cases xj:isS (hd ts.tail) [58]=true
  ·rw[if_pos xj,if_pos xj];have ov:=ht.tail (gH xj);have hN2:cQ ts.tail.tail<=N:=yv (bO _) rj;rw[<- yO ov];cases hb:fS ax ts.tail.tail with
   |error e=>exact gU ov (wD hb)
   |ok b=>
    obtain⟨g1,g2,g3⟩:=tR ha hb;refine .inl ⟨_,_,_,_,rfl,by rw[show c+d+1=c+1+d by omega],ov.tail g1,yv (bO _) hN2,fun _=>⟨rfl,qZ ?_⟩⟩;unfold cY;simp[f2,f3,g2,g3]
  rw[if_neg xj,if_neg xj];exact .inl ⟨_,_,_,_,rfl,by rw[show c+d+1=c+1+d by omega],ht,rj,fun _=>⟨rfl,qY (.inl rfl) f2 f3⟩⟩
theorem zU{ts bf:List Tok}{row col:Bool}(h:EndR ρ ts bf):eK ax row col ts=eK ax row col bf:=by
 have e1:=tU h.hd.fold;have e2:=yA h.hd.fold;have e4:aO (65::Lib.trimPrefix (hd ts).text [36])=aO (65::Lib.trimPrefix (hd bf).text [36]):=by
  show up 65::aO _=up 65::aO _;rw[e2]
 unfold eK;dsimp only;rw[<- h.hd.kind,e1,lU e2,oN e2,iH e4]
theorem wF{ts:List Tok}{row col:Bool}{e:Nat}(h:eK ax row col ts=.error e):Er B e:=by
 unfold eK at h;dsimp only at h
 split at h
 ·injection h with h;rw[<- h];exact er6 B
 split at h
 ·split at h
  ·injection h with h;rw[<- h];exact er18 B
  cases h
 split at h
 ·split at h
  ·injection h with h;rw[<- h];exact er18 B
  cases h
 injection h with h;rw[<- h];exact er6 B
theorem tS(ha:lO ax){ts:List Tok}{row col:Bool}{a:Cor}(h:eK ax row col ts=.ok a):(hd ts).kind≠0/\((col=true/\a.row=id0/\a.col≠id0/\a.fr=false)\/(row=true/\a.row≠id0/\a.col=id0/\a.fc=false)):=by
 unfold eK at h;dsimp only at h
 split at h
 ·cases h
 rename_i hk
 have mg:(hd ts).kind≠0:=fun h0=>hk (by rw[h0];decide)
 refine⟨mg,?_⟩
 split at h
 ·rename_i p hp
  split at h
  ·cases h
  rename_i k fm
  injection h with h;subst h;refine .inl ⟨?_,rfl,ha.cols k (List.mem_of_getElem? fm),rfl⟩;cases col
  ·simp at hp
  rfl
 split at h
 ·rename_i q hq
  split at h
  ·cases h
  rename_i r hr
  injection h with h;subst h;refine .inr ⟨?_,ha.rows r (List.mem_of_getElem? hr),rfl,rfl⟩;cases row
  ·simp at hq
  rfl
 cases h
theorem pS(ha:lO ax):PR ρ G B d N (gK ax) (gK ax):=by
 intro ts bf c h hN;unfold gK;rw[<- zU h];cases hc:eK ax true true ts with
 |error e=>exact gU h (wF hc)
 |ok a=>
  dsimp only;obtain⟨f1,f2⟩:=tS ha hc;have ht:=h.tail f1;have rj:cQ ts.tail<=N:=yv (bO ts) hN;rw[<- ht.hd.isS [58]];by_cases xj:isS (hd ts.tail) [58]=true
  ·rw[if_pos xj,if_pos xj];have ov:=ht.tail (gH xj);have hN2:cQ ts.tail.tail<=N:=yv (bO _) rj;rw[<- zU ov];cases hb:eK ax (decide (a.row≠id0)) (decide (a.col≠id0)) ts.tail.tail with
   |error e=>exact gU ov (wF hb)
   |ok b=>
    obtain⟨g1,g2⟩:=tS ha hb;refine .inl ⟨_,_,_,_,rfl,by rw[show c+d+1=c+1+d by omega],ov.tail g1,yv (bO _) hN2,fun _=>⟨rfl,qZ ?_⟩⟩;unfold cY;rcases f2 with⟨_,f3,f4,f5⟩|⟨_,f3,f4,f5⟩ <;> rcases g2 with⟨g3,g4,g5,g6⟩|⟨g3,g4,g5,g6⟩
    ·simp[f3,f4,f5,g4,g5,g6]
    ·simp[f3]at g3
    ·simp[f4]at g3
    simp[f3,f4,f5,g4,g5,g6]
  rw[if_neg xj,if_neg xj];exact gU ht (er6 B)
def ElR(ρ:Tok->Tok->Prop)(B:Prop)(d N c:Nat)(o o':Out):Prop :=
 (∃ v ts bf,o=.ok (iK v) ts (c+1)/\o'=.ok (iK v) bf (c+1+d)/\EndR ρ ts bf/\cQ ts<=N/\v.kind≠0/\bV v=true) \/
 (∃ e x y,o=.bad e x.place/\o'=.bad e y.place/\ρ x y/\Er B e)
theorem yX{ts bf:List Tok}{c:Nat}(h:EndR ρ ts bf)(hN:cQ ts<=N):ElR ρ B d N c (eJ ts c) (eJ bf (c+d)):=by
 have fine:∀ {v:Val},cA v false=true->v.kind≠0/\bV v=true:=fun hv=>by
  unfold cA at hv;simp at hv;exact⟨hv.1.1,hv.1.2⟩
 unfold eJ;rw[<- h.hd.isS [45]];by_cases kg:isS (hd ts) [45]=true
 ·rw[if_pos kg,if_pos kg];have ht:=h.tail (gH kg);have rj:cQ ts.tail<=N:=yv (bO ts) hN;rw[<- ht.hd.kind,<- sZ ht.hd];by_cases h1:(hd ts.tail).kind≠1
  ·rw[if_pos h1,if_pos h1];exact .inr ⟨6,_,_,rfl,rfl,ht.hd.rel,er6 B⟩
  rw[if_neg h1,if_neg h1];cases hl:fJ (hd ts.tail) with
  |error e=>exact .inr ⟨e,_,_,rfl,rfl,ht.hd.rel,sY hl⟩
  |ok v=>
   obtain⟨g1,g2,g3⟩:=pU ht.hd.num hl;obtain⟨g4,g5⟩:=g3 (Decidable.not_not.1 h1);refine .inl ⟨_,_,_,rfl,by rw[show c+d+1=c+1+d by omega],ht.tail g1,yv (bO _) rj,?_,g5⟩;show v.kind≠0;omega
 rw[if_neg kg,if_neg kg];unfold cX;rw[<- sZ h.hd];cases hl:fJ (hd ts) with
 |error e=>exact .inr ⟨e,_,_,rfl,rfl,h.hd.rel,sY hl⟩
 |ok v=>
  obtain⟨h1,h2,_⟩:=pU h.hd.num hl;exact .inl ⟨_,_,_,rfl,by rw[show c+d+1=c+1+d by omega],h.tail h1,yv (bO ts) hN,(fine h2).1,(fine h2).2⟩
structure MatI(rows cols wide:Nat)(l:List Tree):Prop where
 lits:∀ t∈l,∃ v,t=iK v/\v.kind≠0/\bV v=true
 wide1:1<=wide
 len0:rows=0->l.length=wide-1
 len1:rows≠0->l.length=rows*cols+(wide-1)
theorem qW:∀ {l:List Tree},(∀ t∈l,∃ v,t=iK v/\v.kind≠0/\bV v=true)->bK l 8=true/\bB l=l.length
 | [],_=>⟨rfl,rfl⟩
 |t::l,h=>by
  obtain⟨v,rfl,h1,h2⟩:=h t (by simp);obtain⟨g1,g2⟩:=qW (l:=l) (fun x hx=>h x (by simp[hx]));refine⟨?_,?_⟩
  ·rw[bK,uEK h1 h2,g1];rfl
  rw[bB,g2,size_lit,yi,Nat.add_comm]
theorem mat_rel:∀ (f:Nat) (rows cols wide:Nat) (l:List Tree) (ts bf:List Tok) (c0 c:Nat),EndR ρ ts bf->cQ ts<=N->(G->MatI rows cols wide l/\c=c0+l.length) ->
  OutR ρ G B d N c0 (eP f rows cols wide l ts c) (eP f rows cols wide l bf (c+d)):=by
 intro f
 induction f with
 |zero=>intro rows cols wide l ts bf c0 c h hN _;exact gU h (er6 B)
 |succ f ih=>
  intro rows cols wide l ts bf c0 c h hN hI;unfold eP;rcases yX (B:=B) (d:=d) (c:=c) h hN with⟨v,av,jd,h1,h2,h3,h4,h5,h6⟩|⟨e,x,y,h1,h2,h3,h4⟩
  ·rw[h1,h2];dsimp only;rw[<- h3.hd.isS [44],<- h3.hd.isS [59],<- h3.hd.isS [125]];have xr:G->∀ t∈l++[iK v],∃ v,t=iK v/\v.kind≠0/\bV v=true:=fun hg t ht=>by
    rcases List.mem_append.1 ht with ht|ht
    ·exact(hI hg).1.lits t ht
    exact⟨v,by simpa using ht,h5,h6⟩
   have hlen:(l++[iK v]).length=l.length+1:=by simp
   have rj:cQ av.tail<=N:=yv (bO _) h4;by_cases b1:(isS (hd av) [44]&&(decide (rows=0)||decide (wide<cols)))=true
   ·rw[if_pos b1,if_pos b1,show c+1+d=(c+1)+d by omega];have hs:isS (hd av) [44]=true:=by simp only[yh]at b1;exact b1.1
    refine ih rows cols (wide+1) _ _ _ c0 (c+1) (h3.tail (gH hs)) rj (fun hg=>⟨⟨xr hg,by omega,fun h0=>?_,fun h0=>?_⟩,by have:=(hI hg).2;omega⟩)
    ·have:=(hI hg).1.len0 h0;have:=(hI hg).1.wide1;omega
    have:=(hI hg).1.len1 h0;have:=(hI hg).1.wide1;omega
   rw[if_neg b1,if_neg b1];by_cases b2:(isS (hd av) [59]&&(decide (rows=0)||decide (wide=cols)))=true
   ·rw[if_pos b2,if_pos b2,show c+1+d=(c+1)+d by omega];have hs:isS (hd av) [59]=true:=by simp only[yh]at b2;exact b2.1
    have hb:rows=0\/wide=cols:=by simp only[yh,Bool.or_eq_true,decide_eq_true_eq]at b2;exact b2.2
    refine ih (rows+1) wide 1 _ _ _ c0 (c+1) (h3.tail (gH hs)) rj (fun hg=>⟨⟨xr hg,zr,fun h0=>by omega,fun _=>?_⟩,by have:=(hI hg).2;omega⟩);have hw:=(hI hg).1.wide1;by_cases r0:rows=0
    ·have:=(hI hg).1.len0 r0;subst r0;rw[hlen];omega
    have:=(hI hg).1.len1 r0;obtain rfl:wide=cols:=by rcases hb with h|h;exact absurd h r0;exact h
    rw[hlen,Nat.succ_mul];omega
   rw[if_neg b2,if_neg b2];by_cases b3:(isS (hd av) [125]&&(decide (rows=0)||decide (wide=cols)))=true
   ·rw[if_pos b3,if_pos b3];have hs:isS (hd av) [125]=true:=by simp only[yh]at b3;exact b3.1
    have hb:rows=0\/wide=cols:=by simp only[yh,Bool.or_eq_true,decide_eq_true_eq]at b3;exact b3.2
    refine .inl ⟨_,_,_,_,rfl,by rw[show c+1+d+1=c+1+1+d by omega],h3.tail (gH hs),rj,fun hg=>?_⟩;obtain⟨g1,g2⟩:=qW (xr hg);have hw:=(hI hg).1.wide1;have hl:(l++[iK v]).length=(rows+1)*wide:=by
     by_cases r0:rows=0
     ·have:=(hI hg).1.len0 r0;subst r0;rw[hlen];omega
     have:=(hI hg).1.len1 r0;obtain rfl:wide=cols:=by rcases hb with h|h;exact absurd h r0;exact h
     rw[hlen,Nat.succ_mul];omega
    refine⟨?_,?_⟩
    ·show c+1+1=c0+(bB (l++[iK v])+1);have:=(hI hg).2;rw[g2,hlen];omega
    have e:bE ⟨8,aD,[],aG,aG,((rows+1:Nat):Int)⟩ (l++[iK v]).length ((l++[iK v]).map fun t=>t.h.kind) 6=true:=by
     have h1:(1:Int)<=((rows+1:Nat):Int):=by omega
     have h2:1<=(l++[iK v]).length:=by rw[hlen];omega
     have h3:(((l++[iK v]).length:Nat):Int).tmod ((rows+1:Nat):Int)=0:=by
      rw[hl,<- Int.ofNat_tmod];simp
     have e8:∀ (R:Int) (n:Nat) (ks:List Int),bE ⟨8,aD,[],aG,aG,R⟩ n ks 6=(decide (1<=R)&&decide (1<=n)&&decide ((n:Int).tmod R=0)&&NodeH.same ⟨8,aD,[],aG,aG,R⟩ ⟨8,aD,[],aG,aG,R⟩):=fun _ _ _=>rfl
     rw[e8,fC,decide_eq_true h1,decide_eq_true h2,decide_eq_true h3];rfl
    show (bE ⟨8,aD,[],aG,aG,((rows+1:Nat):Int)⟩ (l++[iK v]).length ((l++[iK v]).map fun t=>t.h.kind) 6&&bK (l++[iK v]) 8)=true;rw[e,g1];rfl
   rw[if_neg b3,if_neg b3];exact gU h3 (er6 B)
  rw[h1,h2];exact .inr ⟨e,x,y,rfl,rfl,h3,h4⟩
theorem uDQ{ts bf:List Tok}{c:Nat}(h:EndR ρ ts bf)(hN:cQ ts<=N)(hs:isS (hd ts) [123]=true):OutR ρ G B d N c (jW ts c) (jW bf (c+d)):=by
 unfold jW;rw[h.len];exact mat_rel _ 0 0 1 [] _ _ c c (h.tail (gH hs)) (yv (bO ts) hN) (fun _=>⟨⟨fun t ht=>(by cases ht),zr,fun _=>rfl,fun h0=>absurd rfl h0⟩,rfl⟩)
end
end Go.Proofs.YtmgjidnalpgegaaGreatDoor
