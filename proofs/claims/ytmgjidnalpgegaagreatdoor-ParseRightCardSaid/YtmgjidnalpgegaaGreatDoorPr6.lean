/-
  Lemmas, part 6: Par0 Ax1 Ax2.
-/
import Derived.Laws.AppendOwn
import Derived.Laws.EntriesVeiled
import Derived.DeepKeys4
import Derived.WideKeyArgs2
import Derived.MapViews
import Derived.Test.YtmgjidnalpgegaaGreatDoorPr5
set_option maxHeartbeats 100000000
namespace Go.Proofs.YtmgjidnalpgegaaGreatDoor
open Go.RowKit
structure Kp(Y:List Nat)(w w':World):Prop where
 os:w'.os=w.os
 tape:w'.tape=w.tape
 output:w'.output=w.output
 size:w.heap.size<=w'.heap.size
 block:∀ k,k<w.heap.size->k∉Y->w'.heap[k]?=w.heap[k]?
theorem Kp.refl(Y:List Nat)(w:World):Kp Y w w:=⟨rfl,rfl,rfl,zr,fun _ _ _=>rfl⟩
theorem Kp.trans{Y:List Nat}{a b c:World}(h:Kp Y a b)(k:Kp Y b c):Kp Y a c :=
 ⟨k.os.trans h.os,k.tape.trans h.tape,k.output.trans h.output,yv h.size k.size,fun i hi hn=>(k.block i (yu hi h.size) hn).trans (h.block i hi hn)⟩
theorem Kp.mono{Y Z:List Nat}{a b:World}(h:Kp Y a b)(hs:∀ k∈Y,k<a.heap.size->k∈Z):Kp Z a b :=
 ⟨h.os,h.tape,h.output,h.size,fun i hi hn=>h.block i hi (fun hm=>hn (hs i hm hi))⟩
theorem Kp.of_below{Y:List Nat}{a b:World}(h:Below a.heap.size a b):Kp Y a b:=⟨h.os,h.tape,h.output,h.size,fun i hi _=>h.block i hi⟩
theorem Kp.below{Y:List Nat}{a b:World}{B:Nat}(h:Kp Y a b)(hB:∀ k∈Y,B<=k)(hs:B<=a.heap.size):Below B a b :=
 ⟨h.os,h.tape,h.output,h.size,fun i hi=>h.block i (yu hi hs) (fun hm=>absurd (hB i hm) (by omega))⟩
theorem Kp.alloc{Y:List Nat}{a b:World}(h:Kp Y a b)(o:Obj):Kp Y a (b.alloc o):=h.trans (Kp.of_below ((Below.refl _ b).alloc zr o))
theorem Kp.drew{Y:List Nat}{a b:World}(h:Kp Y a b):Kp Y a b.drew:=h.trans (Kp.of_below (Below.refl _ b).drew)
theorem Kp.set{Y:List Nat}{a b:World}(h:Kp Y a b){r:Nat}(hr:r∈Y\/a.heap.size<=r)(i:Nat)(u:Value):Kp Y a (b.setCell ⟨r,i,none⟩ u) :=
 ⟨h.os,h.tape,h.output,by rw[World.size_setCell];exact h.size,fun k hk hn=>(Below.heap_setCell b ⟨r,i,none⟩ u k (fun e=>by
  have e':k=r:=e;rcases hr with hr|hr
  ·exact hn (e' ▸ hr)
  omega)).trans (h.block k hk hn)⟩
theorem Kp.grown{Y:List Nat}{a b c:World}(h:Kp Y a b){row:Option Nat}(hg:b.grownBy c row)(hr:∀ g,row=some g->g∈Y\/a.heap.size<=g):Kp Y a c :=
 ⟨hg.os.trans h.os,hg.tape.trans h.tape,hg.output.trans h.output,yv h.size hg.size,fun k hk hn=>(hg.block k (yu hk h.size) (fun e=>by
  rcases hr k e.symm with h1|h1
  ·exact hn h1
  omega)).trans (h.block k hk hn)⟩
theorem Kp.andThen{Y Z:List Nat}{a b c:World}(h:Kp Y a b)(k:Kp Z b c)(hz:∀ g∈Z,g∈Y\/a.heap.size<=g):Kp Y a c :=
 ⟨k.os.trans h.os,k.tape.trans h.tape,k.output.trans h.output,yv h.size k.size,fun i hi hn=>(k.block i (yu hi h.size) (fun hm=>by
  rcases hz i hm with h1|h1
  ·exact hn h1
  omega)).trans (h.block i hi hn)⟩
theorem Kp.lies{Y:List Nat}{a b:World}(h:Kp Y a b){g:Nat}{t:TypeId}{cs:Array Value}(hl:Lies a g t cs)(hn:g∉Y):Lies b g t cs:=(h.block g hl.lt hn).trans hl
theorem Kp.cell{Y:List Nat}{a b:World}(h:Kp Y a b){g i:Nat}(hg:g<a.heap.size)(hn:g∉Y):b.cell? ⟨g,i,none⟩=a.cell? ⟨g,i,none⟩:=World.cell?_of_block (w:=a) (a:=⟨g,i,none⟩) (h.block g hg hn)
structure Only(m:Nat)(w w':World):Prop where
 os:w'.os=w.os
 tape:w'.tape=w.tape
 output:w'.output=w.output
 size:w'.heap.size=w.heap.size
 block:∀ k,k≠m->w'.heap[k]?=w.heap[k]?
theorem Only.kp{m:Nat}{w w':World}(h:Only m w w'):Kp [m] w w':=⟨h.os,h.tape,h.output,by rw[h.size];exact zr,fun k _ hn=>h.block k (fun e=>hn (by rw[e];exact .head _))⟩
def gD(ops:Array Oper):Bool:=(List.range ops.size).all fun i=>((ops[i]?).map fun o=>o.after.all fun e=>!Region.binds .any e||decide (e.on<i)).getD true
theorem iW{ops:Array Oper}(h:gD ops=true){i:Nat}{o:Oper}(ho:ops[i]?=some o):∀ e∈o.after,Region.binds .any e=true->e.on<i:=by
 intro e he hb;have hlt:i<ops.size:=(zk.1 ho).1;have:=List.all_eq_true.1 h i (yg.2 hlt);rw[ho]at this;simp only[Option.map_some,Option.getD_some,Array.all_eq_true_iff_forall_mem]at this;have h1:=this e he;rw[hb]at h1;exact of_decide_eq_true h1
theorem uFJ{ops:Array Oper}(hb:gD ops=true){zl:Array Bool}(hs:zl.size=ops.size)(hr:Region.ready .any ops zl=[]):∀ i,i<ops.size->Up zl i:=by
 intro i
 induction i using Nat.strongRecOn with
 |_ i ih=>
  intro hi;cases hu:zl.getD i true
  ·exfalso
   have ho:ops[i]?=some ops[i]:=Array.getElem?_eq_getElem hi;have:i∈Region.ready .any ops zl:=mem_ready.2 ⟨hu,ops[i],ho,fun e he hd=>ih e.on (iW hb ho e he hd) (Nat.lt_trans (iW hb ho e he hd) hi)⟩;rw[hr]at this;cases this
  have hi':i<zl.size:=by omega
  unfold Up;simp only[Array.getD_eq_getD_getElem?,Array.getElem?_eq_getElem hi',Option.getD_some]at hu ⊢;exact hu
theorem uN{P:Program}{ops:Array Oper}{Q:Exit->Act->World->Prop}(hb:gD ops=true)(I:Array Bool->Act->World->Prop)
  (cr:∀ zl a w i o,zl.size=ops.size->I zl a w->zl.getD i true=false->ops[i]?=some o->(∀ e∈o.after,Region.binds .any e=true->Up zl e.on)->wpOp P ops Q i (I (zl.setIfInBounds i true)) a w)
  (da:∀ zl a w,I zl a w->(∀ i,i<ops.size->Up zl i)->Q .normal a w) :
  ∀ (fuel:Nat) (zl:Array Bool) (a:Act) (w:World),zl.size=ops.size->left zl<=fuel->I zl a w->wpAny P .any ops Q fuel zl a w
 |0,zl,a,w,hs,hf,hI=>by
  have hr:Region.ready .any ops zl=[]:=by
   refine List.eq_nil_iff_forall_not_mem.2 (fun i hi=>?_);have h1:=(mem_ready.1 hi).1;rw[vU (by omega) i]at h1;cases h1
  exact⟨hr,da zl a w hI (uFJ hb hs hr)⟩
 |fuel+1,zl,a,w,hs,hf,hI=>by
  refine⟨fun hr=>da zl a w hI (uFJ hb hs hr),fun i hi=>?_⟩;obtain⟨h1,o,ho,zd⟩:=mem_ready.1 hi;refine wpOp_mono (fun a' w' h'=>uN hb I cr da fuel _ a' w' (by rw[Array.size_setIfInBounds];exact hs) (by have:=sX h1;omega) h') (cr zl a w i o hs hI h1 ho zd)
theorem fH{P:Program}{ops:Array Oper}{Q:Exit->Act->World->Prop}{id:Nat}{a:Act}{w:World}(hm:P.follows .mixedOrders=true)(hb:gD ops=true)(F:Act->Prop)(I:Act->Array Bool->Act->World->Prop)(hF:F a)
  (h0:I a (Array.replicate ops.size false) a w.drew)
  (cr:∀ a0,F a0->∀ zl a w i o,zl.size=ops.size->I a0 zl a w->zl.getD i true=false->ops[i]?=some o->(∀ e∈o.after,Region.binds .any e=true->Up zl e.on)->wpOp P ops Q i (I a0 (zl.setIfInBounds i true)) a w)
  (da:∀ zl a' w',I a zl a' w'->(∀ i,i<ops.size->Up zl i)->Q .normal a' w'):(Code.region id ops true).wp P Q a w :=
 wp_region_any hm (uN hb (I a) (cr a hF) da ops.size _ a _ (by simp) (by rw[mD];exact zr) h0)
theorem eE{w:World}{b n sz:Nat}{te tb:TypeId}(ht:te≠tb){v:Value}{xs:List Value}(h:w.ownsRow b te sz v n xs){bx:Nat}{cs:Array Value}(hl:Lies w bx tb cs):some bx≠v.ownBlock:=fun e=>by
 rcases h.2 with⟨rfl,_⟩|⟨g,cap,cur,rfl,_,hg,_⟩
 ·simp[Value.ownBlock]at e
 simp[Value.ownBlock]at e;subst e;unfold Lies at hl;rw[hg]at hl;injection hl with hl;injection hl with _ hl _;exact ht hl
theorem mQ{w:World}{b n sz:Nat}{te tb:TypeId}(ht:te≠tb){v:Value}{xs:List Value}(h:w.ownsRow b te sz v n xs){bx:Nat}{cs:Array Value}(hl:Lies w bx tb cs)(i:Nat)(u:Value):(w.setCell ⟨bx,i,none⟩ u).ownsRow b te sz v n xs:=by
 have hg:w.grownBy (w.setCell ⟨bx,i,none⟩ u) (some bx):=⟨rfl,rfl,rfl,by rw[World.size_setCell];exact zr,fun j _ bp=>Below.heap_setCell w ⟨bx,i,none⟩ u j (fun e=>bp (congrArg some e))⟩
 exact World.ownsRow.kept h hg (.inr (fun e=>eE ht h hl e.symm))
theorem Lies.grownA{w w':World}{g:Nat}{t:TypeId}{cs:Array Value}{row:Option Nat}(h:Lies w g t cs)(hg:w.grownBy w' row)(hr:some g≠row):Lies w' g t cs:=(hg.block g h.lt hr).trans h
theorem aK{w:World}{g:Nat}{t:TypeId}{cs:Array Value}(h:Lies w g t cs){b:Nat}(hb:g≠b)(i:Nat)(u:Value):Lies (w.setCell ⟨b,i,none⟩ u) g t cs:=(Below.heap_setCell w ⟨b,i,none⟩ u g hb).trans h
structure GA(S:List Nat)(T:List (Nat×Nat×Value))(Y:List Nat)(X:World)(il ib sb ia sa is bx ci:Nat)(te tb:TypeId)(z:Array Value)(base sz n:Nat)(v0:Value)(xs news:List Value)(a0:Act)(zl:Array Bool)(a:Act)(w:World):Prop where
 off:Off S a0 a
 pt:PT T zl a
 kp:Kp Y X w
 dp:Up zl ia->Up zl il/\Up zl ib
 nb:Up zl ib->¬ Up zl ia->∃ g,a.eval (.tmp sb)=.slice (some ⟨g,0,none⟩) 1 1/\Lies w g te news.toArray
 o1:¬ Up zl ia->w.ownsRow base te sz v0 n xs
 o2:Up zl ia->w.ownsRow base te sz (a.eval (.tmp sa)) (n+1) (xs++news)
 b1:¬ Up zl is->Lies w bx tb z
 b2:Up zl is->Up zl ia/\Lies w bx tb (z.setIfInBounds ci (a.eval (.tmp sa)))
def okA(nums:List (Nat×Nat))(S:List Nat)(ib sb ia sa is N:Nat):Bool :=
 nums.all (fun e=>e.2 != sa&&e.2 != sb&&e.1 != ib&&e.1 != ia&&e.1 != is&&S.contains e.2&&decide (e.2<N))&&decide (nums.Pairwise (fun p q=>p.1≠q.1/\p.2≠q.2))&&ib != ia&&ib != is&&ia != is&&sa != sb&&S.contains sa&&S.contains sb&&decide (sa<N)&&decide (sb<N)
structure GAk(S:List Nat)(T:List (Nat×Nat×Value))(Y:List Nat)(ib sb ia sa is bx:Nat)(te tb:TypeId)(v0:Value)(N:Nat):Prop where
 num:okA (T.map fun e=>(e.1,e.2.1)) S ib sb ia sa is N=true
 ty:te≠tb
 row:∀ g,v0.ownBlock=some g->g∈Y
 box:bx∈Y
section
variable {S:List Nat} {T:List (Nat×Nat×Value)} {Y:List Nat} {X w:World} {il ib sb ia sa is bx ci:Nat} {te tb:TypeId} {z:Array Value} {base sz n N:Nat} {v0:Value} {xs news:List Value} {a0 a:Act} {zl:Array Bool} {ops:Array Oper} {Q:Exit->Act->World->Prop} {o:Oper}
theorem GAk.parts(hk:GAk S T Y ib sb ia sa is bx te tb v0 N):(∀ e∈T,e.2.1≠sa/\e.2.1≠sb/\e.1≠ib/\e.1≠ia/\e.1≠is/\e.2.1∈S/\e.2.1<N)/\T.Pairwise (fun p q=>p.1≠q.1/\p.2.1≠q.2.1)/\(ib≠ia/\ib≠is/\ia≠is/\sa≠sb/\sa∈S/\sb∈S/\sa<N/\sb<N):=by
 have hn:=hk.num;simp only[okA,yh,List.all_eq_true,bne_iff_ne,decide_eq_true_eq,List.contains_iff_mem,List.pairwise_map,yj,forall_exists_index,and_imp,forall_apply_eq_imp_iff₂]at hn;obtain⟨⟨⟨⟨⟨⟨⟨⟨⟨h1,h2⟩,h3⟩,h4⟩,h5⟩,h6⟩,h7⟩,h8⟩,h9⟩,uc⟩:=hn;refine⟨fun e he=>?_,h2,h3,h4,h5,h6,h7,h8,h9,uc⟩;obtain⟨⟨⟨⟨⟨⟨g1,g2⟩,g3⟩,g4⟩,g5⟩,g6⟩,g7⟩:=h1 e he;exact⟨g1,g2,g3,g4,g5,g6,g7⟩
theorem GAk.row_of(hk:GAk S T Y ib sb ia sa is bx te tb v0 N){e:Nat×Nat×Value}(he:e∈T):e.2.1≠sa/\e.2.1≠sb/\e.1≠ib/\e.1≠ia/\e.1≠is/\e.2.1∈S/\e.2.1<N:=hk.parts.1 e he
theorem GAk.ne(hk:GAk S T Y ib sb ia sa is bx te tb v0 N):ib≠ia/\ib≠is/\ia≠is/\sa≠sb/\sa∈S/\sb∈S/\sa<N/\sb<N:=hk.parts.2.2
theorem GAk.uniq(hk:GAk S T Y ib sb ia sa is bx te tb v0 N){e e':Nat×Nat×Value}(he:e∈T)(gr:e'∈T)(hs:e.1=e'.1\/e.2.1=e'.2.1):e=e':=by
 by_cases heq:e=e'
 ·exact heq
 exfalso
 have h2:=hk.parts.2.1;have key:∀ l:List (Nat×Nat×Value),l.Pairwise (fun p q=>p.1≠q.1/\p.2.1≠q.2.1)->∀ x∈l,∀ y∈l,x≠y->x.1≠y.1/\x.2.1≠y.2.1:=by
  intro l
  induction l with
  |nil=>intro _ x hx;cases hx
  |cons c l ih=>
   intro hp x hx y hy bp;rw[List.pairwise_cons]at hp;rcases ym.1 hx with ex|hx <;> rcases ym.1 hy with ey|hy
   ·exact absurd (ex.trans ey.symm) bp
   ·rw[ex];exact hp.1 y hy
   ·rw[ey];exact⟨fun e=>(hp.1 x hx).1 e.symm,fun e=>(hp.1 x hx).2 e.symm⟩
   exact ih hp.2 x hx y hy bp
 have:=key T h2 e he e' gr heq;rcases hs with hs|hs
 ·exact this.1 hs
 exact this.2 hs
theorem GA.unl(hI:GA S T Y X il ib sb ia sa is bx ci te tb z base sz n v0 xs news a0 zl a w)(aa:zl.getD il true=false):Lies w bx tb z :=
 hI.b1 (fun h=>gJ aa (hI.dp (hI.b2 h).1).1)
theorem GA.start(a:Act)(m:Nat)(hk:Kp Y X w)(ho:w.ownsRow base te sz v0 n xs)(hl:Lies w bx tb z):GA S T Y X il ib sb ia sa is bx ci te tb z base sz n v0 xs news a (Array.replicate m false) a w :=
 ⟨Off.refl _ _,PT.start _ _ _,hk,fun h=>absurd h (Up.none _ _),fun h=>absurd h (Up.none _ _),fun _=>ho,fun h=>absurd h (Up.none _ _),fun _=>hl,fun h=>absurd h (Up.none _ _)⟩
theorem bZ(hk:GAk S T Y ib sb ia sa is bx te tb v0 N)(hI:GA S T Y X il ib sb ia sa is bx ci te tb z base sz n v0 xs news a0 zl a w)(hN:N<=a0.tmps.size){i s:Nat}{v:Value}(he:(i,s,v)∈T)(aa:zl.getD i true=false)(ho:ops[i]?=some o)(hg:o.guard=none)(hd:o.dst=some s)
  (hr:(execOp a.eval o).run Tryz.prog w=.ok (.value v) w):wpOp Tryz.prog ops Q i (GA S T Y X il ib sb ia sa is bx ci te tb z base sz n v0 xs news a0 (zl.setIfInBounds i true)) a w:=by
 have hi:=Up.of_false aa;obtain⟨h1,h2,h3,h4,h5,h6,h7⟩:=hk.row_of he;refine gC ho hg (mV v hr ?_);rw[hd];have jy:∀ {k},k≠i->(Up (zl.setIfInBounds i true) k↔Up zl k):=fun bp=>⟨fun h=>jO hi h bp,fun h=>eC hi h⟩
 have ea:(a.put (some s) v).eval (.tmp sa)=a.eval (.tmp sa):=jT _ _ h1;have eb:(a.put (some s) v).eval (.tmp sb)=a.eval (.tmp sb):=jT _ _ h2;refine⟨hI.off.put h6 v,hI.pt.step hi (by rw[hI.off.size];exact yu h7 hN) (fun e' gr hs=>by rw[hk.uniq gr he (.inr hs)]) (fun e' gr hs=>by rw[hk.uniq gr he (.inl hs)]),hI.kp,fun h=>⟨eC hi (hI.dp (jO hi h (Ne.symm h4))).1,eC hi (hI.dp (jO hi h (Ne.symm h4))).2⟩,?_,?_,?_,?_,?_⟩
 ·rw[eb,jy (Ne.symm h3),jy (Ne.symm h4)];exact hI.nb
 ·rw[jy (Ne.symm h4)];exact hI.o1
 ·rw[ea,jy (Ne.symm h4)];exact hI.o2
 ·rw[jy (Ne.symm h5)];exact hI.b1
 rw[ea,jy (Ne.symm h5),jy (Ne.symm h4)];exact hI.b2
theorem sP(hk:GAk S T Y ib sb ia sa is bx te tb v0 N)(hI:GA S T Y X il ib sb ia sa is bx ci te tb z base sz n v0 xs news a0 zl a w)(hN:N<=a0.tmps.size)(aa:zl.getD ib true=false)(ho:ops[ib]?=some o)(hg:o.guard=none)(hd:o.dst=some sb)
  (hr:(execOp a.eval o).run Tryz.prog w=.ok (.value (.slice (some ⟨w.heap.size,0,none⟩) 1 1)) (w.alloc (.cells news.toArray te))):wpOp Tryz.prog ops Q ib (GA S T Y X il ib sb ia sa is bx ci te tb z base sz n v0 xs news a0 (zl.setIfInBounds ib true)) a w:=by
 have hi:=Up.of_false aa;have hna:¬ Up zl ia:=fun h=>gJ aa (hI.dp h).2
 obtain⟨n1,n2,n3,n4,n5,n6,n7,n8⟩:=hk.ne;refine gC ho hg (mV _ hr ?_);rw[hd];have jy:∀ {k},k≠ib->(Up (zl.setIfInBounds ib true) k↔Up zl k):=fun bp=>⟨fun h=>jO hi h bp,fun h=>eC hi h⟩
 have ea:(a.put (some sb) (.slice (some ⟨w.heap.size,0,none⟩) 1 1)).eval (.tmp sa)=a.eval (.tmp sa):=jT _ _ (Ne.symm n4);have hs:sb<a.tmps.size:=by rw[hI.off.size];omega
 refine⟨hI.off.put n6 _,hI.pt.step hi hs (fun e' gr rk=>absurd rk (hk.row_of gr).2.1) (fun e' gr rk=>absurd rk (hk.row_of gr).2.2.1),hI.kp.alloc _,fun h=>absurd (jO hi h (Ne.symm n1)) hna,?_,?_,?_,?_,?_⟩
 ·exact fun _ _=>⟨w.heap.size,iD _ _ hs,Lies.new _ _ _⟩
 ·rw[jy (Ne.symm n1)];exact fun h=>World.ownsRow.alloc (hI.o1 h) _
 ·rw[jy (Ne.symm n1)];exact fun h=>absurd h hna
 ·rw[jy (Ne.symm n2)];exact fun h=>(hI.b1 h).alloc _
 rw[jy (Ne.symm n2)];exact fun h=>absurd (hI.b2 h).1 hna
theorem uCZ(hk:GAk S T Y ib sb ia sa is bx te tb v0 N)(hI:GA S T Y X il ib sb ia sa is bx ci te tb z base sz n v0 xs news a0 zl a w)(hN:N<=a0.tmps.size)(aa:zl.getD ia true=false)(ho:ops[ia]?=some o)(hg:o.guard=none)(hd:o.dst=some sa)(ui:Up zl il)(hb:Up zl ib)
  (t:TypeId) (so:Nat) (rp:o.op=.call { callee:=.builtin .append,args:=#[.tmp so,.tmp sb],argTypes:=#[t,t] }) (hv:a.eval (.tmp so)=v0)
  (i0:TypeInfo) (zv:Value) (bytes:Nat) (ht:Tryz.prog.underlying t=some (.slice te)) (hi0:Tryz.prog.info? te=some i0) (hz:i0.zero=some zv) (o5:i0.size=sz) (lk:i0.bytes=bytes) (hzs:zv.cells.size=sz) (bg:0<sz)
  (hl:news.length=sz) (h1:∀ u∈news,u.oneCell'=true) (h63:n+1<=maxLen) (ly:(n+1)*bytes<=140737488355328) (cv:base<=w.heap.size) :
  wpOp Tryz.prog ops Q ia (GA S T Y X il ib sb ia sa is bx ci te tb z base sz n v0 xs news a0 (zl.setIfInBounds ia true)) a w:=by
 have hi:=Up.of_false aa;have hna:=gJ aa;have hns:¬ Up zl is:=fun h=>hna (hI.b2 h).1
 obtain⟨n1,n2,n3,n4,n5,n6,n7,n8⟩:=hk.ne;obtain⟨g,e1,hL⟩:=hI.nb hb hna;have aj:=hI.o1 hna;refine gC ho hg (wp_append_own w (.tmp so) (.tmp sb) t rp base te i0 zv sz bytes ht hi0 hz o5 lk hzs bg v0 n xs hv aj ⟨g,0,none⟩ 1 1 news e1 (by rw[Nat.one_mul];exact hl) (fun j u hj=>?_) h1 h63 ly cv ?_)
 ·have hc:=hL.cell j;rw[za,hj]at hc;have e:(⟨g,0,none⟩:Addr).add j=⟨g,j,none⟩:=by cases j <;> simp[Addr.add]
  rw[e];exact hc
 intro v' w' du cu _;rw[hd];have jy:∀ {k},k≠ia->(Up (zl.setIfInBounds ia true) k↔Up zl k):=fun bp=>⟨fun h=>jO hi h bp,fun h=>eC hi h⟩
 have hs:sa<a.tmps.size:=by rw[hI.off.size];omega
 refine⟨hI.off.put n5 _,hI.pt.step hi hs (fun e' gr rk=>absurd rk (hk.row_of gr).1) (fun e' gr rk=>absurd rk (hk.row_of gr).2.2.2.1),hI.kp.grown cu (fun g hg=>.inl (hk.row g hg)),fun _=>⟨eC hi ui,eC hi hb⟩,?_,?_,?_,?_,?_⟩
 ·exact fun _ h=>absurd (mU hi) h
 ·exact fun h=>absurd (mU hi) h
 ·intro _;rw[iD _ _ hs];exact du
 ·rw[jy (Ne.symm n3)];exact fun h=>(hI.b1 h).grownA cu (eE hk.ty aj (hI.b1 h))
 rw[jy (Ne.symm n3)];exact fun h=>absurd h hns
theorem sQ(hk:GAk S T Y ib sb ia sa is bx te tb v0 N)(hI:GA S T Y X il ib sb ia sa is bx ci te tb z base sz n v0 xs news a0 zl a w)(aa:zl.getD is true=false)(ho:ops[is]?=some o)(hg:o.guard=none)(hd:o.dst=none)(ha:Up zl ia)
  (hr:Lies w bx tb z->(∃ g c,a.eval (.tmp sa)=.slice (some ⟨g,0,none⟩) (n+1) c)->(execOp a.eval o).run Tryz.prog w=.ok .skip (w.setCell ⟨bx,ci,none⟩ (a.eval (.tmp sa)))):wpOp Tryz.prog ops Q is (GA S T Y X il ib sb ia sa is bx ci te tb z base sz n v0 xs news a0 (zl.setIfInBounds is true)) a w:=by
 have hi:=Up.of_false aa;have hns:=gJ aa;obtain⟨n1,n2,n3,n4,n5,n6,n7,n8⟩:=hk.ne;have hl:=hI.b1 hns;have aj:=hI.o2 ha;obtain⟨g,c,jw⟩:∃ g c,a.eval (.tmp sa)=.slice (some ⟨g,0,none⟩) (n+1) c:=by
  rcases aj.2 with⟨_,h0⟩|⟨g,cap,cur,e,_⟩
  ·omega
  exact⟨g,cap,e⟩
 refine gC ho hg (oC (hr hl ⟨g,c,jw⟩) ?_);rw[hd];show GA S T Y X il ib sb ia sa is bx ci te tb z base sz n v0 xs news a0 _ a _;have jy:∀ {k},k≠is->(Up (zl.setIfInBounds is true) k↔Up zl k):=fun bp=>⟨fun h=>jO hi h bp,fun h=>eC hi h⟩
 refine⟨hI.off,hI.pt.skip hi (fun e' gr=>(hk.row_of gr).2.2.2.2.1),hI.kp.set (.inl hk.box) _ _,fun _=>⟨eC hi (hI.dp ha).1,eC hi (hI.dp ha).2⟩,?_,?_,?_,?_,?_⟩
 ·rw[jy n3];exact fun _ h=>absurd ha h
 ·rw[jy n3];exact fun h=>absurd ha h
 ·rw[jy n3];exact fun _=>mQ hk.ty aj hl _ _
 ·exact fun h=>absurd (mU hi) h
 exact fun _=>⟨eC hi ha,hl.put _ _⟩
end
abbrev idV(x:IdR):Value:=.agg #[.int .i64 x.a,.int .i64 x.n]
theorem idV_inj{x y:IdR}(h:idV x=idV y):x=y:=by
 injection h with h1;simp at h1;exact IdR.ext' h1.1 h1.2
set_option maxRecDepth 100000 in
theorem xE(x y:IdR)(w:World):(binOp .eql 34 (idV x) (idV y)).run Tryz.prog w=.ok (.bool (decide (x=y))) w:=by
 obtain⟨a,n⟩:=x;obtain⟨a2,n2⟩:=y
 go_simp
 by_cases h0:a=a2
 case neg=>simp[h0]
 by_cases h1:n=n2
 case neg=>simp[h0,h1]
 simp[h0,h1]
theorem xI:Tryz.prog.cellsOf 34=2:=by kernel_rfl
theorem sT:Tryz.prog.cellsOf 3=1:=by kernel_rfl
theorem idKeyT:Tryz.prog.keyType 34=true:=by kernel_rfl
theorem idSize:∃ m,Tryz.prog.types.size+1=m+1+1:=⟨Tryz.prog.types.size-1,by have h:0<Tryz.prog.types.size:=of_decide_eq_true (by kernel_rfl);omega⟩
theorem idLaid:laidOutB Tryz.prog=true:=by kernel_rfl
theorem idRow:(34:TypeId)<Tryz.prog.types.size:=of_decide_eq_true (by kernel_rfl)
theorem idWide:(match Tryz.prog.underlying 34 with|some (.array _ _)|some (.struct _)=>true|_=>false)=true:=by kernel_rfl
set_option maxRecDepth 100000 in
theorem idLaw:WideMaps.KeyLaw Tryz.prog 34:=deep_law_laid idLaid (m:=2) (by omega) idRow (by kernel_rfl) idWide
def IdR.fits(x:IdR):Prop:=(Lit.int .i64 x.a).wf=true/\(Lit.int .i64 x.n).wf=true
theorem xK(x:IdR)(h:x.fits):∃ l,keyOf Tryz.prog 34 (idV x)=some l:=by
 obtain⟨m,hm⟩:=idSize;have hf:(idV x).formed Tryz.prog 34=true:=by simp[Value.formed,Tryz.underlying34,xI]
 have hl:Tryz.prog.keyLits (m+1+1) 34 [.int .i64 x.a,.int .i64 x.n]=some [.int .i64 x.a,.int .i64 x.n]:=by
  simp[Program.keyLits,Tryz.underlying34,Tryz.underlying3,xI,sT,h.1,h.2]
 refine⟨.string (keyBytes [.int .i64 x.a,.int .i64 x.n]),?_⟩;unfold keyOf;rw[Tryz.underlying34];simp only[idKeyT,hf,Bool.and_self,if_true];rw[hm];show Option.map _ (Tryz.prog.keyLits (m+1+1) 34 [.int .i64 x.a,.int .i64 x.n])=_;rw[hl];rfl
def KMap(W:World)(m:Nat)(ys:List IdR)(Pv:Value->Prop):Prop:=∃ es clock,W.heap[m]?=some (.map es clock)/\es.toList.map (·.key)=ys.map idV/\∀ e∈es.toList,Pv e.val
theorem KMap.at{W W':World}{m:Nat}{ys:List IdR}{Pv:Value->Prop}(h:KMap W m ys Pv)(hb:W'.heap[m]?=W.heap[m]?):KMap W' m ys Pv:=by
 obtain⟨es,clock,h1,h2⟩:=h;exact⟨es,clock,hb.trans h1,h2⟩
theorem KMap.lt{W:World}{m:Nat}{ys:List IdR}{Pv:Value->Prop}(h:KMap W m ys Pv):m<W.heap.size:=by
 obtain⟨es,clock,h1,_⟩:=h;exact(zk.1 h1).1
theorem keys_fit{es:List MapEntry}{ys:List IdR}(h:es.map (·.key)=ys.map idV)(hf:∀ y∈ys,y.fits):∀ e∈es,∃ l,keyOf Tryz.prog 34 e.key=some l:=by
 intro e he;have h1:e.key∈es.map (·.key):=yj.2 ⟨e,he,rfl⟩;rw[h]at h1;obtain⟨y,hy,e1⟩:=yj.1 h1;rw[<- e1];exact xK y (hf y hy)
theorem KMap.find{W:World}{es:Array MapEntry}{ys:List IdR}(h:es.toList.map (·.key)=ys.map idV)(hf:∀ y∈ys,y.fits)(x:IdR)(hx:x.fits) :
  (x∉ys/\(Instr.findKey 34 (idV x) es.toList).run Tryz.prog W=.ok none W)\/(x∈ys/\∃ j e,(Instr.findKey 34 (idV x) es.toList).run Tryz.prog W=.ok (some (j,e.val)) W/\e∈es.toList):=by
 obtain⟨l,hl⟩:=xK x hx;have hm:∀ y,y∈ys↔idV y∈es.toList.map (·.key):=fun y=>by
  rw[h];exact⟨fun hy=>yj.2 ⟨y,hy,rfl⟩,fun hy=>by obtain⟨z,hz,e⟩:=yj.1 hy;rw[<- idV_inj e];exact hz⟩
 rcases idLaw.find W hl es.toList (keys_fit h hf) with⟨h1,h2⟩|⟨j,e,h1,h2,h3⟩
 ·refine .inl ⟨fun hxy=>?_,h1⟩;obtain⟨e,he,e1⟩:=yj.1 ((hm x).1 hxy);exact h2 e he e1
 have he:=List.mem_of_getElem? h2;exact .inr ⟨(hm x).2 (yj.2 ⟨e,he,h3⟩),j,e,h1,he⟩
theorem KMap.look{W:World}{m:Nat}{ys:List IdR}{u z:Value}{t et:TypeId}(h:KMap W m ys (fun v=>v=u))(hu:Tryz.prog.underlying t=some (.map 34 et))(hz:(zeroValue et).run Tryz.prog W=.ok z W)(hf:∀ y∈ys,y.fits)(x:IdR)(hx:x.fits) :
  (Instr.lookup t (.map (some m)) (idV x) false).run Tryz.prog W=.ok (if x∈ys then u else z) W:=by
 obtain⟨es,clock,h1,h2,h3⟩:=h;obtain⟨l,hl⟩:=xK x hx;have hc:=idLaw.check W es.isEmpty hl;rcases KMap.find (W:=W) h2 hf x hx with⟨g1,g2⟩|⟨g1,j,e,g2,g3⟩
 ·simp[Instr.lookup,run_underlying hu,MapKept.run_getObj_map h1,hc,g2,hz,Result.andThen,g1]
 simp[Instr.lookup,run_underlying hu,MapKept.run_getObj_map h1,hc,g2,Result.andThen,g1,h3 e g3]
theorem KMap.put{W:World}{m:Nat}{ys:List IdR}{Pv:Value->Prop}{t et:TypeId}(h:KMap W m ys Pv)(hu:Tryz.prog.underlying t=some (.map 34 et))(hf:∀ y∈ys,y.fits)(x:IdR)(hx:x.fits)(hn:x∉ys)(val:Value)(hv:Pv val) :
  ∃ W',(Instr.mapUpdate t (.map (some m)) (idV x) val).run Tryz.prog W=.ok () W'/\KMap W' m (ys++[x]) Pv/\Only m W W':=by
 obtain⟨es,clock,h1,h2,h3⟩:=h;obtain⟨l,hl⟩:=xK x hx;have hc:=idLaw.check W false hl;rcases KMap.find (W:=W) h2 hf x hx with⟨g1,g2⟩|⟨g1,_⟩
 ·have hlt:=(zk.1 h1).1;refine⟨{ W with heap:=W.heap.setIfInBounds m (.map (es.push { key:=idV x,val:=val,born:=clock }) (clock+1)) },?_,⟨es.push { key:=idV x,val:=val,born:=clock },clock+1,?_,?_,?_⟩,⟨rfl,rfl,rfl,by simp,fun k hk=>by simp[Ne.symm hk]⟩⟩
  ·simp[Instr.mapUpdate,run_underlying hu,MapKept.run_getObj_map h1,hc,g2,MapKept.run_setObj_map _ h1,Result.andThen]
  ·simp[hlt]
  ·simp[h2]
  intro e he;simp only[Array.toList_push,List.mem_append,yf]at he;rcases he with he|he
  ·exact h3 e he
  rw[he];exact hv
 exact absurd g1 hn
def IdRow(W:World)(g o:Nat)(l:List IdR):Prop:=g<W.heap.size/\∀ j (h:j<l.length),W.cell? ⟨g,o+j*2,none⟩=some (.int .i64 l[j].a)/\W.cell? ⟨g,o+j*2+1,none⟩=some (.int .i64 l[j].n)
theorem IdRow.at{W W':World}{g o:Nat}{l:List IdR}(h:IdRow W g o l)(hs:W.heap.size<=W'.heap.size)(hb:W'.heap[g]?=W.heap[g]?):IdRow W' g o l :=
 ⟨yu h.1 hs,fun j hj=>⟨(World.cell?_of_block (w:=W) (a:=⟨g,_,none⟩) hb).trans (h.2 j hj).1,(World.cell?_of_block (w:=W) (a:=⟨g,_,none⟩) hb).trans (h.2 j hj).2⟩⟩
def bL(l:List IdR):List Value:=l.flatMap (fun x=>[.int .i64 x.a,.int .i64 x.n])
theorem lD(l:List IdR)(x:IdR):bL (l++[x])=bL l++[.int .i64 x.a,.int .i64 x.n]:=by simp[bL]
theorem xJ:(Tryz.prog.info? 34).map (fun i=>(i.zero,i.size,i.bytes))=some (some (.agg #[.int .i64 0,.int .i64 0]),2,16):=by kernel_rfl
theorem sS:(Tryz.prog.info? 4).map (fun i=>(i.zero,i.size,i.bytes))=some (some (.bool false),1,1):=by kernel_rfl
theorem cS{w:World}{b n sz:Nat}{te:TypeId}{v:Value}{xs:List Value}(h:w.ownsRow b te sz v n xs):∃ A c,v=.slice A n c:=by
 rcases h.2 with⟨rfl,rfl⟩|⟨g,cap,cur,e,_⟩
 ·exact⟨none,0,rfl⟩
 exact⟨_,_,e⟩
theorem dQ{w w':World}{Y:List Nat}{b n sz:Nat}{te:TypeId}{v:Value}{xs:List Value}(h:w.ownsRow b te sz v n xs)(hk:Kp Y w w')(hn:∀ g,v.ownBlock=some g->g∉Y):w'.ownsRow b te sz v n xs:=by
 rcases h with⟨hl,⟨e,hz⟩|⟨g,cap,cur,e1,e2,e3,e4⟩⟩
 ·exact⟨hl,.inl ⟨e,hz⟩⟩
 have hg:g∉Y:=hn g (by rw[e1];rfl);exact⟨hl,.inr ⟨g,cap,cur,e1,e2,(hk.block g (zk.1 e3).1 hg).trans e3,e4⟩⟩
theorem jG{w:World}{b b' n n' sz sz':Nat}{te te':TypeId}(ht:te≠te'){v v':Value}{xs xs':List Value}(h:w.ownsRow b te sz v n xs)(h':w.ownsRow b' te' sz' v' n' xs'):∀ g,v.ownBlock=some g->v'.ownBlock≠some g:=by
 intro g hg o6;rcases h.2 with⟨rfl,_⟩|⟨g1,cap,cur,rfl,_,hh,_⟩
 ·simp[Value.ownBlock]at hg
 rcases h'.2 with⟨rfl,_⟩|⟨g2,gu,cur',rfl,_,hh',_⟩
 ·simp[Value.ownBlock]at o6
 simp[Value.ownBlock]at hg o6;subst hg;subst o6;rw[hh]at hh';injection hh' with e1;injection e1 with _ e2 _;exact ht e2
theorem bH{w:World}{b n sz:Nat}{te:TypeId}{v:Value}{xs:List Value}(h:w.ownsRow b te sz v n xs):∀ g,v.ownBlock=some g->b<=g/\g<w.heap.size:=h.lt
def kU(acc:List IdR)(x:IdR):List IdR:=if x=id0\/x∈acc then acc else acc++[x]
def bU(ids:List IdR):List IdR:=ids.foldl kU []
theorem jH(ids:List IdR)(k:Nat)(h:k<ids.length):bU (ids.take (k+1))=kU (bU (ids.take k)) ids[k]:=by
 rw[yw h];unfold bU;rw[List.foldl_append];rfl
theorem uCA(acc:List IdR)(x:IdR):(kU acc x).length<=acc.length+1:=by
 unfold kU
 split
 ·omega
 simp
theorem uCB(acc:List IdR)(x y:IdR)(h:y∈kU acc x):y∈acc\/y=x:=by
 unfold kU at h
 split at h
 ·exact .inl h
 simpa using h
theorem pV(ids:List IdR):∀ k,k<=ids.length->(bU (ids.take k)).length<=k:=by
 intro k
 induction k with
 |zero=>intro _;exact zr
 |succ k ih=>
  intro h;rw[jH ids k h];have:=uCA (bU (ids.take k)) ids[k];have:=ih (by omega);omega
theorem vZ(ids:List IdR):∀ k,k<=ids.length->∀ y∈bU (ids.take k),y∈ids:=by
 intro k
 induction k with
 |zero=>intro _ y hy;cases hy
 |succ k ih=>
  intro h y hy;rw[jH ids k h]at hy;rcases uCB _ _ _ hy with h1|h1
  ·exact ih (by omega) y h1
  rw[h1];exact List.getElem_mem h
structure AxMk(q base:Nat)(acc:List IdR)(v1 v2:Value)(W:World):Prop where
 ax:Lies W q 82 #[v1,v2,.map none,.slice none 0 0,.slice none 0 0]
 r1:W.ownsRow base 34 2 v1 acc.length (bL acc)
 r2:W.ownsRow base 4 1 v2 acc.length (List.replicate acc.length (.bool true))
theorem AxMk.next{q base:Nat}{acc:List IdR}{v1 v2:Value}{W W':World}(h:AxMk q base acc v1 v2 W)(hb:Below W.heap.size W W'):AxMk q base acc v1 v2 W' :=
 ⟨h.ax.next hb,cW hb h.r1,cW hb h.r2⟩
def kF(W:World)(A:Option Addr)(l:List IdR):Prop:=0<l.length->∃ g o,A=some ⟨g,o,none⟩/\IdRow W g o l
set_option maxRecDepth 100000 in
theorem uGS(A:Option Addr)(cap:Nat)(ids:List IdR)(w:World)(hA:kF w A ids)(hn:ids.length<=300)(hf:∀ y∈ids,y.fits) :
  Calls Tryz.prog 18 #[.slice A ids.length cap] w fun e w'=>∃ v1 v2,e=.returned (.pointer (some ⟨w.heap.size,0,none⟩))/\AxMk w.heap.size (w.heap.size+2) (bU ids) v1 v2 w'/\Below w.heap.size w w':=by
 have hmm:=@run_makeMap Tryz.prog;have HF:=zh hf;have HA:=zh hA;have HS:=zh (jH ids);have tf:=zh (pV ids);have HMm:=zh (vZ ids);have rq:Hid (bU (ids.take ids.length)=bU ids):=zh (by rw[List.take_length]);obtain⟨n,kx⟩:∃ n,n=ids.length:=⟨_,rfl⟩
 have HN:=zh kx;rw[<- kx]at hn ⊢;clear hf hA kx
 go_enter Tryz.func18,Tryz.ntmps18
 go_upto_region 4 with fail
 generalize jp:(w.alloc (.cells #[.slice none 0 0,.slice none 0 0,.map none,.slice none 0 0,.slice none 0 0] 82)).alloc (.map #[] 0)=W2 at *;have HM0:Hid (AxMk w.heap.size (w.heap.size+2) [] (.slice none 0 0) (.slice none 0 0) W2):=zh (by
  rw[<- jp];exact⟨(Lies.new w _ _).alloc _,⟨rfl,.inl ⟨rfl,rfl⟩⟩,⟨rfl,.inl ⟨rfl,rfl⟩⟩⟩)
 have cj:Hid (KMap W2 (w.heap.size+1) [] (fun v=>v=.bool true)):=zh (by
  rw[<- jp];refine⟨#[],0,?_,rfl,fun e he=>by cases he⟩;have h:=heap_alloc_new (w.alloc (.cells #[.slice none 0 0,.slice none 0 0,.map none,.slice none 0 0,.slice none 0 0] 82)) (.map #[] 0);rw[World.size_alloc]at h;exact h)
 have HB0:Hid (Below w.heap.size w W2):=zh (by rw[<- jp];exact((Below.refl _ w).alloc zr _).alloc (by simp) _);have HZ0:Hid (w.heap.size+2<=W2.heap.size):=zh (by rw[<- jp];simp);clear jp
 go_loopw [12] (fun v12 wx=>∃ (k:Nat) (v1 v2:Value),v12=.int .i64 (k:Int)/\k<=n/\Hid (AxMk w.heap.size (w.heap.size+2) (bU (ids.take k)) v1 v2 wx)/\Hid (KMap wx (w.heap.size+1) (bU (ids.take k)) (fun v=>v=.bool true))/\Hid (Below w.heap.size w wx)/\Hid (w.heap.size+2<=wx.heap.size)) (fun v12 _=>n-(intOf v12).toNat)
 case atStart=>exact⟨0,_,_,rfl,zm _,HM0,cj,HB0,HZ0⟩
 case round=>
  obtain⟨k,v1,v2,rfl,hk,hM,hK,hB,hZ⟩:=hrel;generalize en:w.heap.size=q at *;have HQ:=zh en;clear en;clear HM0 cj HB0 HZ0;by_cases hlt:k<n
  ·have ja:k<ids.length:=by rw[<- HN.out];exact hlt
   obtain⟨ga,oa,rfl,kl,bi⟩:=HA.out (by omega);obtain⟨c0,c1⟩:=bi k ja;have hxf:=HF.out _ (List.getElem_mem ja);have rr:=yv (tf.out k (by omega)) (Nat.le_of_lt ja);have s6:=zh (fun y hy=>HF.out y (HMm.out k (by omega) y hy));have vg:=zh (HS.out k ja);have d0:wr.cell? ⟨ga,oa+k*2,none⟩=some (.int .i64 ids[k].a):=(hB.out.cell (p:=⟨ga,_,none⟩) (by rw[<- HQ.out];exact kl)).trans c0;have d1:wr.cell? ⟨ga,oa+k*2+1,none⟩=some (.int .i64 ids[k].n):=(hB.out.cell (p:=⟨ga,_,none⟩) (by rw[<- HQ.out];exact kl)).trans c1;rw[<- HN.out]at rr;generalize ids[k]=x at *;generalize bU (ids.take k)=acc at *;generalize o7:bU (ids.take (k+1))=acc' at *;have jz:=zh o7;clear o7 c0 c1 bi;obtain⟨xa,xn⟩:=x;dsimp only at d0 d1;obtain⟨A1,cap1,rfl⟩:=cS hM.out.r1;obtain⟨A2,cap2,rfl⟩:=cS hM.out.r2;generalize hle:acc.length=m at *
   go_upto_region 6 with fail
   have tg:=zh (hM.out.next ((Below.refl _ wr).alloc zr (.cells #[.int .i64 xa,.int .i64 xn] 34)));have hK3:=zh (hK.out.at (Below.heap_alloc wr (.cells #[.int .i64 xa,.int .i64 xn] 34) (q+1) hK.out.lt));have hB3:=zh (hB.out.alloc (yv (Nat.le_add_right q 2) hZ.out) (.cells #[.int .i64 xa,.int .i64 xn] 34));have uj:=zh (Lies.new wr 34 #[.int .i64 xa,.int .i64 xn]);have hZ3:Hid (q+2<=(wr.alloc (.cells #[.int .i64 xa,.int .i64 xn] 34)).heap.size):=zh (by rw[World.size_alloc];have:=hZ.out;omega);have hbq:q+2<=wr.heap.size:=hZ.out;have hbo:Hid (∀ g,(Value.slice A1 m cap1).ownBlock=some g->g<wr.heap.size):=zh (fun g hg=>(bH hM.out.r1 g hg).2);generalize wr.alloc (.cells #[.int .i64 xa,.int .i64 xn] 34)=W3 at *;generalize wr.heap.size=bx at *;clear d0 d1 hM hK hB hZ;have a0:=tg.out.ax.cell 0;have a1:=tg.out.ax.cell 1;have b0:=uj.out.cell 0;have b1:=uj.out.cell 1
   simp only[za,zb,zf]at a0 a1 b0 b1;have vh:((m:Int)==1000)=false:=by simp;omega
   have hlk0:=hK3.out.look (t:=83) (et:=4) Tryz.underlying83 (z:=.bool false) (by kernel_rfl) s6.out ⟨xa,xn⟩ hxf;have mt:∀ a' n',a'=xa->n'=xn->(Instr.lookup 83 (.map (some (q+1))) (.agg #[.int .i64 a',.int .i64 n']) false).run Tryz.prog W3=.ok (.bool (decide ((⟨xa,xn⟩:IdR)∈acc))) W3:=by
    intro a' n' e1 e2;rw[e1,e2];refine hlk0.trans ?_;by_cases h:(⟨xa,xn⟩:IdR)∈acc <;> simp[h]
   have HD:Hid (∀ d,(d=true↔((⟨xa,xn⟩:IdR)=id0\/(⟨xa,xn⟩:IdR)∈acc))->acc'=if d then acc else acc++[⟨xa,xn⟩]):=zh (by
    intro d hd;rw[vg.out,kU];cases d
    ·rw[if_neg (fun h=>by have:=hd.2 h;cases this)];rfl
    rw[if_pos (hd.1 rfl)];rfl)
   clear hlk0
   go_upto_region 7 with fail
   go_cut [29] (fun v29 wx=>∃ d:Bool,v29=.bool d/\Hid (d=true↔((⟨xa,xn⟩:IdR)=id0\/(⟨xa,xn⟩:IdR)∈acc))/\Hid (wx=W3))
   case first=>
    by_cases hxa:xa=0
    ·subst hxa;by_cases hxn:xn=0
     ·subst hxn
      go_wp2_with fail
      go_meet
      exact⟨true,rfl,zh (by simp),zh rfl⟩
     have hxb:(xn==0)=false:=by simpa using hxn
     have hid:¬ (⟨0,xn⟩:IdR)=id0:=fun h=>hxn (congrArg IdR.n h)
     clear hxn
     go_wp2_with fail
     all_goals go_meet
     all_goals exact⟨_,rfl,zh (by simp[hid]),zh rfl⟩
    have hxb:(xa==0)=false:=by simpa using hxa
    have hid:¬ (⟨xa,xn⟩:IdR)=id0:=fun h=>hxa (congrArg IdR.a h)
    clear hxa
    go_wp2_with fail
    all_goals go_meet
    all_goals exact⟨_,rfl,zh (by simp[hid]),zh rfl⟩
   case rest=>
    obtain⟨d,rfl,hd,hw⟩:=hcut;obtain rfl:=hw.out;clear hw mt;have el:=HD.out d hd.out;cases d
    ·rw[if_neg (by decide)]at el;have hin:¬ (⟨xa,xn⟩:IdR)∈acc:=fun h=>by have:=hd.out.2 (.inr h);cases this
     obtain⟨W4,ap,hK4,re⟩:=hK3.out.put (t:=83) (et:=4) Tryz.underlying83 s6.out ⟨xa,xn⟩ hxf hin (.bool true) rfl;dsimp only[idV]at ap;clear hd HD hin
     go_upto_region 9 with fail
     clear a0 a1 b0 b1;have m5:=re.kp;have hL4:Lies W4 bx 34 #[.int .i64 xa,.int .i64 xn]:=m5.lies uj.out (by simp;omega);have hX4:Lies W4 q 82 #[.slice A1 m cap1,.slice A2 m cap2,.map none,.slice none 0 0,.slice none 0 0]:=m5.lies tg.out.ax (by simp);have hR1:W4.ownsRow (q+2) 34 2 (.slice A1 m cap1) m (bL acc):=dQ (hle ▸ tg.out.r1) m5 (fun g hg=>by have:=(bH tg.out.r1 g hg).1;simp;omega);have vi:W4.ownsRow (q+2) 4 1 (.slice A2 m cap2) m (List.replicate m (.bool true)):=dQ (hle ▸ tg.out.r2) m5 (fun g hg=>by have:=(bH tg.out.r2 g hg).1;simp;omega);have o8:=zh (hB3.out.trans ((m5.below (B:=q) (by simp) (by have:=hZ3.out;omega))));have HY:Hid (∀ g,(Value.slice A1 m cap1).ownBlock=some g->g∈q::(Value.slice A1 m cap1).ownBlock.toList):=zh (fun g hg=>by rw[hg];simp);have HL4:=zh hL4;have HX4:=zh hX4;have dr:=zh hR1;have c6:=zh vi;have ke:=zh hK4
     have HZ4:Hid (q+2<=W4.heap.size):=zh (by rw[re.size];exact hZ3.out);clear ap re m5 hL4 hX4 hR1 vi hK4 tg hK3 hB3 uj hZ3;have ay:bx≠q:=by omega
     have hbY:Hid (bx∉q::(Value.slice A1 m cap1).ownBlock.toList):=zh (fun h=>by
      rcases ym.1 h with h|h
      ·exact ay h
      have:=hbo.out bx (by simpa using h);omega)
     go_cut [39] (fun v39 wx=>∃ v1',Hid (Lies wx q 82 #[v1',.slice A2 m cap2,.map none,.slice none 0 0,.slice none 0 0])/\Hid (wx.ownsRow (q+2) 34 2 v1' (m+1) (bL acc++[.int .i64 xa,.int .i64 xn]))/\Hid (Kp (q::(Value.slice A1 m cap1).ownBlock.toList) W4 wx))
     case first=>
      obtain⟨TT,ae⟩:∃ TT:List (Nat×Nat×Value),TT=[(0,32,.pointer (some ⟨q,0,none⟩)),(1,33,.pointer (some ⟨q,0,none⟩)),(2,34,.pointer (some ⟨q,0,none⟩)),(3,35,.pointer (some ⟨q,0,none⟩)),(4,36,.slice A1 m cap1),(5,37,.agg #[.int .i64 xa,.int .i64 xn]),(8,40,.pointer (some ⟨q,0,none⟩)),(9,41,.pointer (some ⟨q,0,none⟩))]:=⟨_,rfl⟩
      have am:=zh ae;clear ae;refine fH (by kernel_rfl) (by kernel_rfl) (fun a0=>53<=a0.tmps.size/\a0.eval (.tmp 3)=.pointer (some ⟨q,0,none⟩)/\a0.eval (.tmp 6)=.pointer (some ⟨bx,0,none⟩)) (GA [32,33,34,35,36,37,38,39,40,41] TT (q::(Value.slice A1 m cap1).ownBlock.toList) W4 4 6 38 7 39 10 q 0 34 82 #[.slice A1 m cap1,.slice A2 m cap2,.map none,.slice none 0 0,.slice none 0 0] (q+2) 2 m (.slice A1 m cap1) (bL acc) [.int .i64 xa,.int .i64 xn]) ⟨by simp,rfl,rfl⟩ (GA.start _ _ (Kp.refl _ _).drew dr.out HX4.out) ?_ ?_
      ·rintro a0 ⟨hs,j0,mu⟩ zl a1 w1 j o bg hI aa ho zd;have ae:=am.out;subst ae;have hk:GAk [32,33,34,35,36,37,38,39,40,41] [(0,32,.pointer (some ⟨q,0,none⟩)),(1,33,.pointer (some ⟨q,0,none⟩)),(2,34,.pointer (some ⟨q,0,none⟩)),(3,35,.pointer (some ⟨q,0,none⟩)),(4,36,.slice A1 m cap1),(5,37,.agg #[.int .i64 xa,.int .i64 xn]),(8,40,.pointer (some ⟨q,0,none⟩)),(9,41,.pointer (some ⟨q,0,none⟩))] (q::(Value.slice A1 m cap1).ownBlock.toList) 6 38 7 39 10 q 34 82 (.slice A1 m cap1) 53:=⟨rfl,by decide,HY.out,.head _⟩
       have hj:=Up.of_false aa;have hj12:j<11:=by rw[bg]at hj;exact hj
       have e3x:a1.eval (.tmp 3)=.pointer (some ⟨q,0,none⟩):=(hI.off.eval (by decide)).trans j0;have e6x:a1.eval (.tmp 6)=.pointer (some ⟨bx,0,none⟩):=(hI.off.eval (by decide)).trans mu;rcases(by omega:j=0\/j=1\/j=2\/j=3\/j=4\/j=5\/j=6\/j=7\/j=8\/j=9\/j=10) with rfl|rfl|rfl|rfl|rfl|rfl|rfl|rfl|rfl|rfl|rfl<;>obtain rfl:=oi ho
       ·exact bZ hk hI hs (.head _) aa ho rfl rfl (by simp[execOp,go_sem,aE e3x])
       ·exact bZ hk hI hs (.tail _ (.head _)) aa ho rfl rfl (by simp[execOp,go_sem,aE e3x])
       ·have d1:=ud zd 1;have p1:=pk hI.pt 1 rfl d1;exact bZ hk hI hs (mm 2 rfl) aa ho rfl rfl (by simp[execOp,go_sem,aE p1])
       ·have d2:=ud zd 2;have p2:=pk hI.pt 2 rfl d2;exact bZ hk hI hs (mm 3 rfl) aa ho rfl rfl (by simp[execOp,go_sem,aE p2])
       ·have d3:=ud zd 3;have p3:=pk hI.pt 3 rfl d3;have c0:=(hI.unl aa).cell 0;simp only[za,zb]at c0;exact bZ hk hI hs (mm 4 rfl) aa ho rfl rfl (by simp[execOp,go_sem,aE p3,c0])
       ·have hLb:=hI.kp.lies HL4.out hbY.out;have l0:=hLb.cell 0;have l1:=hLb.cell 1;simp only[za,zb,zf]at l0 l1;exact bZ hk hI hs (mm 5 rfl) aa ho rfl rfl (by simp[execOp,go_sem,aE e6x,l0,l1])
       ·have d5:=ud zd 5;have p5:=pk hI.pt 5 rfl d5;exact sP hk hI hs aa ho rfl rfl (by simp[execOp,go_sem,aE p5])
       ·have d4:=ud zd 4;have p4:=pk hI.pt 4 rfl d4;have d6:=ud zd 6;obtain⟨i1,gi,gz0,gz1,gz2⟩:=info_parts xJ;exact uCZ hk hI hs aa ho rfl rfl d4 d6 22 36 rfl p4 i1 (.agg #[.int .i64 0,.int .i64 0]) 16 Tryz.underlying22 gi gz0 gz1 gz2 rfl (by decide) rfl (by intro u hu;simp at hu;rcases hu with rfl|rfl <;> rfl) (by unfold maxLen;omega) (by omega) (yv HZ4.out hI.kp.size)
       ·have d0:=ud zd 0;have p0:=pk hI.pt 0 rfl d0;exact bZ hk hI hs (mm 6 rfl) aa ho rfl rfl (by simp[execOp,go_sem,aE p0])
       ·have d8:=ud zd 8;have p8:=pk hI.pt 6 rfl d8;exact bZ hk hI hs (mm 7 rfl) aa ho rfl rfl (by simp[execOp,go_sem,aE p8])
       have d9:=ud zd 9;have p9:=pk hI.pt 7 rfl d9;have d7:=ud zd 7;exact sQ hk hI aa ho rfl rfl d7 (fun hL jw=>by
        obtain⟨gs,cs,jw⟩:=jw;have c0:=hL.cell 0;have k0:=hL.frozen 0;simp at c0;rw[jw];simp[execOp,go_sem,aE p9,aE jw,c0,k0])
      intro zl a1 w1 hI ap;have ae:=am.out;subst ae;have gy:=hI.kp;have aj:=hI.o2 (ap 7 (by decide));have j1:=(hI.b2 (ap 10 (by decide))).2;obtain⟨ff,rfl,hf⟩:=hI.off.forms;rw[<- hf 39]at aj j1;clear hI;generalize ff 39=v' at *;simp only[List.foldl,Act.put,yz,List.set];simp only[Exit.then]
      go_step
      go_meet
      exact⟨v',zh j1,zh aj,zh gy⟩
     case rest=>
      obtain⟨v1',nj,ni,jq⟩:=hcut;obtain⟨A1',o9,rfl⟩:=cS ni.out;have ky:=zh (dQ c6.out jq.out (fun g hg=>by
       intro hm;rcases ym.1 hm with h|h
       ·subst h;exact eE (by decide) c6.out HX4.out hg.symm
       exact jG (by decide) c6.out dr.out g hg (by simpa using h)))
      have HK52:=zh (ke.out.at (jq.out.block (q+1) ke.out.lt (fun hm=>by
       rcases ym.1 hm with h|h
       ·omega
       have:=(bH dr.out (q+1) (by simpa using h)).1;omega)))
      have de:=zh (o8.out.trans (jq.out.below (B:=q) (fun g hg=>by
       rcases ym.1 hg with h|h
       ·omega
       have:=(bH dr.out g (by simpa using h)).1;omega) (by have:=HZ4.out;omega)))
      have rs:Hid (q+2<=wc.heap.size):=zh (yv HZ4.out jq.out.size);clear HX4 dr c6 ke jq HL4 o8 HZ4 HY hbY;have x1:=nj.out.cell 1;have f1:=nj.out.frozen 1;simp only[za,zb,zf]at x1;have hqz:q<wc.heap.size:=by have:=rs.out;omega
      obtain⟨i1,gi,gz0,gz1,gz2⟩:=info_parts sS
      go_wp2_with (at_builtin;refine wpList_append_own _ rfl _ _ 78 rfl (q+2) 4 i1 (.bool false) 1 1 Tryz.underlying78 gi gz0 gz1 gz2 rfl (by decide) _ _ _ rfl (World.ownsRow.alloc ky.out _) ⟨wc.heap.size,0,none⟩ 1 1 [.bool true] rfl rfl ?c1 ?c2 ?c3 ?c4 ?c5 ?_)
      case c1=>
       intro j u hj
       match j,hj with
       |0,hj=>simp at hj;subst hj;simp[Addr.add]
      case c2=>intro u hu;simp at hu;subst hu;rfl
      case c3=>unfold maxLen;omega
      case c4=>omega
      case c5=>have:=rs.out;rw[World.size_alloc];omega
      intro v2' W6 du cu _;obtain⟨A2',pf,rfl⟩:=cS du;have kl:wc.grownBy W6 (Value.slice A2 m cap2).ownBlock:=(World.grownBy_alloc wc _ _).trans cu;have ti:=zh (nj.out.grownA kl (eE (by decide) ky.out nj.out));have HR6:=zh (World.ownsRow.kept ni.out kl (by
       cases hv:(Value.slice A1' (m+1) o9).ownBlock with
       |none=>exact .inl rfl
       |some g=>exact .inr (fun e=>jG (by decide) ni.out ky.out g hv e.symm)))
      have HR62:=zh du;have iv:=zh (HK52.out.at (kl.block (q+1) HK52.out.lt (fun e=>by have:=(bH ky.out (q+1) e.symm).1;omega)));have tj:=zh (de.out.grown kl (by have:=rs.out;omega) (fun g hg=>by have:=(bH ky.out g hg).1;omega));have HZ6:Hid (q+2<=W6.heap.size):=zh (yv rs.out kl.size);clear kl cu du nj ni ky HK52 de rs x1 f1 hqz;have x1:=ti.out.cell 1;have f1:=ti.out.frozen 1;simp only[za,zb,zf]at x1
      go_wp2_with fail
      go_roundw
      case rel=>
       refine⟨k+1,.slice A1' (m+1) o9,.slice A2' (m+1) pf,by go_num,by omega,zh ⟨ti.out.put 1 _,?_,?_⟩,zh ?_,zh (tj.out.setCell (p:=⟨q,1,none⟩) (Nat.le_refl q) _),zh (by rw[World.size_setCell];exact HZ6.out)⟩
       ·rw[jz.out,el,lD,yl,hle];exact mQ (by decide) HR6.out ti.out 1 _
       ·rw[jz.out,el,yl,hle];have h:=mQ (by decide) HR62.out ti.out 1 (.slice A2' (m+1) pf);rw[<- List.replicate_succ']at h;exact h
       rw[jz.out,el];exact iv.out.at (Below.heap_setCell _ _ _ _ (by show q+1≠q;omega))
      case measure=>simp[intOf];omega
    rw[if_pos rfl]at el
    go_wp2_with fail
    go_roundw
    case rel=>exact⟨k+1,_,_,by go_num,by omega,by rw[jz.out,el];exact tg,by rw[jz.out,el];exact hK3,hB3,hZ3⟩
    case measure=>simp[intOf];omega
  obtain rfl:k=n:=by omega
  rw[HN.out,rq.out]at hM
  go_wp2_with fail
  go_ret
  exact⟨v1,v2,by rw[HQ.out];rfl,by rw[HQ.out];exact hM.out,by rw[HQ.out];exact hB.out⟩
end Go.Proofs.YtmgjidnalpgegaaGreatDoor
