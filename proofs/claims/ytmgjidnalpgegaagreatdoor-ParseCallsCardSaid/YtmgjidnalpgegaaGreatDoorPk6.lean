/-
  Lemmas, part 6: Par0 Ax1 Ax2 Ax3 Ax4.
-/
import Derived.Laws.AppendOwn
import Derived.Laws.EntriesVeiled
import Derived.DeepKeys4
import Derived.WideKeyArgs2
import Derived.MapViews
import Derived.Laws.MakeOwn
import Derived.Test.YtmgjidnalpgegaaGreatDoorPk5
set_option maxHeartbeats 100000000
namespace Go.Proofs.YtmgjidnalpgegaaGreatDoor
open Go.RowKit
structure Kp(Y:List Nat)(w w':World):Prop where
 os:w'.os=w.os
 tape:w'.tape=w.tape
 output:w'.output=w.output
 size:w.heap.size<=w'.heap.size
 block:∀ k,k<w.heap.size->k∉Y->w'.heap[k]?=w.heap[k]?
theorem Kp.refl(Y:List Nat)(w:World):Kp Y w w:=⟨rfl,rfl,rfl,zr,fun _ _ _=>rfl⟩
theorem Kp.trans{Y:List Nat}{a b c:World}(h:Kp Y a b)(k:Kp Y b c):Kp Y a c :=
 ⟨k.os.trans h.os,k.tape.trans h.tape,k.output.trans h.output,yv h.size k.size,fun i hi hn=>(k.block i (yu hi h.size) hn).trans (h.block i hi hn)⟩
theorem Kp.mono{Y Z:List Nat}{a b:World}(h:Kp Y a b)(hs:∀ k∈Y,k<a.heap.size->k∈Z):Kp Z a b :=
 ⟨h.os,h.tape,h.output,h.size,fun i hi hn=>h.block i hi (fun hm=>hn (hs i hm hi))⟩
theorem Kp.of_below{Y:List Nat}{a b:World}(h:Below a.heap.size a b):Kp Y a b:=⟨h.os,h.tape,h.output,h.size,fun i hi _=>h.block i hi⟩
theorem Kp.below{Y:List Nat}{a b:World}{B:Nat}(h:Kp Y a b)(hB:∀ k∈Y,B<=k)(hs:B<=a.heap.size):Below B a b :=
 ⟨h.os,h.tape,h.output,h.size,fun i hi=>h.block i (yu hi hs) (fun hm=>absurd (hB i hm) (by omega))⟩
theorem Kp.alloc{Y:List Nat}{a b:World}(h:Kp Y a b)(o:Obj):Kp Y a (b.alloc o):=h.trans (Kp.of_below ((Below.refl _ b).alloc zr o))
theorem Kp.drew{Y:List Nat}{a b:World}(h:Kp Y a b):Kp Y a b.drew:=h.trans (Kp.of_below (Below.refl _ b).drew)
theorem Kp.set{Y:List Nat}{a b:World}(h:Kp Y a b){r:Nat}(hr:r∈Y\/a.heap.size<=r)(i:Nat)(u:Value):Kp Y a (b.setCell ⟨r,i,none⟩ u) :=
 ⟨h.os,h.tape,h.output,by rw[World.size_setCell];exact h.size,fun k hk hn=>(Below.heap_setCell b ⟨r,i,none⟩ u k (fun e=>by
  have e':k=r:=e;rcases hr with hr|hr
  ·exact hn (e' ▸ hr)
  omega)).trans (h.block k hk hn)⟩
theorem Kp.grown{Y:List Nat}{a b c:World}(h:Kp Y a b){row:Option Nat}(hg:b.grownBy c row)(hr:∀ g,row=some g->g∈Y\/a.heap.size<=g):Kp Y a c :=
 ⟨hg.os.trans h.os,hg.tape.trans h.tape,hg.output.trans h.output,yv h.size hg.size,fun k hk hn=>(hg.block k (yu hk h.size) (fun e=>by
  rcases hr k e.symm with h1|h1
  ·exact hn h1
  omega)).trans (h.block k hk hn)⟩
theorem Kp.andThen{Y Z:List Nat}{a b c:World}(h:Kp Y a b)(k:Kp Z b c)(hz:∀ g∈Z,g∈Y\/a.heap.size<=g):Kp Y a c :=
 ⟨k.os.trans h.os,k.tape.trans h.tape,k.output.trans h.output,yv h.size k.size,fun i hi hn=>(k.block i (yu hi h.size) (fun hm=>by
  rcases hz i hm with h1|h1
  ·exact hn h1
  omega)).trans (h.block i hi hn)⟩
theorem Kp.lies{Y:List Nat}{a b:World}(h:Kp Y a b){g:Nat}{t:TypeId}{cs:Array Value}(hl:Lies a g t cs)(hn:g∉Y):Lies b g t cs:=(h.block g hl.lt hn).trans hl
theorem Kp.cell{Y:List Nat}{a b:World}(h:Kp Y a b){g i:Nat}(hg:g<a.heap.size)(hn:g∉Y):b.cell? ⟨g,i,none⟩=a.cell? ⟨g,i,none⟩:=World.cell?_of_block (w:=a) (a:=⟨g,i,none⟩) (h.block g hg hn)
structure Only(m:Nat)(w w':World):Prop where
 os:w'.os=w.os
 tape:w'.tape=w.tape
 output:w'.output=w.output
 size:w'.heap.size=w.heap.size
 block:∀ k,k≠m->w'.heap[k]?=w.heap[k]?
theorem Only.kp{m:Nat}{w w':World}(h:Only m w w'):Kp [m] w w':=⟨h.os,h.tape,h.output,by rw[h.size];exact zr,fun k _ hn=>h.block k (fun e=>hn (by rw[e];exact .head _))⟩
def gY(ops:Array Oper):Bool:=(List.range ops.size).all fun i=>((ops[i]?).map fun o=>o.after.all fun e=>!Region.binds .any e||decide (e.on<i)).getD true
theorem jT{ops:Array Oper}(h:gY ops=true){i:Nat}{o:Oper}(ho:ops[i]?=some o):∀ e∈o.after,Region.binds .any e=true->e.on<i:=by
 intro e he hb;have hlt:i<ops.size:=(zk.1 ho).1;have:=List.all_eq_true.1 h i (yg.2 hlt);rw[ho]at this;simp only[Option.map_some,Option.getD_some,Array.all_eq_true_iff_forall_mem]at this;have h1:=this e he;rw[hb]at h1;exact of_decide_eq_true h1
theorem uHD{ops:Array Oper}(hb:gY ops=true){zl:Array Bool}(hs:zl.size=ops.size)(hr:Region.ready .any ops zl=[]):∀ i,i<ops.size->Up zl i:=by
 intro i
 induction i using Nat.strongRecOn with
 |_ i ih=>
  intro hi;cases hu:zl.getD i true
  ·exfalso
   have ho:ops[i]?=some ops[i]:=Array.getElem?_eq_getElem hi;have:i∈Region.ready .any ops zl:=mem_ready.2 ⟨hu,ops[i],ho,fun e he hd=>ih e.on (jT hb ho e he hd) (Nat.lt_trans (jT hb ho e he hd) hi)⟩;rw[hr]at this;cases this
  have hi':i<zl.size:=by omega
  unfold Up;simp only[Array.getD_eq_getD_getElem?,Array.getElem?_eq_getElem hi',Option.getD_some]at hu ⊢;exact hu
theorem wD{P:Program}{ops:Array Oper}{Q:Exit->Act->World->Prop}(hb:gY ops=true)(I:Array Bool->Act->World->Prop)
  (bw:∀ zl a w i o,zl.size=ops.size->I zl a w->zl.getD i true=false->ops[i]?=some o->(∀ e∈o.after,Region.binds .any e=true->Up zl e.on)->wpOp P ops Q i (I (zl.setIfInBounds i true)) a w)
  (c9:∀ zl a w,I zl a w->(∀ i,i<ops.size->Up zl i)->Q .normal a w) :
  ∀ (fuel:Nat) (zl:Array Bool) (a:Act) (w:World),zl.size=ops.size->left zl<=fuel->I zl a w->wpAny P .any ops Q fuel zl a w
 |0,zl,a,w,hs,hf,hI=>by
  have hr:Region.ready .any ops zl=[]:=by
   refine List.eq_nil_iff_forall_not_mem.2 (fun i hi=>?_);have h1:=(mem_ready.1 hi).1;rw[xH (by omega) i]at h1;cases h1
  exact⟨hr,c9 zl a w hI (uHD hb hs hr)⟩
 |fuel+1,zl,a,w,hs,hf,hI=>by
  refine⟨fun hr=>c9 zl a w hI (uHD hb hs hr),fun i hi=>?_⟩;obtain⟨h1,o,ho,zd⟩:=mem_ready.1 hi;refine wpOp_mono (fun a' w' h'=>wD hb I bw c9 fuel _ a' w' (by rw[Array.size_setIfInBounds];exact hs) (by have:=uI h1;omega) h') (bw zl a w i o hs hI h1 ho zd)
theorem gC{P:Program}{ops:Array Oper}{Q:Exit->Act->World->Prop}{id:Nat}{a:Act}{w:World}(hm:P.follows .mixedOrders=true)(hb:gY ops=true)(F:Act->Prop)(I:Act->Array Bool->Act->World->Prop)(hF:F a)
  (h0:I a (Array.replicate ops.size false) a w.drew)
  (bw:∀ a0,F a0->∀ zl a w i o,zl.size=ops.size->I a0 zl a w->zl.getD i true=false->ops[i]?=some o->(∀ e∈o.after,Region.binds .any e=true->Up zl e.on)->wpOp P ops Q i (I a0 (zl.setIfInBounds i true)) a w)
  (c9:∀ zl a' w',I a zl a' w'->(∀ i,i<ops.size->Up zl i)->Q .normal a' w'):(Code.region id ops true).wp P Q a w :=
 wp_region_any hm (wD hb (I a) (bw a hF) c9 ops.size _ a _ (by simp) (by rw[nH];exact zr) h0)
theorem gT{w:World}{b n sz:Nat}{te tb:TypeId}(ht:te≠tb){v:Value}{xs:List Value}(h:w.ownsRow b te sz v n xs){bx:Nat}{cs:Array Value}(hl:Lies w bx tb cs):some bx≠v.ownBlock:=fun e=>by
 rcases h.2 with⟨rfl,_⟩|⟨g,cap,cur,rfl,_,hg,_⟩
 ·simp[Value.ownBlock]at e
 simp[Value.ownBlock]at e;subst e;unfold Lies at hl;rw[hg]at hl;injection hl with hl;injection hl with _ hl _;exact ht hl
theorem nY{w:World}{b n sz:Nat}{te tb:TypeId}(ht:te≠tb){v:Value}{xs:List Value}(h:w.ownsRow b te sz v n xs){bx:Nat}{cs:Array Value}(hl:Lies w bx tb cs)(i:Nat)(u:Value):(w.setCell ⟨bx,i,none⟩ u).ownsRow b te sz v n xs:=by
 have hg:w.grownBy (w.setCell ⟨bx,i,none⟩ u) (some bx):=⟨rfl,rfl,rfl,by rw[World.size_setCell];exact zr,fun j _ bp=>Below.heap_setCell w ⟨bx,i,none⟩ u j (fun e=>bp (congrArg some e))⟩
 exact World.ownsRow.kept h hg (.inr (fun e=>gT ht h hl e.symm))
theorem Lies.grownA{w w':World}{g:Nat}{t:TypeId}{cs:Array Value}{row:Option Nat}(h:Lies w g t cs)(hg:w.grownBy w' row)(hr:some g≠row):Lies w' g t cs:=(hg.block g h.lt hr).trans h
theorem aK{w:World}{g:Nat}{t:TypeId}{cs:Array Value}(h:Lies w g t cs){b:Nat}(hb:g≠b)(i:Nat)(u:Value):Lies (w.setCell ⟨b,i,none⟩ u) g t cs:=(Below.heap_setCell w ⟨b,i,none⟩ u g hb).trans h
structure GA(S:List Nat)(T:List (Nat×Nat×Value))(Y:List Nat)(X:World)(il ib sb ia sa is bx ci:Nat)(te tb:TypeId)(z:Array Value)(base sz n:Nat)(v0:Value)(xs news:List Value)(a0:Act)(zl:Array Bool)(a:Act)(w:World):Prop where
 off:Off S a0 a
 pt:PT T zl a
 kp:Kp Y X w
 dp:Up zl ia->Up zl il/\Up zl ib
 nb:Up zl ib->¬ Up zl ia->∃ g,a.eval (.tmp sb)=.slice (some ⟨g,0,none⟩) 1 1/\Lies w g te news.toArray
 o1:¬ Up zl ia->w.ownsRow base te sz v0 n xs
 o2:Up zl ia->w.ownsRow base te sz (a.eval (.tmp sa)) (n+1) (xs++news)
 b1:¬ Up zl is->Lies w bx tb z
 b2:Up zl is->Up zl ia/\Lies w bx tb (z.setIfInBounds ci (a.eval (.tmp sa)))
def okA(nums:List (Nat×Nat))(S:List Nat)(ib sb ia sa is N:Nat):Bool :=
 nums.all (fun e=>e.2 != sa&&e.2 != sb&&e.1 != ib&&e.1 != ia&&e.1 != is&&S.contains e.2&&decide (e.2<N))&&decide (nums.Pairwise (fun p q=>p.1≠q.1/\p.2≠q.2))&&ib != ia&&ib != is&&ia != is&&sa != sb&&S.contains sa&&S.contains sb&&decide (sa<N)&&decide (sb<N)
structure GAk(S:List Nat)(T:List (Nat×Nat×Value))(Y:List Nat)(ib sb ia sa is bx:Nat)(te tb:TypeId)(v0:Value)(N:Nat):Prop where
 num:okA (T.map fun e=>(e.1,e.2.1)) S ib sb ia sa is N=true
 ty:te≠tb
 row:∀ g,v0.ownBlock=some g->g∈Y
 box:bx∈Y
section
variable {S:List Nat} {T:List (Nat×Nat×Value)} {Y:List Nat} {X w:World} {il ib sb ia sa is bx ci:Nat} {te tb:TypeId} {z:Array Value} {base sz n N:Nat} {v0:Value} {xs news:List Value} {a0 a:Act} {zl:Array Bool} {ops:Array Oper} {Q:Exit->Act->World->Prop} {o:Oper}
theorem GAk.parts(hk:GAk S T Y ib sb ia sa is bx te tb v0 N):(∀ e∈T,e.2.1≠sa/\e.2.1≠sb/\e.1≠ib/\e.1≠ia/\e.1≠is/\e.2.1∈S/\e.2.1<N)/\T.Pairwise (fun p q=>p.1≠q.1/\p.2.1≠q.2.1)/\(ib≠ia/\ib≠is/\ia≠is/\sa≠sb/\sa∈S/\sb∈S/\sa<N/\sb<N):=by
 have hn:=hk.num;simp only[okA,yh,List.all_eq_true,bne_iff_ne,decide_eq_true_eq,List.contains_iff_mem,List.pairwise_map,yj,forall_exists_index,and_imp,forall_apply_eq_imp_iff₂]at hn;obtain⟨⟨⟨⟨⟨⟨⟨⟨⟨h1,h2⟩,h3⟩,h4⟩,h5⟩,h6⟩,h7⟩,h8⟩,h9⟩,uu⟩:=hn;refine⟨fun e he=>?_,h2,h3,h4,h5,h6,h7,h8,h9,uu⟩;obtain⟨⟨⟨⟨⟨⟨g1,g2⟩,g3⟩,g4⟩,g5⟩,g6⟩,g7⟩:=h1 e he;exact⟨g1,g2,g3,g4,g5,g6,g7⟩
theorem GAk.row_of(hk:GAk S T Y ib sb ia sa is bx te tb v0 N){e:Nat×Nat×Value}(he:e∈T):e.2.1≠sa/\e.2.1≠sb/\e.1≠ib/\e.1≠ia/\e.1≠is/\e.2.1∈S/\e.2.1<N:=hk.parts.1 e he
theorem GAk.ne(hk:GAk S T Y ib sb ia sa is bx te tb v0 N):ib≠ia/\ib≠is/\ia≠is/\sa≠sb/\sa∈S/\sb∈S/\sa<N/\sb<N:=hk.parts.2.2
theorem GAk.uniq(hk:GAk S T Y ib sb ia sa is bx te tb v0 N){e e':Nat×Nat×Value}(he:e∈T)(gb:e'∈T)(hs:e.1=e'.1\/e.2.1=e'.2.1):e=e':=by
 by_cases heq:e=e'
 ·exact heq
 exfalso
 have h2:=hk.parts.2.1;have key:∀ l:List (Nat×Nat×Value),l.Pairwise (fun p q=>p.1≠q.1/\p.2.1≠q.2.1)->∀ x∈l,∀ y∈l,x≠y->x.1≠y.1/\x.2.1≠y.2.1:=by
  intro l
  induction l with
  |nil=>intro _ x hx;cases hx
  |cons c l ih=>
   intro hp x hx y hy bp;rw[List.pairwise_cons]at hp;rcases ym.1 hx with ex|hx <;> rcases ym.1 hy with ey|hy
   ·exact absurd (ex.trans ey.symm) bp
   ·rw[ex];exact hp.1 y hy
   ·rw[ey];exact⟨fun e=>(hp.1 x hx).1 e.symm,fun e=>(hp.1 x hx).2 e.symm⟩
   exact ih hp.2 x hx y hy bp
 have:=key T h2 e he e' gb heq;rcases hs with hs|hs
 ·exact this.1 hs
 exact this.2 hs
theorem GA.unl(hI:GA S T Y X il ib sb ia sa is bx ci te tb z base sz n v0 xs news a0 zl a w)(aa:zl.getD il true=false):Lies w bx tb z :=
 hI.b1 (fun h=>iK aa (hI.dp (hI.b2 h).1).1)
theorem GA.start(a:Act)(m:Nat)(hk:Kp Y X w)(ho:w.ownsRow base te sz v0 n xs)(hl:Lies w bx tb z):GA S T Y X il ib sb ia sa is bx ci te tb z base sz n v0 xs news a (Array.replicate m false) a w :=
 ⟨Off.refl _ _,PT.start _ _ _,hk,fun h=>absurd h (Up.none _ _),fun h=>absurd h (Up.none _ _),fun _=>ho,fun h=>absurd h (Up.none _ _),fun _=>hl,fun h=>absurd h (Up.none _ _)⟩
theorem cG(hk:GAk S T Y ib sb ia sa is bx te tb v0 N)(hI:GA S T Y X il ib sb ia sa is bx ci te tb z base sz n v0 xs news a0 zl a w)(hN:N<=a0.tmps.size){i s:Nat}{v:Value}(he:(i,s,v)∈T)(aa:zl.getD i true=false)(ho:ops[i]?=some o)(hg:o.guard=none)(hd:o.dst=some s)
  (hr:(execOp a.eval o).run Tryz.prog w=.ok (.value v) w):wpOp Tryz.prog ops Q i (GA S T Y X il ib sb ia sa is bx ci te tb z base sz n v0 xs news a0 (zl.setIfInBounds i true)) a w:=by
 have hi:=Up.of_false aa;obtain⟨h1,h2,h3,h4,h5,h6,h7⟩:=hk.row_of he;refine gX ho hg (oC v hr ?_);rw[hd];have jz:∀ {k},k≠i->(Up (zl.setIfInBounds i true) k↔Up zl k):=fun bp=>⟨fun h=>kJ hi h bp,fun h=>eP hi h⟩
 have ea:(a.put (some s) v).eval (.tmp sa)=a.eval (.tmp sa):=kP _ _ h1;have eb:(a.put (some s) v).eval (.tmp sb)=a.eval (.tmp sb):=kP _ _ h2;refine⟨hI.off.put h6 v,hI.pt.step hi (by rw[hI.off.size];exact yu h7 hN) (fun e' gb hs=>by rw[hk.uniq gb he (.inr hs)]) (fun e' gb hs=>by rw[hk.uniq gb he (.inl hs)]),hI.kp,fun h=>⟨eP hi (hI.dp (kJ hi h (Ne.symm h4))).1,eP hi (hI.dp (kJ hi h (Ne.symm h4))).2⟩,?_,?_,?_,?_,?_⟩
 ·rw[eb,jz (Ne.symm h3),jz (Ne.symm h4)];exact hI.nb
 ·rw[jz (Ne.symm h4)];exact hI.o1
 ·rw[ea,jz (Ne.symm h4)];exact hI.o2
 ·rw[jz (Ne.symm h5)];exact hI.b1
 rw[ea,jz (Ne.symm h5),jz (Ne.symm h4)];exact hI.b2
theorem uB(hk:GAk S T Y ib sb ia sa is bx te tb v0 N)(hI:GA S T Y X il ib sb ia sa is bx ci te tb z base sz n v0 xs news a0 zl a w)(hN:N<=a0.tmps.size)(aa:zl.getD ib true=false)(ho:ops[ib]?=some o)(hg:o.guard=none)(hd:o.dst=some sb)
  (hr:(execOp a.eval o).run Tryz.prog w=.ok (.value (.slice (some ⟨w.heap.size,0,none⟩) 1 1)) (w.alloc (.cells news.toArray te))):wpOp Tryz.prog ops Q ib (GA S T Y X il ib sb ia sa is bx ci te tb z base sz n v0 xs news a0 (zl.setIfInBounds ib true)) a w:=by
 have hi:=Up.of_false aa;have hna:¬ Up zl ia:=fun h=>iK aa (hI.dp h).2
 obtain⟨n1,n2,n3,n4,n5,n6,n7,n8⟩:=hk.ne;refine gX ho hg (oC _ hr ?_);rw[hd];have jz:∀ {k},k≠ib->(Up (zl.setIfInBounds ib true) k↔Up zl k):=fun bp=>⟨fun h=>kJ hi h bp,fun h=>eP hi h⟩
 have ea:(a.put (some sb) (.slice (some ⟨w.heap.size,0,none⟩) 1 1)).eval (.tmp sa)=a.eval (.tmp sa):=kP _ _ (Ne.symm n4);have hs:sb<a.tmps.size:=by rw[hI.off.size];omega
 refine⟨hI.off.put n6 _,hI.pt.step hi hs (fun e' gb rh=>absurd rh (hk.row_of gb).2.1) (fun e' gb rh=>absurd rh (hk.row_of gb).2.2.1),hI.kp.alloc _,fun h=>absurd (kJ hi h (Ne.symm n1)) hna,?_,?_,?_,?_,?_⟩
 ·exact fun _ _=>⟨w.heap.size,jD _ _ hs,Lies.new _ _ _⟩
 ·rw[jz (Ne.symm n1)];exact fun h=>World.ownsRow.alloc (hI.o1 h) _
 ·rw[jz (Ne.symm n1)];exact fun h=>absurd h hna
 ·rw[jz (Ne.symm n2)];exact fun h=>(hI.b1 h).alloc _
 rw[jz (Ne.symm n2)];exact fun h=>absurd (hI.b2 h).1 hna
theorem uET(hk:GAk S T Y ib sb ia sa is bx te tb v0 N)(hI:GA S T Y X il ib sb ia sa is bx ci te tb z base sz n v0 xs news a0 zl a w)(hN:N<=a0.tmps.size)(aa:zl.getD ia true=false)(ho:ops[ia]?=some o)(hg:o.guard=none)(hd:o.dst=some sa)(uw:Up zl il)(hb:Up zl ib)
  (t:TypeId) (so:Nat) (rl:o.op=.call { callee:=.builtin .append,args:=#[.tmp so,.tmp sb],argTypes:=#[t,t] }) (hv:a.eval (.tmp so)=v0)
  (i0:TypeInfo) (zv:Value) (bytes:Nat) (ht:Tryz.prog.underlying t=some (.slice te)) (hi0:Tryz.prog.info? te=some i0) (hz:i0.zero=some zv) (o4:i0.size=sz) (vt:i0.bytes=bytes) (hzs:zv.cells.size=sz) (bg:0<sz)
  (hl:news.length=sz) (h1:∀ u∈news,u.oneCell'=true) (h63:n+1<=maxLen) (lq:(n+1)*bytes<=140737488355328) (dq:base<=w.heap.size) :
  wpOp Tryz.prog ops Q ia (GA S T Y X il ib sb ia sa is bx ci te tb z base sz n v0 xs news a0 (zl.setIfInBounds ia true)) a w:=by
 have hi:=Up.of_false aa;have hna:=iK aa;have hns:¬ Up zl is:=fun h=>hna (hI.b2 h).1
 obtain⟨n1,n2,n3,n4,n5,n6,n7,n8⟩:=hk.ne;obtain⟨g,e1,hL⟩:=hI.nb hb hna;have al:=hI.o1 hna;refine gX ho hg (wp_append_own w (.tmp so) (.tmp sb) t rl base te i0 zv sz bytes ht hi0 hz o4 vt hzs bg v0 n xs hv al ⟨g,0,none⟩ 1 1 news e1 (by rw[Nat.one_mul];exact hl) (fun j u hj=>?_) h1 h63 lq dq ?_)
 ·have hc:=hL.cell j;rw[za,hj]at hc;have e:(⟨g,0,none⟩:Addr).add j=⟨g,j,none⟩:=by cases j <;> simp[Addr.add]
  rw[e];exact hc
 intro v' w' dm cu _;rw[hd];have jz:∀ {k},k≠ia->(Up (zl.setIfInBounds ia true) k↔Up zl k):=fun bp=>⟨fun h=>kJ hi h bp,fun h=>eP hi h⟩
 have hs:sa<a.tmps.size:=by rw[hI.off.size];omega
 refine⟨hI.off.put n5 _,hI.pt.step hi hs (fun e' gb rh=>absurd rh (hk.row_of gb).1) (fun e' gb rh=>absurd rh (hk.row_of gb).2.2.2.1),hI.kp.grown cu (fun g hg=>.inl (hk.row g hg)),fun _=>⟨eP hi uw,eP hi hb⟩,?_,?_,?_,?_,?_⟩
 ·exact fun _ h=>absurd (oB hi) h
 ·exact fun h=>absurd (oB hi) h
 ·intro _;rw[jD _ _ hs];exact dm
 ·rw[jz (Ne.symm n3)];exact fun h=>(hI.b1 h).grownA cu (gT hk.ty al (hI.b1 h))
 rw[jz (Ne.symm n3)];exact fun h=>absurd h hns
theorem uC(hk:GAk S T Y ib sb ia sa is bx te tb v0 N)(hI:GA S T Y X il ib sb ia sa is bx ci te tb z base sz n v0 xs news a0 zl a w)(aa:zl.getD is true=false)(ho:ops[is]?=some o)(hg:o.guard=none)(hd:o.dst=none)(ha:Up zl ia)
  (hr:Lies w bx tb z->(∃ g c,a.eval (.tmp sa)=.slice (some ⟨g,0,none⟩) (n+1) c)->(execOp a.eval o).run Tryz.prog w=.ok .skip (w.setCell ⟨bx,ci,none⟩ (a.eval (.tmp sa)))):wpOp Tryz.prog ops Q is (GA S T Y X il ib sb ia sa is bx ci te tb z base sz n v0 xs news a0 (zl.setIfInBounds is true)) a w:=by
 have hi:=Up.of_false aa;have hns:=iK aa;obtain⟨n1,n2,n3,n4,n5,n6,n7,n8⟩:=hk.ne;have hl:=hI.b1 hns;have al:=hI.o2 ha;obtain⟨g,c,jx⟩:∃ g c,a.eval (.tmp sa)=.slice (some ⟨g,0,none⟩) (n+1) c:=by
  rcases al.2 with⟨_,h0⟩|⟨g,cap,cur,e,_⟩
  ·omega
  exact⟨g,cap,e⟩
 refine gX ho hg (pH (hr hl ⟨g,c,jx⟩) ?_);rw[hd];show GA S T Y X il ib sb ia sa is bx ci te tb z base sz n v0 xs news a0 _ a _;have jz:∀ {k},k≠is->(Up (zl.setIfInBounds is true) k↔Up zl k):=fun bp=>⟨fun h=>kJ hi h bp,fun h=>eP hi h⟩
 refine⟨hI.off,hI.pt.skip hi (fun e' gb=>(hk.row_of gb).2.2.2.2.1),hI.kp.set (.inl hk.box) _ _,fun _=>⟨eP hi (hI.dp ha).1,eP hi (hI.dp ha).2⟩,?_,?_,?_,?_,?_⟩
 ·rw[jz n3];exact fun _ h=>absurd ha h
 ·rw[jz n3];exact fun h=>absurd ha h
 ·rw[jz n3];exact fun _=>nY hk.ty al hl _ _
 ·exact fun h=>absurd (oB hi) h
 exact fun _=>⟨eP hi ha,hl.put _ _⟩
end
abbrev idV(x:IdR):Value:=.agg #[.int .i64 x.a,.int .i64 x.n]
theorem idV_inj{x y:IdR}(h:idV x=idV y):x=y:=by
 injection h with h1;simp at h1;exact IdR.ext' h1.1 h1.2
set_option maxRecDepth 100000 in
theorem yO(x y:IdR)(w:World):(binOp .eql 34 (idV x) (idV y)).run Tryz.prog w=.ok (.bool (decide (x=y))) w:=by
 obtain⟨a,n⟩:=x;obtain⟨a2,n2⟩:=y
 go_simp
 by_cases h0:a=a2
 case neg=>simp[h0]
 by_cases h1:n=n2
 case neg=>simp[h0,h1]
 simp[h0,h1]
theorem yS:Tryz.prog.cellsOf 34=2:=by kernel_rfl
theorem uE:Tryz.prog.cellsOf 3=1:=by kernel_rfl
theorem idKeyT:Tryz.prog.keyType 34=true:=by kernel_rfl
theorem idSize:∃ m,Tryz.prog.types.size+1=m+1+1:=⟨Tryz.prog.types.size-1,by have h:0<Tryz.prog.types.size:=of_decide_eq_true (by kernel_rfl);omega⟩
theorem idLaid:laidOutB Tryz.prog=true:=by kernel_rfl
theorem idRow:(34:TypeId)<Tryz.prog.types.size:=of_decide_eq_true (by kernel_rfl)
theorem idWide:(match Tryz.prog.underlying 34 with|some (.array _ _)|some (.struct _)=>true|_=>false)=true:=by kernel_rfl
set_option maxRecDepth 100000 in
theorem idLaw:WideMaps.KeyLaw Tryz.prog 34:=deep_law_laid idLaid (m:=2) (by omega) idRow (by kernel_rfl) idWide
def IdR.fits(x:IdR):Prop:=(Lit.int .i64 x.a).wf=true/\(Lit.int .i64 x.n).wf=true
theorem yT(x:IdR)(h:x.fits):∃ l,keyOf Tryz.prog 34 (idV x)=some l:=by
 obtain⟨m,hm⟩:=idSize;have hf:(idV x).formed Tryz.prog 34=true:=by simp[Value.formed,Tryz.underlying34,yS]
 have hl:Tryz.prog.keyLits (m+1+1) 34 [.int .i64 x.a,.int .i64 x.n]=some [.int .i64 x.a,.int .i64 x.n]:=by
  simp[Program.keyLits,Tryz.underlying34,Tryz.underlying3,yS,uE,h.1,h.2]
 refine⟨.string (keyBytes [.int .i64 x.a,.int .i64 x.n]),?_⟩;unfold keyOf;rw[Tryz.underlying34];simp only[idKeyT,hf,Bool.and_self,if_true];rw[hm];show Option.map _ (Tryz.prog.keyLits (m+1+1) 34 [.int .i64 x.a,.int .i64 x.n])=_;rw[hl];rfl
def KMap(W:World)(m:Nat)(ys:List IdR)(Pv:Value->Prop):Prop:=∃ es clock,W.heap[m]?=some (.map es clock)/\es.toList.map (·.key)=ys.map idV/\∀ e∈es.toList,Pv e.val
theorem KMap.at{W W':World}{m:Nat}{ys:List IdR}{Pv:Value->Prop}(h:KMap W m ys Pv)(hb:W'.heap[m]?=W.heap[m]?):KMap W' m ys Pv:=by
 obtain⟨es,clock,h1,h2⟩:=h;exact⟨es,clock,hb.trans h1,h2⟩
theorem KMap.lt{W:World}{m:Nat}{ys:List IdR}{Pv:Value->Prop}(h:KMap W m ys Pv):m<W.heap.size:=by
 obtain⟨es,clock,h1,_⟩:=h;exact(zk.1 h1).1
theorem keys_fit{es:List MapEntry}{ys:List IdR}(h:es.map (·.key)=ys.map idV)(hf:∀ y∈ys,y.fits):∀ e∈es,∃ l,keyOf Tryz.prog 34 e.key=some l:=by
 intro e he;have h1:e.key∈es.map (·.key):=yj.2 ⟨e,he,rfl⟩;rw[h]at h1;obtain⟨y,hy,e1⟩:=yj.1 h1;rw[<- e1];exact yT y (hf y hy)
theorem KMap.find{W:World}{es:Array MapEntry}{ys:List IdR}(h:es.toList.map (·.key)=ys.map idV)(hf:∀ y∈ys,y.fits)(x:IdR)(hx:x.fits) :
  (x∉ys/\(Instr.findKey 34 (idV x) es.toList).run Tryz.prog W=.ok none W)\/(x∈ys/\∃ j e,(Instr.findKey 34 (idV x) es.toList).run Tryz.prog W=.ok (some (j,e.val)) W/\e∈es.toList):=by
 obtain⟨l,hl⟩:=yT x hx;have hm:∀ y,y∈ys↔idV y∈es.toList.map (·.key):=fun y=>by
  rw[h];exact⟨fun hy=>yj.2 ⟨y,hy,rfl⟩,fun hy=>by obtain⟨z,hz,e⟩:=yj.1 hy;rw[<- idV_inj e];exact hz⟩
 rcases idLaw.find W hl es.toList (keys_fit h hf) with⟨h1,h2⟩|⟨j,e,h1,h2,h3⟩
 ·refine .inl ⟨fun hxy=>?_,h1⟩;obtain⟨e,he,e1⟩:=yj.1 ((hm x).1 hxy);exact h2 e he e1
 have he:=List.mem_of_getElem? h2;exact .inr ⟨(hm x).2 (yj.2 ⟨e,he,h3⟩),j,e,h1,he⟩
theorem KMap.look{W:World}{m:Nat}{ys:List IdR}{u z:Value}{t et:TypeId}(h:KMap W m ys (fun v=>v=u))(hu:Tryz.prog.underlying t=some (.map 34 et))(hz:(zeroValue et).run Tryz.prog W=.ok z W)(hf:∀ y∈ys,y.fits)(x:IdR)(hx:x.fits) :
  (Instr.lookup t (.map (some m)) (idV x) false).run Tryz.prog W=.ok (if x∈ys then u else z) W:=by
 obtain⟨es,clock,h1,h2,h3⟩:=h;obtain⟨l,hl⟩:=yT x hx;have hc:=idLaw.check W es.isEmpty hl;rcases KMap.find (W:=W) h2 hf x hx with⟨g1,g2⟩|⟨g1,j,e,g2,g3⟩
 ·simp[Instr.lookup,run_underlying hu,MapKept.run_getObj_map h1,hc,g2,hz,Result.andThen,g1]
 simp[Instr.lookup,run_underlying hu,MapKept.run_getObj_map h1,hc,g2,Result.andThen,g1,h3 e g3]
theorem KMap.put{W:World}{m:Nat}{ys:List IdR}{Pv:Value->Prop}{t et:TypeId}(h:KMap W m ys Pv)(hu:Tryz.prog.underlying t=some (.map 34 et))(hf:∀ y∈ys,y.fits)(x:IdR)(hx:x.fits)(hn:x∉ys)(val:Value)(hv:Pv val) :
  ∃ W',(Instr.mapUpdate t (.map (some m)) (idV x) val).run Tryz.prog W=.ok () W'/\KMap W' m (ys++[x]) Pv/\Only m W W':=by
 obtain⟨es,clock,h1,h2,h3⟩:=h;obtain⟨l,hl⟩:=yT x hx;have hc:=idLaw.check W false hl;rcases KMap.find (W:=W) h2 hf x hx with⟨g1,g2⟩|⟨g1,_⟩
 ·have hlt:=(zk.1 h1).1;refine⟨{ W with heap:=W.heap.setIfInBounds m (.map (es.push { key:=idV x,val:=val,born:=clock }) (clock+1)) },?_,⟨es.push { key:=idV x,val:=val,born:=clock },clock+1,?_,?_,?_⟩,⟨rfl,rfl,rfl,by simp,fun k hk=>by simp[Ne.symm hk]⟩⟩
  ·simp[Instr.mapUpdate,run_underlying hu,MapKept.run_getObj_map h1,hc,g2,MapKept.run_setObj_map _ h1,Result.andThen]
  ·simp[hlt]
  ·simp[h2]
  intro e he;simp only[Array.toList_push,List.mem_append,yf]at he;rcases he with he|he
  ·exact h3 e he
  rw[he];exact hv
 exact absurd g1 hn
def IdRow(W:World)(g o:Nat)(l:List IdR):Prop:=g<W.heap.size/\∀ j (h:j<l.length),W.cell? ⟨g,o+j*2,none⟩=some (.int .i64 l[j].a)/\W.cell? ⟨g,o+j*2+1,none⟩=some (.int .i64 l[j].n)
theorem IdRow.at{W W':World}{g o:Nat}{l:List IdR}(h:IdRow W g o l)(hs:W.heap.size<=W'.heap.size)(hb:W'.heap[g]?=W.heap[g]?):IdRow W' g o l :=
 ⟨yu h.1 hs,fun j hj=>⟨(World.cell?_of_block (w:=W) (a:=⟨g,_,none⟩) hb).trans (h.2 j hj).1,(World.cell?_of_block (w:=W) (a:=⟨g,_,none⟩) hb).trans (h.2 j hj).2⟩⟩
def cT(l:List IdR):List Value:=l.flatMap (fun x=>[.int .i64 x.a,.int .i64 x.n])
theorem mG(l:List IdR)(x:IdR):cT (l++[x])=cT l++[.int .i64 x.a,.int .i64 x.n]:=by simp[cT]
theorem uEV:(Tryz.prog.info? 34).map (fun i=>(i.zero,i.size,i.bytes))=some (some (.agg #[.int .i64 0,.int .i64 0]),2,16):=by kernel_rfl
theorem uAZ:(Tryz.prog.info? 4).map (fun i=>(i.zero,i.size,i.bytes))=some (some (.bool false),1,1):=by kernel_rfl
theorem fE{w:World}{b n sz:Nat}{te:TypeId}{v:Value}{xs:List Value}(h:w.ownsRow b te sz v n xs):∃ A c,v=.slice A n c:=by
 rcases h.2 with⟨rfl,rfl⟩|⟨g,cap,cur,e,_⟩
 ·exact⟨none,0,rfl⟩
 exact⟨_,_,e⟩
theorem kD{w w':World}{Y:List Nat}{b n sz:Nat}{te:TypeId}{v:Value}{xs:List Value}(h:w.ownsRow b te sz v n xs)(hk:Kp Y w w')(hn:∀ g,v.ownBlock=some g->g∉Y):w'.ownsRow b te sz v n xs:=by
 rcases h with⟨hl,⟨e,hz⟩|⟨g,cap,cur,e1,e2,e3,e4⟩⟩
 ·exact⟨hl,.inl ⟨e,hz⟩⟩
 have hg:g∉Y:=hn g (by rw[e1];rfl);exact⟨hl,.inr ⟨g,cap,cur,e1,e2,(hk.block g (zk.1 e3).1 hg).trans e3,e4⟩⟩
theorem qD{w:World}{b b' n n' sz sz':Nat}{te te':TypeId}(ht:te≠te'){v v':Value}{xs xs':List Value}(h:w.ownsRow b te sz v n xs)(h':w.ownsRow b' te' sz' v' n' xs'):∀ g,v.ownBlock=some g->v'.ownBlock≠some g:=by
 intro g hg o5;rcases h.2 with⟨rfl,_⟩|⟨g1,cap,cur,rfl,_,hh,_⟩
 ·simp[Value.ownBlock]at hg
 rcases h'.2 with⟨rfl,_⟩|⟨g2,jd,cur',rfl,_,hh',_⟩
 ·simp[Value.ownBlock]at o5
 simp[Value.ownBlock]at hg o5;subst hg;subst o5;rw[hh]at hh';injection hh' with e1;injection e1 with _ e2 _;exact ht e2
theorem cV{w:World}{b n sz:Nat}{te:TypeId}{v:Value}{xs:List Value}(h:w.ownsRow b te sz v n xs):∀ g,v.ownBlock=some g->b<=g/\g<w.heap.size:=h.lt
def kY(acc:List IdR)(x:IdR):List IdR:=if x=id0\/x∈acc then acc else acc++[x]
def fR(ids:List IdR):List IdR:=ids.foldl kY []
theorem oX(ids:List IdR)(k:Nat)(h:k<ids.length):fR (ids.take (k+1))=kY (fR (ids.take k)) ids[k]:=by
 rw[yw h];unfold fR;rw[List.foldl_append];rfl
theorem tI(acc:List IdR)(x:IdR):(kY acc x).length<=acc.length+1:=by
 unfold kY
 split
 ·omega
 simp
theorem uDV(acc:List IdR)(x y:IdR)(h:y∈kY acc x):y∈acc\/y=x:=by
 unfold kY at h
 split at h
 ·exact .inl h
 simpa using h
theorem uJZ(ids:List IdR):∀ k,k<=ids.length->(fR (ids.take k)).length<=k:=by
 intro k
 induction k with
 |zero=>intro _;exact zr
 |succ k ih=>
  intro h;rw[oX ids k h];have:=tI (fR (ids.take k)) ids[k];have:=ih (by omega);omega
theorem uKA(ids:List IdR):∀ k,k<=ids.length->∀ y∈fR (ids.take k),y∈ids:=by
 intro k
 induction k with
 |zero=>intro _ y hy;cases hy
 |succ k ih=>
  intro h y hy;rw[oX ids k h]at hy;rcases uDV _ _ _ hy with h1|h1
  ·exact ih (by omega) y h1
  rw[h1];exact List.getElem_mem h
structure AxMk(q base:Nat)(acc:List IdR)(v1 v2:Value)(W:World):Prop where
 ax:Lies W q 82 #[v1,v2,.map none,.slice none 0 0,.slice none 0 0]
 r1:W.ownsRow base 34 2 v1 acc.length (cT acc)
 r2:W.ownsRow base 4 1 v2 acc.length (List.replicate acc.length (.bool true))
theorem AxMk.next{q base:Nat}{acc:List IdR}{v1 v2:Value}{W W':World}(h:AxMk q base acc v1 v2 W)(hb:Below W.heap.size W W'):AxMk q base acc v1 v2 W' :=
 ⟨h.ax.next hb,gP hb h.r1,gP hb h.r2⟩
def mR(W:World)(A:Option Addr)(l:List IdR):Prop:=0<l.length->∃ g o,A=some ⟨g,o,none⟩/\IdRow W g o l
def eX:List IdR->List Bool->List IdR
 |x::r,b::s=>if b then x::eX r s else eX r s
 |_,_=>[]
theorem rZ:∀ (r:List IdR) (s:List Bool) (x:IdR) (b:Bool),r.length=s.length->eX (r++[x]) (s++[b])=eX r s++(if b then [x] else [])
 | [],[],x,b,_=>by cases b <;> rfl
 |y::r,c::s,x,b,h=>by
  have ih:=rZ r s x b (by simpa using h);simp only[yp,eX];rw[ih];cases c <;> simp
 | [],_::_,_,_,h=>by simp at h
 |_::_,[],_,_,h=>by simp at h
theorem uN:∀ (r:List IdR) (s:List Bool),(eX r s).length<=r.length
 | [],_=>by simp[eX]
 |_::_,[]=>by simp[eX]
 |x::r,b::s=>by
  have ih:=uN r s;unfold eX
  split
  ·simp;exact ih
  simp;omega
theorem uBO(r:List IdR)(s:List Bool)(k:Nat)(h:r.length=s.length)(hk:k<r.length):eX (r.take (k+1)) (s.take (k+1))=eX (r.take k) (s.take k)++(if s[k]'(by omega) then [r[k]] else []):=by
 rw[yw hk,yw (by omega:k<s.length)];exact rZ _ _ _ _ (by simp;omega)
theorem uM:∀ r:List IdR,eX r (List.replicate r.length true)=r
 | []=>rfl
 |x::r=>by simp only[yi,List.replicate_succ,eX,if_true];rw[uM r]
def bools(fl:List Bool):List Value:=fl.map Value.bool
structure AxRaw(b base:Nat)(ids:List IdR)(fl:List Bool)(v1 v2:Value)(W:World):Prop where
 ax:Lies W b 82 #[v1,v2,.map none,.slice none 0 0,.slice none 0 0]
 r1:W.ownsRow base 34 2 v1 ids.length (cT ids)
 r2:W.ownsRow base 4 1 v2 fl.length (bools fl)
structure tB(b base:Nat)(l:List IdR)(W:World):Prop where
 ax:∃ v1 v2 v3 v4 m,Lies W b 82 #[v1,v2,.map (some m),v3,v4]/\W.ownsRow base 34 2 v4 l.length (cT l)
theorem own_le{W:World}{b b' n sz:Nat}{te:TypeId}{v:Value}{xs:List Value}(h:W.ownsRow b te sz v n xs)(hb:b'<=b):W.ownsRow b' te sz v n xs:=by
 rcases h with⟨hl,⟨e,hz⟩|⟨g,cap,cur,e1,e2,e3⟩⟩
 ·exact⟨hl,.inl ⟨e,hz⟩⟩
 exact⟨hl,.inr ⟨g,cap,cur,e1,yv hb e2,e3⟩⟩
theorem oU:∀ (l:List IdR) (j:Nat) (h:j<l.length),(cT l)[j*2]?=some (.int .i64 l[j].a)/\(cT l)[j*2+1]?=some (.int .i64 l[j].n)
 |x::l,0,_=>⟨rfl,rfl⟩
 |x::l,j+1,h=>by
  have ih:=oU l j (by simpa using h);have e1:(j+1)*2=j*2+2:=by omega
  rw[e1];exact ih
theorem zD{W:World}{base n sz:Nat}{te:TypeId}{v:Value}{xs:List Value}(h:W.ownsRow base te sz v n xs)(h0:0<n):∃ g cap,v=.slice (some ⟨g,0,none⟩) n cap/\base<=g/\g<W.heap.size/\∀ j u,xs[j]?=some u->W.cell? ⟨g,j,none⟩=some u:=by
 obtain⟨hl,⟨e,hz⟩|⟨g,cap,cur,e1,e2,e3,e4,e5,e6,e7⟩⟩:=h
 ·omega
 refine⟨g,cap,e1,e2,(zk.1 e3).1,fun j u hj=>?_⟩;rw[Lib.cell_of_heap e3];have hj':j<xs.length:=(List.getElem?_eq_some_iff.1 hj).1;have h2:(cur.toList.take (n*sz))[j]?=cur.toList[j]?:=List.getElem?_take_of_lt (by omega);rw[e7,hj]at h2;show cur[j]?=_;rw[<- Array.getElem?_toList,<- h2]
theorem uHT{W:World}{base:Nat}{v:Value}{l:List IdR}(h:W.ownsRow base 34 2 v l.length (cT l))(h0:0<l.length):∃ g cap,v=.slice (some ⟨g,0,none⟩) l.length cap/\base<=g/\IdRow W g 0 l:=by
 obtain⟨g,cap,e1,e2,e3,e4⟩:=zD h h0;refine⟨g,cap,e1,e2,e3,fun j hj=>?_⟩;rw[Nat.zero_add];exact⟨e4 _ _ (oU l j hj).1,e4 _ _ (oU l j hj).2⟩
theorem infoI64x:(Tryz.prog.info? 3).map (fun i=>(i.zero,i.size,i.bytes))=some (some (.int .i64 0),1,8):=by kernel_rfl
theorem mk_ints(n:Nat)(hn:n<=300)(w:World):(Instr.makeSlice 80 (.int .i64 (n:Int)) (.int .i64 (n:Int))).run Tryz.prog w=.ok (.slice (some ⟨w.heap.size,0,none⟩) n n) (w.alloc (.cells (madeCells (Value.int .i64 0).cells n) 3)):=by
 obtain⟨i0,hi,ke,jt,j5⟩:=info_parts infoI64x;have h:=run_makeSlice (P:=Tryz.prog) w 80 3 i0 (.int .i64 0) Tryz.underlying80 hi ke .i64 .i64 (n:Int) (n:Int) (by omega) (Int.le_refl _) (by rw[jt];omega) (by rw[j5];omega) (by omega);rw[jt]at h;simpa using h
theorem neq_nil(w:World):(binOp .neq 79 (.map none) (.map none)).run Tryz.prog w=.ok (.bool false) w:=by kernel_rfl
theorem neq_some(m:Nat)(w:World):(binOp .neq 79 (.map (some m)) (.map none)).run Tryz.prog w=.ok (.bool true) w:=by kernel_rfl
theorem mk_map(n:Nat)(w:World):(Instr.makeMap 79 (some (.int .i64 (n:Int)))).run Tryz.prog w=.ok (.map (some w.heap.size)) (w.alloc (.map #[] 0)):=by
 simp[Instr.makeMap,run_underlying Tryz.underlying79,go_sem,Result.andThen]
set_option maxRecDepth 100000 in
theorem uAA(b base:Nat)(ids:List IdR)(fl:List Bool)(v1 v2:Value)(w:World)(hR:AxRaw b base ids fl v1 v2 w)(hl:ids.length=fl.length)(hn:ids.length<=300)(hf:∀ y∈ids,y.fits)(hd:ids.Nodup) :
  Calls Tryz.prog 146 #[.pointer (some ⟨b,0,none⟩)] w fun e w'=>e=.returned (.tuple #[])/\tB b w.heap.size (eX ids fl) w'/\Kp [b] w w':=by
 have hmm:=mk_map;have hnq:=neq_nil;have hms:=fun w=>mk_ints ids.length hn w
 have HF:=zh hf;have HD:=zh hd;have HR:=zh hR;obtain⟨A1,ap,rfl⟩:=fE hR.r1;obtain⟨A2,cap2,rfl⟩:=fE hR.r2;rw[<- hl]at HR;obtain⟨n,s6⟩:∃ n,n=ids.length:=⟨_,rfl⟩
 have HN:=zh s6;have HLf:=zh hl;rw[<- s6]at hn HR hms;have a0:=HR.out.ax.cell 0;have a2:=HR.out.ax.cell 2;have f2:=HR.out.ax.frozen 2;simp only[za,zb,zf]at a0 a2;have vi:=HR.out.ax.lt;clear hf hd hR s6 hl
 go_enter Tryz.func146,Tryz.ntmps146
 go_upto_region 2 with fail
 obtain⟨W1,dv⟩:∃ W1,W1=(w.setCell ⟨b,2,none⟩ (.map (some w.heap.size))).alloc (.map #[] 0):=⟨_,rfl⟩
 have vv:Hid (Lies W1 b 82 #[.slice A1 n ap,.slice A2 n cap2,.map (some w.heap.size),.slice none 0 0,.slice none 0 0]):=zh (by rw[dv];exact(HR.out.ax.put 2 _).alloc _);have ee:Hid (Kp [b] w W1):=zh (by rw[dv];exact((Kp.refl _ w).set (.inl (.head _)) 2 _).alloc _);have ox:Hid (KMap W1 w.heap.size [] (fun _=>True)):=zh (by
  rw[dv];refine⟨#[],0,?_,rfl,fun e he=>by cases he⟩;have h:=heap_alloc_new (w.setCell ⟨b,2,none⟩ (.map (some w.heap.size))) (.map #[] 0);rw[World.size_setCell]at h;exact h)
 have jt:W1.heap.size=w.heap.size+1:=by rw[dv,World.size_alloc,World.size_setCell]
 rw[<- dv];clear dv a0 a2 f2;have a0:=vv.out.cell 0;have a3:=vv.out.cell 3;have f3:=vv.out.frozen 3;simp only[za,zb,zf]at a0 a3;have hbs1:b<W1.heap.size:=vv.out.lt
 go_upto_region 3 with fail
 obtain⟨W2,kq⟩:∃ W2,W2=(W1.setCell ⟨b,3,none⟩ (.slice (some ⟨w.heap.size+1,0,none⟩) n n)).alloc (.cells (madeCells #[.int .i64 0] n) 3):=⟨_,rfl⟩
 have HX2:Hid (Lies W2 b 82 #[.slice A1 n ap,.slice A2 n cap2,.map (some w.heap.size),.slice (some ⟨w.heap.size+1,0,none⟩) n n,.slice none 0 0]):=zh (by rw[kq];exact(vv.out.put 3 _).alloc _);have cq:Hid (Kp [b] w W2):=zh (by rw[kq];exact(ee.out.set (.inl (.head _)) 3 _).alloc _);have uv:Hid (KMap W2 w.heap.size [] (fun _=>True)):=zh (by
  rw[kq];exact(ox.out.at (Below.heap_setCell _ _ _ _ (by show w.heap.size≠b;omega))).at (Below.heap_alloc _ _ _ (by rw[World.size_setCell,jt];omega)))
 have bq:Hid (∃ cs:Array Value,Lies W2 (w.heap.size+1) 3 cs/\cs.size=n):=zh (by
  rw[kq];refine⟨madeCells #[.int .i64 0] n,?_,by simp[madeCells]⟩;have h:=Lies.new (W1.setCell ⟨b,3,none⟩ (.slice (some ⟨w.heap.size+1,0,none⟩) n n)) 3 (madeCells #[.int .i64 0] n);rw[World.size_setCell,jt]at h;exact h)
 have rn:Hid (w.heap.size+2<=W2.heap.size):=zh (by rw[kq,World.size_alloc,World.size_setCell,jt];omega);rw[<- kq];clear kq a0 a3 f3 vv ee ox jt hbs1;have HRi:Hid (∀ wx,Kp [b] w wx->∀ k (h:k<ids.length),∃ g,A1=some ⟨g,0,none⟩/\wx.cell? ⟨g,k*2,none⟩=some (.int .i64 ids[k].a)/\wx.cell? ⟨g,k*2+1,none⟩=some (.int .i64 ids[k].n)):=zh (fun wx hk k h=>by
  have hr:=HR.out.r1;rw[HN.out]at hr;obtain⟨g,cap,e,_,bj⟩:=uHT hr (by omega);have tm:g∉[b]:=fun hm=>by
   have e2:g=b:=by simpa using hm
   exact gT (by decide) HR.out.r1 HR.out.ax (by injection e with e;rw[e,e2];rfl)
  obtain⟨q0,q1⟩:=bj.2 k h;rw[Nat.zero_add]at q0 q1;exact⟨g,by injection e,(hk.cell bj.1 tm).trans q0,(hk.cell bj.1 tm).trans q1⟩)
 have HRl:Hid (∀ wx,Kp [b] w wx->∀ k (h:k<fl.length),∃ g,A2=some ⟨g,0,none⟩/\wx.cell? ⟨g,k,none⟩=some (.bool fl[k])):=zh (fun wx hk k h=>by
  obtain⟨g,cap,e,_,hg,bj⟩:=zD HR.out.r2 (by omega);have tm:g∉[b]:=fun hm=>by
   have e2:g=b:=by simpa using hm
   exact gT (by decide) HR.out.r2 HR.out.ax (by injection e with e;rw[e,e2];rfl)
  exact⟨g,by injection e,(hk.cell hg tm).trans (bj k _ (by simp[bools,h]))⟩)
 have a0:=HX2.out.cell 0;simp only[za,zb]at a0;have hbs2:b<W2.heap.size:=HX2.out.lt
 go_upto_region 4 with fail
 clear a0 hbs2
 go_loopw [32] (fun v32 wx=>∃ (k:Nat) (v4:Value),v32=.int .i64 (k:Int)/\k<=n/\Hid (Lies wx b 82 #[.slice A1 n ap,.slice A2 n cap2,.map (some w.heap.size),.slice (some ⟨w.heap.size+1,0,none⟩) n n,v4])/\Hid (KMap wx w.heap.size (ids.take k) (fun _=>True))/\Hid (∃ cs:Array Value,Lies wx (w.heap.size+1) 3 cs/\cs.size=n)/\Hid (wx.ownsRow (w.heap.size+2) 34 2 v4 (eX (ids.take k) (fl.take k)).length (cT (eX (ids.take k) (fl.take k))))/\Hid (Kp [b] w wx)/\Hid (w.heap.size+2<=wx.heap.size)) (fun v32 _=>n-(intOf v32).toNat)
 case atStart=>exact⟨0,_,rfl,zm _,HX2,uv,bq,zh ⟨rfl,.inl ⟨rfl,rfl⟩⟩,cq,rn⟩
 case round=>
  obtain⟨k,v4,rfl,hk,hX,hM,hA,hO,hK,hZ⟩:=hrel;clear HX2 uv bq cq rn;generalize fa:w.heap.size=q at *;have HQ:=zh fa;clear fa;by_cases hlt:k<n
  ·have lh:k<ids.length:=by rw[<- HN.out];exact hlt
   have hkf:k<fl.length:=by rw[<- HLf.out];exact lh
   obtain⟨gi,rfl,d0,d1⟩:=HRi.out wr hK.out k lh;obtain⟨gl,rfl,d2⟩:=HRl.out wr hK.out k hkf;have D2:Hid (∀ wx,Kp [b] w wx->wx.cell? ⟨gl,k,none⟩=some (.bool fl[k])):=zh (fun wx h=>by
    obtain⟨g,e,hc⟩:=HRl.out wx h k hkf;injection e with e;injection e with e;rw[e];exact hc)
   clear d2;have hxf:=HF.out _ (List.getElem_mem lh);have s7:=zh (fun y (hy:y∈ids.take k)=>HF.out y (List.mem_of_mem_take hy));have HSt:=zh (uBO ids fl k HLf.out lh);have HTk:=zh (yw lh);have hnin:ids[k]∉ids.take k:=fun hm=>by
    obtain⟨j,hj,e⟩:=List.getElem_of_mem hm;rw[zc]at hj;rw[List.getElem_take]at e;have:=(List.getElem_inj HD.out).1 e;omega
   have hml:(eX (ids.take k) (fl.take k)).length<=k:=yv (uN _ _) (by rw[zc];omega);generalize ids[k]=x at *;generalize fl[k]=fk at *;generalize hacc:ids.take k=acc at *;generalize hlv:eX acc (fl.take k)=lv at *;generalize o6:ids.take (k+1)=acc' at *;generalize hlv2:eX acc' (fl.take (k+1))=lv' at *;have j0:=zh o6;have HLv2:=zh hlv2;clear o6 hacc hlv hlv2;obtain⟨xa,xn⟩:=x;dsimp only at d0 d1;obtain⟨A4,jr,rfl⟩:=fE hO.out;generalize hle:lv.length=m at *
   go_upto_region 6 with fail
   have hX3:=zh (hX.out.next ((Below.refl _ wr).alloc zr (.cells #[.int .i64 xa,.int .i64 xn] 34)));have s8:=zh (hM.out.at (Below.heap_alloc wr (.cells #[.int .i64 xa,.int .i64 xn] 34) q hM.out.lt));have hA3:Hid (∃ cs:Array Value,Lies (wr.alloc (.cells #[.int .i64 xa,.int .i64 xn] 34)) (q+1) 3 cs/\cs.size=n):=zh (by
    obtain⟨cs,h1,h2⟩:=hA.out;exact⟨cs,h1.next ((Below.refl _ wr).alloc zr _),h2⟩)
   have hO3:=zh (World.ownsRow.alloc hO.out (.cells #[.int .i64 xa,.int .i64 xn] 34));have hK3:=zh (hK.out.alloc (.cells #[.int .i64 xa,.int .i64 xn] 34));have rp:=zh (Lies.new wr 34 #[.int .i64 xa,.int .i64 xn]);have je:b<wr.heap.size:=hX.out.lt;have hbq:q+2<=wr.heap.size:=hZ.out;have hbo:Hid (∀ g,(Value.slice A4 m jr).ownBlock=some g->g<wr.heap.size):=zh (fun g hg=>(cV hO.out g hg).2);have hZ3:Hid (wr.heap.size<(wr.alloc (.cells #[.int .i64 xa,.int .i64 xn] 34)).heap.size):=zh (by rw[World.size_alloc];omega);generalize wr.alloc (.cells #[.int .i64 xa,.int .i64 xn] 34)=W3 at *;generalize wr.heap.size=bx at *;clear d0 d1 hX hM hA hO hK hZ;have c2:=hX3.out.cell 2;have b0:=rp.out.cell 0;have b1:=rp.out.cell 1;simp only[za,zb,zf]at c2 b0 b1
   obtain⟨W4,aw,hM4,qv⟩:=(s8.out.at (rfl:W3.drew.heap[q]?=W3.heap[q]?)).put (t:=79) (et:=3) Tryz.underlying79 s7.out ⟨xa,xn⟩ hxf hnin (.int .i64 (k:Int)) trivial;dsimp only[idV]at aw
   go_cut [42] (fun v42 wx=>Hid (wx=W4))
   case first=>
    go_region
    all_goals go_wp2_with fail
    all_goals go_meet
    all_goals exact zh rfl
   case rest=>
   obtain rfl:W4=wc:=hcut.out.symm;have mt:=qv.kp;have hqb:q≠b:=by
    intro e;have h1:=hX3.out;obtain⟨es,ck,h2,_⟩:=s8.out;unfold Lies at h1;rw[e,h1]at h2;cases h2
   have hX4:=zh (mt.lies (hX3.out.next (Below.refl _ W3).drew) (by simp;omega));have hL4:=zh (mt.lies (rp.out.next (Below.refl _ W3).drew) (by simp;omega));have hA4:Hid (∃ cs:Array Value,Lies W4 (q+1) 3 cs/\cs.size=n):=zh (by
    obtain⟨cs,h1,h2⟩:=hA3.out;exact⟨cs,mt.lies (h1.next (Below.refl _ W3).drew) (by simp),h2⟩)
   have hO4:=zh (kD (gP (Below.refl _ W3).drew hO3.out) mt (fun g hg=>by have:=(cV hO3.out g hg).1;simp;omega));have hK4:=zh (hK3.out.drew.andThen mt (fun g hg=>.inr (by rw[HQ.out];simp at hg;omega)));have HM4:=zh hM4;have hs4:W4.heap.size=W3.heap.size:=qv.size;clear aw hM4 qv mt hX3 s8 hA3 hO3 hK3 rp c2 b0 b1;obtain⟨cs,gz,ld⟩:=hA4.out;have hkc:k<cs.size:=by omega
   have e0:W4.cell? ⟨q+1,k,none⟩=some cs[k]:=by rw[gz.cell,Array.getElem?_eq_getElem hkc]
   have e1:=gz.frozen k;generalize cs[k]=u0 at e0;have c3:=hX4.out.cell 3;have c4:=hX4.out.cell 4;simp only[za,zb,zf]at c3 c4;have HC:=zh gz;have HCn:=zh ld;clear gz ld hkc hA4
   go_upto_region 7 with fail
   obtain⟨W5,vw⟩:∃ W5,W5=W4.drew.setCell ⟨q+1,k,none⟩ (.int .i64 (m:Int)):=⟨_,rfl⟩
   go_cut [54] (fun v54 wx=>Hid (wx=W5))
   case first=>
    go_region
    all_goals go_wp2_with fail
    all_goals go_meet
    all_goals exact zh vw.symm
   case rest=>
   obtain rfl:W5=wc:=hcut.out.symm;have hq1b:q+1≠b:=by
    intro e;have h1:=hX4.out;have h2:=HC.out;unfold Lies at h1 h2;rw[e,h1]at h2;injection h2 with h2;injection h2 with _ h2 _;exact absurd h2 (by decide)
   have hX5:Hid (Lies W5 b 82 #[.slice (some ⟨gi,0,none⟩) n ap,.slice (some ⟨gl,0,none⟩) n cap2,.map (some q),.slice (some ⟨q+1,0,none⟩) n n,.slice A4 m jr]):=zh (by rw[vw];exact(aK (hX4.out.next (Below.refl _ W4).drew) (Ne.symm hq1b) k _));have hL5:Hid (Lies W5 bx 34 #[.int .i64 xa,.int .i64 xn]):=zh (by rw[vw];exact(aK (hL4.out.next (Below.refl _ W4).drew) (by omega) k _));have hA5:Hid (∃ cs:Array Value,Lies W5 (q+1) 3 cs/\cs.size=n):=zh (by
    rw[vw];exact⟨_,(HC.out.next (Below.refl _ W4).drew).put k _,by rw[Array.size_setIfInBounds];exact HCn.out⟩)
   have hO5:Hid (W5.ownsRow (q+2) 34 2 (.slice A4 m jr) m (cT lv)):=zh (by rw[vw];exact nY (by decide) (gP (Below.refl _ W4).drew hO4.out) (HC.out.next (Below.refl _ W4).drew) k _);have hM5:=zh (show KMap W5 q (acc++[⟨xa,xn⟩]) (fun _=>True) by rw[vw];exact HM4.out.at (Below.heap_setCell _ _ _ _ (by show q≠q+1;omega)));have hK5:Hid (Kp [b] w W5):=zh (by rw[vw];exact hK4.out.drew.set (.inr (by rw[HQ.out];omega)) k _);have hZ5:Hid (bx<W5.heap.size):=zh (by rw[vw,World.size_setCell];show bx<W4.heap.size;rw[hs4];exact hZ3.out);clear vw e0 e1 c3 c4 HC HCn hX4 hL4 hO4 HM4 hK4 hs4 hZ3;have c1:=hX5.out.cell 1;have d2:=D2.out W5 hK5.out;simp only[za,zb,zf]at c1;have hlv:lv'=lv++(if fk then [⟨xa,xn⟩] else []):=HLv2.out ▸ HSt.out;have hac:acc'=acc++[⟨xa,xn⟩]:=HTk.out;cases fk
   ·go_wp2_with fail
    go_roundw
    case rel=>
     refine⟨k+1,.slice A4 m jr,by go_num,by omega,hX5,?_,hA5,?_,hK5,zh (by have:=hZ5.out;omega)⟩
     ·rw[j0.out,hac];exact hM5
     rw[j0.out,HLv2.out,hlv];simp only[Bool.false_eq_true,if_false,List.append_nil,hle];exact hO5
    case measure=>simp[intOf];omega
   go_upto_region 9 with fail
   clear c1 d2;have HY:Hid (∀ g,(Value.slice A4 m jr).ownBlock=some g->g∈b::(Value.slice A4 m jr).ownBlock.toList):=zh (fun g hg=>by rw[hg];simp);have bf:bx≠b:=by omega
   have hbY:Hid (bx∉b::(Value.slice A4 m jr).ownBlock.toList):=zh (fun h=>by
    rcases ym.1 h with h|h
    ·exact bf h
    have:=hbo.out bx (by simpa using h);omega)
   obtain⟨TT,ae⟩:∃ TT:List (Nat×Nat×Value),TT=[(0,61,.pointer (some ⟨b,0,none⟩)),(1,62,.pointer (some ⟨b,0,none⟩)),(2,63,.pointer (some ⟨b,0,none⟩)),(3,64,.pointer (some ⟨b,4,none⟩)),(4,65,.slice A4 m jr),(5,66,.agg #[.int .i64 xa,.int .i64 xn]),(8,69,.pointer (some ⟨b,0,none⟩)),(9,70,.pointer (some ⟨b,4,none⟩))]:=⟨_,rfl⟩
   have aq:=zh ae;clear ae;refine gC (by kernel_rfl) (by kernel_rfl) (fun a0=>72<=a0.tmps.size/\a0.eval (.tmp 0)=.pointer (some ⟨b,0,none⟩)/\a0.eval (.tmp 3)=.pointer (some ⟨bx,0,none⟩)) (GA [61,62,63,64,65,66,67,68,69,70] TT (b::(Value.slice A4 m jr).ownBlock.toList) W5 4 6 67 7 68 10 b 4 34 82 #[.slice (some ⟨gi,0,none⟩) n ap,.slice (some ⟨gl,0,none⟩) n cap2,.map (some q),.slice (some ⟨q+1,0,none⟩) n n,.slice A4 m jr] (q+2) 2 m (.slice A4 m jr) (cT lv) [.int .i64 xa,.int .i64 xn]) ⟨by simp,rfl,rfl⟩ (GA.start _ _ (Kp.refl _ _).drew hO5.out hX5.out) ?_ ?_
   ·rintro a0 ⟨hs,dr,mu⟩ zl a1 w1 j o bg hI aa ho zd;have ae:=aq.out;subst ae;have hk:GAk [61,62,63,64,65,66,67,68,69,70] [(0,61,.pointer (some ⟨b,0,none⟩)),(1,62,.pointer (some ⟨b,0,none⟩)),(2,63,.pointer (some ⟨b,0,none⟩)),(3,64,.pointer (some ⟨b,4,none⟩)),(4,65,.slice A4 m jr),(5,66,.agg #[.int .i64 xa,.int .i64 xn]),(8,69,.pointer (some ⟨b,0,none⟩)),(9,70,.pointer (some ⟨b,4,none⟩))] (b::(Value.slice A4 m jr).ownBlock.toList) 6 67 7 68 10 b 34 82 (.slice A4 m jr) 72:=⟨rfl,by decide,HY.out,.head _⟩
    have hj:=Up.of_false aa;have hj12:j<11:=by rw[bg]at hj;exact hj
    have e0x:a1.eval (.tmp 0)=.pointer (some ⟨b,0,none⟩):=(hI.off.eval (by decide)).trans dr;have e3x:a1.eval (.tmp 3)=.pointer (some ⟨bx,0,none⟩):=(hI.off.eval (by decide)).trans mu;rcases(by omega:j=0\/j=1\/j=2\/j=3\/j=4\/j=5\/j=6\/j=7\/j=8\/j=9\/j=10) with rfl|rfl|rfl|rfl|rfl|rfl|rfl|rfl|rfl|rfl|rfl<;>obtain rfl:=oi ho
    ·exact cG hk hI hs (.head _) aa ho rfl rfl (by simp[execOp,go_sem,aF e0x])
    ·exact cG hk hI hs (.tail _ (.head _)) aa ho rfl rfl (by simp[execOp,go_sem,aF e0x])
    ·have d1:=ud zd 1;have p1:=pk hI.pt 1 rfl d1;exact cG hk hI hs (mm 2 rfl) aa ho rfl rfl (by simp[execOp,go_sem,aF p1])
    ·have d2:=ud zd 2;have p2:=pk hI.pt 2 rfl d2;exact cG hk hI hs (mm 3 rfl) aa ho rfl rfl (by simp[execOp,go_sem,aF p2])
    ·have d3:=ud zd 3;have p3:=pk hI.pt 3 rfl d3;have c0:=(hI.unl aa).cell 4;simp only[za,zb,zf]at c0;exact cG hk hI hs (mm 4 rfl) aa ho rfl rfl (by simp[execOp,go_sem,aF p3,c0])
    ·have hLb:=hI.kp.lies hL5.out hbY.out;have l0:=hLb.cell 0;have l1:=hLb.cell 1;simp only[za,zb,zf]at l0 l1;exact cG hk hI hs (mm 5 rfl) aa ho rfl rfl (by simp[execOp,go_sem,aF e3x,l0,l1])
    ·have d5:=ud zd 5;have p5:=pk hI.pt 5 rfl d5;exact uB hk hI hs aa ho rfl rfl (by simp[execOp,go_sem,aF p5])
    ·have d4:=ud zd 4;have p4:=pk hI.pt 4 rfl d4;have d6:=ud zd 6;obtain⟨i1,gi,gz0,gz1,gz2⟩:=info_parts uEV;exact uET hk hI hs aa ho rfl rfl d4 d6 22 65 rfl p4 i1 (.agg #[.int .i64 0,.int .i64 0]) 16 Tryz.underlying22 gi gz0 gz1 gz2 rfl (by decide) rfl (by intro u hu;simp at hu;rcases hu with rfl|rfl <;> rfl) (by unfold maxLen;omega) (by omega) (by have:=hZ5.out;have:=hI.kp.size;omega)
    ·have d0:=ud zd 0;have p0:=pk hI.pt 0 rfl d0;exact cG hk hI hs (mm 6 rfl) aa ho rfl rfl (by simp[execOp,go_sem,aF p0])
    ·have d8:=ud zd 8;have p8:=pk hI.pt 6 rfl d8;exact cG hk hI hs (mm 7 rfl) aa ho rfl rfl (by simp[execOp,go_sem,aF p8])
    have d9:=ud zd 9;have p9:=pk hI.pt 7 rfl d9;have d7:=ud zd 7;exact uC hk hI aa ho rfl rfl d7 (fun hL jx=>by
     obtain⟨gs,cs,jx⟩:=jx;have c0:=hL.cell 4;have k0:=hL.frozen 4;simp at c0;rw[jx];simp[execOp,go_sem,aF p9,aF jx,c0,k0])
   intro zl a1 w1 hI aw;have ae:=aq.out;subst ae;have jn:=hI.kp;have al:=hI.o2 (aw 7 (by decide));have j1:=(hI.b2 (aw 10 (by decide))).2;obtain⟨ff,rfl,hf⟩:=hI.off.forms;rw[<- hf 68]at al j1;clear hI;generalize ff 68=v' at *;simp only[List.foldl,Act.put,yz,List.set];have tn:=zh j1;have HO6:=zh al;have iv:=zh jn;obtain⟨A4',cap4',hv4⟩:=fE al;clear j1 al jn aw aq;have hA6:Hid (∃ cs:Array Value,Lies w1 (q+1) 3 cs/\cs.size=n):=zh (by
    obtain⟨cs,h1,h2⟩:=hA5.out;refine⟨cs,iv.out.lies h1 (fun hm=>?_),h2⟩;rcases ym.1 hm with h|h
    ·exact hq1b h
    have:=(cV hO5.out (q+1) (by simpa using h)).1;omega)
   have hM6:=zh (hM5.out.at (iv.out.block q hM5.out.lt (fun hm=>by
    rcases ym.1 hm with h|h
    ·exact hqb h
    have:=(cV hO5.out q (by simpa using h)).1;omega)))
   have hK6:=zh (hK5.out.andThen iv.out (fun g hg=>by
    rcases ym.1 hg with h|h
    ·exact .inl (by rw[h];exact .head _)
    have:=(cV hO5.out g (by simpa using h)).1;exact .inr (by rw[HQ.out];omega)))
   have hZ6:Hid (q+2<=w1.heap.size):=zh (by have:=hZ5.out;have:=iv.out.size;omega);clear iv hX5 hO5 hA5 hM5 hK5 HY hbY hL5
   go_wp2_with fail
   go_roundw
   case rel=>
    refine⟨k+1,v',by go_num,by omega,tn,?_,hA6,?_,hK6,hZ6⟩
    ·rw[j0.out,hac];exact hM6
    rw[j0.out,HLv2.out,hlv];simp only[if_true,yl,yi,List.length_nil,Nat.zero_add,hle,mG];exact HO6
   case measure=>simp[intOf];omega
  obtain rfl:k=n:=by omega
  have e1:ids.take k=ids:=by rw[HN.out,List.take_length]
  have e2:fl.take k=fl:=by rw[HN.out,HLf.out,List.take_length]
  rw[e1,e2]at hO;have HO:=zh hO.out;clear hO e1 e2
  go_wp2_with fail
  go_end0
  exact⟨rfl,⟨_,_,_,_,_,hX.out,own_le HO.out (by rw[HQ.out];omega)⟩,hK.out⟩
def ptr:Option Nat->Option Addr
 |none=>none
 |some b=>some ⟨b,0,none⟩
def AxIn(W:World)(p:Option Nat)(l:List IdR):Prop:=match p with
 |none=>l=[]
 |some b=>(∃ base ids fl v1 v2,AxRaw b base ids fl v1 v2 W/\ids.length=fl.length/\ids.length<=300/\(∀ y∈ids,y.fits)/\ids.Nodup/\l=eX ids fl)\/(∃ base,tB b base l W)
set_option maxRecDepth 100000 in
theorem yJ(b base:Nat)(l:List IdR)(w:World)(hR:tB b base l w) :
  Calls Tryz.prog 146 #[.pointer (some ⟨b,0,none⟩)] w fun e w'=>e=.returned (.tuple #[])/\w'=w:=by
 obtain⟨v1,v2,v3,v4,m,hx,_⟩:=hR;have hnq:=neq_some m;have a2:=hx.cell 2;simp only[za,zb,zf]at a2;clear hx
 go_enter Tryz.func146,Tryz.ntmps146
 go_wp2_with fail
 (try simp only[Exit.inBlock,Exit.then])
 refine yt (results_none rfl _ _ _) rfl ?_;exact⟨rfl,rfl⟩
theorem uDT(b:Nat)(l:List IdR)(w:World)(h:AxIn w (some b) l) :
  Calls Tryz.prog 146 #[.pointer (some ⟨b,0,none⟩)] w fun e w'=>e=.returned (.tuple #[])/\(∃ base,tB b base l w'/\(w.heap.size<=base\/w'=w))/\Kp [b] w w':=by
 rcases h with⟨base,ids,fl,v1,v2,h1,h2,h3,h4,h5,rfl⟩|⟨base,h1⟩
 ·refine(uAA b base ids fl v1 v2 w h1 h2 h3 h4 h5).mono ?_;rintro e w' ⟨rfl,h6,h7⟩;exact⟨rfl,⟨_,h6,.inl zr⟩,h7⟩
 refine(yJ b base l w h1).mono ?_;rintro e w' ⟨rfl,rfl⟩;exact⟨rfl,⟨_,h1,.inr rfl⟩,Kp.refl _ _⟩
set_option maxRecDepth 100000 in
theorem uIN(p:Option Nat)(l:List IdR)(w:World)(h:AxIn w p l) :
  Calls Tryz.prog 145 #[.pointer (ptr p)] w fun e w'=>e=.returned (.int .i64 (l.length:Int))/\(∀ b,p=some b->∃ base,tB b base l w'/\(w.heap.size<=base\/w'=w))/\Kp p.toList w w':=by
 cases p with
 |none=>
  have h0:l=[]:=h;subst h0;unfold ptr
  go_enter Tryz.func145,Tryz.ntmps145
  go_wp2_with fail
  go_ret
  exact⟨rfl,(fun b e=>by cases e),Kp.refl _ _⟩
 |some b=>
  have CR:=zh (uDT b l w h);clear h;unfold ptr
  go_enter Tryz.func145,Tryz.ntmps145
  go_wp2_with fail
  refine CR.out.mono ?_;rintro e w1 ⟨rfl,⟨base,hd,hor⟩,hk⟩;have HD:=zh (And.intro hd hor);clear hor;obtain⟨v1,v2,v3,v4,m,hx,ho⟩:=hd;obtain⟨A4,jr,rfl⟩:=fE ho;have a4:=hx.cell 4;simp only[za,zb,zf]at a4;have HK:=zh hk;clear hx ho hk CR
  go_wp2_with fail
  go_ret
  exact⟨rfl,(fun b' e=>by cases e;exact⟨_,HD.out⟩),HK.out⟩
def AxOwn(W:World)(p:Option Nat)(z:Nat):Prop:=∃ b v1 v2 v3 v4 mm,p=some b/\Lies W b 82 #[v1,v2,.map mm,v3,v4]/\((mm=none/\(v1.ownBlock=some z\/v2.ownBlock=some z))\/(mm≠none/\v4.ownBlock=some z))
theorem Lies.same{W:World}{b:Nat}{t:TypeId}{c d:Array Value}(h:Lies W b t c)(k:Lies W b t d):c=d:=by
 unfold Lies at h k;rw[h]at k;injection k with k;injection k
set_option maxRecDepth 100000 in
theorem zY(p:Option Nat)(l:List IdR)(place:Nat)(w:World)(h:AxIn w p l)(hp:place<=100000000) :
  Calls Tryz.prog 140 #[.pointer (ptr p),.int .i64 (place:Int)] w fun e w'=>e=.returned (.tuple #[idV (l[place]?.getD id0),.bool l[place]?.isSome])/\AxIn w' p l/\Kp p.toList w w'/\∀ z,AxOwn w' p z->AxOwn w p z\/w.heap.size<=z:=by
 obtain⟨ro,hro⟩:∃ ro,l[place]?=ro:=⟨_,rfl⟩
 rw[hro];have HRo:=zh hro;clear hro;have CL:=zh (fun W (h:AxIn W p l)=>uIN p l W h);have hp':Hid (∀ b,p=some b->b<w.heap.size):=zh (fun b e=>by
  subst e;rcases h with⟨base,ids,fl,v1,v2,h1,_⟩|⟨base,⟨v1,v2,v3,v4,m,h1,_⟩⟩
  ·exact h1.ax.lt
  exact h1.lt)
 have H0:Hid (AxIn (w.alloc (.cells #[.int .i64 0,.int .i64 0] 34)) p l):=zh (by
  cases p with
  |none=>exact h
  |some b=>
   have hb:=(Below.refl w.heap.size w).alloc zr (.cells #[.int .i64 0,.int .i64 0] 34);rcases h with⟨base,ids,fl,v1,v2,h1,h2⟩|⟨base,⟨v1,v2,v3,v4,m,h1,h2⟩⟩
   ·exact .inl ⟨base,ids,fl,v1,v2,⟨h1.ax.next hb,gP hb h1.r1,gP hb h1.r2⟩,h2⟩
   exact .inr ⟨base,⟨v1,v2,v3,v4,m,h1.next hb,gP hb h2⟩⟩)
 have tq:=zh (Lies.new w 34 #[.int .i64 0,.int .i64 0]);have cf:Hid (Kp p.toList w (w.alloc (.cells #[.int .i64 0,.int .i64 0] 34))):=zh ((Kp.refl _ w).alloc _);have HZ:Hid (w.heap.size<(w.alloc (.cells #[.int .i64 0,.int .i64 0] 34)).heap.size):=zh (by simp);have HV:Hid (∀ b,p=some b->∀ v1 v2 v3 v4 m,Lies (w.alloc (.cells #[.int .i64 0,.int .i64 0] 34)) b 82 #[v1,v2,.map (some m),v3,v4]->∀ g,v4.ownBlock=some g->g<w.heap.size):=zh (by
  intro b e v1 v2 v3 v4 m hx g hg;subst e;have hb:=(Below.refl w.heap.size w).alloc zr (.cells #[.int .i64 0,.int .i64 0] 34);rcases h with⟨base,ids,fl,u1,u2,h1,_⟩|⟨base,⟨u1,u2,u3,u4,m',h1,h2⟩⟩
  ·have h3:=h1.ax.next hb;unfold Lies at h3 hx;rw[h3]at hx;injection hx with hx;injection hx with hx;simp at hx
  have h3:=h1.next hb;unfold Lies at h3 hx;rw[h3]at hx;injection hx with hx;injection hx with hx;simp at hx;obtain⟨_,_,_,_,e4⟩:=hx;rw[<- e4]at hg;exact(cV h2 g hg).2)
 have HW:Hid (∀ b,p=some b->∀ cs,Lies (w.alloc (.cells #[.int .i64 0,.int .i64 0] 34)) b 82 cs->Lies w b 82 cs):=zh (fun b e cs hx=>by
  have hb:=(Below.refl w.heap.size w).alloc zr (.cells #[.int .i64 0,.int .i64 0] 34);exact(hb.block b (hp'.out b e)).symm.trans hx)
 have HI:Hid (p=none->l=[]):=zh (fun e=>by subst e;exact h);have hpi:¬ (place:Int)<0:=by omega
 clear h
 go_enter Tryz.func140,Tryz.ntmps140
 go_upto_region 1 with fail
 generalize w.alloc (.cells #[.int .i64 0,.int .i64 0] 34)=W1 at *;generalize fa:w.heap.size=q at *;have HQ:=zh fa;clear fa
 go_wp2_with fail
 refine(CL.out W1 H0.out).mono ?_;rintro e w2 ⟨rfl,hd,hk⟩;have cq:=zh (cf.out.trans hk);have ce:=zh (hk.lies tq.out (fun hm=>by
  cases p with
  |none=>cases hm
  |some b=>
   have e:q=b:=by simpa using hm
   have:=hp'.out b rfl;omega))
 have HD:=zh hd;clear hd hk CL H0 tq cf;have x0:=ce.out.cell 0;have x1:=ce.out.cell 1;have f0:=ce.out.frozen 0;have f1:=ce.out.frozen 1;simp only[za,zb,zf]at x0 x1;have ct:Hid (AxIn w2 p l):=zh (by
  cases p with
  |none=>exact HI.out rfl
  |some b=>
   obtain⟨base,h1,_⟩:=HD.out b rfl;exact .inr ⟨base,h1⟩)
 have fj:Hid (∀ u v,AxIn ((w2.setCell ⟨q,0,none⟩ u).setCell ⟨q,1,none⟩ v) p l):=zh (fun u v=>by
  cases p with
  |none=>exact HI.out rfl
  |some b=>
   obtain⟨base,⟨v1,v2,v3,v4,m,hx,ho⟩,hor⟩:=HD.out b rfl;have hbq:b≠q:=by have:=hp'.out b rfl;omega
   have hgq:∀ g,v4.ownBlock=some g->g≠q:=by
    intro g hg;rcases hor with hge|hw
    ·have:=(cV ho g hg).1;have:=HZ.out;omega
    rw[hw]at hx;have:=HV.out b rfl _ _ _ _ _ hx g hg;omega
   refine .inr ⟨base,v1,v2,v3,v4,m,aK (aK hx hbq _ _) hbq _ _,kD ho (((Kp.refl [q] w2).set (.inl (.head _)) 0 u).set (.inl (.head _)) 1 v) (fun g hg hm=>hgq g hg (by simpa using hm))⟩)
 have iq:Hid (∀ u v z,AxOwn ((w2.setCell ⟨q,0,none⟩ u).setCell ⟨q,1,none⟩ v) p z->AxOwn w p z\/w.heap.size<=z):=zh (fun u v z ⟨b,u1,u2,u3,u4,mm,e,hx',hor'⟩=>by
  obtain⟨base,⟨v1,v2,v3,v4,m,hx,ho⟩,hor⟩:=HD.out b e;have hbq:b≠q:=by have:=hp'.out b e;omega
  have he:=Lies.same (aK (aK hx hbq 0 u) hbq 1 v) hx';simp at he;obtain⟨e1,e2,e3,e4,e5⟩:=he;subst e1 e2 e3 e4 e5;rcases hor' with⟨hm,_⟩|⟨_,qv⟩
  ·cases hm
  rcases hor with hge|hw
  ·have:=(cV ho z qv).1;have:=HZ.out
   right
   rw[HQ.out];omega
  rw[hw]at hx;exact .inl ⟨b,_,_,_,_,_,e,HW.out b e _ hx,.inr ⟨by simp,qv⟩⟩)
 by_cases hlt:place<l.length
 ·have hsm:Hid (ro=some l[place]):=zh (HRo.out.symm.trans (List.getElem?_eq_getElem hlt));obtain⟨b,rfl⟩:∃ b,p=some b:=by
   cases p with
   |none=>
    have h0:l=[]:=HI.out rfl;rw[h0]at hlt;cases hlt
   |some b=>exact⟨b,rfl⟩
  obtain⟨base,⟨v1,v2,v3,v4,m,hx,ho⟩,_⟩:=HD.out b rfl;obtain⟨g,cap,rfl,_,bj⟩:=uHT ho (by omega);obtain⟨d0,d1⟩:=bj.2 place hlt;rw[Nat.zero_add]at d0 d1;have a4:=hx.cell 4;simp only[za,zb,zf]at a4;generalize l[place]=x at *;obtain⟨xa,xn⟩:=x;dsimp only at d0 d1;have ux:(place:Int)<(l.length:Int):=by omega
  unfold ptr;clear hx ho bj
  go_wp2_with fail
  refine yt (v:=.tuple #[.agg #[.int .i64 xa,.int .i64 xn],.bool true]) (by simp[results,Tryz.results140,go_sem,x0,x1]) rfl ?_;exact⟨by rw[hsm.out];rfl,fj.out _ _,(cq.out.set (.inr (by rw[HQ.out];exact zr)) 0 _).set (.inr (by rw[HQ.out];exact zr)) 1 _,iq.out _ _⟩
 have s6:Hid (ro=none):=zh (HRo.out.symm.trans (List.getElem?_eq_none (by omega)));have ux:¬ (place:Int)<(l.length:Int):=by omega
 go_wp2_with fail
 refine yt (v:=.tuple #[.agg #[.int .i64 0,.int .i64 0],.bool false]) (by simp[results,Tryz.results140,go_sem,x0,x1]) rfl ?_;exact⟨by rw[s6.out];rfl,fj.out _ _,(cq.out.set (.inr (by rw[HQ.out];exact zr)) 0 _).set (.inr (by rw[HQ.out];exact zr)) 1 _,iq.out _ _⟩
end Go.Proofs.YtmgjidnalpgegaaGreatDoor
