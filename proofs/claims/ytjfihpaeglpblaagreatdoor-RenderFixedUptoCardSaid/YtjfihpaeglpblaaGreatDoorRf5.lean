/-
  Lemmas, part 5: LaidH Par0.
-/
import Derived.Lib.LaidTab
import Derived.Laws.AppendOwn
import Derived.Laws.EntriesVeiled
import Derived.Test.YtjfihpaeglpblaaGreatDoorRf4
set_option maxHeartbeats 100000000
set_option maxRecDepth 1000000
namespace Go.Proofs.YtjfihpaeglpblaaGreatDoor
open Go.RowKit
open Go.ChangeShapes Go.WideShapes Go.ChangeAt Go.RowKit
theorem own:ownKnob Tryz.prog.godebug=none:=by kernel_rfl
theorem laidOut:laidOutB Tryz.prog=true:=by kernel_rfl
theorem sW{H:Type}{enc:TypeId×Value->H}{P:Program}{w:World}{base:Nat}{sp:Nat->Bool}{held:Bool}{fuel:Nat}{t e:TypeId}{n:Nat}{cs:List Value}{ss:List Bs}{p:List MemPlace}
  (ht:P.underlying t=some (.array n e)) (he:P.underlying e=some .string) (hce:P.cellsOf e=1) (hct:P.cellsOf t=n)
  (h:DataW.trod enc P w base sp held fuel t cs=some (.agg (ss.map fun s=>.lit (.string s)),p)):cs=ss.map fun s=>Value.string ⟨s.toArray⟩:=by
 cases fuel with
 |zero=>simp[DataW.trod]at h
 |succ fuel=>
  simp only[DataW.trod,ht,hce,hct,Nat.mul_one]at h
  split at h
  ·rename_i hl
   obtain⟨xs,hm,hx⟩:=Option.map_eq_some_iff.1 h;have hxs:xs.map (·.1)=ss.map fun s=>(DataW.lit (.string s):DataW H):=by
    have:=congrArg Prod.fst hx;simpa using this
   have hxl:xs.length=n:=by simpa using Lib.mapM_length hm
   have hzl:ss.length=n:=by
    have:=congrArg List.length hxs;simp at this;omega
   apply List.ext_getElem?;intro i;by_cases hi:i<n
   ·obtain⟨b,hb,hf⟩:=Lib.mapM_at hm i i (by simp[hi]);obtain⟨z,hc,rfl,_⟩:=DataW.trod_string he hf;have h1:cs[i]?=some (.string z):=by
     have:=congrArg (·[0]?) hc
     simpa [List.getElem?_take,List.getElem?_drop] using this
    have h2:(xs.map (·.1))[i]?=some (DataW.lit (.string z.data.toList):DataW H):=by simp[hb]
    rw[hxs]at h2;simp only[List.getElem?_map,Option.map_eq_some_iff,DataW.lit.injEq,Lit.string.injEq]at h2;obtain⟨z',hz',ku⟩:=h2;simp[h1,hz',ku]
   rw[List.getElem?_eq_none (by omega),List.getElem?_eq_none (by simp;omega)]
  cases h
theorem rI{P:Program}{w:World}:∀ {laid:List (String×DataW Unit)} {ps:List MemPlace},DataW.LaidVars P w laid ps->∀ {n:String} {d:DataW Unit},(n,d)∈laid ->
  ∃ g t cs fuel p,P.globalNamed n=some g/\(P.globals[g]?).map (·.type)=some t/\w.var? P n=some cs/\DataW.trod (fun _=>()) P w 0 (fun _=>true) false fuel t cs.toList=some (d,p)
 | [],_,_,_,_,hm=>by simp at hm
 |(n',d')::r,ps,h,n,d,hm=>by
  obtain⟨g,t,cs,fuel,p,q,h1,h2,h3,h4,h5,_⟩:=h;rcases ym.1 hm with e|e
  ·injection e with e1 e2;subst e1 e2;exact⟨g,t,cs,fuel,p,h1,h2,h3,h4⟩
  exact rI h5 e
def faultName:String:= "counterpane/value.faultTexts"
theorem gFault:Tryz.prog.globalNamed faultName=some 0:=by kernel_rfl
theorem uAB:(Tryz.prog.globals[0]?).map (·.type)=some 219:=by kernel_rfl
theorem tab_of_laid{laid:List (String×DataW Unit)}{W:World}(h:laidMet Tryz.prog laid W)(hm:(faultName,Rows.laid_counterpane_value_faultTexts)∈laid):Tab W:=by
 obtain⟨ps,hl,_⟩:=h;obtain⟨g,t,cs,fuel,p,h1,h2,h3,h4⟩:=rI hl hm;obtain rfl:=Option.some.inj (gFault.symm.trans h1);obtain rfl:=Option.some.inj (uAB.symm.trans h2);have ep:=sW (ss:=(List.range 10).map jV) Tryz.underlying219 Tryz.underlying9 (by kernel_rfl) (by kernel_rfl) h4;intro i hi;have h5:=World.var?_cell gFault h3 i;rw[h5];have h6:cs[i]?=cs.toList[i]?:=by simp
 rw[h6,ep];simp[hi]
open Go.ChangeShapes Go.WideShapes Go.ChangeAt Go.RowKit
open Go.ChangeShapes Go.WideShapes Go.ChangeAt Go.RowKit
theorem gPowType:(Tryz.prog.globals[4]?).map (·.type)=some 268:=by kernel_rfl
theorem pow_of_laid{laid:List (String×DataW Unit)}{W:World}(h:laidMet Tryz.prog laid W)(hm:("internal/strconv.uint64pow10",Rows.laid_internal_strconv_uint64pow10)∈laid):PowTab W:=by
 obtain⟨ps,hl,_⟩:=h;obtain⟨g,t,cs,fuel,p,h1,h2,h3,h4⟩:=rI hl hm;obtain rfl:=Option.some.inj (gPow.symm.trans h1);obtain rfl:=Option.some.inj (gPowType.symm.trans h2);have ep:=Lib.cells_of_tab (zs:=Lib.pow10Tab) Tryz.underlying268 Tryz.underlying216 (by kernel_rfl) (by kernel_rfl) h4;unfold PowTab Lib.TabIs;rw[h3,<- ep]
open Go.ChangeShapes Go.WideShapes Go.ChangeAt Go.RowKit
theorem max_of_shaped{W:World}(h:W.ShapedOpen Tryz.prog):MaxVar W :=
 Go.Proofs.cell_of_shapedOpen_int (zero:=#[.int .i64 0]) (t:=3) h (of_decide_eq_true (by kernel_rfl)) (by kernel_rfl) rfl (by kernel_rfl) (by kernel_rfl) Tryz.underlying3
def cells1:DataW Unit->List Value
 | .lit (.int k z)=>[.int k z]
 | .lit (.string s)=>[.string ⟨s.toArray⟩]
 | .agg l=>l.map fun d=>match d with|.lit (.int k z)=>Value.int k z | .lit (.string s)=>Value.string ⟨s.toArray⟩|_=>Value.bool false
 |_=>[]
def uFT:DataW Unit->Array Value
 | .agg l=>(l.flatMap cells1).toArray
 |_=>#[]
def putTab2(d:DataW Unit):Obj->Obj
 | .cells _ t frozen=>.cells (uFT d) t frozen
 |o=>o
noncomputable def laidWorldD (os:Os):World :=
 { World.holding Tryz.prog os ⟨#[],#[],[]⟩ with heap:=((((((World.holding Tryz.prog os ⟨#[],#[],[]⟩).heap.modify 0 (putTab2 Rows.laid_counterpane_value_faultTexts)).modify 4 (putTab2 Rows.laid_internal_strconv_uint64pow10)).modify 5 (putTab2 Rows.laid_math_bits_deBruijn32tab)).modify 6 (putTab2 Rows.laid_math_bits_deBruijn64tab)).modify 2 (putTab2 Rows.laid_unicode_utf8_first)).modify 3 (putTab2 Rows.laid_unicode_utf8_acceptRanges) }
structure Kp(Y:List Nat)(w w':World):Prop where
 os:w'.os=w.os
 tape:w'.tape=w.tape
 output:w'.output=w.output
 size:w.heap.size<=w'.heap.size
 block:∀ k,k<w.heap.size->k∉Y->w'.heap[k]?=w.heap[k]?
theorem Kp.refl(Y:List Nat)(w:World):Kp Y w w:=⟨rfl,rfl,rfl,zr,fun _ _ _=>rfl⟩
theorem Kp.trans{Y:List Nat}{a b c:World}(h:Kp Y a b)(k:Kp Y b c):Kp Y a c :=
 ⟨k.os.trans h.os,k.tape.trans h.tape,k.output.trans h.output,yv h.size k.size,fun i hi hn=>(k.block i (yu hi h.size) hn).trans (h.block i hi hn)⟩
theorem Kp.mono{Y Z:List Nat}{a b:World}(h:Kp Y a b)(hs:∀ k∈Y,k<a.heap.size->k∈Z):Kp Z a b :=
 ⟨h.os,h.tape,h.output,h.size,fun i hi hn=>h.block i hi (fun hm=>hn (hs i hm hi))⟩
theorem Kp.of_below{Y:List Nat}{a b:World}(h:Below a.heap.size a b):Kp Y a b:=⟨h.os,h.tape,h.output,h.size,fun i hi _=>h.block i hi⟩
theorem Kp.below{Y:List Nat}{a b:World}{B:Nat}(h:Kp Y a b)(hB:∀ k∈Y,B<=k)(hs:B<=a.heap.size):Below B a b :=
 ⟨h.os,h.tape,h.output,h.size,fun i hi=>h.block i (yu hi hs) (fun hm=>absurd (hB i hm) (by omega))⟩
theorem Kp.alloc{Y:List Nat}{a b:World}(h:Kp Y a b)(o:Obj):Kp Y a (b.alloc o):=h.trans (Kp.of_below ((Below.refl _ b).alloc zr o))
theorem Kp.drew{Y:List Nat}{a b:World}(h:Kp Y a b):Kp Y a b.drew:=h.trans (Kp.of_below (Below.refl _ b).drew)
theorem Kp.set{Y:List Nat}{a b:World}(h:Kp Y a b){r:Nat}(hr:r∈Y\/a.heap.size<=r)(i:Nat)(u:Value):Kp Y a (b.setCell ⟨r,i,none⟩ u) :=
 ⟨h.os,h.tape,h.output,by rw[World.size_setCell];exact h.size,fun k hk hn=>(Below.heap_setCell b ⟨r,i,none⟩ u k (fun e=>by
  have e':k=r:=e;rcases hr with hr|hr
  ·exact hn (e' ▸ hr)
  omega)).trans (h.block k hk hn)⟩
theorem Kp.grown{Y:List Nat}{a b c:World}(h:Kp Y a b){row:Option Nat}(hg:b.grownBy c row)(hr:∀ g,row=some g->g∈Y\/a.heap.size<=g):Kp Y a c :=
 ⟨hg.os.trans h.os,hg.tape.trans h.tape,hg.output.trans h.output,yv h.size hg.size,fun k hk hn=>(hg.block k (yu hk h.size) (fun e=>by
  rcases hr k e.symm with h1|h1
  ·exact hn h1
  omega)).trans (h.block k hk hn)⟩
theorem Kp.andThen{Y Z:List Nat}{a b c:World}(h:Kp Y a b)(k:Kp Z b c)(hz:∀ g∈Z,g∈Y\/a.heap.size<=g):Kp Y a c :=
 ⟨k.os.trans h.os,k.tape.trans h.tape,k.output.trans h.output,yv h.size k.size,fun i hi hn=>(k.block i (yu hi h.size) (fun hm=>by
  rcases hz i hm with h1|h1
  ·exact hn h1
  omega)).trans (h.block i hi hn)⟩
theorem Kp.lies{Y:List Nat}{a b:World}(h:Kp Y a b){g:Nat}{t:TypeId}{cs:Array Value}(hl:Lies a g t cs)(hn:g∉Y):Lies b g t cs:=(h.block g hl.lt hn).trans hl
theorem Kp.cell{Y:List Nat}{a b:World}(h:Kp Y a b){g i:Nat}(hg:g<a.heap.size)(hn:g∉Y):b.cell? ⟨g,i,none⟩=a.cell? ⟨g,i,none⟩:=World.cell?_of_block (w:=a) (a:=⟨g,i,none⟩) (h.block g hg hn)
structure Only(m:Nat)(w w':World):Prop where
 os:w'.os=w.os
 tape:w'.tape=w.tape
 output:w'.output=w.output
 size:w'.heap.size=w.heap.size
 block:∀ k,k≠m->w'.heap[k]?=w.heap[k]?
theorem Only.kp{m:Nat}{w w':World}(h:Only m w w'):Kp [m] w w':=⟨h.os,h.tape,h.output,by rw[h.size];exact zr,fun k _ hn=>h.block k (fun e=>hn (by rw[e];exact .head _))⟩
def fA(ops:Array Oper):Bool:=(List.range ops.size).all fun i=>((ops[i]?).map fun o=>o.after.all fun e=>!Region.binds .any e||decide (e.on<i)).getD true
theorem gD{ops:Array Oper}(h:fA ops=true){i:Nat}{o:Oper}(ho:ops[i]?=some o):∀ e∈o.after,Region.binds .any e=true->e.on<i:=by
 intro e he hb;have hlt:i<ops.size:=(zk.1 ho).1;have:=List.all_eq_true.1 h i (yg.2 hlt);rw[ho]at this;simp only[Option.map_some,Option.getD_some,Array.all_eq_true_iff_forall_mem]at this;have h1:=this e he;rw[hb]at h1;exact of_decide_eq_true h1
theorem uCO{ops:Array Oper}(hb:fA ops=true){zl:Array Bool}(hs:zl.size=ops.size)(hr:Region.ready .any ops zl=[]):∀ i,i<ops.size->Up zl i:=by
 intro i
 induction i using Nat.strongRecOn with
 |_ i ih=>
  intro hi;cases hu:zl.getD i true
  ·exfalso
   have ho:ops[i]?=some ops[i]:=Array.getElem?_eq_getElem hi;have:i∈Region.ready .any ops zl:=mem_ready.2 ⟨hu,ops[i],ho,fun e he hd=>ih e.on (gD hb ho e he hd) (Nat.lt_trans (gD hb ho e he hd) hi)⟩;rw[hr]at this;cases this
  have q8:i<zl.size:=by omega
  unfold Up;simp only[Array.getD_eq_getD_getElem?,Array.getElem?_eq_getElem q8,Option.getD_some]at hu ⊢;exact hu
theorem sR{P:Program}{ops:Array Oper}{Q:Exit->Act->World->Prop}(hb:fA ops=true)(I:Array Bool->Act->World->Prop)
  (bw:∀ zl a w i o,zl.size=ops.size->I zl a w->zl.getD i true=false->ops[i]?=some o->(∀ e∈o.after,Region.binds .any e=true->Up zl e.on)->wpOp P ops Q i (I (zl.setIfInBounds i true)) a w)
  (b7:∀ zl a w,I zl a w->(∀ i,i<ops.size->Up zl i)->Q .normal a w) :
  ∀ (fuel:Nat) (zl:Array Bool) (a:Act) (w:World),zl.size=ops.size->left zl<=fuel->I zl a w->wpAny P .any ops Q fuel zl a w
 |0,zl,a,w,hs,hf,hI=>by
  have hr:Region.ready .any ops zl=[]:=by
   refine List.eq_nil_iff_forall_not_mem.2 (fun i hi=>?_);have h1:=(mem_ready.1 hi).1;rw[tZ (by omega) i]at h1;cases h1
  exact⟨hr,b7 zl a w hI (uCO hb hs hr)⟩
 |fuel+1,zl,a,w,hs,hf,hI=>by
  refine⟨fun hr=>b7 zl a w hI (uCO hb hs hr),fun i hi=>?_⟩;obtain⟨h1,o,ho,zd⟩:=mem_ready.1 hi;refine wpOp_mono (fun a' w' h'=>sR hb I bw b7 fuel _ a' w' (by rw[Array.size_setIfInBounds];exact hs) (by have:=rJ h1;omega) h') (bw zl a w i o hs hI h1 ho zd)
theorem eW{P:Program}{ops:Array Oper}{Q:Exit->Act->World->Prop}{id:Nat}{a:Act}{w:World}(hm:P.follows .mixedOrders=true)(hb:fA ops=true)(F:Act->Prop)(I:Act->Array Bool->Act->World->Prop)(hF:F a)
  (h0:I a (Array.replicate ops.size false) a w.drew)
  (bw:∀ a0,F a0->∀ zl a w i o,zl.size=ops.size->I a0 zl a w->zl.getD i true=false->ops[i]?=some o->(∀ e∈o.after,Region.binds .any e=true->Up zl e.on)->wpOp P ops Q i (I a0 (zl.setIfInBounds i true)) a w)
  (b7:∀ zl a' w',I a zl a' w'->(∀ i,i<ops.size->Up zl i)->Q .normal a' w'):(Code.region id ops true).wp P Q a w :=
 wp_region_any hm (sR hb (I a) (bw a hF) b7 ops.size _ a _ (by simp) (by rw[jX];exact zr) h0)
theorem aX{w:World}{b n sz:Nat}{te tb:TypeId}(ht:te≠tb){v:Value}{xs:List Value}(h:w.ownsRow b te sz v n xs){bx:Nat}{cs:Array Value}(hl:Lies w bx tb cs):some bx≠v.ownBlock:=fun e=>by
 rcases h.2 with⟨rfl,_⟩|⟨g,cap,cur,rfl,_,hg,_⟩
 ·simp[Value.ownBlock]at e
 simp[Value.ownBlock]at e;subst e;unfold Lies at hl;rw[hg]at hl;injection hl with hl;injection hl with _ hl _;exact ht hl
theorem kM{w:World}{b n sz:Nat}{te tb:TypeId}(ht:te≠tb){v:Value}{xs:List Value}(h:w.ownsRow b te sz v n xs){bx:Nat}{cs:Array Value}(hl:Lies w bx tb cs)(i:Nat)(u:Value):(w.setCell ⟨bx,i,none⟩ u).ownsRow b te sz v n xs:=by
 have hg:w.grownBy (w.setCell ⟨bx,i,none⟩ u) (some bx):=⟨rfl,rfl,rfl,by rw[World.size_setCell];exact zr,fun j _ cg=>Below.heap_setCell w ⟨bx,i,none⟩ u j (fun e=>cg (congrArg some e))⟩
 exact World.ownsRow.kept h hg (.inr (fun e=>aX ht h hl e.symm))
theorem Lies.grownA{w w':World}{g:Nat}{t:TypeId}{cs:Array Value}{row:Option Nat}(h:Lies w g t cs)(hg:w.grownBy w' row)(hr:some g≠row):Lies w' g t cs:=(hg.block g h.lt hr).trans h
theorem aB{w:World}{g:Nat}{t:TypeId}{cs:Array Value}(h:Lies w g t cs){b:Nat}(hb:g≠b)(i:Nat)(u:Value):Lies (w.setCell ⟨b,i,none⟩ u) g t cs:=(Below.heap_setCell w ⟨b,i,none⟩ u g hb).trans h
structure GA(S:List Nat)(T:List (Nat×Nat×Value))(Y:List Nat)(X:World)(il ib sb ia sa is bx ci:Nat)(te tb:TypeId)(z:Array Value)(base sz n:Nat)(v0:Value)(xs news:List Value)(a0:Act)(zl:Array Bool)(a:Act)(w:World):Prop where
 off:Off S a0 a
 pt:PT T zl a
 kp:Kp Y X w
 dp:Up zl ia->Up zl il/\Up zl ib
 nb:Up zl ib->¬ Up zl ia->∃ g,a.eval (.tmp sb)=.slice (some ⟨g,0,none⟩) 1 1/\Lies w g te news.toArray
 o1:¬ Up zl ia->w.ownsRow base te sz v0 n xs
 o2:Up zl ia->w.ownsRow base te sz (a.eval (.tmp sa)) (n+1) (xs++news)
 b1:¬ Up zl is->Lies w bx tb z
 b2:Up zl is->Up zl ia/\Lies w bx tb (z.setIfInBounds ci (a.eval (.tmp sa)))
def okA(nums:List (Nat×Nat))(S:List Nat)(ib sb ia sa is N:Nat):Bool :=
 nums.all (fun e=>e.2 != sa&&e.2 != sb&&e.1 != ib&&e.1 != ia&&e.1 != is&&S.contains e.2&&decide (e.2<N))&&decide (nums.Pairwise (fun p q=>p.1≠q.1/\p.2≠q.2))&&ib != ia&&ib != is&&ia != is&&sa != sb&&S.contains sa&&S.contains sb&&decide (sa<N)&&decide (sb<N)
structure GAk(S:List Nat)(T:List (Nat×Nat×Value))(Y:List Nat)(ib sb ia sa is bx:Nat)(te tb:TypeId)(v0:Value)(N:Nat):Prop where
 num:okA (T.map fun e=>(e.1,e.2.1)) S ib sb ia sa is N=true
 ty:te≠tb
 row:∀ g,v0.ownBlock=some g->g∈Y
 box:bx∈Y
section
variable {S:List Nat} {T:List (Nat×Nat×Value)} {Y:List Nat} {X w:World} {il ib sb ia sa is bx ci:Nat} {te tb:TypeId} {z:Array Value} {base sz n N:Nat} {v0:Value} {xs news:List Value} {a0 a:Act} {zl:Array Bool} {ops:Array Oper} {Q:Exit->Act->World->Prop} {o:Oper}
theorem GAk.parts(hk:GAk S T Y ib sb ia sa is bx te tb v0 N):(∀ e∈T,e.2.1≠sa/\e.2.1≠sb/\e.1≠ib/\e.1≠ia/\e.1≠is/\e.2.1∈S/\e.2.1<N)/\T.Pairwise (fun p q=>p.1≠q.1/\p.2.1≠q.2.1)/\(ib≠ia/\ib≠is/\ia≠is/\sa≠sb/\sa∈S/\sb∈S/\sa<N/\sb<N):=by
 have hn:=hk.num;simp only[okA,yh,List.all_eq_true,bne_iff_ne,decide_eq_true_eq,List.contains_iff_mem,List.pairwise_map,yj,forall_exists_index,and_imp,forall_apply_eq_imp_iff₂]at hn;obtain⟨⟨⟨⟨⟨⟨⟨⟨⟨h1,h2⟩,h3⟩,h4⟩,h5⟩,h6⟩,h7⟩,h8⟩,h9⟩,vc⟩:=hn;refine⟨fun e he=>?_,h2,h3,h4,h5,h6,h7,h8,h9,vc⟩;obtain⟨⟨⟨⟨⟨⟨g1,g2⟩,g3⟩,g4⟩,g5⟩,g6⟩,g7⟩:=h1 e he;exact⟨g1,g2,g3,g4,g5,g6,g7⟩
theorem GAk.row_of(hk:GAk S T Y ib sb ia sa is bx te tb v0 N){e:Nat×Nat×Value}(he:e∈T):e.2.1≠sa/\e.2.1≠sb/\e.1≠ib/\e.1≠ia/\e.1≠is/\e.2.1∈S/\e.2.1<N:=hk.parts.1 e he
theorem GAk.ne(hk:GAk S T Y ib sb ia sa is bx te tb v0 N):ib≠ia/\ib≠is/\ia≠is/\sa≠sb/\sa∈S/\sb∈S/\sa<N/\sb<N:=hk.parts.2.2
theorem GAk.uniq(hk:GAk S T Y ib sb ia sa is bx te tb v0 N){e e':Nat×Nat×Value}(he:e∈T)(j4:e'∈T)(hs:e.1=e'.1\/e.2.1=e'.2.1):e=e':=by
 by_cases heq:e=e'
 ·exact heq
 exfalso
 have h2:=hk.parts.2.1;have key:∀ l:List (Nat×Nat×Value),l.Pairwise (fun p q=>p.1≠q.1/\p.2.1≠q.2.1)->∀ x∈l,∀ y∈l,x≠y->x.1≠y.1/\x.2.1≠y.2.1:=by
  intro l
  induction l with
  |nil=>intro _ x hx;cases hx
  |cons c l ih=>
   intro hp x hx y hy cg;rw[List.pairwise_cons]at hp;rcases ym.1 hx with ex|hx <;> rcases ym.1 hy with ey|hy
   ·exact absurd (ex.trans ey.symm) cg
   ·rw[ex];exact hp.1 y hy
   ·rw[ey];exact⟨fun e=>(hp.1 x hx).1 e.symm,fun e=>(hp.1 x hx).2 e.symm⟩
   exact ih hp.2 x hx y hy cg
 have:=key T h2 e he e' j4 heq;rcases hs with hs|hs
 ·exact this.1 hs
 exact this.2 hs
theorem GA.unl(hI:GA S T Y X il ib sb ia sa is bx ci te tb z base sz n v0 xs news a0 zl a w)(ah:zl.getD il true=false):Lies w bx tb z :=
 hI.b1 (fun h=>iY ah (hI.dp (hI.b2 h).1).1)
theorem GA.start(a:Act)(m:Nat)(hk:Kp Y X w)(ho:w.ownsRow base te sz v0 n xs)(hl:Lies w bx tb z):GA S T Y X il ib sb ia sa is bx ci te tb z base sz n v0 xs news a (Array.replicate m false) a w :=
 ⟨Off.refl _ _,PT.start _ _ _,hk,fun h=>absurd h (Up.none _ _),fun h=>absurd h (Up.none _ _),fun _=>ho,fun h=>absurd h (Up.none _ _),fun _=>hl,fun h=>absurd h (Up.none _ _)⟩
theorem bG(hk:GAk S T Y ib sb ia sa is bx te tb v0 N)(hI:GA S T Y X il ib sb ia sa is bx ci te tb z base sz n v0 xs news a0 zl a w)(hN:N<=a0.tmps.size){i s:Nat}{v:Value}(he:(i,s,v)∈T)(ah:zl.getD i true=false)(ho:ops[i]?=some o)(hg:o.guard=none)(hd:o.dst=some s)
  (hr:(execOp a.eval o).run Tryz.prog w=.ok (.value v) w):wpOp Tryz.prog ops Q i (GA S T Y X il ib sb ia sa is bx ci te tb z base sz n v0 xs news a0 (zl.setIfInBounds i true)) a w:=by
 have hi:=Up.of_false ah;obtain⟨h1,h2,h3,h4,h5,h6,h7⟩:=hk.row_of he;refine jF ho hg (oK v hr ?_);rw[hd];have mp:∀ {k},k≠i->(Up (zl.setIfInBounds i true) k↔Up zl k):=fun cg=>⟨fun h=>kG hi h cg,fun h=>eI hi h⟩
 have ea:(a.put (some s) v).eval (.tmp sa)=a.eval (.tmp sa):=gV _ _ h1;have eb:(a.put (some s) v).eval (.tmp sb)=a.eval (.tmp sb):=gV _ _ h2;refine⟨hI.off.put h6 v,hI.pt.step hi (by rw[hI.off.size];exact yu h7 hN) (fun e' j4 hs=>by rw[hk.uniq j4 he (.inr hs)]) (fun e' j4 hs=>by rw[hk.uniq j4 he (.inl hs)]),hI.kp,fun h=>⟨eI hi (hI.dp (kG hi h (Ne.symm h4))).1,eI hi (hI.dp (kG hi h (Ne.symm h4))).2⟩,?_,?_,?_,?_,?_⟩
 ·rw[eb,mp (Ne.symm h3),mp (Ne.symm h4)];exact hI.nb
 ·rw[mp (Ne.symm h4)];exact hI.o1
 ·rw[ea,mp (Ne.symm h4)];exact hI.o2
 ·rw[mp (Ne.symm h5)];exact hI.b1
 rw[ea,mp (Ne.symm h5),mp (Ne.symm h4)];exact hI.b2
theorem qW(hk:GAk S T Y ib sb ia sa is bx te tb v0 N)(hI:GA S T Y X il ib sb ia sa is bx ci te tb z base sz n v0 xs news a0 zl a w)(hN:N<=a0.tmps.size)(ah:zl.getD ib true=false)(ho:ops[ib]?=some o)(hg:o.guard=none)(hd:o.dst=some sb)
  (hr:(execOp a.eval o).run Tryz.prog w=.ok (.value (.slice (some ⟨w.heap.size,0,none⟩) 1 1)) (w.alloc (.cells news.toArray te))):wpOp Tryz.prog ops Q ib (GA S T Y X il ib sb ia sa is bx ci te tb z base sz n v0 xs news a0 (zl.setIfInBounds ib true)) a w:=by
 have hi:=Up.of_false ah;have zt:¬ Up zl ia:=fun h=>iY ah (hI.dp h).2
 obtain⟨n1,n2,n3,n4,n5,n6,n7,n8⟩:=hk.ne;refine jF ho hg (oK _ hr ?_);rw[hd];have mp:∀ {k},k≠ib->(Up (zl.setIfInBounds ib true) k↔Up zl k):=fun cg=>⟨fun h=>kG hi h cg,fun h=>eI hi h⟩
 have ea:(a.put (some sb) (.slice (some ⟨w.heap.size,0,none⟩) 1 1)).eval (.tmp sa)=a.eval (.tmp sa):=gV _ _ (Ne.symm n4);have hs:sb<a.tmps.size:=by rw[hI.off.size];omega
 refine⟨hI.off.put n6 _,hI.pt.step hi hs (fun e' j4 zu=>absurd zu (hk.row_of j4).2.1) (fun e' j4 zu=>absurd zu (hk.row_of j4).2.2.1),hI.kp.alloc _,fun h=>absurd (kG hi h (Ne.symm n1)) zt,?_,?_,?_,?_,?_⟩
 ·exact fun _ _=>⟨w.heap.size,fJ _ _ hs,Lies.new _ _ _⟩
 ·rw[mp (Ne.symm n1)];exact fun h=>World.ownsRow.alloc (hI.o1 h) _
 ·rw[mp (Ne.symm n1)];exact fun h=>absurd h zt
 ·rw[mp (Ne.symm n2)];exact fun h=>(hI.b1 h).alloc _
 rw[mp (Ne.symm n2)];exact fun h=>absurd (hI.b2 h).1 zt
theorem uAC(hk:GAk S T Y ib sb ia sa is bx te tb v0 N)(hI:GA S T Y X il ib sb ia sa is bx ci te tb z base sz n v0 xs news a0 zl a w)(hN:N<=a0.tmps.size)(ah:zl.getD ia true=false)(ho:ops[ia]?=some o)(hg:o.guard=none)(hd:o.dst=some sa)(pz:Up zl il)(hb:Up zl ib)
  (t:TypeId) (so:Nat) (hop:o.op=.call { callee:=.builtin .append,args:=#[.tmp so,.tmp sb],argTypes:=#[t,t] }) (hv:a.eval (.tmp so)=v0)
  (i0:TypeInfo) (zv:Value) (bytes:Nat) (ht:Tryz.prog.underlying t=some (.slice te)) (zw:Tryz.prog.info? te=some i0) (hz:i0.zero=some zv) (nj:i0.size=sz) (mo:i0.bytes=bytes) (hzs:zv.cells.size=sz) (ap:0<sz)
  (hl:news.length=sz) (h1:∀ u∈news,u.oneCell'=true) (h63:n+1<=maxLen) (lf:(n+1)*bytes<=140737488355328) (fd:base<=w.heap.size) :
  wpOp Tryz.prog ops Q ia (GA S T Y X il ib sb ia sa is bx ci te tb z base sz n v0 xs news a0 (zl.setIfInBounds ia true)) a w:=by
 have hi:=Up.of_false ah;have zt:=iY ah;have hns:¬ Up zl is:=fun h=>zt (hI.b2 h).1
 obtain⟨n1,n2,n3,n4,n5,n6,n7,n8⟩:=hk.ne;obtain⟨g,e1,hL⟩:=hI.nb hb zt;have az:=hI.o1 zt;refine jF ho hg (wp_append_own w (.tmp so) (.tmp sb) t hop base te i0 zv sz bytes ht zw hz nj mo hzs ap v0 n xs hv az ⟨g,0,none⟩ 1 1 news e1 (by rw[Nat.one_mul];exact hl) (fun j u hj=>?_) h1 h63 lf fd ?_)
 ·have hc:=hL.cell j;rw[za,hj]at hc;have e:(⟨g,0,none⟩:Addr).add j=⟨g,j,none⟩:=by cases j <;> simp[Addr.add]
  rw[e];exact hc
 intro v' w' ee dg _;rw[hd];have mp:∀ {k},k≠ia->(Up (zl.setIfInBounds ia true) k↔Up zl k):=fun cg=>⟨fun h=>kG hi h cg,fun h=>eI hi h⟩
 have hs:sa<a.tmps.size:=by rw[hI.off.size];omega
 refine⟨hI.off.put n5 _,hI.pt.step hi hs (fun e' j4 zu=>absurd zu (hk.row_of j4).1) (fun e' j4 zu=>absurd zu (hk.row_of j4).2.2.2.1),hI.kp.grown dg (fun g hg=>.inl (hk.row g hg)),fun _=>⟨eI hi pz,eI hi hb⟩,?_,?_,?_,?_,?_⟩
 ·exact fun _ h=>absurd (qD hi) h
 ·exact fun h=>absurd (qD hi) h
 ·intro _;rw[fJ _ _ hs];exact ee
 ·rw[mp (Ne.symm n3)];exact fun h=>(hI.b1 h).grownA dg (aX hk.ty az (hI.b1 h))
 rw[mp (Ne.symm n3)];exact fun h=>absurd h hns
theorem qX(hk:GAk S T Y ib sb ia sa is bx te tb v0 N)(hI:GA S T Y X il ib sb ia sa is bx ci te tb z base sz n v0 xs news a0 zl a w)(ah:zl.getD is true=false)(ho:ops[is]?=some o)(hg:o.guard=none)(hd:o.dst=none)(ha:Up zl ia)
  (hr:Lies w bx tb z->(∃ g c,a.eval (.tmp sa)=.slice (some ⟨g,0,none⟩) (n+1) c)->(execOp a.eval o).run Tryz.prog w=.ok .skip (w.setCell ⟨bx,ci,none⟩ (a.eval (.tmp sa)))):wpOp Tryz.prog ops Q is (GA S T Y X il ib sb ia sa is bx ci te tb z base sz n v0 xs news a0 (zl.setIfInBounds is true)) a w:=by
 have hi:=Up.of_false ah;have hns:=iY ah;obtain⟨n1,n2,n3,n4,n5,n6,n7,n8⟩:=hk.ne;have hl:=hI.b1 hns;have az:=hI.o2 ha;obtain⟨g,c,j6⟩:∃ g c,a.eval (.tmp sa)=.slice (some ⟨g,0,none⟩) (n+1) c:=by
  rcases az.2 with⟨_,h0⟩|⟨g,cap,cur,e,_⟩
  ·omega
  exact⟨g,cap,e⟩
 refine jF ho hg (uCL (hr hl ⟨g,c,j6⟩) ?_);rw[hd];show GA S T Y X il ib sb ia sa is bx ci te tb z base sz n v0 xs news a0 _ a _;have mp:∀ {k},k≠is->(Up (zl.setIfInBounds is true) k↔Up zl k):=fun cg=>⟨fun h=>kG hi h cg,fun h=>eI hi h⟩
 refine⟨hI.off,hI.pt.skip hi (fun e' j4=>(hk.row_of j4).2.2.2.2.1),hI.kp.set (.inl hk.box) _ _,fun _=>⟨eI hi (hI.dp ha).1,eI hi (hI.dp ha).2⟩,?_,?_,?_,?_,?_⟩
 ·rw[mp n3];exact fun _ h=>absurd ha h
 ·rw[mp n3];exact fun h=>absurd ha h
 ·rw[mp n3];exact fun _=>kM hk.ty az hl _ _
 ·exact fun h=>absurd (qD hi) h
 exact fun _=>⟨eI hi ha,hl.put _ _⟩
end
end Go.Proofs.YtjfihpaeglpblaaGreatDoor
