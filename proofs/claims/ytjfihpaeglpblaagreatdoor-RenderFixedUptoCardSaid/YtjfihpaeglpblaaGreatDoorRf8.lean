/-
  Lemmas, part 8: Par4 Par5 Par7 ParA ParD ParE ParP ParO ParS ParX ParY.
-/
import Derived.Deep.CutBlock
import Derived.Great.BuildSlice
import Derived.Great.Walk
import Derived.Test.YtjfihpaeglpblaaGreatDoorRf6
set_option maxHeartbeats 100000000
set_option maxRecDepth 1000000
namespace Go.Proofs.YtjfihpaeglpblaaGreatDoor
open Go.RowKit
abbrev aH(h:NodeH)(A:Option Addr)(n c:Nat):Array Value:=#[vI h.kind,vI h.v.kind,vI h.v.mant,vI h.v.exp,vT h.v.text,.bool h.v.truth,vI h.v.fault,vT h.name,
 vI h.a.row.a,vI h.a.row.n,vI h.a.col.a,vI h.a.col.n,.bool h.a.fr,.bool h.a.fc,vI h.b.row.a,vI h.b.row.n,vI h.b.col.a,vI h.b.col.n,.bool h.b.fr,.bool h.b.fc,vI h.rows,.slice A n c]
abbrev cE(h:NodeH)(A:Option Addr)(n c:Nat):Value:=.agg (aH h A n c)
mutual
def NodeAt(W:World)(X:List Nat)(g o:Nat):Tree->Prop
 | .mk h l=>∃ A c,(∀ j,j<22->W.cell? ⟨g,o+j,none⟩=(aH h A l.length c)[j]?)/\(l=[]\/∃ g' o',A=some ⟨g',o',none⟩/\g'∉X/\g'<W.heap.size/\KidsAt W X g' o' l)
def KidsAt(W:World)(X:List Nat)(g:Nat):Nat->List Tree->Prop
 |_,[]=>True
 |o,t::r=>NodeAt W X g o t/\KidsAt W X g (o+22) r
end
def KidsOk(W:World)(X:List Nat)(A:Option Addr)(l:List Tree):Prop:=l=[]\/∃ g' o',A=some ⟨g',o',none⟩/\g'∉X/\g'<W.heap.size/\KidsAt W X g' o' l
mutual
theorem NodeAt.kp{W W':World}{X:List Nat}(hk:Kp X W W'){g o:Nat}(hg:g<W.heap.size)(hx:g∉X):∀ {t:Tree},NodeAt W X g o t->NodeAt W' X g o t
 | .mk h l,hn=>by
  obtain⟨A,c,h1,h2⟩:=hn;refine⟨A,c,fun j hj=>(hk.cell hg hx).trans (h1 j hj),?_⟩;rcases h2 with h2|⟨g',o',e,h3,h4,h5⟩
  ·exact .inl h2
  exact .inr ⟨g',o',e,h3,yu h4 hk.size,KidsAt.kp hk h4 h3 h5⟩
theorem KidsAt.kp{W W':World}{X:List Nat}(hk:Kp X W W'){g:Nat}(hg:g<W.heap.size)(hx:g∉X):∀ {l:List Tree} {i:Nat},KidsAt W X g i l->KidsAt W' X g i l
 | [],_,_=>trivial
 |_::_,_,hn=>⟨NodeAt.kp hk hg hx hn.1,KidsAt.kp hk hg hx hn.2⟩
end
theorem KidsOk.kp{W W':World}{X:List Nat}(hk:Kp X W W'){A:Option Addr}{l:List Tree}(h:KidsOk W X A l):KidsOk W' X A l:=by
 rcases h with h2|⟨g',o',e,h3,h4,h5⟩
 ·exact .inl h2
 exact .inr ⟨g',o',e,h3,yu h4 hk.size,KidsAt.kp hk h4 h3 h5⟩
theorem uJ{ty:TypeId}{bx:Nat}:∀ (r:List Value) (i:Nat) (W:World) (cs:Array Value),Lies W bx ty cs->i+r.length=cs.size->Lies (W.setCells bx i r) bx ty (cs.toList.take i++r).toArray
 | [],i,_,cs,h,hl=>by
  have:(cs.toList.take i++[]).toArray=cs:=by
   rw[List.append_nil,List.take_of_length_le (by simp at hl;simp;omega)]
  rw[this];exact h
 |v::r,i,_,cs,h,hl=>by
  have h1:=uJ r (i+1) _ _ (h.put i v) (by simp at hl ⊢;omega);have hi:i<cs.toList.length:=by simp at hl ⊢;omega
  have e:((cs.setIfInBounds i v).toList.take (i+1)++r).toArray=(cs.toList.take i++v::r).toArray:=by
   congr 1
   rw[Array.toList_setIfInBounds,yw (by simpa using hi),List.getElem_set_self,List.take_set_of_le zr];simp
  rw[<- e];exact h1
theorem mM{Y:List Nat}{a:World}{bx:Nat}(hb:bx∈Y\/a.heap.size<=bx):∀ (r:List Value) (i:Nat) {W:World},Kp Y a W->Kp Y a (W.setCells bx i r)
 | [],_,_,h=>h
 |v::r,i,_,h=>mM hb r (i+1) (h.set hb i v)
theorem fH{bx g:Nat}{t:TypeId}{cs:Array Value}(hb:g≠bx):∀ (r:List Value) (i:Nat) {W:World},Lies W g t cs->Lies (W.setCells bx i r) g t cs
 | [],_,_,h=>h
 |v::r,i,_,h=>fH hb r (i+1) (aB h hb i v)
theorem Lies.range{w:World}{b:Nat}{t:TypeId}{C:Array Value}(h:Lies w b t C):w.rangeAt b 0 C.toList:=fun j v hv=>by
 rw[Nat.zero_add,h.cell j];simpa using hv
theorem Lies.thereA{w:World}{b:Nat}{t:TypeId}{C:Array Value}(h:Lies w b t C):w.there b 0 C.size:=fun j hj=>
 ⟨by rw[Nat.zero_add,h.cell j,Array.getElem?_eq_getElem hj];rfl,h.frozen _⟩
theorem Lies.putAll{w:World}{b:Nat}{t:TypeId}{C:Array Value}(h:Lies w b t C){vs:List Value}(hl:vs.length=C.size):Lies (w.setCells b 0 vs) b t vs.toArray:=by
 have:=uJ vs 0 w C h (by omega);simpa using this
abbrev bT:List Value:=[vI 0,vI 0,vI 0,vI 0,vS #[],.bool false,vI 0,vS #[],vI 0,vI 0,vI 0,vI 0,.bool false,.bool false,vI 0,vI 0,vI 0,vI 0,.bool false,.bool false,vI 0,.slice none 0 0]
abbrev zM:Array Value:=#[vI 0,vI 0,vI 0,vI 0,vS #[],.bool false,vI 0,vS #[],vI 0,vI 0,vI 0,vI 0,.bool false,.bool false,vI 0,vI 0,vI 0,vI 0,.bool false,.bool false,vI 0,.slice none 0 0]
theorem bO:(Tryz.prog.info? 34).map (·.size)=some 22:=by kernel_rfl
theorem hfN{C:List Value}(h:C.length=22):(Tryz.prog.info? 34).map (·.size)=some C.toArray.size:=by rw[yd,h];exact bO
theorem vZ{P:Program}{w:World}(mty kt et:TypeId){d:TypeDesc}(r clock:Nat)(es:Array MapEntry)(s val:Value)(hm:P.underlying mty=some (.map kt et))(hk:P.underlying kt=some d)(hs:MapKept.IsKey d s)(hb:w.heap[r]?=some (.map es clock))(hf:Instr.findNow d s es.toList 0=some none) :
  (Instr.mapUpdate mty (.map (some r)) s val).run P w=.ok () { w with heap:=w.heap.setIfInBounds r (.map (es.push { key:=s,val:=val,born:=clock }) (clock+1)) }:=by
 have hc:(Instr.checkKey false 10000 kt s).run P w=.ok () w:=MapKept.run_checkKey hk hs false 9999;simp[Instr.mapUpdate,run_underlying hm,MapKept.run_getObj_map hb,hc,MapKept.run_findKey hk hf,MapKept.run_setObj_map _ hb,Result.andThen]
def dR(W:World)(q:Nat)(es:Array MapEntry)(c:Nat):World:={ W with heap:=W.heap.setIfInBounds q (.map es c) }
theorem pM(W:World)(q:Nat)(es:Array MapEntry)(c:Nat):(dR W q es c).heap.size=W.heap.size:=Array.size_setIfInBounds ..
theorem vD{B q:Nat}{W:World}(h:B<=q)(es:Array MapEntry)(c:Nat):Below B W (dR W q es c) :=
 ⟨rfl,rfl,rfl,by rw[pM];exact zr,fun k hk=>Array.getElem?_setIfInBounds_ne (by omega)⟩
theorem xJ{W:World}{q:Nat}(h:q<W.heap.size)(es:Array MapEntry)(c:Nat):(dR W q es c).heap[q]?=some (.map es c):=by
 show (W.heap.setIfInBounds _ _)[_]?=_;rw[Array.getElem?_setIfInBounds_self_of_lt h]
theorem bY{P:Program}{ops:Array Oper}{rest:List Oper}{op:Oper}{a:Act}{w:World}{Q:Exit->Act->World->Prop}(sl:op.guard=none)(mty:TypeId)(m k v:Operand)(ho:op.op=.insert mty m k v){W':World}(hr:(Instr.mapUpdate mty (a.eval m) (a.eval k) (a.eval v)).run P w=.ok () W')(h:wpList P ops Q rest (a.put op.dst undef) W'):wpList P ops Q (op::rest) a w :=
 wpList_plain sl fun K hK=>by
  unfold Oper.wp execOp;simp only[ho,Sem.run_bind,hr,Sem.run_pure,Result.andThen_ok];exact hK _ _ h
abbrev corV(c:Cor):Value:=.agg #[vI c.row.a,vI c.row.n,vI c.col.a,vI c.col.n,.bool c.fr,.bool c.fc]
mutual
theorem NodeAt.anti{W:World}{X Y:List Nat}(hs:∀ y∈Y,y<W.heap.size->y∈X){g o:Nat}:∀ {t:Tree},NodeAt W X g o t->NodeAt W Y g o t
 | .mk h l,hn=>by
  obtain⟨A,c,h1,h2⟩:=hn;refine⟨A,c,h1,?_⟩;rcases h2 with h2|⟨g',o',e,h3,h4,h5⟩
  ·exact .inl h2
  exact .inr ⟨g',o',e,fun hm=>h3 (hs g' hm h4),h4,KidsAt.anti hs h5⟩
theorem KidsAt.anti{W:World}{X Y:List Nat}(hs:∀ y∈Y,y<W.heap.size->y∈X){g:Nat}:∀ {l:List Tree} {i:Nat},KidsAt W X g i l->KidsAt W Y g i l
 | [],_,_=>trivial
 |_::_,_,hn=>⟨NodeAt.anti hs hn.1,KidsAt.anti hs hn.2⟩
end
theorem tU(off:Nat):∀ (cs:List Value) (k:Nat) (A:Array Value),off+k+cs.length<=A.size->((cs.zipIdx k).foldl (fun(B:Array Value) (x:Value×Nat)=>B.setIfInBounds (off+x.2) x.1) A).toList=A.toList.take (off+k)++cs++A.toList.drop (off+k+cs.length)
 | [],k,A,_=>by simp
 |c::r,k,A,h=>by
  have hl:off+k<A.toList.length:=by simp at h ⊢;omega
  rw[List.zipIdx_cons,List.foldl_cons,tU off r (k+1) _ (by rw[Array.size_setIfInBounds];simp at h;omega)];rw[Array.toList_setIfInBounds];show (A.toList.set (off+k) c).take (off+k+1)++r++(A.toList.set (off+k) c).drop (off+k+1+r.length)=_;rw[yw (by simpa using hl),List.getElem_set_self,List.take_set_of_le zr,List.drop_set_of_lt (by omega)];simp[Nat.add_comm,Nat.add_left_comm]
theorem fold_set(off:Nat)(cs:List Value)(A:Array Value)(h:off+cs.length<=A.size):(cs.toArray.zipIdx.foldl (fun(B:Array Value) (x:Value×Nat)=>B.setIfInBounds (off+x.2) x.1) A)=(A.toList.take off++cs++A.toList.drop (off+cs.length)).toArray:=by
 have:=tU off cs 0 A (by simpa using h);rw[<- Array.foldl_toList,Array.toList_zipIdx];apply Array.toList_inj.1;simpa using this
theorem nQ:∃ i z,Tryz.prog.info? 34=some i/\i.size=22/\i.zero=some z/\z.cells.size=22:=by
 have h:((Tryz.prog.info? 34).bind (·.zero)).map (·.cells.size)=some 22:=by kernel_rfl
 have h2:=bO;cases hi:Tryz.prog.info? 34 with
 |none=>rw[hi]at h2;cases h2
 |some i=>
  rw[hi]at h h2;cases hz:i.zero with
  |none=>simp[hz]at h
  |some z=>
   simp[hz]at h;simp at h2;exact⟨i,z,rfl,h2,hz,h⟩
theorem uBY:Tryz.prog.underlying 32=some (.slice 34):=by kernel_rfl
theorem qT(place:Nat->Option (Nat×Nat))(A:Array Value)(off n:Nat)(cs:List Value)(hn:cs.length=n)(i:Nat)(rest:List (Nat×Value))(hp:place i=some (off,n))(h:off+n<=A.size) :
  Instr.fill place A ((i,.agg cs.toArray)::rest)=Instr.fill place (A.toList.take off++cs++A.toList.drop (off+n)).toArray rest:=by
 subst hn;have hf:=fold_set off cs A h;rw[<- hf]
 conv=>lhs;unfold Instr.fill
 rw[hp];refine if_neg ?_;simp[Value.cells];omega
theorem built1(cs:List Value)(h:cs.length=22):Tryz.prog.builtSlice 34 1 [(0,.agg cs.toArray)]=some cs.toArray:=by
 obtain⟨i,z,h1,h2,h3,h4⟩:=nQ;unfold Program.builtSlice;rw[h1];simp only[h3,h2];rw[if_neg (by decide),qT _ _ (0*22) 22 cs h 0 [] rfl (by simp)];show some _=some _;simp
theorem built2(c1 c2:List Value)(wn:c1.length=22)(h2':c2.length=22):Tryz.prog.builtSlice 34 2 [(0,.agg c1.toArray),(1,.agg c2.toArray)]=some (c1++c2).toArray:=by
 obtain⟨i,z,h1,h2,h3,h4⟩:=nQ;unfold Program.builtSlice;rw[h1];simp only[h3,h2];rw[if_neg (by decide),qT _ _ (0*22) 22 c1 wn 0 _ rfl (by simp),qT _ _ (1*22) 22 c2 h2' 1 [] rfl (by simp[wn])];show some _=some _;simp[wn]
theorem sS{ops:Array Oper}{rest:List Oper}{o:Oper}{a:Act}{w:World}{Q:Exit->Act->World->Prop}(hg:o.guard=none)(x:Operand)(ho:o.op=.buildSlice 32 1 #[(0,x)])(cs:List Value)(hx:a.eval x=.agg cs.toArray)(dq:cs.length=22)
  (N:Nat) (hN:w.heap.size=N) (d:Option Tmp) (hd:o.dst=d) (h:wpList Tryz.prog ops Q rest (a.put d (.slice (some ⟨N,0,none⟩) 1 1)) (w.alloc (.cells cs.toArray 34))):wpList Tryz.prog ops Q (o::rest) a w :=
 Great.wpList_buildSliceTo hg 32 34 1 #[(0,x)] ho N hN d hd uBY cs.toArray (by simp only[List.map_toArray,List.map_cons,List.map_nil,hx];exact built1 cs dq) h
theorem uCK{ops:Array Oper}{rest:List Oper}{o:Oper}{a:Act}{w:World}{Q:Exit->Act->World->Prop}(hg:o.guard=none)(x y:Operand)(ho:o.op=.buildSlice 32 2 #[(0,x),(1,y)])(c1 c2:List Value)(hx:a.eval x=.agg c1.toArray)(hy:a.eval y=.agg c2.toArray)(h1:c1.length=22)(h2:c2.length=22)
  (N:Nat) (hN:w.heap.size=N) (d:Option Tmp) (hd:o.dst=d) (h:wpList Tryz.prog ops Q rest (a.put d (.slice (some ⟨N,0,none⟩) 2 2)) (w.alloc (.cells (c1++c2).toArray 34))):wpList Tryz.prog ops Q (o::rest) a w :=
 Great.wpList_buildSliceTo hg 32 34 2 #[(0,x),(1,y)] ho N hN d hd uBY (c1++c2).toArray (by simp only[List.map_toArray,List.map_cons,List.map_nil,hx,hy];exact built2 c1 c2 h1 h2) h
theorem jP{B bx:Nat}{a:World}(hb:B<=bx):∀ (r:List Value) (i:Nat) {W:World},Below B a W->Below B a (W.setCells bx i r)
 | [],_,_,h=>h
 |v::r,i,_,h=>jP hb r (i+1) (h.setCell (p:=⟨bx,i,none⟩) hb v)
theorem lH(bx:Nat):∀ (r:List Value) (i:Nat) (W:World),(W.setCells bx i r).heap.size=W.heap.size
 | [],_,_=>rfl
 |v::r,i,W=>by
  show ((W.setCell ⟨bx,i,none⟩ v).setCells bx (i+1) r).heap.size=_;rw[lH bx r (i+1),World.size_setCell]
def iA(ops:Array Oper):Nat->Nat->Nat->Bool
 |0,a,b=>a==b
 |f+1,a,b=>a==b||((ops[a]?).map fun o=>o.after.any fun e=>Region.binds .any e&&iA ops f e.on b).getD false
section
variable {ops:Array Oper} {S:List Nat} {T:List (Nat×Nat×Value)} {X w:World} {R F:World->Prop} {ic is N:Nat} {a0 a:Act} {zl:Array Bool} {Q:Exit->Act->World->Prop} {o:Oper}
theorem kB(hd:∀ i o,ops[i]?=some o->Up zl i->∀ e∈o.after,Region.binds .any e=true->Up zl e.on):∀ (f a b:Nat),iA ops f a b=true->Up zl a->Up zl b
 |0,a,b,h,hu=>by
  simp only[iA,beq_iff_eq]at h;rw[<- h];exact hu
 |f+1,a,b,h,hu=>by
  simp only[iA,Bool.or_eq_true,beq_iff_eq]at h;rcases h with h|h
  ·rw[<- h];exact hu
  cases ho:ops[a]? with
  |none=>rw[ho]at h;cases h
  |some o=>
   rw[ho]at h;simp only[Option.map_some,Option.getD_some,Array.any_eq_true',yh]at h;obtain⟨e,he,hb,hr⟩:=h;exact kB hd f e.on b hr (hd a o ho hu e he hb)
end
theorem dP(x y:IdR)(w:World):(binOp .neq 27 (idV x) (idV y)).run Tryz.prog w=.ok (.bool (decide (x≠y))) w:=by
 obtain⟨a,n⟩:=x;obtain⟨a2,n2⟩:=y
 go_simp
 by_cases h0:a=a2
 case neg=>simp[h0]
 by_cases h1:n=n2
 case neg=>simp[h0,h1]
 simp[h0,h1]
theorem uEJ:(Tryz.prog.info? 34).map (fun i=>(i.size,i.bytes))=some (22,192):=by kernel_rfl
def Ph(zl:Array Bool):List (Nat×(World->Prop))->(World->Prop)->World->Prop
 | [],P,w=>P w
 |(m,Q)::r,P,w=>(¬ Up zl m->P w)/\(Up zl m->Ph zl r Q w)
theorem Ph.same{l l':Array Bool}:∀ {ms:List (Nat×(World->Prop))} {P:World->Prop} {w:World},(∀ m∈ms,(Up l' m.1↔Up l m.1))->Ph l ms P w->Ph l' ms P w
 | [],_,_,_,h=>h
 |(m,Q)::r,P,w,hm,h=>by
  have h0:=hm (m,Q) (.head _);exact⟨fun hn=>h.1 (fun hu=>hn (h0.2 hu)),fun hu=>Ph.same (fun m' ly=>hm m' (.tail _ ly)) (h.2 (h0.1 hu))⟩
theorem Ph.step{l':Array Bool}{i:Nat}{Q:World->Prop}{post:List (Nat×(World->Prop))}{w1:World}(hi:Up l' i)(nv:∀ m∈post,¬ Up l' m.1)(hQ:Q w1):∀ {pre:List (Nat×(World->Prop))} {P:World->Prop},(∀ m∈pre,Up l' m.1)->Ph l' (pre++(i,Q)::post) P w1
 | [],P,_=>⟨fun hn=>absurd hi hn,fun _=>by
  cases post with
  |nil=>exact hQ
  |cons m r=>exact⟨fun _=>hQ,fun hu=>absurd hu (nv m (.head _))⟩⟩
 |(m,R)::r,P,hp=>⟨fun hn=>absurd (hp (m,R) (.head _)) hn,fun _=>Ph.step hi nv hQ (fun m' ly=>hp m' (.tail _ ly))⟩
def uBC:List (Nat×(World->Prop))->(World->Prop)->Nat->World->Prop
 |_,P,0=>P
 | [],P,_+1=>P
 |(_,Q)::r,_,j+1=>uBC r Q j
theorem Ph.ahead{l:Array Bool}{i:Nat}{Q:World->Prop}{post:List (Nat×(World->Prop))}{w:World}(hi:¬ Up l i):∀ {pre:List (Nat×(World->Prop))} {P:World->Prop},(∀ m∈pre,Up l m.1)->Ph l (pre++(i,Q)::post) P w->uBC (pre++(i,Q)::post) P pre.length w
 | [],_,_,h=>h.1 hi
 |(m,R)::r,_,hp,h=>Ph.ahead (pre:=r) (P:=R) hi (fun m' ly=>hp m' (.tail _ ly)) (h.2 (hp (m,R) (.head _)))
theorem Ph.low{l:Array Bool}{w:World}:∀ {ms:List (Nat×(World->Prop))} {P:World->Prop} (k:Nat),k<=ms.length->(∀ m,ms[k]?=some m->¬ Up l m.1)->Ph l ms P w->∃ j,j<=k/\uBC ms P j w
 | [],_,_,_,_,h=>⟨0,zm _,h⟩
 |(m,Q)::r,P,0,_,hm,h=>⟨0,zr,h.1 (hm (m,Q) rfl)⟩
 |(m,Q)::r,P,k+1,hk,hm,h=>by
  by_cases hu:Up l m
  ·obtain⟨j,h1,h2⟩:=Ph.low k (by simpa using hk) (fun m' ly=>hm m' (by simpa using ly)) (h.2 hu);exact⟨j+1,by omega,h2⟩
  exact⟨0,zm _,h.1 hu⟩
theorem Ph.last{l:Array Bool}{w:World}:∀ {ms:List (Nat×(World->Prop))} {P:World->Prop},(∀ m∈ms,Up l m.1)->Ph l ms P w->uBC ms P ms.length w
 | [],_,_,h=>h
 |(m,Q)::r,_,hp,h=>Ph.last (ms:=r) (P:=Q) (fun m' ly=>hp m' (.tail _ ly)) (h.2 (hp (m,Q) (.head _)))
structure GU(ops:Array Oper)(S:List Nat)(T:List (Nat×Nat×Value))(ms:List (Nat×(World->Prop)))(P:World->Prop)(a0:Act)(zl:Array Bool)(a:Act)(w:World):Prop where
 off:Off S a0 a
 pt:PT T zl a
 dn:∀ i o,ops[i]?=some o->Up zl i->∀ e∈o.after,Region.binds .any e=true->Up zl e.on
 st:Ph zl ms P w
def okU(nums:List (Nat×Nat))(S:List Nat)(N:Nat):Bool :=
 nums.all (fun e=>S.contains e.2&&decide (e.2<N))&&decide (nums.Pairwise (fun p q=>p.1≠q.1/\p.2≠q.2))
def eO(ops:Array Oper):List Nat->Bool
 |a::b::r=>iA ops 40 b a&&a != b&&eO ops (b::r)
 |_=>true
section
variable {ops:Array Oper} {S:List Nat} {T:List (Nat×Nat×Value)} {ms:List (Nat×(World->Prop))} {P:World->Prop} {w w1:World} {N:Nat} {a0 a:Act} {zl:Array Bool} {Q:Exit->Act->World->Prop} {o:Oper} {i s:Nat} {v:Value}
theorem uDL(hk:okU (T.map fun e=>(e.1,e.2.1)) S N=true){e:Nat×Nat×Value}(he:e∈T):e.2.1∈S/\e.2.1<N:=by
 simp only[okU,yh,List.all_eq_true,decide_eq_true_eq,List.contains_iff_mem,yj,forall_exists_index,and_imp,forall_apply_eq_imp_iff₂]at hk;exact hk.1 e he
theorem mP(hk:okU (T.map fun e=>(e.1,e.2.1)) S N=true){e e':Nat×Nat×Value}(he:e∈T)(j4:e'∈T)(hs:e.1=e'.1\/e.2.1=e'.2.1):e=e':=by
 by_cases heq:e=e'
 ·exact heq
 exfalso
 simp only[okU,yh,decide_eq_true_eq,List.pairwise_map]at hk;have h2:=hk.2;have key:∀ l:List (Nat×Nat×Value),l.Pairwise (fun p q=>p.1≠q.1/\p.2.1≠q.2.1)->∀ x∈l,∀ y∈l,x≠y->x.1≠y.1/\x.2.1≠y.2.1:=by
  intro l
  induction l with
  |nil=>intro _ x hx;cases hx
  |cons c l ih=>
   intro hp x hx y hy cg;rw[List.pairwise_cons]at hp;rcases ym.1 hx with ex|hx <;> rcases ym.1 hy with ey|hy
   ·exact absurd (ex.trans ey.symm) cg
   ·rw[ex];exact hp.1 y hy
   ·rw[ey];exact⟨fun e=>(hp.1 x hx).1 e.symm,fun e=>(hp.1 x hx).2 e.symm⟩
   exact ih hp.2 x hx y hy cg
 have:=key T h2 e he e' j4 heq;rcases hs with hs|hs
 ·exact this.1 hs
 exact this.2 hs
theorem GU.start(a:Act)(m:Nat)(hX:P w):GU ops S T ms P a (Array.replicate m false) a w :=
 ⟨Off.refl _ _,PT.start _ _ _,fun _ _ _ h=>absurd h (Up.none _ _),by
  cases ms with
  |nil=>exact hX
  |cons m r=>exact⟨fun _=>hX,fun h=>absurd h (Up.none _ _)⟩⟩
theorem dnU{zl:Array Bool}(hd:∀ i o,ops[i]?=some o->Up zl i->∀ e∈o.after,Region.binds .any e=true->Up zl e.on)(ah:zl.getD i true=false)(ho:ops[i]?=some o)(zd:∀ e∈o.after,Region.binds .any e=true->Up zl e.on) :
  ∀ j o',ops[j]?=some o'->Up (zl.setIfInBounds i true) j->∀ e∈o'.after,Region.binds .any e=true->Up (zl.setIfInBounds i true) e.on:=by
 intro j o' hj hu e he hb;have hi:=Up.of_false ah;rcases(Up.set hi).1 hu with rfl|hu
 ·rw[ho]at hj;injection hj with hj;subst hj;exact eI hi (zd e he hb)
 exact eI hi (hd j o' hj hu e he hb)
theorem uM(hd:∀ i o,ops[i]?=some o->Up zl i->∀ e∈o.after,Region.binds .any e=true->Up zl e.on)(ho:ops[i]?=some o)(zd:∀ e∈o.after,Region.binds .any e=true->Up zl e.on){b f:Nat}(hr:iA ops f i b=true)(cg:i≠b):Up zl b:=by
 cases f with
 |zero=>simp only[iA,beq_iff_eq]at hr;exact absurd hr cg
 |succ f=>
  simp only[iA,Bool.or_eq_true,beq_iff_eq]at hr;rcases hr with hr|hr
  ·exact absurd hr cg
  rw[ho]at hr;simp only[Option.map_some,Option.getD_some,Array.any_eq_true',yh]at hr;obtain⟨e,he,hb,hr⟩:=hr;exact kB hd f e.on b hr (zd e he hb)
theorem nK(hd:∀ i o,ops[i]?=some o->Up zl i->∀ e∈o.after,Region.binds .any e=true->Up zl e.on):∀ (pre:List Nat) (x:Nat) (post:List Nat),eO ops (pre++x::post)=true->(∀ f b,iA ops f x b=true->x≠b->Up zl b)->∀ m∈pre,Up zl m
 | [],_,_,_,_,m,hm=>by cases hm
 | [a],x,post,hc,hx,m,hm=>by
  rw[yf.1 hm];simp only[yp,List.nil_append,eO,yh,bne_iff_ne]at hc;exact hx 40 a hc.1.1 (Ne.symm hc.1.2)
 |a::b::r,x,post,hc,hx,m,hm=>by
  simp only[yp,eO,yh,bne_iff_ne]at hc;have hrec:=nK hd (b::r) x post (by simpa using hc.2) hx;rcases ym.1 hm with rfl|hm
  ·exact kB hd 40 b m hc.1.1 (hrec b (.head _))
  exact hrec m hm
theorem lQ(hd:∀ i o,ops[i]?=some o->Up zl i->∀ e∈o.after,Region.binds .any e=true->Up zl e.on):∀ (post:List Nat) (x:Nat),eO ops (x::post)=true->¬ Up zl x->∀ m∈post,¬ Up zl m
 | [],_,_,_,m,hm=>by cases hm
 |b::r,x,hc,hx,m,hm=>by
  simp only[eO,yh,bne_iff_ne]at hc;have hb:¬ Up zl b:=fun h=>hx (kB hd 40 b x hc.1.1 h)
  rcases ym.1 hm with rfl|hm
  ·exact hb
  exact lQ hd r b hc.2 hb m hm
theorem iS:∀ (pre:List Nat) (l:List Nat),eO ops (pre++l)=true->eO ops l=true
 | [],_,h=>h
 | [a],[],_=>rfl
 | [a],b::r,h=>by
  simp only[yp,List.nil_append,eO,yh]at h;exact h.2
 |a::b::r,l,h=>by
  simp only[yp,eO,yh]at h;exact iS (b::r) l (by simpa using h.2)
theorem mI(hk:okU (T.map fun e=>(e.1,e.2.1)) S N=true)(hI:GU ops S T ms P a0 zl a w)(hN:N<=a0.tmps.size)(he:(i,s,v)∈T)(hm:∀ m∈ms,m.1≠i)(ah:zl.getD i true=false)(ho:ops[i]?=some o)(zd:∀ e∈o.after,Region.binds .any e=true->Up zl e.on):GU ops S T ms P a0 (zl.setIfInBounds i true) (a.put (some s) v) w:=by
 have hi:=Up.of_false ah;obtain⟨h2,h3⟩:=uDL hk he;exact⟨hI.off.put h2 v,hI.pt.step hi (by rw[hI.off.size];exact yu h3 hN) (fun e' j4 hs=>by rw[mP hk j4 he (.inr hs)]) (fun e' j4 hs=>by rw[mP hk j4 he (.inl hs)]),dnU hI.dn ah ho zd,hI.st.same (fun m ly=>⟨fun h=>kG hi h (hm m ly),fun h=>eI hi h⟩)⟩
theorem fB(hk:okU (T.map fun e=>(e.1,e.2.1)) S N=true)(hI:GU ops S T ms P a0 zl a w)(hN:N<=a0.tmps.size)(he:(i,s,v)∈T)(hm:∀ m∈ms,m.1≠i)(ah:zl.getD i true=false)(ho:ops[i]?=some o)(zd:∀ e∈o.after,Region.binds .any e=true->Up zl e.on)(hw:Region.wanted o (yielded ops a.tmps)=true)(hd:o.dst=some s)
  (hr:(execOp a.eval o).run Tryz.prog w=.ok (.value v) w):wpOp Tryz.prog ops Q i (GU ops S T ms P a0 (zl.setIfInBounds i true)) a w:=by
 unfold wpOp;rw[ho];simp only;rw[if_pos hw];refine .inl (oK v hr ?_);rw[hd];exact mI hk hI hN he hm ah ho zd
theorem uDC(hk:okU (T.map fun e=>(e.1,e.2.1)) S N=true)(hI:GU ops S T ms P a0 zl a w)(hN:N<=a0.tmps.size)(he:(i,s,undef)∈T)(hm:∀ m∈ms,m.1≠i)(ah:zl.getD i true=false)(ho:ops[i]?=some o)(zd:∀ e∈o.after,Region.binds .any e=true->Up zl e.on)(hw:Region.wanted o (yielded ops a.tmps)=false)(hd:o.dst=some s):wpOp Tryz.prog ops Q i (GU ops S T ms P a0 (zl.setIfInBounds i true)) a w:=by
 unfold wpOp;rw[ho];simp only;rw[if_neg (by rw[hw];decide),hd];exact mI hk hI hN he hm ah ho zd
theorem GU.at(hI:GU ops S T ms P a0 zl a w)(hc:eO ops (ms.map (·.1))=true)(pre post:List (Nat×(World->Prop)))(R:World->Prop)(hms:ms=pre++(i,R)::post)(ah:zl.getD i true=false)(ho:ops[i]?=some o)(zd:∀ e∈o.after,Region.binds .any e=true->Up zl e.on):uBC ms P pre.length w/\∀ w1,R w1->Ph (zl.setIfInBounds i true) ms P w1:=by
 have hi:=Up.of_false ah;subst hms;rw[List.map_append,List.map_cons]at hc;have hpre:∀ m∈pre,Up zl m.1:=fun m hm=>nK hI.dn _ _ _ hc (fun f b hr cg=>uM hI.dn ho zd hr cg) m.1 (yj.2 ⟨m,hm,rfl⟩)
 have nv:∀ m∈post,¬ Up zl m.1:=fun m hm=>lQ hI.dn _ _ (iS _ _ hc) (iY ah) m.1 (yj.2 ⟨m,hm,rfl⟩)
 refine⟨Ph.ahead (iY ah) hpre hI.st,fun w1 hR=>Ph.step (qD hi) (fun m hm hu=>?_) hR (fun m hm=>eI hi (hpre m hm))⟩;rcases(Up.set hi).1 hu with h|h
 ·have h0:=lQ (zl:=Array.replicate zl.size false) (fun _ _ _ h=>absurd h (Up.none _ _)) _ _ (iS _ _ hc) (Up.none _ _);clear h0;have hnd:∀ (l:List Nat) (x:Nat),eO ops (x::l)=true->(∀ y∈l,¬ Up zl y)->(∀ e∈o.after,Region.binds .any e=true->Up zl e.on)->ops[x]?=some o->x∉l:=by
   intro l
   induction l with
   |nil=>intro _ _ _ _ _ hm;cases hm
   |cons y l _=>
    intro x hc' hy hd' ho' ly;have jt:=hc';simp only[eO,yh,bne_iff_ne]at jt;rcases ym.1 ly with e|ly
    ·exact jt.1.2 e
    -- x stands behind y: it waits for y
    obtain⟨l1,l2,rfl⟩:=List.append_of_mem ly;have:=nK (ops:=ops) (zl:=zl) hI.dn (y::l1) x l2 (by simpa using jt.2) (fun f b hr cg=>uM hI.dn ho' hd' hr cg) y (.head _);exact hy y (.head _) this
  exact hnd (post.map (·.1)) i (iS _ _ hc) (fun y hy=>by obtain⟨m',ly,rfl⟩:=yj.1 hy;exact nv m' ly) zd ho (yj.2 ⟨m,hm,h⟩)
 exact nv m hm h
theorem GU.low(hI:GU ops S T ms P a0 zl a w)(k:Nat)(hk:k<=ms.length)(hr:∀ m,ms[k]?=some m->iA ops 40 m.1 i=true)(ah:zl.getD i true=false):∃ j,j<=k/\uBC ms P j w :=
 Ph.low k hk (fun m hm hu=>iY ah (kB hI.dn 40 m.1 i (hr m hm) hu)) hI.st
theorem gu_mark(hk:okU (T.map fun e=>(e.1,e.2.1)) S N=true)(hI:GU ops S T ms P a0 zl a w)(hN:N<=a0.tmps.size)(he:(i,s,v)∈T)(hc:eO ops (ms.map (·.1))=true)(pre post:List (Nat×(World->Prop)))(R:World->Prop)(hms:ms=pre++(i,R)::post)(ah:zl.getD i true=false)(ho:ops[i]?=some o)(zd:∀ e∈o.after,Region.binds .any e=true->Up zl e.on)(hw:Region.wanted o (yielded ops a.tmps)=true)(hd:o.dst=some s)
  (hr:uBC ms P pre.length w->Oper.wp Tryz.prog o a w (fun a' w'=>a'=a.put o.dst v/\R w') Q):wpOp Tryz.prog ops Q i (GU ops S T ms P a0 (zl.setIfInBounds i true)) a w:=by
 have hi:=Up.of_false ah;obtain⟨h1,h2⟩:=hI.at hc pre post R hms ah ho zd;obtain⟨h3,h4⟩:=uDL hk he;unfold wpOp;rw[ho];simp only;rw[if_pos hw];refine .inl (Oper.wp_mono (fun a' w' hh=>?_) (hr h1));obtain⟨rfl,hR⟩:=hh;rw[hd];exact⟨hI.off.put h3 v,hI.pt.step hi (by rw[hI.off.size];exact yu h4 hN) (fun e' j4 hs=>by rw[mP hk j4 he (.inr hs)]) (fun e' j4 hs=>by rw[mP hk j4 he (.inl hs)]),dnU hI.dn ah ho zd,h2 w' hR⟩
theorem rR(f:FuncId)(xs:Array Value){K:Act->World->Prop}(hr:(execOp a.eval o).run Tryz.prog w=.ok (.enter f xs) w)(hc:Calls Tryz.prog f xs w fun e w1=>e=.returned v/\K (a.put o.dst v) w1):Oper.wp Tryz.prog o a w K Q:=by
 unfold Oper.wp;rw[hr];refine hc.mono ?_;rintro e w1 ⟨rfl,h⟩;exact h
theorem bI{y:Nat->Option Bool}(h:o.guard=none):Region.wanted o y=true:=by unfold Region.wanted;rw[h]
theorem aQ{g sg:Nat}{pol b:Bool}(h:o.guard=some (g,pol)){og:Oper}(hg:ops[g]?=some og)(hd:og.dst=some sg)(hv:a.eval (.tmp sg)=.bool b):Region.wanted o (yielded ops a.tmps)=(b==pol):=by
 have h1:a.tmps[sg]?=some (.bool b):=by
  have:=bR hv;cases hq:a.tmps[sg]? with
  |none=>rw[hq]at this;cases this
  |some x=>rw[hq]at this;simpa using this
 unfold Region.wanted yielded;rw[h];simp only[hg,Option.bind_some,hd,h1];cases b <;> cases pol <;> rfl
theorem bK{id:Nat}{w0:World}(F0:Act->Prop)(S:List Nat)(T:List (Nat×Nat×Value))(ms:List (Nat×(World->Prop)))(P:World->Prop)(hm:Tryz.prog.follows .mixedOrders=true)(hb:fA ops=true)(hF0:F0 a)(hX:P w0.drew)
  (bw:∀ a0,F0 a0->∀ zl a w i o,zl.size=ops.size->GU ops S T ms P a0 zl a w->zl.getD i true=false->ops[i]?=some o->(∀ e∈o.after,Region.binds .any e=true->Up zl e.on)->wpOp Tryz.prog ops Q i (GU ops S T ms P a0 (zl.setIfInBounds i true)) a w)
  (b7:∀ zl a' w',GU ops S T ms P a zl a' w'->(∀ i,i<ops.size->Up zl i)->Q .normal a' w'):(Code.region id ops true).wp Tryz.prog Q a w0 :=
 eW hm hb F0 (GU ops S T ms P) hF0 (GU.start _ _ hX) bw b7
end
structure RG(ops:Array Oper)(S:List Nat)(T:List (Nat×Nat×Value))(P:World->Prop)(a0:Act)(N:Nat)(zl:Array Bool)(a:Act)(w:World)(i:Nat)(o:Oper):Prop where
 k:okU (T.map fun e=>(e.1,e.2.1)) S N=true
 I:GU ops S T [] P a0 zl a w
 z:N<=a0.tmps.size
 u:zl.getD i true=false
 p:ops[i]?=some o
 e:∀ e∈o.after,Region.binds .any e=true->Up zl e.on
section
variable {ops:Array Oper} {S:List Nat} {T:List (Nat×Nat×Value)} {P:World->Prop} {a0 a:Act} {zl:Array Bool} {w:World} {N i j s:Nat} {v:Value} {o:Oper} {Q:Exit->Act->World->Prop}
theorem Off.q{S:List Nat}{a0 a:Act}(h:Off S a0 a){t:Nat}{v:Value}(e:a0.eval (.tmp t)=v)(ht:t∉S:=by decide):a.tmps[t]?.getD undef=v:=bR ((h.eval ht).trans e)
theorem RG.d(G:RG ops S T P a0 N zl a w j o)(n:Nat)(h:T[n]?=some (i,s,v):=by exact rfl)(hm:{ on:=i,ground:=.data }∈o.after:=by simp):a.eval (.tmp s)=v:=G.I.pt (i,s,v) (List.mem_of_getElem? h) (G.e _ hm rfl)
theorem RG.g(G:RG ops S T P a0 N zl a w j o)(n:Nat)(h:T[n]?=some (i,s,v):=by exact rfl)(hm:{ on:=i,ground:=.guard }∈o.after:=by simp):a.eval (.tmp s)=v:=G.I.pt (i,s,v) (List.mem_of_getElem? h) (G.e _ hm rfl)
theorem wq{sg:Nat}{pol b:Bool}(hq:(o.guard.bind fun gp=>(ops[gp.1]?).bind fun og=>og.dst.map fun d=>(d,gp.2))=some (sg,pol))(hv:a.eval (.tmp sg)=.bool b):Region.wanted o (yielded ops a.tmps)=(b==pol):=by
 obtain⟨⟨g,p⟩,h1,h2⟩:=Option.bind_eq_some_iff.1 hq;obtain⟨og,h3,h4⟩:=Option.bind_eq_some_iff.1 h2;obtain⟨d,h5,h6⟩:=Option.map_eq_some_iff.1 h4;cases h6;exact aQ h1 h3 h5 hv
theorem wqu{sg:Nat}{pol:Bool}(hq:(o.guard.bind fun gp=>(ops[gp.1]?).bind fun og=>og.dst.map fun d=>(d,gp.2))=some (sg,pol))(hv:a.eval (.tmp sg)=undef):Region.wanted o (yielded ops a.tmps)=false:=by
 obtain⟨⟨g,p⟩,h1,h2⟩:=Option.bind_eq_some_iff.1 hq;obtain⟨og,h3,h4⟩:=Option.bind_eq_some_iff.1 h2;obtain⟨d,h5,h6⟩:=Option.map_eq_some_iff.1 h4;cases h6;have e:=bR hv;unfold Region.wanted yielded;rw[h1];simp only[h3,Option.bind_some,h5];cases hq:a.tmps[sg]? with
 |none=>rfl
 |some x=>
  rw[hq]at e;have h2:x=undef:=e;subst h2;rfl
theorem RG.sk(G:RG ops S T P a0 N zl a w i o)(n:Nat){sg:Nat}{pol b:Bool}(hv:a.eval (.tmp sg)=.bool b)(h:T[n]?=some (i,s,undef):=by exact rfl)(hq:(o.guard.bind fun gp=>(ops[gp.1]?).bind fun og=>og.dst.map fun d=>(d,gp.2))=some (sg,pol):=by exact rfl)(hb:(b==pol)=false:=by rfl)(hd:o.dst=some s:=by rfl):wpOp Tryz.prog ops Q i (GU ops S T [] P a0 (zl.setIfInBounds i true)) a w :=
 uDC G.k G.I G.z (List.mem_of_getElem? h) (fun _ hm=>by cases hm) G.u G.p G.e ((wq hq hv).trans hb) hd
theorem RG.su(G:RG ops S T P a0 N zl a w i o)(n:Nat){sg:Nat}{pol:Bool}(hv:a.eval (.tmp sg)=undef)(h:T[n]?=some (i,s,undef):=by exact rfl)(hq:(o.guard.bind fun gp=>(ops[gp.1]?).bind fun og=>og.dst.map fun d=>(d,gp.2))=some (sg,pol):=by exact rfl)(hd:o.dst=some s:=by rfl):wpOp Tryz.prog ops Q i (GU ops S T [] P a0 (zl.setIfInBounds i true)) a w :=
 uDC G.k G.I G.z (List.mem_of_getElem? h) (fun _ hm=>by cases hm) G.u G.p G.e (wqu hq hv) hd
theorem RG.vl(G:RG ops S T P a0 N zl a w i o)(n:Nat)(h:T[n]?=some (i,s,v)){sg:Nat}{pol b:Bool}(hv:a.eval (.tmp sg)=.bool b)(hr:(execOp a.eval o).run Tryz.prog w=.ok (.value v) w)(hq:(o.guard.bind fun gp=>(ops[gp.1]?).bind fun og=>og.dst.map fun d=>(d,gp.2))=some (sg,pol):=by exact rfl)(hb:(b==pol)=true:=by rfl)(hd:o.dst=some s:=by rfl):wpOp Tryz.prog ops Q i (GU ops S T [] P a0 (zl.setIfInBounds i true)) a w :=
 fB G.k G.I G.z (List.mem_of_getElem? h) (fun _ hm=>by cases hm) G.u G.p G.e ((wq hq hv).trans hb) hd hr
theorem RG.nl(G:RG ops S T P a0 N zl a w i o)(n:Nat)(h:T[n]?=some (i,s,v))(hr:(execOp a.eval o).run Tryz.prog w=.ok (.value v) w)(hg:o.guard=none:=by rfl)(hd:o.dst=some s:=by rfl):wpOp Tryz.prog ops Q i (GU ops S T [] P a0 (zl.setIfInBounds i true)) a w :=
 fB G.k G.I G.z (List.mem_of_getElem? h) (fun _ hm=>by cases hm) G.u G.p G.e (bI hg) hd hr
theorem RG.cx(G:RG ops S T P a0 N zl a w i o)(n:Nat)(h:T[n]?=some (i,s,v))(hw:Region.wanted o (yielded ops a.tmps)=true)(hd:o.dst=some s)(f:FuncId)(xs:Array Value)(hr:(execOp a.eval o).run Tryz.prog w=.ok (.enter f xs) w)(hc:Calls Tryz.prog f xs w fun e w1=>e=.returned v/\P w1):wpOp Tryz.prog ops Q i (GU ops S T [] P a0 (zl.setIfInBounds i true)) a w:=by
 have h:=mI G.k G.I G.z (List.mem_of_getElem? h) (fun _ hm=>by cases hm) G.u G.p G.e;unfold wpOp;rw[G.p];simp only;rw[if_pos hw];refine .inl (rR (v:=v) f xs hr (hc.mono ?_));rintro e w1 ⟨rfl,hP⟩;rw[hd];exact⟨rfl,h.off,h.pt,h.dn,hP⟩
theorem RG.cn(G:RG ops S T P a0 N zl a w i o)(n:Nat)(h:T[n]?=some (i,s,v))(f:FuncId)(xs:Array Value)(hr:(execOp a.eval o).run Tryz.prog w=.ok (.enter f xs) w)(hc:Calls Tryz.prog f xs w fun e w1=>e=.returned v/\P w1)(hg:o.guard=none:=by rfl)(hd:o.dst=some s:=by rfl):wpOp Tryz.prog ops Q i (GU ops S T [] P a0 (zl.setIfInBounds i true)) a w:=G.cx n h (bI hg) hd f xs hr hc
theorem RG.cw(G:RG ops S T P a0 N zl a w i o)(n:Nat)(h:T[n]?=some (i,s,v)){sg:Nat}{pol b:Bool}(hv:a.eval (.tmp sg)=.bool b)(f:FuncId)(xs:Array Value)(hr:(execOp a.eval o).run Tryz.prog w=.ok (.enter f xs) w)(hc:Calls Tryz.prog f xs w fun e w1=>e=.returned v/\P w1)(hq:(o.guard.bind fun gp=>(ops[gp.1]?).bind fun og=>og.dst.map fun d=>(d,gp.2))=some (sg,pol):=by exact rfl)(hb:(b==pol)=true:=by rfl)(hd:o.dst=some s:=by rfl):wpOp Tryz.prog ops Q i (GU ops S T [] P a0 (zl.setIfInBounds i true)) a w:=G.cx n h ((wq hq hv).trans hb) hd f xs hr hc
theorem RG.t(G:RG ops S T P a0 N zl a w j o)(n:Nat)(h:T[n]?=some (i,s,v):=by exact rfl)(hm:{ on:=i,ground:=.data }∈o.after:=by simp):a.tmps[s]?.getD undef=v:=bR (RG.d G n h hm)
theorem RG.gv(G:RG ops S T P a0 N zl a w i o)(g n:Nat){jg sg:Nat}{b:Bool}(hr:b=true->(execOp a.eval o).run Tryz.prog w=.ok (.value v) w)(hg:T[g]?=some (jg,sg,.bool b):=by exact rfl)(h:T[n]?=some (i,s,bif b then v else undef):=by exact rfl)(hq:(o.guard.bind fun gp=>(ops[gp.1]?).bind fun og=>og.dst.map fun d=>(d,gp.2))=some (sg,true):=by exact rfl)(hm:{ on:=jg,ground:=.guard }∈o.after:=by simp)(hd:o.dst=some s:=by rfl):wpOp Tryz.prog ops Q i (GU ops S T [] P a0 (zl.setIfInBounds i true)) a w:=by
 have pg:=RG.g G g hg hm;cases b
 ·exact RG.sk G n pg h hq rfl hd
 exact RG.vl G n h pg (hr rfl) hq rfl hd
theorem RG.gn(G:RG ops S T P a0 N zl a w i o)(g n:Nat){jg sg:Nat}{b:Bool}(hr:b=false->(execOp a.eval o).run Tryz.prog w=.ok (.value v) w)(hg:T[g]?=some (jg,sg,.bool b):=by exact rfl)(h:T[n]?=some (i,s,bif b then undef else v):=by exact rfl)(hq:(o.guard.bind fun gp=>(ops[gp.1]?).bind fun og=>og.dst.map fun d=>(d,gp.2))=some (sg,false):=by exact rfl)(hm:{ on:=jg,ground:=.guard }∈o.after:=by simp)(hd:o.dst=some s:=by rfl):wpOp Tryz.prog ops Q i (GU ops S T [] P a0 (zl.setIfInBounds i true)) a w:=by
 have pg:=RG.g G g hg hm;cases b
 ·exact RG.vl G n h pg (hr rfl) hq rfl hd
 exact RG.sk G n pg h hq rfl hd
theorem RG.gz(G:RG ops S T P a0 N zl a w i o)(g n:Nat){jg sg:Nat}{b:Bool}(hr:b=false->(execOp a.eval o).run Tryz.prog w=.ok (.value v) w)(hg:T[g]?=some (jg,sg,.bool (!b)):=by exact rfl)(h:T[n]?=some (i,s,bif b then undef else v):=by exact rfl)(hq:(o.guard.bind fun gp=>(ops[gp.1]?).bind fun og=>og.dst.map fun d=>(d,gp.2))=some (sg,true):=by exact rfl)(hm:{ on:=jg,ground:=.guard }∈o.after:=by simp)(hd:o.dst=some s:=by rfl):wpOp Tryz.prog ops Q i (GU ops S T [] P a0 (zl.setIfInBounds i true)) a w:=by
 have pg:=RG.g G g hg hm;cases b
 ·exact RG.vl G n h pg (hr rfl) hq rfl hd
 exact RG.sk G n pg h hq rfl hd
end
theorem aO{o:Oper}{a:Act}{w:World}(ty:TypeId)(x:Operand)(ho:o.op=.load ty x)(b o':Nat)(hx:a.eval x=vP b o')(cs:List Value)(d:TypeDesc)(hc:w.rangeAt b o' cs)(hu:Tryz.prog.underlying ty=some d)(hd:d.isRow=true)(hi:(Tryz.prog.info? ty).map (·.size)=some cs.length) :
  (execOp a.eval o).run Tryz.prog w=.ok (.value (.agg cs.toArray)) w:=by
 unfold execOp;simp only[ho,hx,Instr.loadAt,Instr.sureAddr,Sem.run_bind,Sem.run_pure,Result.andThen_ok,run_loadVar_mid w b o' ty cs d hc hu hd hi]
end Go.Proofs.YtjfihpaeglpblaaGreatDoor
