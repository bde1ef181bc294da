/-
  Lemmas, part 8: PaF PaI PaT Par5 Addr1 Num11 Addr3 AdG1 AdG2.
-/
import Derived.Test.YtmgjidnalpgegaaGreatDoorPr7
set_option maxHeartbeats 100000000
namespace Go.Proofs.YtmgjidnalpgegaaGreatDoor
open Go.RowKit
set_option maxRecDepth 100000 in
theorem neq_area(a b a2 b2:Cor)(w:World):(binOp .neq 38 (arV a b) (arV a2 b2)).run Tryz.prog w=.ok (.bool (!(decide (a=a2)&&decide (b=b2)))) w:=by
 obtain⟨⟨x0,x1⟩,⟨x2,x3⟩,x4,x5⟩:=a;obtain⟨⟨x6,x7⟩,⟨x8,x9⟩,xa,xb⟩:=b;obtain⟨⟨y0,y1⟩,⟨y2,y3⟩,y4,y5⟩:=a2;obtain⟨⟨y6,y7⟩,⟨y8,y9⟩,ya,yb⟩:=b2;dsimp only[arV]
 go_simp
 by_cases h0:x0=y0
 case neg=>simp[h0]
 by_cases h1:x1=y1
 case neg=>simp[h0,h1]
 by_cases h2:x2=y2
 case neg=>simp[h0,h1,h2]
 by_cases h3:x3=y3
 case neg=>simp[h0,h1,h2,h3]
 by_cases h4:x4=y4
 case neg=>simp[h0,h1,h2,h3,h4]
 by_cases h5:x5=y5
 case neg=>simp[h0,h1,h2,h3,h4,h5]
 by_cases h6:x6=y6
 case neg=>simp[h0,h1,h2,h3,h4,h5,h6]
 by_cases h7:x7=y7
 case neg=>simp[h0,h1,h2,h3,h4,h5,h6,h7]
 by_cases h8:x8=y8
 case neg=>simp[h0,h1,h2,h3,h4,h5,h6,h7,h8]
 by_cases h9:x9=y9
 case neg=>simp[h0,h1,h2,h3,h4,h5,h6,h7,h8,h9]
 by_cases ha:xa=ya
 case neg=>simp[h0,h1,h2,h3,h4,h5,h6,h7,h8,h9,ha]
 by_cases hb:xb=yb
 case neg=>simp[h0,h1,h2,h3,h4,h5,h6,h7,h8,h9,ha,hb]
 simp[h0,h1,h2,h3,h4,h5,h6,h7,h8,h9,ha,hb]
theorem neq_val(a b:Val)(w:World):(binOp .neq 32 (.agg #[.int .i64 a.kind,.int .i64 a.mant,.int .i64 a.exp,.string ⟨a.text.toArray⟩,.bool a.truth,.int .i64 a.fault]) (.agg #[.int .i64 b.kind,.int .i64 b.mant,.int .i64 b.exp,.string ⟨b.text.toArray⟩,.bool b.truth,.int .i64 b.fault])).run Tryz.prog w=.ok (.bool (!cG a b)) w:=by
 obtain⟨x0,x1,x2,x3,x4,x5⟩:=a;obtain⟨y0,y1,y2,y3,y4,y5⟩:=b;unfold cG;dsimp only
 go_simp
 by_cases h0:x0=y0
 case neg=>simp[h0]
 by_cases h1:x1=y1
 case neg=>simp[h0,h1]
 by_cases h2:x2=y2
 case neg=>simp[h0,h1,h2]
 by_cases h3:x3=y3
 case neg=>simp[h0,h1,h2,h3]
 by_cases h4:x4=y4
 case neg=>simp[h0,h1,h2,h3,h4]
 by_cases h5:x5=y5
 case neg=>simp[h0,h1,h2,h3,h4,h5]
 simp[h0,h1,h2,h3,h4,h5]
theorem jB:(Tryz.prog.info? 32).map (·.size)=some 6:=by kernel_rfl
theorem jA:(Tryz.prog.info? 38).map (·.size)=some 12:=by kernel_rfl
def NodeIn(W:World)(g o:Nat)(h:NodeH)(A:Option Addr)(n c:Nat):Prop:=g<W.heap.size/\∀ j,j<22->W.cell? ⟨g,o+j,none⟩=(aY h A n c)[j]?
theorem NodeIn.kp{W W':World}{g o:Nat}{h:NodeH}{A:Option Addr}{n c:Nat}(hn:NodeIn W g o h A n c)(hk:Kp [] W W'):NodeIn W' g o h A n c :=
 ⟨yu hn.1 hk.size,fun j hj=>(hk.cell hn.1 (by simp)).trans (hn.2 j hj)⟩
theorem NodeIn.sub{W:World}{g o:Nat}{h:NodeH}{A:Option Addr}{n c:Nat}(hn:NodeIn W g o h A n c)(j:Nat)(cs:List Value)(hj:j+cs.length<=22)(hs:((aY h A n c).toList.drop j).take cs.length=cs):W.rangeAt g (o+j) cs:=fun k v hv=>by
 have hk:k<cs.length:=(List.getElem?_eq_some_iff.1 hv).1;have key:=List.getElem?_take_of_lt (l:=(aY h A n c).toList.drop j) hk;rw[hs,hv,List.getElem?_drop]at key;rw[show o+j+k=o+(j+k) by omega,hn.2 (j+k) (by omega),key];simp
def TreeIn(W:World)(t:Tree)(cs:Array Value):Prop:=∃ A cp,cs=aY t.h A t.l.length cp/\KidsOk W [] A t.l
theorem TreeIn.kp{W W':World}{t:Tree}{cs:Array Value}(h:TreeIn W t cs)(hk:Kp [] W W'):TreeIn W' t cs:=by
 obtain⟨A,cp,h1,h2⟩:=h;exact⟨A,cp,h1,h2.kp hk⟩
theorem KidsAt.get{W:World}{X:List Nat}{g:Nat}:∀ {l:List Tree} {j:Nat} (i:Nat) (hi:i<l.length),KidsAt W X g j l->NodeAt W X g ((j+i)*22) l[i]
 | [],_,_,hi,_=>absurd hi (by simp)
 |t::r,j,0,_,h=>h.1
 |t::r,j,i+1,hi,h=>by
  have:=KidsAt.get (l:=r) (j:=j+1) i (by simpa using hi) h.2;rw[show j+(i+1)=j+1+i by omega];exact this
theorem iT{W:World}{A:Option Addr}{l:List Tree}(h:KidsOk W [] A l)(i:Nat)(hi:i<l.length):∃ g ci,A=some ⟨g,0,none⟩/\(ci:List Value).length=22/\∀ W',Kp [] W W'->W'.rangeAt g (i*22) ci/\TreeIn W' l[i] ci.toArray:=by
 rcases h with h|⟨g,hA,hx,hg,hk⟩
 ·subst h;exact absurd hi (by simp)
 have hn:=KidsAt.get i hi hk;rw[Nat.zero_add]at hn;generalize l[i]=t at *;cases t with
 |mk th tl=>
  obtain⟨A2,c2,h1,h2⟩:=hn;refine⟨g,(aY th A2 tl.length c2).toList,hA,rfl,fun W' gy=>⟨fun j v hv=>?_,⟨A2,c2,rfl,KidsOk.kp gy h2⟩⟩⟩;have hj:j<22:=(List.getElem?_eq_some_iff.1 hv).1;rw[gy.cell hg (by simp),h1 j hj];rw[<- hv];simp
theorem mT:∀ {l l':List Tree},l.length=l'.length->(iN l l'=true↔∀ i (h:i<l.length) (h':i<l'.length),l[i].same l'[i]=true)
 | [],[],_=>by simp[iN]
 | [],_::_,h=>by simp at h
 |_::_,[],h=>by simp at h
 |t::r,t'::r',h=>by
  have ih:=mT (l:=r) (l':=r') (by simpa using h);unfold iN;rw[yh,ih];constructor
  ·rintro⟨h1,h2⟩ i hi hi';cases i with
   |zero=>exact h1
   |succ i=>exact h2 i (by simpa using hi) (by simpa using hi')
  intro h1;exact⟨h1 0 (by simp) (by simp),fun i hi hi'=>h1 (i+1) (by simpa using hi) (by simpa using hi')⟩
theorem wN:∀ {l l':List Tree},l.length≠l'.length->iN l l'=false
 | [],[],h=>absurd rfl h
 | [],_::_,_=>by simp[iN]
 |_::_,[],_=>by simp[iN]
 |t::r,t'::r',h=>by
  unfold iN;rw[wN (l:=r) (l':=r') (by simpa using h),Bool.and_false]
theorem gN{t:Tree}{i:Nat}(hi:i<t.l.length):(t.l[i]).size<t.size:=by
 cases t with
 |mk h l=>
  show l[i].size<bB l+1;have key:∀ (l:List Tree) (i:Nat) (hi:i<l.length),l[i].size<=bB l:=by
   intro l
   induction l with
   |nil=>intro i hi;exact absurd hi (by simp)
   |cons u r ih=>
    intro i hi;unfold bB;cases i with
    |zero=>simp only[List.getElem_cons_zero];omega
    |succ i=>have:=ih i (by simpa using hi);simp only[List.getElem_cons_succ];omega
  have:=key l i hi;omega
theorem Lies.sub{w:World}{b:Nat}{t:TypeId}{C:Array Value}(h:Lies w b t C)(o:Nat)(cs:List Value)(hs:(C.toList.drop o).take cs.length=cs):w.rangeAt b o cs:=fun j v hv=>by
 have hj:j<cs.length:=(List.getElem?_eq_some_iff.1 hv).1;have key:=List.getElem?_take_of_lt (l:=C.toList.drop o) hj;rw[hs,hv,List.getElem?_drop]at key;rw[h.cell,key];simp
theorem cV:∀ (l:List Tree),l.length<=bB l
 | []=>zm _
 |t::r=>by
  have:=cV r;have h1:1<=t.size:=by cases t;unfold Tree.size;omega
  unfold bB;rw[yi];omega
theorem pD{P:Program}{w:World}(mty kt et:TypeId){d:TypeDesc}(r clock:Nat)(es:Array MapEntry)(s val:Value)(hm:P.underlying mty=some (.map kt et))(hk:P.underlying kt=some d)(hs:MapKept.IsKey d s)(hb:w.heap[r]?=some (.map es clock))(hf:Instr.findNow d s es.toList 0=some none) :
  (Instr.mapUpdate mty (.map (some r)) s val).run P w=.ok () { w with heap:=w.heap.setIfInBounds r (.map (es.push { key:=s,val:=val,born:=clock }) (clock+1)) }:=by
 have hc:(Instr.checkKey false 10000 kt s).run P w=.ok () w:=MapKept.run_checkKey hk hs false 9999;simp[Instr.mapUpdate,run_underlying hm,MapKept.run_getObj_map hb,hc,MapKept.run_findKey hk hf,MapKept.run_setObj_map _ hb,Result.andThen]
def cK(W:World)(q:Nat)(es:Array MapEntry)(c:Nat):World:={ W with heap:=W.heap.setIfInBounds q (.map es c) }
theorem mJ(W:World)(q:Nat)(es:Array MapEntry)(c:Nat):(cK W q es c).heap.size=W.heap.size:=Array.size_setIfInBounds ..
theorem oF{B q:Nat}{W:World}(h:B<=q)(es:Array MapEntry)(c:Nat):Below B W (cK W q es c) :=
 ⟨rfl,rfl,rfl,by rw[mJ];exact zr,fun k hk=>Array.getElem?_setIfInBounds_ne (by omega)⟩
theorem qT{W:World}{q:Nat}(h:q<W.heap.size)(es:Array MapEntry)(c:Nat):(cK W q es c).heap[q]?=some (.map es c):=by
 show (W.heap.setIfInBounds _ _)[_]?=_;rw[Array.getElem?_setIfInBounds_self_of_lt h]
theorem nZ{W:World}{q b:Nat}(h:b≠q)(es:Array MapEntry)(c:Nat):(cK W q es c).heap[b]?=W.heap[b]?:=by
 show (W.heap.setIfInBounds _ _)[_]?=_;rw[Array.getElem?_setIfInBounds_ne (Ne.symm h)]
theorem bP{P:Program}{ops:Array Oper}{rest:List Oper}{op:Oper}{a:Act}{w:World}{Q:Exit->Act->World->Prop}(s5:op.guard=none)(mty:TypeId)(m k v:Operand)(ho:op.op=.insert mty m k v){W':World}(hr:(Instr.mapUpdate mty (a.eval m) (a.eval k) (a.eval v)).run P w=.ok () W')(h:wpList P ops Q rest (a.put op.dst undef) W'):wpList P ops Q (op::rest) a w :=
 wpList_plain s5 fun K hK=>by
  unfold Oper.wp execOp;simp only[ho,Sem.run_bind,hr,Sem.run_pure,Result.andThen_ok];exact hK _ _ h
structure SM(q:Nat)(es:Array MapEntry)(c:Nat)(done:List (List Bs))(w W:World):Prop where
 size:W.heap.size=q+1+done.length
 out:W.heap[q]?=some (.map es c)
 ins:∀ i (h:i<done.length),W.heap[q+1+i]?=some (.map (iO done[i]) done[i].length)
 bel:Below q w W
theorem SM.zero(w:World):SM w.heap.size #[] 0 [] w (w.alloc (.map #[] 0)) :=
 ⟨by rw[World.size_alloc];rfl,heap_alloc_new w _,fun i h=>absurd h (Nat.not_lt_zero _),(Below.refl _ w).alloc zr _⟩
theorem SM.new{q c:Nat}{es:Array MapEntry}{done:List (List Bs)}{w W:World}(h:SM q es c done w W):SM q es c (done++[[]]) w (W.alloc (.map #[] 0)):=by
 obtain⟨h1,h2,h3,h4⟩:=h;have hs:(W.alloc (.map #[] 0)).heap.size=W.heap.size+1:=World.size_alloc ..;refine⟨by rw[hs,h1,yl];rfl,?_,fun i hi=>?_,h4.alloc (by omega) _⟩
 ·rw[Below.heap_alloc _ _ _ (by omega)];exact h2
 rw[yl]at hi;simp only[List.length_singleton]at hi;by_cases hd:i<done.length
 ·rw[Below.heap_alloc _ _ _ (by omega),List.getElem_append_left hd];exact h3 i hd
 have hid:i=done.length:=by omega
 subst hid;rw[<- h1,heap_alloc_new];simp[iO]
theorem SM.putO{q c:Nat}{es:Array MapEntry}{done:List (List Bs)}{w W:World}(h:SM q es c done w W)(es':Array MapEntry)(c':Nat):SM q es' c' done w (cK W q es' c'):=by
 obtain⟨h1,h2,h3,h4⟩:=h;refine⟨by rw[mJ];exact h1,qT (by omega) _ _,fun i hi=>?_,h4.trans (oF zr _ _)⟩;rw[nZ (by omega)];exact h3 i hi
theorem uET(l:List Bs)(s:Bs):(iO l).push { key:=.string ⟨s.toArray⟩,val:=.bool true,born:=l.length }=iO (l++[s]):=by
 simp[iO,List.mapIdx_append]
theorem SM.putI{q c:Nat}{es:Array MapEntry}{done:List (List Bs)}{l:List Bs}{w W:World}(h:SM q es c (done++[l]) w W)(s:Bs):SM q es c (done++[l++[s]]) w (cK W (q+1+done.length) ((iO l).push { key:=.string ⟨s.toArray⟩,val:=.bool true,born:=l.length }) (l.length+1)):=by
 obtain⟨h1,h2,h3,h4⟩:=h;rw[yl]at h1;simp only[List.length_singleton]at h1;refine⟨by rw[mJ,yl];exact h1,by rw[nZ (by omega)];exact h2,fun i hi=>?_,h4.trans (oF (by omega) _ _)⟩;rw[yl]at hi;simp only[List.length_singleton]at hi;by_cases hd:i<done.length
 ·have:=h3 i (by rw[yl];omega);rw[nZ (by omega),this,List.getElem_append_left hd,List.getElem_append_left hd]
 have hid:i=done.length:=by omega
 subst hid;rw[qT (by omega),uET];simp
theorem uSgI:Tryz.prog.underlying 89=some (.map 9 4):=by kernel_rfl
theorem uSgO:Tryz.prog.underlying 63=some (.map 3 89):=by kernel_rfl
theorem uInt:Tryz.prog.underlying 3=some (.int .i64):=by kernel_rfl
theorem SM.runI{q c:Nat}{es:Array MapEntry}{done:List (List Bs)}{l:List Bs}{w W:World}(h:SM q es c (done++[l]) w W)(s:Bs){b:Nat}(hb:b=q+1+done.length)(hf:Instr.findNow .string (.string ⟨s.toArray⟩) (iO l).toList 0=some none) :
  (Instr.mapUpdate 89 (.map (some b)) (.string ⟨s.toArray⟩) (.bool true)).run Tryz.prog W=.ok () (cK W (q+1+done.length) ((iO l).push { key:=.string ⟨s.toArray⟩,val:=.bool true,born:=l.length }) (l.length+1)):=by
 subst hb;have:=h.ins done.length (by rw[yl];simp);rw[List.getElem_append_right zr]at this;simp at this;exact pD _ _ _ _ _ _ _ _ uSgI Tryz.underlying9 trivial this hf
theorem SM.runO{q c:Nat}{es:Array MapEntry}{done:List (List Bs)}{w W:World}(h:SM q es c done w W)(j:Int)(b:Nat)(hf:Instr.findNow (.int .i64) (.int .i64 j) es.toList 0=some none) :
  (Instr.mapUpdate 63 (.map (some q)) (.int .i64 j) (.map (some b))).run Tryz.prog W=.ok () (cK W q (es.push { key:=.int .i64 j,val:=.map (some b),born:=c }) (c+1)) :=
 pD _ _ _ _ _ _ _ _ uSgO uInt rfl h.out hf
theorem SM.done{w W:World}(h:SM w.heap.size (wP w.heap.size) 6 eG w W):SgIn W w.heap.size :=
 ⟨h.out,fun i hi=>⟨_,h.ins i hi⟩⟩
set_option maxRecDepth 100000 in
theorem uBI(w:World):Calls Tryz.prog 23 #[] w fun e w'=>e=.returned (.map (some w.heap.size))/\SgIn w' w.heap.size/\Below w.heap.size w w':=by
 have HP:Hid (∀ W',SM w.heap.size (wP w.heap.size) 6 eG w W'->SgIn W' w.heap.size/\Below w.heap.size w W'):=zh (fun W' h=>⟨h.done,h.bel⟩);have S0:=zh (SM.zero w);have hmm:=@run_makeMap Tryz.prog;generalize hq:w.heap.size=q at *;have HQ:=zh hq
 go_enter Tryz.func23,Tryz.ntmps23
 go_wp2_with (first
  |(refine bP rfl 89 (.tmp 2) (.const (.string ⟨#[61]⟩)) (.const (.bool true)) rfl (SM.runI (done:=([]:List (List Bs))) (l:=([]:List Bs)) S0.out.new [61] (by simp) rfl) ?_;have S1:=zh (SM.putI (done:=([]:List (List Bs))) (l:=([]:List Bs)) S0.out.new [61]);generalize cK _ _ _ _=W1 at S1 ⊢;clear S0;have S1:Hid (SM q #[] 0 [[[61]]] w W1):=S1)
  |(refine bP rfl 89 (.tmp 2) (.const (.string ⟨#[60,62]⟩)) (.const (.bool true)) rfl (SM.runI (done:=([]:List (List Bs))) (l:=[[61]]) S1.out [60,62] (by simp) rfl) ?_;have S2:=zh (SM.putI (done:=([]:List (List Bs))) (l:=[[61]]) S1.out [60,62]);generalize cK _ _ _ _=W2 at S2 ⊢;clear S1;have S2:Hid (SM q #[] 0 [[[61],[60,62]]] w W2):=S2)
  |(refine bP rfl 89 (.tmp 2) (.const (.string ⟨#[60]⟩)) (.const (.bool true)) rfl (SM.runI (done:=([]:List (List Bs))) (l:=[[61],[60,62]]) S2.out [60] (by simp) rfl) ?_;have S3:=zh (SM.putI (done:=([]:List (List Bs))) (l:=[[61],[60,62]]) S2.out [60]);generalize cK _ _ _ _=W3 at S3 ⊢;clear S2;have S3:Hid (SM q #[] 0 [[[61],[60,62],[60]]] w W3):=S3)
  |(refine bP rfl 89 (.tmp 2) (.const (.string ⟨#[60,61]⟩)) (.const (.bool true)) rfl (SM.runI (done:=([]:List (List Bs))) (l:=[[61],[60,62],[60]]) S3.out [60,61] (by simp) rfl) ?_;have S4:=zh (SM.putI (done:=([]:List (List Bs))) (l:=[[61],[60,62],[60]]) S3.out [60,61]);generalize cK _ _ _ _=W4 at S4 ⊢;clear S3;have S4:Hid (SM q #[] 0 [[[61],[60,62],[60],[60,61]]] w W4):=S4)
  |(refine bP rfl 89 (.tmp 2) (.const (.string ⟨#[62]⟩)) (.const (.bool true)) rfl (SM.runI (done:=([]:List (List Bs))) (l:=[[61],[60,62],[60],[60,61]]) S4.out [62] (by simp) rfl) ?_;have S5:=zh (SM.putI (done:=([]:List (List Bs))) (l:=[[61],[60,62],[60],[60,61]]) S4.out [62]);generalize cK _ _ _ _=W5 at S5 ⊢;clear S4;have S5:Hid (SM q #[] 0 [[[61],[60,62],[60],[60,61],[62]]] w W5):=S5)
  |(refine bP rfl 89 (.tmp 2) (.const (.string ⟨#[62,61]⟩)) (.const (.bool true)) rfl (SM.runI (done:=([]:List (List Bs))) (l:=[[61],[60,62],[60],[60,61],[62]]) S5.out [62,61] (by simp) rfl) ?_;have S6:=zh (SM.putI (done:=([]:List (List Bs))) (l:=[[61],[60,62],[60],[60,61],[62]]) S5.out [62,61]);generalize cK _ _ _ _=W6 at S6 ⊢;clear S5;have S6:Hid (SM q #[] 0 [[[61],[60,62],[60],[60,61],[62],[62,61]]] w W6):=S6)
  |(refine bP rfl 63 (.tmp 1) (.const (.int .i64 0)) (.tmp 3) rfl (SM.runO S6.out 0 (q+1) rfl) ?_;have S7:=zh (SM.putO S6.out ((#[]:Array MapEntry).push { key:=.int .i64 0,val:=.map (some (q+1)),born:=0 }) (0+1));generalize cK _ _ _ _=W7 at S7 ⊢;clear S6;have S7:Hid (SM q #[⟨.int .i64 0,.map (some (q+1)),0⟩] 1 [[[61],[60,62],[60],[60,61],[62],[62,61]]] w W7):=S7;have z7:W7.heap.size=q+2:=S7.out.size)
  |(refine bP rfl 89 (.tmp 4) (.const (.string ⟨#[38]⟩)) (.const (.bool true)) rfl (SM.runI (done:=[[[61],[60,62],[60],[60,61],[62],[62,61]]]) (l:=([]:List Bs)) S7.out.new [38] (by simp) rfl) ?_;have S8:=zh (SM.putI (done:=[[[61],[60,62],[60],[60,61],[62],[62,61]]]) (l:=([]:List Bs)) S7.out.new [38]);generalize cK _ _ _ _=W8 at S8 ⊢;clear S7;have S8:Hid (SM q #[⟨.int .i64 0,.map (some (q+1)),0⟩] 1 [[[61],[60,62],[60],[60,61],[62],[62,61]],[[38]]] w W8):=S8)
  |(refine bP rfl 63 (.tmp 1) (.const (.int .i64 1)) (.tmp 5) rfl (SM.runO S8.out 1 (q+2) rfl) ?_;have S9:=zh (SM.putO S8.out ((#[⟨.int .i64 0,.map (some (q+1)),0⟩]:Array MapEntry).push { key:=.int .i64 1,val:=.map (some (q+2)),born:=1 }) (1+1));generalize cK _ _ _ _=W9 at S9 ⊢;clear S8;have S9:Hid (SM q #[⟨.int .i64 0,.map (some (q+1)),0⟩,⟨.int .i64 1,.map (some (q+2)),1⟩] 2 [[[61],[60,62],[60],[60,61],[62],[62,61]],[[38]]] w W9):=S9;have z9:W9.heap.size=q+3:=S9.out.size)
  |(refine bP rfl 89 (.tmp 6) (.const (.string ⟨#[43]⟩)) (.const (.bool true)) rfl (SM.runI (done:=[[[61],[60,62],[60],[60,61],[62],[62,61]],[[38]]]) (l:=([]:List Bs)) S9.out.new [43] (by simp) rfl) ?_;have S10:=zh (SM.putI (done:=[[[61],[60,62],[60],[60,61],[62],[62,61]],[[38]]]) (l:=([]:List Bs)) S9.out.new [43]);generalize cK _ _ _ _=W10 at S10 ⊢;clear S9;have S10:Hid (SM q #[⟨.int .i64 0,.map (some (q+1)),0⟩,⟨.int .i64 1,.map (some (q+2)),1⟩] 2 [[[61],[60,62],[60],[60,61],[62],[62,61]],[[38]],[[43]]] w W10):=S10)
  |(refine bP rfl 89 (.tmp 6) (.const (.string ⟨#[45]⟩)) (.const (.bool true)) rfl (SM.runI (done:=[[[61],[60,62],[60],[60,61],[62],[62,61]],[[38]]]) (l:=[[43]]) S10.out [45] (by simp) rfl) ?_;have S11:=zh (SM.putI (done:=[[[61],[60,62],[60],[60,61],[62],[62,61]],[[38]]]) (l:=[[43]]) S10.out [45]);generalize cK _ _ _ _=W11 at S11 ⊢;clear S10;have S11:Hid (SM q #[⟨.int .i64 0,.map (some (q+1)),0⟩,⟨.int .i64 1,.map (some (q+2)),1⟩] 2 [[[61],[60,62],[60],[60,61],[62],[62,61]],[[38]],[[43],[45]]] w W11):=S11)
  |(refine bP rfl 63 (.tmp 1) (.const (.int .i64 2)) (.tmp 7) rfl (SM.runO S11.out 2 (q+3) rfl) ?_;have S12:=zh (SM.putO S11.out ((#[⟨.int .i64 0,.map (some (q+1)),0⟩,⟨.int .i64 1,.map (some (q+2)),1⟩]:Array MapEntry).push { key:=.int .i64 2,val:=.map (some (q+3)),born:=2 }) (2+1));generalize cK _ _ _ _=W12 at S12 ⊢;clear S11;have S12:Hid (SM q #[⟨.int .i64 0,.map (some (q+1)),0⟩,⟨.int .i64 1,.map (some (q+2)),1⟩,⟨.int .i64 2,.map (some (q+3)),2⟩] 3 [[[61],[60,62],[60],[60,61],[62],[62,61]],[[38]],[[43],[45]]] w W12):=S12;have z12:W12.heap.size=q+4:=S12.out.size)
  |(refine bP rfl 89 (.tmp 8) (.const (.string ⟨#[42]⟩)) (.const (.bool true)) rfl (SM.runI (done:=[[[61],[60,62],[60],[60,61],[62],[62,61]],[[38]],[[43],[45]]]) (l:=([]:List Bs)) S12.out.new [42] (by simp) rfl) ?_;have S13:=zh (SM.putI (done:=[[[61],[60,62],[60],[60,61],[62],[62,61]],[[38]],[[43],[45]]]) (l:=([]:List Bs)) S12.out.new [42]);generalize cK _ _ _ _=W13 at S13 ⊢;clear S12;have S13:Hid (SM q #[⟨.int .i64 0,.map (some (q+1)),0⟩,⟨.int .i64 1,.map (some (q+2)),1⟩,⟨.int .i64 2,.map (some (q+3)),2⟩] 3 [[[61],[60,62],[60],[60,61],[62],[62,61]],[[38]],[[43],[45]],[[42]]] w W13):=S13)
  |(refine bP rfl 89 (.tmp 8) (.const (.string ⟨#[47]⟩)) (.const (.bool true)) rfl (SM.runI (done:=[[[61],[60,62],[60],[60,61],[62],[62,61]],[[38]],[[43],[45]]]) (l:=[[42]]) S13.out [47] (by simp) rfl) ?_;have S14:=zh (SM.putI (done:=[[[61],[60,62],[60],[60,61],[62],[62,61]],[[38]],[[43],[45]]]) (l:=[[42]]) S13.out [47]);generalize cK _ _ _ _=W14 at S14 ⊢;clear S13;have S14:Hid (SM q #[⟨.int .i64 0,.map (some (q+1)),0⟩,⟨.int .i64 1,.map (some (q+2)),1⟩,⟨.int .i64 2,.map (some (q+3)),2⟩] 3 [[[61],[60,62],[60],[60,61],[62],[62,61]],[[38]],[[43],[45]],[[42],[47]]] w W14):=S14)
  |(refine bP rfl 63 (.tmp 1) (.const (.int .i64 3)) (.tmp 9) rfl (SM.runO S14.out 3 (q+4) rfl) ?_;have S15:=zh (SM.putO S14.out ((#[⟨.int .i64 0,.map (some (q+1)),0⟩,⟨.int .i64 1,.map (some (q+2)),1⟩,⟨.int .i64 2,.map (some (q+3)),2⟩]:Array MapEntry).push { key:=.int .i64 3,val:=.map (some (q+4)),born:=3 }) (3+1));generalize cK _ _ _ _=W15 at S15 ⊢;clear S14;have S15:Hid (SM q #[⟨.int .i64 0,.map (some (q+1)),0⟩,⟨.int .i64 1,.map (some (q+2)),1⟩,⟨.int .i64 2,.map (some (q+3)),2⟩,⟨.int .i64 3,.map (some (q+4)),3⟩] 4 [[[61],[60,62],[60],[60,61],[62],[62,61]],[[38]],[[43],[45]],[[42],[47]]] w W15):=S15;have z15:W15.heap.size=q+5:=S15.out.size)
  |(refine bP rfl 89 (.tmp 10) (.const (.string ⟨#[94]⟩)) (.const (.bool true)) rfl (SM.runI (done:=[[[61],[60,62],[60],[60,61],[62],[62,61]],[[38]],[[43],[45]],[[42],[47]]]) (l:=([]:List Bs)) S15.out.new [94] (by simp) rfl) ?_;have S16:=zh (SM.putI (done:=[[[61],[60,62],[60],[60,61],[62],[62,61]],[[38]],[[43],[45]],[[42],[47]]]) (l:=([]:List Bs)) S15.out.new [94]);generalize cK _ _ _ _=W16 at S16 ⊢;clear S15;have S16:Hid (SM q #[⟨.int .i64 0,.map (some (q+1)),0⟩,⟨.int .i64 1,.map (some (q+2)),1⟩,⟨.int .i64 2,.map (some (q+3)),2⟩,⟨.int .i64 3,.map (some (q+4)),3⟩] 4 [[[61],[60,62],[60],[60,61],[62],[62,61]],[[38]],[[43],[45]],[[42],[47]],[[94]]] w W16):=S16)
  |(refine bP rfl 63 (.tmp 1) (.const (.int .i64 4)) (.tmp 11) rfl (SM.runO S16.out 4 (q+5) rfl) ?_;have S17:=zh (SM.putO S16.out ((#[⟨.int .i64 0,.map (some (q+1)),0⟩,⟨.int .i64 1,.map (some (q+2)),1⟩,⟨.int .i64 2,.map (some (q+3)),2⟩,⟨.int .i64 3,.map (some (q+4)),3⟩]:Array MapEntry).push { key:=.int .i64 4,val:=.map (some (q+5)),born:=4 }) (4+1));generalize cK _ _ _ _=W17 at S17 ⊢;clear S16;have S17:Hid (SM q #[⟨.int .i64 0,.map (some (q+1)),0⟩,⟨.int .i64 1,.map (some (q+2)),1⟩,⟨.int .i64 2,.map (some (q+3)),2⟩,⟨.int .i64 3,.map (some (q+4)),3⟩,⟨.int .i64 4,.map (some (q+5)),4⟩] 5 [[[61],[60,62],[60],[60,61],[62],[62,61]],[[38]],[[43],[45]],[[42],[47]],[[94]]] w W17):=S17;have z17:W17.heap.size=q+6:=S17.out.size)
  |(refine bP rfl 89 (.tmp 12) (.const (.string ⟨#[43]⟩)) (.const (.bool true)) rfl (SM.runI (done:=[[[61],[60,62],[60],[60,61],[62],[62,61]],[[38]],[[43],[45]],[[42],[47]],[[94]]]) (l:=([]:List Bs)) S17.out.new [43] (by simp) rfl) ?_;have S18:=zh (SM.putI (done:=[[[61],[60,62],[60],[60,61],[62],[62,61]],[[38]],[[43],[45]],[[42],[47]],[[94]]]) (l:=([]:List Bs)) S17.out.new [43]);generalize cK _ _ _ _=W18 at S18 ⊢;clear S17;have S18:Hid (SM q #[⟨.int .i64 0,.map (some (q+1)),0⟩,⟨.int .i64 1,.map (some (q+2)),1⟩,⟨.int .i64 2,.map (some (q+3)),2⟩,⟨.int .i64 3,.map (some (q+4)),3⟩,⟨.int .i64 4,.map (some (q+5)),4⟩] 5 [[[61],[60,62],[60],[60,61],[62],[62,61]],[[38]],[[43],[45]],[[42],[47]],[[94]],[[43]]] w W18):=S18)
  |(refine bP rfl 89 (.tmp 12) (.const (.string ⟨#[45]⟩)) (.const (.bool true)) rfl (SM.runI (done:=[[[61],[60,62],[60],[60,61],[62],[62,61]],[[38]],[[43],[45]],[[42],[47]],[[94]]]) (l:=[[43]]) S18.out [45] (by simp) rfl) ?_;have S19:=zh (SM.putI (done:=[[[61],[60,62],[60],[60,61],[62],[62,61]],[[38]],[[43],[45]],[[42],[47]],[[94]]]) (l:=[[43]]) S18.out [45]);generalize cK _ _ _ _=W19 at S19 ⊢;clear S18;have S19:Hid (SM q #[⟨.int .i64 0,.map (some (q+1)),0⟩,⟨.int .i64 1,.map (some (q+2)),1⟩,⟨.int .i64 2,.map (some (q+3)),2⟩,⟨.int .i64 3,.map (some (q+4)),3⟩,⟨.int .i64 4,.map (some (q+5)),4⟩] 5 [[[61],[60,62],[60],[60,61],[62],[62,61]],[[38]],[[43],[45]],[[42],[47]],[[94]],[[43],[45]]] w W19):=S19)
  |(refine bP rfl 63 (.tmp 1) (.const (.int .i64 5)) (.tmp 13) rfl (SM.runO S19.out 5 (q+6) rfl) ?_;have S20:=zh (SM.putO S19.out ((#[⟨.int .i64 0,.map (some (q+1)),0⟩,⟨.int .i64 1,.map (some (q+2)),1⟩,⟨.int .i64 2,.map (some (q+3)),2⟩,⟨.int .i64 3,.map (some (q+4)),3⟩,⟨.int .i64 4,.map (some (q+5)),4⟩]:Array MapEntry).push { key:=.int .i64 5,val:=.map (some (q+6)),born:=5 }) (5+1));generalize cK _ _ _ _=W20 at S20 ⊢;clear S19;have S20:Hid (SM q #[⟨.int .i64 0,.map (some (q+1)),0⟩,⟨.int .i64 1,.map (some (q+2)),1⟩,⟨.int .i64 2,.map (some (q+3)),2⟩,⟨.int .i64 3,.map (some (q+4)),3⟩,⟨.int .i64 4,.map (some (q+5)),4⟩,⟨.int .i64 5,.map (some (q+6)),5⟩] 6 [[[61],[60,62],[60],[60,61],[62],[62,61]],[[38]],[[43],[45]],[[42],[47]],[[94]],[[43],[45]]] w W20):=S20;have z20:W20.heap.size=q+7:=S20.out.size))
 go_ret
 exact⟨rfl,HP.out _ S20.out⟩
theorem capVal(c:UInt8)(h:bW c=true):65<=c.toNat/\c.toNat<=90:=by
 unfold bW at h;simpa using h
theorem uCH(l:Bs)(k:Nat)(h:k<l.length):dN (l.take (k+1))=dN (l.take k)*26+(l[k].toNat-65)+1:=by
 rw[yw h,rZ]
theorem colOf_bd(l:Bs)(h:∀ c∈l,bW c=true)(k:Nat)(hk:k<=3):dN (l.take k)<=18278:=by
 have st:∀ j,j<l.length->dN (l.take (j+1))<=dN (l.take j)*26+26:=fun j hj=>by
  have:=capVal _ (h l[j] (List.getElem_mem hj));rw[uCH l j hj];omega
 have z:dN (l.take 0)=0:=rfl;have step:∀ j,dN (l.take (j+1))<=dN (l.take j)*26+26:=fun j=>by
  by_cases hj:j<l.length
  ·exact st j hj
  rw[List.take_of_length_le (by omega),List.take_of_length_le (by omega)];omega
 have s0:dN (l.take 1)<=dN (l.take 0)*26+26:=step 0;have s1:dN (l.take 2)<=dN (l.take 1)*26+26:=step 1;have s2:dN (l.take 3)<=dN (l.take 2)*26+26:=step 2;rw[z]at s0
 match k,hk with
 |0,_=>rw[z];omega
 |1,_=>omega
 |2,_=>omega
 |3,_=>omega
structure ItIn(l:Bs)(w:World)(pos:Nat)(wr:World):Prop where
 le:pos<=l.length
 it:wr.heap[w.heap.size]?=some (.stringIter ⟨l.toArray⟩ pos)
 bel:Below w.heap.size w wr
theorem ItIn.start(l:Bs)(w:World):ItIn l w 0 (w.iter ⟨l.toArray⟩ 0) :=
 ⟨zm _,by have:=World.iter_heap w ⟨l.toArray⟩ 0;simpa using this,by unfold World.iter;exact(Below.refl _ w).alloc zr _⟩
theorem ItIn.next{l:Bs}{w wr:World}{pos:Nat}(h:ItIn l w pos wr)(hp:pos<l.length):ItIn l w (pos+1) (wr.iterAt w.heap.size ⟨l.toArray⟩ (pos+1)) :=
 ⟨hp,Lib.iterAt_heap wr _ _ pos _ h.it,Lib.below_iterAt h.bel (k:=w.heap.size) zr ⟨l.toArray⟩ (pos+1)⟩
theorem ItIn.pos{l:Bs}{w wr:World}{pos:Nat}(h:ItIn l w pos wr):wr.iterPos w.heap.size=pos:=by unfold World.iterPos;rw[h.it]
theorem ItIn.run{l:Bs}{w wr:World}{pos:Nat}(h:ItIn l w pos wr)(hp:pos<l.length)(ha:l[pos].toNat<128)(ty:TypeId) :
  (Instr.next (.pointer (some ⟨w.heap.size,0,none⟩)) true ty).run Tryz.prog wr=.ok (.tuple #[.bool true,.int .i64 pos,.int .i32 (l[pos].toNat:Int)]) (wr.iterAt w.heap.size ⟨l.toArray⟩ (pos+1)):=by
 have sw:pos<(ByteArray.mk l.toArray).size:=by simpa [ByteArray.size] using hp
 have hg:(ByteArray.mk l.toArray)[pos]=l[pos]:=yF l pos sw;have:=Lib.run_next_ascii_at (P:=Tryz.prog) wr w.heap.size ⟨l.toArray⟩ pos ty h.it sw (by rw[hg];exact ha);rw[hg]at this;exact this
theorem ItIn.stop{l:Bs}{w wr:World}{pos:Nat}(h:ItIn l w pos wr)(hp:¬ pos<l.length)(ty:TypeId) :
  (Instr.next (.pointer (some ⟨w.heap.size,0,none⟩)) true ty).run Tryz.prog wr=.ok (.tuple #[.bool false]) wr :=
 Lib.run_next_end_at (P:=Tryz.prog) wr w.heap.size ⟨l.toArray⟩ pos ty h.it (by simpa [ByteArray.size] using hp)
theorem uDS(l:Bs)(k:Nat)(h:k<l.length):aV (dT (l.take (k+1)))=10*aV (dT (l.take k))+(l[k].toNat-48):=by
 rw[yw h,yT];exact lI _ _
theorem uAB(l:Bs)(h:AllDig l)(h7:l.length<=7)(k:Nat):aV (dT (l.take k))<=9999999:=by
 have hd:Dig (dT (l.take k)):=by
  intro d hd;unfold dT at hd;obtain⟨c,hc,rfl⟩:=yj.1 hd;have:=(cT c).1 (h c (List.mem_of_mem_take hc));omega
 have h1:=mG _ hd;have h2:(dT (l.take k)).length<=7:=by rw[iY,zc];omega
 have h3:(10:Nat) ^ (dT (l.take k)).length<=10 ^ 7:=Nat.pow_le_pow_right (by omega) h2;omega
theorem Lies.below{w w':World}{g:Nat}{t:TypeId}{cs:Array Value}(h:Lies w g t cs)(hb:Below w.heap.size w w'):Lies w' g t cs:=(hb.block g h.lt).trans h
set_option maxRecDepth 100000 in
theorem uIC(m e:Int)(w:World)(h1:-9223372036854775808<m)(h2:m<=9223372036854775807)(hR:cC m e=true) :
  Calls Tryz.prog 139 #[rI m e] w fun x w'=>x=.returned (rI (-m) e)/\Below w.heap.size w w':=by
 have C:=zh (fun W=>pY m e W (by omega) h2);rw[hR]at C;have HB:Hid (Below w.heap.size w ((w.alloc (.cells #[.int .i64 m,.int .i64 e] 30)).alloc (.cells #[.int .i64 0,.int .i64 0] 30))):=zh (((Below.refl _ w).alloc zr _).alloc (by simp) _);have T0:Hid (NumIn w m e ((w.alloc (.cells #[.int .i64 m,.int .i64 e] 30)).alloc (.cells #[.int .i64 0,.int .i64 0] 30))):=zh ((NumIn.start w m e).next (zp _));have HL:Hid (Lies ((w.alloc (.cells #[.int .i64 m,.int .i64 e] 30)).alloc (.cells #[.int .i64 0,.int .i64 0] 30)) (w.heap.size+1) 30 #[.int .i64 0,.int .i64 0]):=zh (by have:=Lies.new (w.alloc (.cells #[.int .i64 m,.int .i64 e] 30)) 30 #[.int .i64 0,.int .i64 0];simpa using this);clear hR
 go_enter Tryz.func139,Tryz.ntmps139
 go_wp2_with fail
 refine(C.out _).mono ?_;rintro x w1 ⟨rfl,hb⟩;have kj:=zh (Lies.below HL.out hb);have T1:=zh (T0.out.next hb);clear hb HB HL T0 C;obtain⟨g0,g1,g2,g3⟩:=T1.out;have q0:=kj.out.cell 0;have q1:=kj.out.cell 1;have f0:=kj.out.frozen 0;have f1:=kj.out.frozen 1;have hlt:=kj.out.lt;have dy:=zh g3;simp only[za,zb,zf]at q0 q1
 go_wp2_with fail
 refine yt (v:=.agg #[.int .i64 (-m),.int .i64 e]) (by simp[results,Tryz.results139,go_sem,q0,q1]) rfl ?_;exact⟨rfl,((dy.out.setCell (p:=⟨w.heap.size+1,0,none⟩) (Nat.le_succ _) _).setCell (p:=⟨w.heap.size+1,1,none⟩) (Nat.le_succ _) _)⟩
abbrev jF(row col:Int)(fr fc:Bool):Value:=.agg #[.int .i64 row,.int .i64 col,.bool fr,.bool fc]
theorem Lies.off{w:World}{g:Nat}{t:TypeId}{cs:Array Value}(h:Lies w g t cs){b o:Nat}(hb:g≠b)(u:Value):Lies (w.setCell ⟨b,o,none⟩ u) g t cs :=
 (Below.heap_setCell w ⟨b,o,none⟩ u g hb).trans h
theorem Lies.mark{w:World}{R:Nat}{a b c d:Value}(h:Lies w R 150 #[a,b,c,d]):w.cell? ⟨R,0,none⟩=some a/\w.cell? ⟨R,1,none⟩=some b/\w.cell? ⟨R,2,none⟩=some c/\w.cell? ⟨R,3,none⟩=some d/\w.frozen? ⟨R,0,none⟩=false/\w.frozen? ⟨R,1,none⟩=false/\w.frozen? ⟨R,2,none⟩=false/\w.frozen? ⟨R,3,none⟩=false/\R<w.heap.size:=⟨h.cell 0,h.cell 1,h.cell 2,h.cell 3,h.frozen 0,h.frozen 1,h.frozen 2,h.frozen 3,h.lt⟩
theorem xL(c:UInt8)(h:aJ c=true):(((65<=(c.toNat:Int))/\(c.toNat:Int)<=90)\/((97<=(c.toNat:Int))/\(c.toNat:Int)<=122)):=by
 unfold aJ at h;simp at h;omega
theorem ItIn.high{l:Bs}{w wr:World}{pos:Nat}(h:ItIn l w pos wr)(hp:pos<l.length)(ha:128<=l[pos].toNat):∃ (r:Nat) (W:World),128<=r/\r<=2147483647/\Below w.heap.size w W/\∀ ty,(Instr.next (.pointer (some ⟨w.heap.size,0,none⟩)) true ty).run Tryz.prog wr=.ok (.tuple #[.bool true,.int .i64 pos,.int .i32 (r:Int)]) W:=by
 have sw:pos<(ByteArray.mk l.toArray).size:=by simpa [ByteArray.size] using hp
 have hg:(ByteArray.mk l.toArray)[pos]=l[pos]:=yF l pos sw;refine⟨(Utf8.decode ⟨l.toArray⟩ pos).1,wr.iterAt w.heap.size ⟨l.toArray⟩ (pos+(Utf8.decode ⟨l.toArray⟩ pos).2),(decode_high _ pos sw (by rw[hg];exact ha)).1,decode_le _ _,Lib.below_iterAt h.bel zr _ _,fun ty=>?_⟩;exact Lib.run_next_any_at (P:=Tryz.prog) wr w.heap.size ⟨l.toArray⟩ pos ty h.it sw
theorem vO(l:Bs)(k:Nat)(h:k<l.length):dN (aO (l.take (k+1)))=dN (aO (l.take k))*26+((up l[k]).toNat-65)+1:=by
 rw[yw h];unfold aO;rw[List.map_append];exact rZ _ _
theorem oP(c:UInt8):(aJ c=true/\((65<=c.toNat/\c.toNat<=90/\(up c).toNat=c.toNat)\/(97<=c.toNat/\c.toNat<=122/\(up c).toNat=c.toNat-32)))\/(aJ c=false/\¬ (65<=c.toNat/\c.toNat<=90)/\¬ (97<=c.toNat/\c.toNat<=122)):=by
 unfold aJ;by_cases h1:97<=c.toNat/\c.toNat<=122
 ·refine .inl ⟨by simp[h1.1,h1.2],.inr ⟨h1.1,h1.2,up_low c ((gS c).2 h1)⟩⟩
 by_cases h2:65<=c.toNat/\c.toNat<=90
 ·refine .inl ⟨by simp[h2.1,h2.2],.inl ⟨h2.1,h2.2,?_⟩⟩;unfold up;rw[if_neg];intro h;have:=(gS c).1 h;omega
 refine .inr ⟨?_,h2,h1⟩;simp;omega
theorem lB(l:Bs)(h:∀ c∈l,aJ c=true)(k:Nat)(hk:k<=3):dN (aO (l.take k))<=18278:=by
 have hc:∀ c∈aO l,bW c=true:=by
  intro c hc;unfold aO at hc;obtain⟨d,hd,rfl⟩:=yj.1 hc;rcases oP d with⟨_,⟨h1,h2,h3⟩|⟨h1,h2,h3⟩⟩|⟨h1,_⟩
  ·unfold bW;simp;omega
  ·unfold bW;simp;omega
  rw[h d hd]at h1;cases h1
 have:=colOf_bd (aO l) hc k hk;unfold aO at this ⊢;rw[List.map_take];exact this
def sA(l:Bs):Value:=match bR l with
 |none=>.tuple #[.int .i64 0,.bool false]
 |some c=>.tuple #[.int .i64 (c:Int),.bool true]
theorem uHC{l:Bs}{c:UInt8}(hc:c∈l)(hl:aJ c=false):sA l=.tuple #[.int .i64 0,.bool false]:=by
 have:bR l=none:=by
  unfold bR;by_cases h:l.length=0\/3<l.length
  ·rw[if_pos h]
  rw[if_neg h,if_neg];intro ha;rw[List.all_eq_true.1 ha c hc]at hl;cases hl
 unfold sA;rw[this]
theorem uHD{l:Bs}(h1:1<=l.length)(h3:l.length<=3)(hl:∀ c∈l,aJ c=true):sA l=.tuple #[.int .i64 ((dN (aO l):Int)-1),.bool true]:=by
 have hp:bR l=some (dN (aO l)-1):=by
  unfold bR;rw[if_neg (by omega),if_pos (List.all_eq_true.2 hl)]
 have oy:1<=dN (aO l):=by
  have:=vO l (l.length-1) (by omega);rw[show l.length-1+1=l.length by omega,List.take_length]at this;omega
 unfold sA;rw[hp];show Value.tuple #[.int .i64 ((dN (aO l)-1:Nat):Int),.bool true]=_;rw[show ((dN (aO l)-1:Nat):Int)=(dN (aO l):Int)-1 by omega]
theorem yQ{l:Bs}(h:l.length=0\/3<l.length):sA l=.tuple #[.int .i64 0,.bool false]:=by
 unfold sA bR;rw[if_pos h]
set_option maxRecDepth 100000 in
theorem qF(l:Bs)(w:World)(hL:l.length<=100000) :
  Calls Tryz.prog 130 #[.string ⟨l.toArray⟩] w fun e w'=>e=.returned (sA l)/\Below w.heap.size w w':=by
 rcases Nat.eq_zero_or_pos l.length with h0|h1
 ·obtain rfl:l=[]:=List.eq_nil_of_length_eq_zero h0;rw[yQ (.inl rfl)]
  go_enter Tryz.func130,Tryz.ntmps130
  go_wp2_with fail
  go_ret2
  exact⟨rfl,Below.refl _ _⟩
 have bp:l.isEmpty=false:=by cases l with|nil=>simp at h1|cons c l=>rfl
 have hne':l≠[]:=by intro e;rw[e]at h1;simp at h1
 by_cases h3:l.length<=3
 ·have HR:=zh (fun hl=>uHD h1 h3 hl);have HN:=zh (fun c=>uHC (l:=l) (c:=c));generalize sA l=R at *
  go_enter Tryz.func130,Tryz.ntmps130
  go_wp2_with fail
  go_loopw [4] (fun v wr=>∃ pos:Nat,v=.int .i64 (dN (aO (l.take pos)):Int)/\Hid (ItIn l w pos wr/\∀ c∈l.take pos,aJ c=true)) (fun _ wr=>l.length-wr.iterPos w.heap.size)
  case atStart=>exact⟨0,rfl,zh ⟨ItIn.start l w,fun c hc=>by simp at hc⟩⟩
  case round=>
   obtain⟨pos,rfl,hI'⟩:=hrel;have hI:=zh hI'.out.1;have bk:=zh hI'.out.2;clear hI';by_cases hp:pos<l.length
   ·have vj:=lB (l.take pos) bk.out pos (by omega);rw[List.take_take,Nat.min_self]at vj;rcases oP l[pos] with⟨tc,ik⟩|⟨tc,au,ew⟩
    ·have HS:=zh (vO l pos hp);have jm:Hid (∀ c∈l.take (pos+1),aJ c=true):=zh (by
      intro c hc;rw[yw hp]at hc;rcases List.mem_append.1 hc with hc|hc
      ·exact bk.out c hc
      rw[yf.1 hc];exact tc)
     have mq:=fun ty=>hI.out.run (l:=l) hp (by omega) ty
     have sr:=zh (hI.out.next hp);have uz:=zh hI.out.pos;have sy:=zh sr.out.pos;clear tc bk;generalize (up l[pos]).toNat=u at *;generalize l[pos].toNat=c at *;generalize dN (aO (l.take pos))=n at *;rcases ik with⟨q1,q2,q3⟩|⟨q1,q2,q3⟩
     ·subst q3
      go_wp2_with fail
      go_roundw
      case rel=>exact⟨pos+1,by rw[HS.out];go_num,zh ⟨sr.out,jm.out⟩⟩
      case measure=>rw[sy.out,uz.out];omega
     have hu:u=c-97+65:=by omega
     clear q3;subst hu
     go_wp2_with fail
     go_roundw
     case rel=>exact⟨pos+1,by rw[HS.out];go_num,zh ⟨sr.out,jm.out⟩⟩
     case measure=>rw[sy.out,uz.out];omega
    have hr:=HN.out _ (List.getElem_mem hp) tc;subst hr;clear tc HN HR bk;by_cases ha:l[pos].toNat<128
    ·have mq:=fun ty=>hI.out.run (l:=l) hp ha ty
     have hB:=zh (hI.out.next hp).bel;generalize wr.iterAt w.heap.size ⟨l.toArray⟩ (pos+1)=W at *;generalize l[pos].toNat=c at *;generalize dN (aO (l.take pos))=n at *;have m1:(decide ((65:Int)<=(c:Int))&&decide ((c:Int)<=90))=false:=by
      simp;omega
     have m2:(decide ((97:Int)<=(c:Int))&&decide ((c:Int)<=122))=false:=by
      simp;omega
     go_wp2_with fail
     all_goals go_ret2
     all_goals exact⟨rfl,hB.out⟩
    obtain⟨r,W,r1,r2,hB,mq⟩:=hI.out.high hp (by omega);have HB:=zh hB;clear hB au ew ha;generalize dN (aO (l.take pos))=n at *
    go_wp2_with fail
    all_goals go_ret2
    all_goals exact⟨rfl,HB.out⟩
   have mq:=fun ty=>hI.out.stop (l:=l) hp ty
   have e:pos=l.length:=by have:=hI.out.le;omega
   have HE:Hid (l.take pos=l):=zh (by rw[e,List.take_length]);have hr:=HR.out (by rw[HE.out]at bk;exact bk.out);subst hr;clear e HR HN;rw[HE.out];have vj:=lB l (by have:=bk.out;rw[HE.out]at this;exact this) 3 (by omega);rw[List.take_of_length_le h3]at vj
   go_wp2_with fail
   go_ret2
   exact⟨rfl,hI.out.bel⟩
 rw[yQ (.inr (by omega))]
 go_enter Tryz.func130,Tryz.ntmps130
 go_wp2_with fail
 go_ret2
 exact⟨rfl,Below.refl _ _⟩
def xP(l:Bs):Value:=match fZ l with
 |none=>.tuple #[.int .i64 0,.bool false]
 |some n=>.tuple #[.int .i64 (n:Int),.bool true]
theorem tD{l:Bs}(h:l.length=0\/7<l.length\/aX l 0 48=true):xP l=.tuple #[.int .i64 0,.bool false]:=by
 unfold xP fZ;rw[if_pos h]
theorem uID{l:Bs}{c:UInt8}(hc:c∈l)(hl:¬ (48<=c.toNat/\c.toNat<=57)):xP l=.tuple #[.int .i64 0,.bool false]:=by
 have:fZ l=none:=by
  unfold fZ;by_cases h:l.length=0\/7<l.length\/aX l 0 48=true
  ·rw[if_pos h]
  rw[if_neg h,if_neg];intro ha;exact hl ((cT c).1 (List.all_eq_true.1 ha c hc))
 unfold xP;rw[this]
theorem uIE{l:Bs}(h1:1<=l.length)(h7:l.length<=7)(h0:aX l 0 48=false)(hl:AllDig l):xP l=.tuple #[.int .i64 (aV (dT l):Int),.bool true]:=by
 have:fZ l=some (aV (dT l)):=by
  unfold fZ;rw[if_neg (by rintro(h|h|h);omega;omega;(rw[h0]at h;cases h)),if_pos (List.all_eq_true.2 hl)]
 unfold xP;rw[this]
set_option maxRecDepth 100000 in
theorem uAG(l:Bs)(w:World)(hL:l.length<=100000) :
  Calls Tryz.prog 131 #[.string ⟨l.toArray⟩] w fun e w'=>e=.returned (xP l)/\Below w.heap.size w w':=by
 rcases Nat.eq_zero_or_pos l.length with h0|h1
 ·obtain rfl:l=[]:=List.eq_nil_of_length_eq_zero h0;rw[tD (.inl rfl)]
  go_enter Tryz.func131,Tryz.ntmps131
  go_wp2_with fail
  go_ret2
  exact⟨rfl,Below.refl _ _⟩
 have bp:l.isEmpty=false:=by cases l with|nil=>simp at h1|cons c l=>rfl
 have hne':l≠[]:=by intro e;rw[e]at h1;simp at h1
 by_cases h7:l.length<=7
 ·have e48:=gP l 0 48 48 rfl h1;by_cases pj:aX l 0 48=true
  ·rw[tD (.inr (.inr pj))];rw[pj]at e48;clear pj
   go_enter Tryz.func131,Tryz.ntmps131
   go_wp2_with fail
   go_ret2
   exact⟨rfl,Below.refl _ _⟩
  have pj:aX l 0 48=false:=by simpa using pj
  rw[pj]at e48;have HR:=zh (fun hl=>uIE h1 h7 pj hl);have HN:=zh (fun c=>uID (l:=l) (c:=c));clear pj;generalize xP l=R at *
  go_enter Tryz.func131,Tryz.ntmps131
  go_wp2_with fail
  go_loopw [4] (fun v wr=>∃ pos:Nat,v=.int .i64 (aV (dT (l.take pos)):Int)/\Hid (ItIn l w pos wr/\AllDig (l.take pos))) (fun _ wr=>l.length-wr.iterPos w.heap.size)
  case atStart=>exact⟨0,rfl,zh ⟨ItIn.start l w,fun c hc=>by simp at hc⟩⟩
  case round=>
   obtain⟨pos,rfl,hI'⟩:=hrel;have hI:=zh hI'.out.1;have bk:=zh hI'.out.2;clear hI' e48 bp hne';by_cases hp:pos<l.length
   ·have vj:=uAB (l.take pos) bk.out (by rw[zc];omega) pos;rw[List.take_take,Nat.min_self]at vj;by_cases hdg:48<=l[pos].toNat/\l[pos].toNat<=57
    ·have HS:=zh (uDS l pos hp);obtain⟨q1,q2⟩:=hdg;have jm:Hid (AllDig (l.take (pos+1))):=zh (by
      intro c hc;rw[yw hp]at hc;rcases List.mem_append.1 hc with hc|hc
      ·exact bk.out c hc
      rw[yf.1 hc];exact(cT _).2 ⟨q1,q2⟩)
     have mq:=fun ty=>hI.out.run (l:=l) hp (by omega) ty
     have sr:=zh (hI.out.next hp);have uz:=zh hI.out.pos;have sy:=zh sr.out.pos;have ru:(aV (dT (l.take pos)):Int)<=9999999:=by omega
     clear vj bk;generalize l[pos].toNat=c at *;generalize aV (dT (l.take pos))=n at *
     go_wp2_with fail
     go_roundw
     case rel=>exact⟨pos+1,by rw[HS.out];go_num,zh ⟨sr.out,jm.out⟩⟩
     case measure=>rw[sy.out,uz.out];omega
    have hr:=HN.out _ (List.getElem_mem hp) hdg;subst hr;clear HN HR bk;by_cases ha:l[pos].toNat<128
    ·have mq:=fun ty=>hI.out.run (l:=l) hp ha ty
     have hB:=zh (hI.out.next hp).bel;generalize wr.iterAt w.heap.size ⟨l.toArray⟩ (pos+1)=W at *;generalize l[pos].toNat=c at *;generalize aV (dT (l.take pos))=n at *;have ik:(c:Int)<48\/(¬ (c:Int)<48/\(57:Int)<(c:Int)):=by omega
     clear hdg;rcases ik with q1|⟨q1,q2⟩
     all_goals go_wp2_with fail
     all_goals go_ret2
     all_goals exact⟨rfl,hB.out⟩
    obtain⟨r,W,r1,r2,hB,mq⟩:=hI.out.high hp (by omega);have HB:=zh hB;clear hB hdg ha;generalize aV (dT (l.take pos))=n at *
    go_wp2_with fail
    all_goals go_ret2
    all_goals exact⟨rfl,HB.out⟩
   have mq:=fun ty=>hI.out.stop (l:=l) hp ty
   have e:pos=l.length:=by have:=hI.out.le;omega
   have HE:Hid (l.take pos=l):=zh (by rw[e,List.take_length]);have hr:=HR.out (by rw[HE.out]at bk;exact bk.out);subst hr;clear e HR HN;rw[HE.out]
   go_wp2_with fail
   go_ret2
   exact⟨rfl,hI.out.bel⟩
 rw[tD (.inr (.inl (by omega)))]
 go_enter Tryz.func131,Tryz.ntmps131
 go_wp2_with fail
 go_ret2
 exact⟨rfl,Below.refl _ _⟩
def iL(s:Bs):Value:=match bA s with
 |none=>.tuple #[jF 0 0 false false,.bool false]
 |some m=>.tuple #[jF (m.row:Int) (m.col:Int) m.fr m.fc,.bool true]
theorem uHX{s:Bs}(h:bR ((Lib.trimPrefix s [36]).take (aN aJ (Lib.trimPrefix s [36])))=none):iL s=.tuple #[jF 0 0 false false,.bool false]:=by
 have:bA s=none:=by
  unfold bA;dsimp only;rw[h]
 unfold iL;rw[this]
theorem uHY{s:Bs}{c:Nat}(h:bR ((Lib.trimPrefix s [36]).take (aN aJ (Lib.trimPrefix s [36])))=some c)(h2:fZ (Lib.trimPrefix ((Lib.trimPrefix s [36]).drop (aN aJ (Lib.trimPrefix s [36]))) [36])=none):iL s=.tuple #[jF 0 0 false false,.bool false]:=by
 have:bA s=none:=by
  unfold bA;dsimp only;rw[h];dsimp only;rw[h2]
 unfold iL;rw[this]
theorem nU{l:Bs}{n:Nat}(h:fZ l=some n):1<=n/\n<=9999999:=by
 unfold fZ at h
 split at h
 ·cases h
 rename_i h0
 split at h
 ·rename_i bk
  injection h with h;have hd:AllDig l:=fun c hc=>List.all_eq_true.1 bk c hc
  have h7:l.length<=7:=by
   rcases Nat.lt_or_ge 7 l.length with h'|h'
   ·exact absurd (.inr (.inl h')) h0
   exact h'
  have vj:=uAB l hd h7 l.length;rw[List.take_length]at vj;refine⟨?_,by omega⟩;cases l with
  |nil=>exact absurd (.inl rfl) h0
  |cons c r=>
   have h48:aX (c::r) 0 48=false:=by
    cases hh:aX (c::r) 0 48
    ·rfl
    exact absurd (.inr (.inr hh)) h0
   have hc:=(cT c).1 (hd c (by simp));have bp:c.toNat-48≠0:=by
    intro e;have:c=48:=UInt8.toNat.inj (by show c.toNat=48;omega);rw[this]at h48;cases h48
   have hg:=oV (c.toNat-48) (dT r) bp;have hp:0<10 ^ (dT r).length:=Nat.pow_pos (by decide);have he:dT (c::r)=(c.toNat-48)::dT r:=rfl;rw[he]at h;omega
 cases h
theorem uDO{s:Bs}{c n:Nat}(h:bR ((Lib.trimPrefix s [36]).take (aN aJ (Lib.trimPrefix s [36])))=some c)(h2:fZ (Lib.trimPrefix ((Lib.trimPrefix s [36]).drop (aN aJ (Lib.trimPrefix s [36]))) [36])=some n):iL s=.tuple #[jF ((n:Int)-1) (c:Int) (Lib.hasPrefix ((Lib.trimPrefix s [36]).drop (aN aJ (Lib.trimPrefix s [36]))) [36]) (Lib.hasPrefix s [36]),.bool true]:=by
 have hp:=(nU h2).1;have:bA s=some ⟨n-1,c,Lib.hasPrefix ((Lib.trimPrefix s [36]).drop (aN aJ (Lib.trimPrefix s [36]))) [36],Lib.hasPrefix s [36]⟩:=by
  unfold bA;dsimp only;rw[h];dsimp only;rw[h2]
 unfold iL;rw[this];show Value.tuple #[jF ((n-1:Nat):Int) _ _ _,.bool true]=_;rw[show ((n-1:Nat):Int)=(n:Int)-1 by omega]
theorem qC(s p:Bs):(Lib.trimPrefix s p).length<=s.length:=by
 unfold Lib.trimPrefix
 split
 ·rw[yk];omega
 exact zr
set_option maxRecDepth 100000 in
theorem gX(s:Bs)(w:World)(hL:s.length<=100000) :
  Calls Tryz.prog 119 #[.string ⟨s.toArray⟩] w fun e w'=>e=.returned (iL s)/\Below w.heap.size w w':=by
 have C1:=zh (fun W=>hG s [36] W);have hSl:=qC s [36];have HMC:=zh (uHX (s:=s));have HMN:=zh (fun c=>uHY (s:=s) (c:=c));have HMS:=zh (fun c n=>uDO (s:=s) (c:=c) (n:=n));generalize Lib.hasPrefix s [36]=fc at *;generalize Lib.trimPrefix s [36]=S at *;generalize iL s=R at *;have hSb:S.length<=100000:=by omega
 clear hSl;have hRl:=bS aJ S;have hlt:=fun k (h1:k<aN aJ S) (h2:k<S.length)=>rO aJ S k h1 h2
 have jl:=fun(h:aN aJ S<S.length)=>kS aJ S h
 have uo:=zh hlt;have ig:=zh jl;clear hlt jl;have CC:=zh (fun W=>qF (S.take (aN aJ S)) W (by rw[zc];omega));have C2:=zh (fun W=>hG (S.drop (aN aJ S)) [36] W);have hDl:=qC (S.drop (aN aJ S)) [36];rw[yk]at hDl;have CN:=zh (fun W=>uAG (Lib.trimPrefix (S.drop (aN aJ S)) [36]) W (by omega));have hnp:=fun n=>nU (l:=Lib.trimPrefix (S.drop (aN aJ S)) [36]) (n:=n)
 have HNP:=zh hnp;clear hnp hDl;unfold sA at CC;unfold xP at CN;generalize Lib.hasPrefix (S.drop (aN aJ S)) [36]=fr at *;generalize fZ (Lib.trimPrefix (S.drop (aN aJ S)) [36])=pn at *;generalize Lib.trimPrefix (S.drop (aN aJ S)) [36]=D at *;have HT:Hid (bR (S.take (aN aJ S))=bR (S.take (aN aJ S))):=zh rfl;have pm:∀ c,bR (S.take (aN aJ S))=some c->c<=1000000:=by
  intro c hc;unfold bR at hc
  split at hc
  ·cases hc
  rename_i h3
  split at hc
  ·rename_i bk
   have:=lB (S.take (aN aJ S)) (fun c hc=>List.all_eq_true.1 bk c hc) 3 (by omega);rw[List.take_of_length_le (by rcases Nat.lt_or_ge 3 (S.take (aN aJ S)).length with h|h;exact absurd (.inr h) h3;exact h)]at this;injection hc with hc;omega
  cases hc
 have HCB:=zh pm;clear pm HT;have L0:Hid (Lies ((w.alloc (.cells #[.int .i64 0,.int .i64 0,.bool false,.bool false] 150)).alloc (.cells #[.int .i64 0,.int .i64 0,.bool false,.bool fc] 150)) w.heap.size 150 #[.int .i64 0,.int .i64 0,.bool false,.bool false]):=zh ((Lies.new w _ _).alloc _);have M0:Hid (Lies ((w.alloc (.cells #[.int .i64 0,.int .i64 0,.bool false,.bool false] 150)).alloc (.cells #[.int .i64 0,.int .i64 0,.bool false,.bool fc] 150)) (w.heap.size+1) 150 #[.int .i64 0,.int .i64 0,.bool false,.bool fc]):=zh (by have:=Lies.new (w.alloc (.cells #[.int .i64 0,.int .i64 0,.bool false,.bool false] 150)) 150 #[.int .i64 0,.int .i64 0,.bool false,.bool fc];simpa using this)
 have B0:Hid (Below w.heap.size w ((w.alloc (.cells #[.int .i64 0,.int .i64 0,.bool false,.bool false] 150)).alloc (.cells #[.int .i64 0,.int .i64 0,.bool false,.bool fc] 150))):=zh (((Below.refl _ w).alloc zr _).alloc (by simp) _);generalize hk:aN aJ S=K at *;clear hk
 go_enter Tryz.func119,Tryz.ntmps119
 go_wp2_with fail
 refine(C1.out _).mono ?_;rintro e w1 ⟨rfl,rfl⟩
 go_wp2_with fail
 generalize hW:(w.alloc (.cells #[.int .i64 0,.int .i64 0,.bool false,.bool false] 150)).alloc (.cells #[.int .i64 0,.int .i64 0,.bool false,.bool fc] 150)=W at *;clear hW
 go_loop [5] (fun i=>∃ k:Nat,k<=K/\i=.int .i64 k) (fun i=>K-(intOf i).toNat)
 case atStart=>exact⟨0,zm _,rfl⟩
 case round=>
  obtain⟨k,hk,rfl⟩:=hrel;by_cases hka:k<K
  ·have hlt:k<S.length:=by omega
   have hle:=xL _ (uo.out k hka hlt);rcases hle with⟨q1,q2⟩|⟨q1,q2⟩
   ·go_wp2_with fail
    all_goals
     go_round
     case rel=>exact⟨k+1,by omega,by go_num⟩
     case measure=>simp[intOf];omega
   have q3:¬ (S[k].toNat:Int)<=90:=by omega
   go_wp2_with fail
   all_goals
    go_round
    case rel=>exact⟨k+1,by omega,by go_num⟩
    case measure=>simp[intOf];omega
  obtain rfl:K=k:=by omega
  have ik:(¬ (K:Int)<(S.length:Int))\/(∃ h:K<S.length,((S[K].toNat:Int)<65)\/(90<(S[K].toNat:Int)/\(S[K].toNat:Int)<97)\/122<(S[K].toNat:Int)):=by
   by_cases hlt:K<S.length
   ·refine .inr ⟨hlt,?_⟩;have el:=ig.out hlt;unfold aJ at el;simp at el;omega
   exact .inl (by omega)
  clear ig uo hka hk;cases rv:bR (S.take K) with
  |none=>
   rw[rv]at CC;have hR:=HMC.out rv;subst hR;clear HMC HMN HMS rv HCB HNP C2 CN;rcases ik with q1|⟨hlt,q1|⟨q1,q2⟩|q1⟩
   all_goals
    go_wp2_with fail
    refine(CC.out _).mono ?_;rintro e w1 ⟨rfl,hb⟩;have L1:=zh (L0.out.below hb);have B1:=zh (B0.out.trans (hb.mono B0.out.size));clear hb L0 B0 M0;obtain⟨d0,d1,d2,d3,g0,g1,g2,g3,hlt3⟩:=Lies.mark L1.out
    go_wp2_with fail
    refine yt (v:=.tuple #[.agg #[.int .i64 0,.int .i64 0,.bool false,.bool false],.bool false]) (by simp[results,Tryz.results119,go_sem,d0,d1,d2,d3]) rfl ?_;exact⟨rfl,(((B1.out.setCell (p:=⟨w.heap.size,0,none⟩) zr _).setCell (p:=⟨w.heap.size,1,none⟩) zr _).setCell (p:=⟨w.heap.size,2,none⟩) zr _).setCell (p:=⟨w.heap.size,3,none⟩) zr _⟩
  |some cc=>
   rw[rv]at CC;have pm:=HCB.out cc rv;have hcbi:(cc:Int)<=1000000:=by omega
   clear HCB pm HMC;cases pn with
   |none=>
    have hR:=HMN.out cc rv rfl;subst hR;clear HMN HMS rv HNP;rcases ik with q1|⟨hlt,q1|⟨q1,q2⟩|q1⟩
    all_goals
     go_wp2_with fail
     refine(CC.out _).mono ?_;rintro e w1 ⟨rfl,hb⟩;have L1:=zh (L0.out.below hb);have M1:=zh (M0.out.below hb);have B1:=zh (B0.out.trans (hb.mono B0.out.size));clear hb L0 B0 M0
     go_wp2_with fail
     refine(C2.out _).mono ?_;rintro e w2 ⟨rfl,rfl⟩;obtain⟨c0,c1,c2,c3,f0,f1,f2,f3,lq⟩:=Lies.mark M1.out;have L2:Hid (Lies (w1.setCell ⟨w.heap.size+1,2,none⟩ (.bool fr)) w.heap.size 150 #[.int .i64 0,.int .i64 0,.bool false,.bool false]):=zh (L1.out.off (by omega) _);have B2:Hid (Below w.heap.size w (w1.setCell ⟨w.heap.size+1,2,none⟩ (.bool fr))):=zh (B1.out.setCell (p:=⟨w.heap.size+1,2,none⟩) (Nat.le_succ _) _);clear L1 M1 B1
     go_wp2_with fail
     refine(CN.out _).mono ?_;rintro e w3 ⟨rfl,hb⟩;have L3:=zh (L2.out.below hb);have B3:=zh (B2.out.trans (hb.mono B2.out.size));clear hb L2 B2 c0 c1 c2 c3 f0 f1 f2 f3 lq;obtain⟨d0,d1,d2,d3,g0,g1,g2,g3,hlt3⟩:=Lies.mark L3.out
     go_wp2_with fail
     refine yt (v:=.tuple #[.agg #[.int .i64 0,.int .i64 0,.bool false,.bool false],.bool false]) (by simp[results,Tryz.results119,go_sem,d0,d1,d2,d3]) rfl ?_;exact⟨rfl,(((B3.out.setCell (p:=⟨w.heap.size,0,none⟩) zr _).setCell (p:=⟨w.heap.size,1,none⟩) zr _).setCell (p:=⟨w.heap.size,2,none⟩) zr _).setCell (p:=⟨w.heap.size,3,none⟩) zr _⟩
   |some n=>
    have hR:=HMS.out cc n rv rfl;obtain⟨au,ew⟩:=HNP.out n rfl;subst hR;clear HMN HMS rv HNP;rcases ik with q1|⟨hlt,q1|⟨q1,q2⟩|q1⟩
    all_goals
     go_wp2_with fail
     refine(CC.out _).mono ?_;rintro e w1 ⟨rfl,hb⟩;have L1:=zh (L0.out.below hb);have M1:=zh (M0.out.below hb);have B1:=zh (B0.out.trans (hb.mono B0.out.size));clear hb L0 B0 M0
     go_wp2_with fail
     refine(C2.out _).mono ?_;rintro e w2 ⟨rfl,rfl⟩;obtain⟨c0,c1,c2,c3,f0,f1,f2,f3,lq⟩:=Lies.mark M1.out;have M2:Hid (Lies (w1.setCell ⟨w.heap.size+1,2,none⟩ (.bool fr)) (w.heap.size+1) 150 #[.int .i64 0,.int .i64 0,.bool fr,.bool fc]):=zh (M1.out.put 2 (.bool fr));have L2:Hid (Lies (w1.setCell ⟨w.heap.size+1,2,none⟩ (.bool fr)) w.heap.size 150 #[.int .i64 0,.int .i64 0,.bool false,.bool false]):=zh (L1.out.off (by omega) _);have B2:Hid (Below w.heap.size w (w1.setCell ⟨w.heap.size+1,2,none⟩ (.bool fr))):=zh (B1.out.setCell (p:=⟨w.heap.size+1,2,none⟩) (Nat.le_succ _) _);clear L1 M1 B1
     go_wp2_with fail
     refine(CN.out _).mono ?_;rintro e w3 ⟨rfl,hb⟩;have L3:=zh (L2.out.below hb);have M3:=zh (M2.out.below hb);have B3:=zh (B2.out.trans (hb.mono B2.out.size));clear hb L2 M2 B2 c0 c1 c2 c3 f0 f1 f2 f3 lq;obtain⟨c0,c1,c2,c3,f0,f1,f2,f3,lq⟩:=Lies.mark M3.out;obtain⟨d0,d1,d2,d3,g0,g1,g2,g3,hlt3⟩:=Lies.mark L3.out
     go_wp2_with fail
     refine yt (v:=.tuple #[.agg #[.int .i64 ((n:Int)-1),.int .i64 (cc:Int),.bool fr,.bool fc],.bool true]) (by simp[results,Tryz.results119,go_sem,d0,d1,d2,d3]) rfl ?_;exact⟨rfl,(((((B3.out.setCell (p:=⟨w.heap.size+1,0,none⟩) (Nat.le_succ _) _).setCell (p:=⟨w.heap.size+1,1,none⟩) (Nat.le_succ _) _).setCell (p:=⟨w.heap.size,0,none⟩) zr _).setCell (p:=⟨w.heap.size,1,none⟩) zr _).setCell (p:=⟨w.heap.size,2,none⟩) zr _).setCell (p:=⟨w.heap.size,3,none⟩) zr _⟩
end Go.Proofs.YtmgjidnalpgegaaGreatDoor
