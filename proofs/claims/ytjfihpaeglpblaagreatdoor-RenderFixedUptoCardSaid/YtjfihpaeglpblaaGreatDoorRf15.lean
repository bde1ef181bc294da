/-
  Lemmas, part 15: PlR1 PlR2 Rn0 RangeQ OpenI OpenN.
-/
import Derived.RangeFuncNested
import Derived.RangeFuncBound
import Derived.RangeFuncCalls
import Derived.RangeFuncLeaves
import Derived.Shelf.Abstract
import Derived.Shelf.RegionOpen
import Derived.OwnWalkIn
import Derived.TacticsInMore
import Derived.LoopNIn
import Derived.LoopIn
import Derived.Deep.Slices
import Derived.SizedLaws
import Derived.Test.YtjfihpaeglpblaaGreatDoorRf7
import Derived.Test.YtjfihpaeglpblaaGreatDoorRf10
set_option maxHeartbeats 100000000
set_option maxRecDepth 1000000
namespace Go.Proofs.YtjfihpaeglpblaaGreatDoor
open Go.RowKit
abbrev AxV:=Option (List IdR×List Bool)
def aF:AxV->IdR->Int
 |none,_=>-1
 |some (l,f),x=>bC (aK l f) x
def aP:AxV->IdR->IdR->List IdR
 |none,_,_=>[]
 |some (l,f),a,b=>
  if bC l a<0\/bC l b<0 then [] else
  let x:=(min (bC l a) (bC l b)).toNat
  let y:=(max (bC l a) (bC l b)).toNat
  aK ((l.drop x).take (y+1-x)) ((f.drop x).take (y+1-x))
def gC:AxV->IdR->IdR->Bool
 |none,_,_=>false
 |some (l,_),a,b=>decide (bC l b<bC l a)
def dJ(A:AxV)(a b:IdR):Option (Int×Int):=match aP A a b with
 | []=>none
 |x::r=>
  let p:=aF A x
  let q:=aF A ((x::r).getLast (by simp))
  if gC A a b then some (q,p) else some (p,q)
inductive Say where
 |plain
 |seen (row col:Nat)
abbrev tk(k:Int)(s:Bs):RTok:=⟨k,s,0⟩
def bV(place from':Nat)(fix:Bool):Bs:=if fix then Lib.decDigits (place+1) else if place=from' then [] else 91::(Lib.itoa ((place:Int)-(from':Int))++[93])
def dX(v:Say)(row col:Nat)(fr fc:Bool):RTok:=match v with
 | .plain=>tk 4 (mO row col fr fc)
 | .seen r c=>tk 3 (82::(bV row r fr++67::bV col c fc))
def fE(v:Say)(row:Nat)(fix:Bool):RTok:=match v with
 | .plain=>if fix then tk 4 (36::Lib.decDigits (row+1)) else tk 1 (Lib.decDigits (row+1))
 | .seen r _=>tk 3 (82::bV row r fix)
def fD(v:Say)(col:Nat)(fix:Bool):RTok:=match v with
 | .plain=>if fix then tk 4 (36::eH (col+1)) else tk 3 (eH (col+1))
 | .seen _ c=>tk 3 (67::bV col c fix)
def eK:List RTok:=[tk 6 [35,82,69,70,33]]
def iE(v:Say)(R C:AxV)(h:NodeH):List RTok :=
 if aF R h.a.row<0\/aF C h.a.col<0 then eK
 else dX v (aF R h.a.row).toNat (aF C h.a.col).toNat h.a.fr h.a.fc::(if h.kind=3 then [tk 5 [35]] else [])
def jJ(v:Say)(R C:AxV)(a b:Cor):List RTok :=
 if a.row=id0 then match dJ C a.col b.col with
  |none=>eK
  |some (x,y)=>[fD v x.toNat a.fc,tk 5 [58],fD v y.toNat b.fc]
 else if a.col=id0 then match dJ R a.row b.row with
  |none=>eK
  |some (x,y)=>[fE v x.toNat a.fr,tk 5 [58],fE v y.toNat b.fr]
 else match dJ R a.row b.row,dJ C a.col b.col with
  |some (x,y),some (p,q)=>[dX v x.toNat p.toNat a.fr a.fc,tk 5 [58],dX v y.toNat q.toNat b.fr b.fc]
  |_,_=>eK
def kX(x:Val):List RTok :=
 if x.kind=1 then if x.mant<0 then [tk 5 [45],tk 1 (cC (-x.mant) x.exp)] else [tk 1 (cC x.mant x.exp)]
 else if x.kind=2 then [tk 2 x.text]
 else if x.kind=4 then [tk 6 (bA x.fault)]
 else [tk 3 (dZ x).1]
def bU(s:Bs):Int:=if s=[38] then 2 else if s=[43]\/s=[45] then 3 else if s=[42]\/s=[47] then 4 else if s=[94] then 5 else 1
def eU(t:Tree):Int:=if t.h.kind=6 then bU t.h.name else if t.h.kind=5 then if t.h.name=[37] then 7 else 6 else 8
def eZ(level least:Int)(ts:List RTok):List RTok:=if least<=level then ts else tk 5 [40]::(ts++[tk 5 [41]])
def bX:List (List RTok)->List RTok
 | []=>[]
 | [a]=>a
 |a::b::r=>a++tk 5 [44]::bX (b::r)
def dI(wide:Nat)(ts:List (List RTok)):Nat->List RTok
 |0=>[]
 |k+1=>dI wide ts k++tk 5 (if k=0 then [123] else [59])::bX ((ts.drop (k*wide)).take wide)
def eD(v:Say)(R C:AxV)(h:NodeH)(lv:List Int)(ts:List (List RTok)):List RTok :=
 if h.kind=0 then kX h.v
 else if h.kind=1\/h.kind=3 then iE v R C h
 else if h.kind=2 then jJ v R C h.a h.b
 else if h.kind=4 then tk 3 h.name::tk 5 [40]::(bX ts++[tk 5 [41]])
 else if h.kind=5 then
  if h.name=[37] then eZ (lv.headD 0) 7 (ts.headD [])++[tk 5 h.name] else tk 5 h.name::eZ (lv.headD 0) 6 (ts.headD [])
 else if h.kind=6 then eZ (lv.headD 0) (bU h.name) (ts.headD [])++tk 5 h.name::eZ (lv.tail.headD 0) (bU h.name+1) (ts.tail.headD [])
 else if h.kind=7 then [tk 3 h.name]
 else if h.kind=8 then dI (ts.length / h.rows.toNat) ts h.rows.toNat++[tk 5 [125]]
 else []
mutual
def Tree.toks(v:Say)(R C:AxV):Tree->List RTok
 | .mk h l=>eD v R C h (l.map eU) (bE v R C l)
def bE(v:Say)(R C:AxV):List Tree->List (List RTok)
 | []=>[]
 |t::r=>t.toks v R C::bE v R C r
end
def eG(v:Say)(R C:AxV)(t:Tree):Bs:=if cL t≠0 then [] else dN none (t.toks v R C++[⟨0,[],0⟩])
theorem cX:∀ (l:List IdR) (fl:List Bool),∀ y∈aK l fl,y∈l
 | [],_,_,h=>by cases h
 |x::r,[],_,h=>by cases h
 |x::r,b::s,y,h=>by
  unfold aK at h
  split at h
  ·rcases ym.1 h with h|h
   ·exact h ▸ List.mem_cons_self
   exact zg _ (cX r s y h)
  exact zg _ (cX r s y h)
theorem lD:∀ (r1:List IdR) (s1:List Bool) (r2:List IdR) (s2:List Bool),r1.length=s1.length->aK (r1++r2) (s1++s2)=aK r1 s1++aK r2 s2
 | [],[],_,_,_=>by simp[aK]
 |x::r,b::s,r2,s2,h=>by
  have ih:=lD r s r2 s2 (by simpa using h);simp only[yp,aK];rw[ih];cases b <;> simp
 | [],_::_,_,_,h=>by simp at h
 |_::_,[],_,_,h=>by simp at h
theorem cI(ids:List IdR)(fl:List Bool)(k:Nat)(he:ids.length=fl.length):aK ids fl=aK (ids.take k) (fl.take k)++aK (ids.drop k) (fl.drop k):=by
 rw[<- lD _ _ _ _ (by simp[he]),List.take_append_drop,List.take_append_drop]
theorem uC{ids:List IdR}{fl:List Bool}{k:Nat}(he:ids.length=fl.length)(hk:k<ids.length):aK ids fl=aK (ids.take k) (fl.take k)++((if fl[k]'(by omega) then [ids[k]] else [])++aK (ids.drop (k+1)) (fl.drop (k+1))):=by
 rw[cI ids fl k he,yx hk,yx (by omega:k<fl.length)];rw[aK];cases fl[k]'(by omega) <;> simp
theorem lT{ids:List IdR}(hd:ids.Nodup){k:Nat}(hk:k<ids.length):ids[k]∉ids.take k:=fun hm=>by
 obtain⟨j,hj,e⟩:=List.getElem_of_mem hm;rw[zc]at hj;rw[List.getElem_take]at e;have:=(List.getElem_inj hd).1 e;omega
theorem uAO{ids:List IdR}(hd:ids.Nodup){k:Nat}(hk:k<ids.length):ids[k]∉ids.drop (k+1):=fun hm=>by
 obtain⟨j,hj,e⟩:=List.getElem_of_mem hm;rw[yk]at hj;rw[List.getElem_drop]at e;have:=(List.getElem_inj hd).1 e;omega
theorem jB{a b:List IdR}{x:IdR}(h:x∉a):bC (a++x::b) x=(a.length:Int):=by
 have h1:=fX x (a++x::b) 0 a.length (by simpa using h) (by simp);rw[Nat.zero_add]at h1;exact h1
theorem mR{l:List IdR}{x:IdR}(h:x∉l):bC l x=-1:=eN x l 0 h
theorem nV{l:List IdR}(hd:l.Nodup){k:Nat}(hk:k<l.length):bC l l[k]=(k:Int):=by
 have h1:=fX l[k] l 0 k (lT hd hk) (by rw[List.getElem?_eq_getElem hk]);rw[Nat.zero_add]at h1;exact h1
theorem uAZ{ids:List IdR}{fl:List Bool}(he:ids.length=fl.length)(hd:ids.Nodup){k:Nat}(hk:k<ids.length)(hl:fl[k]'(by omega)=true):bC (aK ids fl) ids[k]=((aK (ids.take k) (fl.take k)).length:Int):=by
 rw[uC he hk,hl,if_pos rfl,List.singleton_append];exact jB (fun hm=>lT hd hk (cX _ _ _ hm))
theorem uAY{ids:List IdR}{fl:List Bool}(he:ids.length=fl.length)(hd:ids.Nodup){k:Nat}(hk:k<ids.length)(hl:fl[k]'(by omega)=false):bC (aK ids fl) ids[k]=-1:=by
 refine mR (fun hm=>?_);rw[uC he hk,hl,if_neg (by decide),List.nil_append,List.mem_append]at hm;rcases hm with hm|hm
 ·exact lT hd hk (cX _ _ _ hm)
 exact uAO hd hk (cX _ _ _ hm)
theorem uBA{ids:List IdR}{fl:List Bool}{x:IdR}(h:x∉ids):bC (aK ids fl) x=-1:=mR (fun hm=>h (cX _ _ _ hm))
theorem live_mid{ids:List IdR}{fl:List Bool}(he:ids.length=fl.length){f l:Nat}(hf:f<=l)(_hl:l<ids.length) :
  ((aK ids fl).take (aK (ids.take (l+1)) (fl.take (l+1))).length).drop (aK (ids.take f) (fl.take f)).length=aK ((ids.drop f).take (l+1-f)) ((fl.drop f).take (l+1-f)):=by
 have h1:=cI ids fl (l+1) he;have h2:=cI (ids.take (l+1)) (fl.take (l+1)) f (by simp[he]);rw[List.take_take,List.take_take,Nat.min_eq_left (by omega)]at h2;rw[h1,List.take_left];rw[h2,List.drop_left,List.drop_take,List.drop_take]
structure KP(P:Nat->Prop)(a b:World):Prop where
 size:a.heap.size<=b.heap.size
 at':∀ g,P g->b.heap[g]?=a.heap[g]?
theorem KP.refl(P:Nat->Prop)(a:World):KP P a a:=⟨zr,fun _ _=>rfl⟩
def PLo(lo:Nat)(Y:List Nat)(g:Nat):Prop:=g<lo/\g∉Y
mutual
def NodeP(P:Nat->Prop)(W:World)(g o:Nat):Tree->Prop
 | .mk h l=>∃ A c,l.length<=c/\(∀ j,j<22->W.cell? ⟨g,o+j,none⟩=(aH h A l.length c)[j]?)/\(l=[]\/∃ g' o',A=some ⟨g',o',none⟩/\P g'/\g'<W.heap.size/\KidsP P W g' o' l)
def KidsP(P:Nat->Prop)(W:World)(g:Nat):Nat->List Tree->Prop
 |_,[]=>True
 |o,t::r=>NodeP P W g o t/\KidsP P W g (o+22) r
end
def KidsPO(P:Nat->Prop)(W:World)(A:Option Addr)(l:List Tree):Prop:=l=[]\/∃ g' o',A=some ⟨g',o',none⟩/\P g'/\g'<W.heap.size/\KidsP P W g' o' l
def TreeP(P:Nat->Prop)(W:World)(t:Tree)(cs:Array Value):Prop:=∃ A cp,cs=aH t.h A t.l.length cp/\t.l.length<=cp/\KidsPO P W A t.l
mutual
theorem NodeP.keep{P:Nat->Prop}{W W':World}(hk:KP P W W'){g o:Nat}(hg:P g):∀ {t:Tree},NodeP P W g o t->NodeP P W' g o t
 | .mk h l,hn=>by
  obtain⟨A,c,hc,h1,h2⟩:=hn;refine⟨A,c,hc,fun j hj=>(World.cell?_of_block (w:=W) (a:=⟨g,o+j,none⟩) (hk.at' g hg)).trans (h1 j hj),?_⟩;rcases h2 with h2|⟨g',o',e,h3,h4,h5⟩
  ·exact .inl h2
  exact .inr ⟨g',o',e,h3,yu h4 hk.size,KidsP.keep hk h3 h5⟩
theorem KidsP.keep{P:Nat->Prop}{W W':World}(hk:KP P W W'){g:Nat}(hg:P g):∀ {l:List Tree} {o:Nat},KidsP P W g o l->KidsP P W' g o l
 | [],_,_=>trivial
 |_::_,_,hn=>⟨NodeP.keep hk hg hn.1,KidsP.keep hk hg hn.2⟩
end
theorem KidsPO.keep{P:Nat->Prop}{W W':World}(hk:KP P W W'){A:Option Addr}{l:List Tree}(h:KidsPO P W A l):KidsPO P W' A l:=by
 rcases h with h2|⟨g',o',e,h3,h4,h5⟩
 ·exact .inl h2
 exact .inr ⟨g',o',e,h3,yu h4 hk.size,KidsP.keep hk h3 h5⟩
theorem TreeP.keep{P:Nat->Prop}{W W':World}(hk:KP P W W'){t:Tree}{cs:Array Value}(h:TreeP P W t cs):TreeP P W' t cs:=by
 obtain⟨A,cp,h1,hc,h2⟩:=h;exact⟨A,cp,h1,hc,h2.keep hk⟩
mutual
theorem NodeP.all{P:Nat->Prop}{W:World}{g o:Nat}:∀ {t:Tree},NodeP P W g o t->NodeAt W [] g o t
 | .mk h l,hn=>by
  obtain⟨A,c,-,h1,h2⟩:=hn;refine⟨A,c,h1,?_⟩;rcases h2 with h2|⟨g',o',e,h3,h4,h5⟩
  ·exact .inl h2
  exact .inr ⟨g',o',e,by simp,h4,KidsP.all h5⟩
theorem KidsP.all{P:Nat->Prop}{W:World}{g:Nat}:∀ {l:List Tree} {o:Nat},KidsP P W g o l->KidsAt W [] g o l
 | [],_,_=>trivial
 |_::_,_,hn=>⟨NodeP.all hn.1,KidsP.all hn.2⟩
end
theorem TreeP.all{P:Nat->Prop}{W:World}{t:Tree}{cs:Array Value}(h:TreeP P W t cs):TreeIn W t cs:=by
 obtain⟨A,cp,h1,-,h2⟩:=h;refine⟨A,cp,h1,?_⟩;rcases h2 with h2|⟨g',o',e,h3,h4,h5⟩
 ·exact .inl h2
 exact .inr ⟨g',o',e,by simp,h4,KidsP.all h5⟩
mutual
theorem NodeP.imp{P P':Nat->Prop}{W:World}(hP:∀ g,P g->g<W.heap.size->P' g){g o:Nat}:∀ {t:Tree},NodeP P W g o t->NodeP P' W g o t
 | .mk h l,hn=>by
  obtain⟨A,c,hc,h1,h2⟩:=hn;refine⟨A,c,hc,h1,?_⟩;rcases h2 with h2|⟨g',o',e,h3,h4,h5⟩
  ·exact .inl h2
  exact .inr ⟨g',o',e,hP g' h3 h4,h4,KidsP.imp hP h5⟩
theorem KidsP.imp{P P':Nat->Prop}{W:World}(hP:∀ g,P g->g<W.heap.size->P' g){g:Nat}:∀ {l:List Tree} {o:Nat},KidsP P W g o l->KidsP P' W g o l
 | [],_,_=>trivial
 |_::_,_,hn=>⟨NodeP.imp hP hn.1,KidsP.imp hP hn.2⟩
end
theorem TreeP.imp{P P':Nat->Prop}{W:World}(hP:∀ g,P g->g<W.heap.size->P' g){t:Tree}{cs:Array Value}(h:TreeP P W t cs):TreeP P' W t cs:=by
 obtain⟨A,cp,h1,hc,h2⟩:=h;refine⟨A,cp,h1,hc,?_⟩;rcases h2 with h2|⟨g',o',e,h3,h4,h5⟩
 ·exact .inl h2
 exact .inr ⟨g',o',e,hP g' h3 h4,h4,KidsP.imp hP h5⟩
theorem KidsP.get{P:Nat->Prop}{W:World}{g:Nat}:∀ {l:List Tree} {j:Nat} (i:Nat) (hi:i<l.length),KidsP P W g j l->NodeP P W g (j+i*22) (l[i]'hi)
 | [],_,_,hi,_=>absurd hi (by simp)
 |t::r,j,0,_,h=>by rw[Nat.zero_mul,Nat.add_zero];exact h.1
 |t::r,j,i+1,hi,h=>by
  have:=KidsP.get (l:=r) (j:=j+22) i (by simpa using hi) h.2;rw[show j+(i+1)*22=j+22+i*22 by omega];exact this
theorem fC{P:Nat->Prop}{W:World}{A:Option Addr}{l:List Tree}(h:KidsPO P W A l)(i:Nat)(hi:i<l.length):∃ g og ci,A=some ⟨g,og,none⟩/\(ci:List Value).length=22/\∀ W',KP P W W'->W'.rangeAt g (og+i*22) ci/\TreeP P W' (l[i]'hi) ci.toArray:=by
 rcases h with h|⟨g,og,hA,hP,hg,hk⟩
 ·subst h;exact absurd hi (by simp)
 have hn:=KidsP.get i hi hk;generalize l[i]'hi=t at *;cases t with
 |mk th tl=>
  obtain⟨A2,c2,jt,h1,h2⟩:=hn;refine⟨g,og,(aH th A2 tl.length c2).toList,hA,rfl,fun W' gq=>⟨fun j v hv=>?_,⟨A2,c2,rfl,jt,KidsPO.keep gq h2⟩⟩⟩;have hj:j<22:=(List.getElem?_eq_some_iff.1 hv).1;rw[World.cell?_of_block (w:=W) (a:=⟨g,og+i*22+j,none⟩) (gq.at' g hP),h1 j hj];rw[<- hv];simp
def KeepsQ(K:Addr->Prop)(c:Nat)(W W':World):Prop:=W.heap.size<=W'.heap.size/\(∀ p,K p->W'.cell? p=W.cell? p)/\(∀ p,K p->W'.frozen? p=W.frozen? p)/\∀ k,c<=k->k<W.heap.size->W'.heap[k]?=W.heap[k]?
theorem KeepsQ.refl(K:Addr->Prop)(c:Nat)(W:World):KeepsQ K c W W:=⟨zr,fun _ _=>rfl,fun _ _=>rfl,fun _ _ _=>rfl⟩
theorem KeepsQ.trans{K:Addr->Prop}{c:Nat}{A B C:World}(h1:KeepsQ K c A B)(h2:KeepsQ K c B C):KeepsQ K c A C:=⟨yv h1.1 h2.1,fun p h=>(h2.2.1 p h).trans (h1.2.1 p h),fun p h=>(h2.2.2.1 p h).trans (h1.2.2.1 p h),fun k hk hlt=>(h2.2.2.2 k hk (yu hlt h1.1)).trans (h1.2.2.2 k hk hlt)⟩
def OwnAll{α:Type}(b:Nat)(I:List α->World->Prop):Prop:=∀ s A B row,I s A->A.grownBy B row->(∀ r,row=some r->b<=r)->I s B
theorem OwnAll.putObj{α:Type}{b:Nat}{I:List α->World->Prop}(h:OwnAll b I){s:List α}{W:World}{l:Nat}(o':Obj)(hs:I s W)(hB:b<=l):I s (W.putObj l o'):=h s W _ (some l) hs (grownBy_putObj' W l o') (fun r e=>by cases e;exact hB)
def SeqQ{α:Type}(F:Fence)(n:Nat)(P:Program)(g:Nat)(lb:Array Value)(encs:α->Array Value)(n₀:Addr->Prop)(R:List α->α->Prop)(S Sp:List α->Prop)(w:World):Prop :=
 ∀ (l:Nat) (J Jx:List α->World->Prop) (W:World),Below w.heap.size w W->OwnAll W.heap.size J->OwnAll W.heap.size Jx ->
  (∀ pre x W1,W.heap.size<=W1.heap.size->J pre W1->R pre x->YieldAt F (n-1) P l (encs x) W1 fun e W'=>
   (e=.returned (.bool true)/\J (pre++[x]) W'/\KeepsQ n₀ W.heap.size W1 W')\/(e=.returned (.bool false)/\Jx (pre++[x]) W')) ->
  J [] W ->
  CallsIn F n P g (#[.func (.yield l) #[] #[]]++lb) W fun e W'=>(∃ v,e=.returned v)/\((∃ xs,S xs/\J xs W')\/(∃ pre,Sp pre/\Jx pre W'))
def postQ{α:Type}(b:Nat)(n₀:Addr->Prop)(I:List α->World->Prop)(Ix:Code->List α->World->Prop)(xs:List α)(W:World):Exit->Act->World->Prop
 | .normal,_,W'=>KeepsQ n₀ b W W'/\I xs W'
 | .ret,_,W'=>KeepsQ n₀ b W W'/\Ix .ret xs W'
 | .exit id,_,W'=>KeepsQ n₀ b W W'/\Ix (.exit id) xs W'
 |_,_,_=>False
def recQ(fn:FuncId)(tmps:Array Value)(ps:Array Tmp)(assign body:Code)(D:Nat)(st:LoopState)(pe:Option Code):Obj:=.loop { state:=st,pending:=pe,fn,tmps,params:=ps,assign,body,defers:=D }
section
variable {F:Fence} {n:Nat} {P:Program}
structure BooksQ(W:World)(b:Nat)(o:Obj):Prop where
 loop:W.heap[b+1]?=some o
 dfr:W.heap[b]?=some (.deferred (some []))
theorem BooksQ.lt{W:World}{b:Nat}{o:Obj}(h:BooksQ W b o):b+1<W.heap.size:=(zk.1 h.loop).1
theorem BooksQ.kept{W W':World}{b:Nat}{o:Obj}{K:Addr->Prop}(h:BooksQ W b o)(hk:KeepsQ K b W W'):BooksQ W' b o:=⟨(hk.2.2.2 _ (by omega) h.lt).trans h.loop,(hk.2.2.2 _ (by omega) (Nat.lt_of_succ_lt h.lt)).trans h.dfr⟩
theorem BooksQ.far{W W':World}{b:Nat}{o:Obj}{row:Option Nat}(h:BooksQ W b o)(hg:W.grownBy W' row)(hr:∀ r,row=some r->b+1<r):BooksQ W' b o:=by
 have e1:=hg.block (b+1) (zk.1 h.loop).1 (fun e=>by have:=hr _ e.symm;omega);have e2:=hg.block b (zk.1 h.dfr).1 (fun e=>by have:=hr _ e.symm;omega);exact⟨e1.trans h.loop,e2.trans h.dfr⟩
theorem BooksQ.put{W:World}{b:Nat}{o:Obj}(h:BooksQ W b o)(o':Obj):BooksQ (W.putObj (b+1) o') b o' :=
 ⟨World.putObj_heap_same (zk.1 h.loop).1,(World.putObj_heap_other (by omega)).trans h.dfr⟩
theorem rF{n₀:Addr->Prop}{b c:Nat}{W:World}(hb:∀ p,n₀ p->p.block<b)(hc:b<c)(o':Obj):KeepsQ n₀ c W (W.putObj b o') :=
 ⟨by rw[World.putObj_size];exact zr,fun p hp=>World.cell?_of_block (World.putObj_heap_other (Nat.ne_of_lt (hb p hp))),fun p hp=>World.frozen?_of_block (World.putObj_heap_other (Nat.ne_of_lt (hb p hp))),fun k hk _=>World.putObj_heap_other (by omega)⟩
theorem KeepsQ.from{K:Addr->Prop}{c d:Nat}{A B:World}(h:KeepsQ K c A B)(hcd:c<=d):KeepsQ K d A B:=⟨h.1,h.2.1,h.2.2.1,fun k hk hl=>h.2.2.2 k (yv hcd hk) hl⟩
theorem yJ{α:Type}{g:Operand}{ps:Array Tmp}{assign body:Code}{Q:Exit->Act->World->Prop}{a:Act}{w:World}
  (hro:F.round=none) (h1:1<=n) {gf:Nat} {lb:Array Value} (hg:a.eval g=.func (.func gf) #[] lb) (hFg:F.fn gf) (eg:∀ args w,(callFunc gf args).run P w=.ok (.enter gf args) w)
  {encs:α->Array Value} {n₀:Addr->Prop} {R:List α->α->Prop} {S Sp:List α->Prop} (hseq:SeqQ F (n-1) P gf lb encs n₀ R S Sp w)
  (hn₀:∀ p,n₀ p->p.block<w.heap.size) (hps:∀ x,(encs x).size=ps.size)
  (I:List α->World->Prop) (Ix:Code->List α->World->Prop) (hI:OwnAll w.heap.size I) (vr:∀ c,OwnAll w.heap.size (Ix c)) (h0:I [] w) (a₁:α->Act)
  (mv:∀ (l:Nat) (x:α) (W:World) (K:Act->World->Prop),K (a₁ x) W ->
   assign.wpIn (F.inRound l) (n-1-1) P (Exit.then K (fun _ _ _=>False)) { tmps:=(ps.zip (encs x)).foldl (fun t (p,v)=>t.setIfInBounds p v) a.tmps,defers:=[] } W)
  (s7:∀ (l:Nat) (pre:List α) (x:α) (W:World),w.heap.size+2<=W.heap.size->I pre W->R pre x->body.wpIn (F.inRound l) (n-1-1) P (postQ w.heap.size n₀ I Ix (pre++[x]) W) (a₁ x) W)
  (b7:∀ (D:Nat) (xs:List α) (W:World),w.heap.size<=D->S xs->I xs W->W.heap[D]?=some (.deferred (some []))->Q .normal { a with defers:={ target:=.collected D,args:=#[] }::a.defers } W)
  (ni:∀ (D:Nat) (c:Code) (pre:List α) (W:World),w.heap.size<=D->Sp pre->Ix c pre W->W.heap[D]?=some (.deferred (some []))->c.wpIn F n P Q { a with defers:={ target:=.collected D,args:=#[] }::a.defers } W) :
  (Code.rangeFunc g ps assign body).wpIn F n P Q a w:=by
 refine wpIn_rangeFunc fun fn hfn=>?_
 let rc:=recQ fn a.tmps ps assign body w.heap.size
 let W1:=(w.alloc (.deferred (some []))).alloc (rc .ready none)
 have hB1:BooksQ W1 w.heap.size (rc .ready none):=by
  refine⟨?_,(Below.heap_alloc _ _ _ (by simp)).trans (World.alloc_heap_new w _)⟩;have:=World.alloc_heap_new (w.alloc (.deferred (some []))) (rc .ready none)
  rwa [World.size_alloc]at this
 have cu:Below w.heap.size w W1:=((Below.refl _ w).alloc zr _).alloc (by simp) _;have ap:W1.heap.size=w.heap.size+2:=by simp[W1]
 have bp:∀ {row:Option Nat},(∀ r,row=some r->W1.heap.size<=r)->(∀ r,row=some r->w.heap.size<=r):=fun hr r e=>by
  have:=hr r e;omega
 refine⟨w.heap.size+1,[{ target:=.collected w.heap.size,args:=#[] }],W1,{ target:=.fn (.func gf) lb,args:=#[.func (.yield (w.heap.size+1)) #[] #[]] },W1,gf,#[.func (.yield (w.heap.size+1)) #[] #[]]++lb,W1,?_,?_,?_,?_,fun _=>h1,?_⟩
 ·rw[hro];exact run_enterLoop_outer _ _ _ _ _
 ·simp only[resolve,hg];simp[go_sem]
 ·intro f' ql;simp[Target.leads]at ql;subst ql;exact hFg
 ·simp[invoke,go_sem,eg]
 refine(hseq (w.heap.size+1) (fun pre W=>I pre W/\BooksQ W w.heap.size (rc .ready none)) (fun pre W=>∃ c,Ix c pre W/\BooksQ W w.heap.size (rc .done (some c))) W1 cu
  (fun s A B row hs jq hr=>⟨hI s A B row hs.1 jq (bp hr),hs.2.far jq (fun r e=>by have:=hr r e;omega)⟩)
  (fun s A B row hs jq hr=>by
   obtain⟨c,hc,fu⟩:=hs;exact⟨c,vr c s A B row hc jq (bp hr),fu.far jq (fun r e=>by have:=hr r e;omega)⟩)
  ?_ ⟨hI [] _ _ none (hI [] _ _ none h0 (World.grownBy_alloc w _ none) (fun r e=>by cases e)) (World.grownBy_alloc _ _ none) (fun r e=>by cases e),hB1⟩).mono ?_
 ·rintro pre x W hlt ⟨hi,fu⟩ hx;rw[ap]at hlt ⊢;have hy:=run_yield (P:=P) (args:=encs x) fu.loop (hps x);refine⟨fn,_,assign,body,hy,roundIn_of_wpIn hfn (mv _ x W _ ⟨_,run_beginRound fu.loop rfl,?_⟩)⟩;have po:BooksQ (W.putObj (w.heap.size+1) (rc .busy none)) w.heap.size (rc .busy none):=fu.put _;have gq:∀ (X:World) (o':Obj),KeepsQ n₀ (w.heap.size+2) X (X.putObj (w.heap.size+1) o'):=fun X o'=>rF (fun p hp=>by have:=hn₀ p hp;omega) (by omega) o'
  refine wpIn_mono (s7 _ pre x _ (by rw[World.putObj_size];exact hlt) (hI.putObj _ hi (by omega)) hx) ?_;intro e a3 W3 hp;cases e with
  |normal=>
   obtain⟨dt,s8⟩:=hp;have ie:=po.kept dt;exact⟨_,_,run_endRound none ie.loop,.inl ⟨rfl,⟨hI.putObj _ s8 (by omega),ie.put _⟩,((gq _ _).trans (dt.from (by omega))).trans (gq _ _)⟩⟩
  |ret=>
   obtain⟨dt,s8⟩:=hp;have ie:=po.kept dt;exact⟨_,_,run_endRound (some .ret) ie.loop,.inr ⟨rfl,.ret,(vr _).putObj _ s8 (by omega),ie.put _⟩⟩
  |exit id=>
   obtain⟨dt,s8⟩:=hp;have ie:=po.kept dt;exact⟨_,_,run_endRound (some (.exit id)) ie.loop,.inr ⟨rfl,.exit id,(vr _).putObj _ s8 (by omega),ie.put _⟩⟩
  |goto t=>exact hp.elim
  |panic ch=>exact hp.elim
  |outgrown=>exact hp.elim
 rintro e W2 ⟨⟨v,rfl⟩,(⟨xs,hS,hi,fu⟩|⟨pre,vt,c,hi,fu⟩)⟩
 ·exact⟨none,_,run_endLoop fu.loop (by simp),b7 _ xs _ zr hS (hI.putObj _ hi (by omega)) (fu.put (o':=_)).dfr⟩
 exact⟨some c,_,run_endLoop fu.loop (by simp),ni _ c pre _ zr vt ((vr c).putObj _ hi (by omega)) (fu.put (o':=_)).dfr⟩
end
end Go.Proofs.YtjfihpaeglpblaaGreatDoor
namespace Go.Proofs.YtjfihpaeglpblaaGreatDoor
open Go.ChangeShapes Go.WideShapes Go.ChangeAt Go.RowKit
section
variable {H:Type} {enc:TypeId×Value->H} {W:World}
theorem kF{n:Nat}{c0 c1:Value}{x:DataW H×List MemPlace}(h:DataW.trod enc Tryz.prog W 0 (fun _=>true) true n 27 [c0,c1]=some x) :
  ∃ t:IdR,c0=vI t.a/\c1=vI t.n/\t.fits:=by
 obtain⟨xs,k,_,hx,_,hlen,hg⟩:=DataW.trod_struct Tryz.underlying27 h
 match xs,hlen with
 | [y0,y1],_=>
  have g0:DataW.trod enc Tryz.prog W 0 (fun _=>true) true k 3 [c0]=some y0:=by have:=hg 0 _ rfl;simpa [rB] using this
  have g1:DataW.trod enc Tryz.prog W 0 (fun _=>true) true k 3 [c1]=some y1:=by have:=hg 1 _ rfl;simpa [rB] using this
  obtain⟨m,e0,rfl,w0⟩:=DataW.trod_int Tryz.underlying3 g0;obtain⟨p,e2,rfl,w2⟩:=DataW.trod_int Tryz.underlying3 g1;injection e0 with e0;injection e2 with e2;subst e0 e2;exact⟨⟨m,p⟩,rfl,rfl,w0,w2⟩
theorem in_ids{a:Option Addr}{len cap:Nat}{d:DataW H}{p:List MemPlace}(h:DataW.Trod enc Tryz.prog W 0 (fun _=>true) true 35 (.slice a len cap) d p) :
  ∃ ts:List IdR,ts.length=len/\eA W a ts/\∀ t∈ts,t.fits:=by
 obtain⟨fuel,hf⟩:=h;rcases Go.Deep.open_slice Tryz.underlying35 hf with⟨ep,_⟩|⟨x,l,c,m,n,D,Pl,ep,hb,hl,hm,wi,hx,hi⟩
 ·simp[Value.cells]at ep;obtain⟨rfl,rfl,rfl⟩:=ep;exact⟨[],rfl,fun h0=>by simp at h0,fun t ht=>by simp at ht⟩
 simp[Value.cells]at ep;obtain⟨rfl,rfl,rfl⟩:=ep;rw[if_pos rfl]at wi;subst wi;rw[vM]at hi;obtain⟨g,o,spot⟩:=x;have key:∀ i,i<len->∃ t:IdR,(W.cell? ((⟨g,o,spot⟩:Addr).add (i*2))=some (vI t.a)/\W.cell? (((⟨g,o,spot⟩:Addr).add (i*2)).add 1)=some (vI t.n))/\t.fits:=by
  intro i lc;obtain⟨l7,hc,ht'⟩:=hi i (by omega);obtain⟨_,l9,im⟩:=World.cells?_some hc
  match l7,l9 with
  | [c0,c1],_=>
   obtain⟨t,e0,e1,ef⟩:=kF ht';have h0:=im 0 (by omega);have h1:=im 1 (by omega);simp only[zb,zf]at h0 h1;refine⟨t,⟨?_,?_⟩,ef⟩
   ·rw[<- e0,<- h0];simp[Addr.add]
   rw[<- e1,<- h1]
 have hch:∃ f:Nat->IdR,∀ i (lc:i<len),(W.cell? ((⟨g,o,spot⟩:Addr).add (i*2))=some (vI (f i).a)/\W.cell? (((⟨g,o,spot⟩:Addr).add (i*2)).add 1)=some (vI (f i).n))/\(f i).fits :=
  ⟨fun i=>if h:i<len then Classical.choose (key i h) else ⟨0,0⟩,fun i lc=>by
   have:=Classical.choose_spec (key i lc);simp only[dif_pos lc];exact this⟩
 obtain⟨f,ut⟩:=hch;refine⟨(List.range len).map f,by simp,fun h0=>?_,fun t ht=>?_⟩
 ·have zo:0<len:=by simpa using h0
  have hsp:spot=none:=by
   have:=(ut 0 zo).1.1;simpa [Addr.add] using World.cell?_spot this
  subst hsp;have v7:∀ k j:Nat,(⟨g,k,none⟩:Addr).add j=⟨g,k+j,none⟩:=fun k j=>by
   unfold Addr.add;by_cases e:j=0
   ·simp[e]
   simp[e]
  refine⟨g,o,rfl,?_,fun j hj=>?_⟩
  ·have:=(ut 0 zo).1.1;rw[v7]at this;exact dA this
  have hj':j<len:=by simpa using hj
  obtain⟨h1,h2⟩:=(ut j hj').1;rw[v7,v7]at h2;rw[v7]at h1;simp only[List.getElem_map,List.getElem_range];exact⟨h1,h2⟩
 obtain⟨i,hi,rfl⟩:=yj.1 ht;exact(ut i (yg.1 hi)).2
end
end Go.Proofs.YtjfihpaeglpblaaGreatDoor
namespace Go.Proofs.YtjfihpaeglpblaaGreatDoor
open Go.ChangeShapes Go.WideShapes Go.ChangeAt Go.RowKit
theorem pY:Tryz.prog.cellsOf 3=1:=by kernel_rfl
theorem uCR:Tryz.prog.cellsOf 9=1:=by kernel_rfl
theorem vF:Tryz.prog.cellsOf 4=1:=by kernel_rfl
theorem cellsN4:Tryz.prog.cellsOf 23=2:=by kernel_rfl
theorem cellsN5:Tryz.prog.cellsOf 25=6:=by kernel_rfl
theorem pZ:Tryz.prog.cellsOf 27=2:=by kernel_rfl
theorem uCS:Tryz.prog.cellsOf 29=6:=by kernel_rfl
theorem cellsN8:Tryz.prog.cellsOf 31=12:=by kernel_rfl
theorem cellsN9:Tryz.prog.cellsOf 32=1:=by kernel_rfl
theorem uCQ:Tryz.prog.cellsOf 34=22:=by kernel_rfl
def Cor.fits(c:Cor):Prop:=c.row.fits/\c.col.fits
def NodeH.ok(N:Nat)(h:NodeH):Prop:=-9223372036854775808<=h.v.mant/\h.v.mant<=9223372036854775807/\h.a.fits/\h.b.fits/\h.v.text.length<=N/\h.name.length<=N
mutual
def Tree.ok(N:Nat):Tree->Prop
 | .mk h l=>h.ok N/\okL N l
def okL(N:Nat):List Tree->Prop
 | []=>True
 |t::r=>t.ok N/\okL N r
end
mutual
theorem Tree.ok.mono{N M:Nat}(hN:N<=M):∀ {t:Tree},t.ok N->t.ok M
 | .mk h l,hk=>by
  rw[Tree.ok]at hk ⊢;obtain⟨⟨a1,a2,a3,a4,a5,a6⟩,hl⟩:=hk;exact⟨⟨a1,a2,a3,a4,yv a5 hN,yv a6 hN⟩,okL.mono hN hl⟩
theorem okL.mono{N M:Nat}(hN:N<=M):∀ {l:List Tree},okL N l->okL M l
 | [],_=>trivial
 |t::r,hk=>by
  rw[okL]at hk ⊢;exact⟨Tree.ok.mono hN hk.1,okL.mono hN hk.2⟩
end
theorem okL_of{N:Nat}:∀ {l:List Tree},(∀ t∈l,t.ok N)->okL N l
 | [],_=>trivial
 |t::_,h=>⟨h t List.mem_cons_self,okL_of (fun x hx=>h x (zg _ hx))⟩
theorem rH{P:Nat->Prop}{W:World}{g:Nat}:∀ (l:List Tree) (o:Nat),(∀ i (hi:i<l.length),NodeP P W g (o+i*22) (l[i]'hi))->KidsP P W g o l
 | [],_,_=>trivial
 |t::r,o,h=>⟨by have:=h 0 (by simp);simpa using this,rH r (o+22) (fun i hi=>by
  have:=h (i+1) (by simpa using hi);rw[show o+(i+1)*22=o+22+i*22 by omega]at this;exact this)⟩
theorem mC(g k j:Nat):(⟨g,k,none⟩:Addr).add j=⟨g,k+j,none⟩:=by
 unfold Addr.add;by_cases e:j=0
 ·simp[e]
 simp[e]
section
variable {H:Type} {enc:TypeId×Value->H} {W:World}
theorem mD(d:DataW H):1<=Rows.uptoBulk d:=by
 cases d with
 |lit l=>cases l <;> simp[Rows.uptoBulk]
 |nil=>simp[Rows.uptoBulk]
 |ptr d=>simp[Rows.uptoBulk]
 |slice elems spare=>simp[Rows.uptoBulk]
 |agg parts=>simp[Rows.uptoBulk]
 |iface t d=>simp[Rows.uptoBulk]
 |map entries=>simp[Rows.uptoBulk]
 |held h=>simp[Rows.uptoBulk]
theorem bulk_part{d:DataW H}{l:List (DataW H)}(h:d∈l):Rows.uptoBulk d<=Rows.uptoBulkAll l:=by
 induction l with
 |nil=>cases h
 |cons x r ih=>
  simp only[Rows.uptoBulkAll];rcases ym.1 h with e|e
  ·subst e;omega
  have:=ih e;omega
theorem sG(N:Nat):∀ (n:Nat) (f:Nat->Tree) (D:Nat->DataW H),(∀ i,i<n->7*(f i).size<=Rows.uptoBulk (D i))->7*aM ((List.range n).map f)<=Rows.uptoBulkAll ((List.range n).map D)
 |0,_,_,_=>by simp[aM]
 |n+1,f,D,h=>by
  have ih:=sG N n (fun i=>f (i+1)) (fun i=>D (i+1)) (fun i hi=>h (i+1) (by omega));have h0:=h 0 (by omega);rw[List.range_succ_eq_map];simp only[List.map_cons,List.map_map,aM,Rows.uptoBulkAll];have e1:(f ∘ Nat.succ)=fun i=>f (i+1):=rfl
  have e2:(D ∘ Nat.succ)=fun i=>D (i+1):=rfl
  rw[e1,e2];omega
theorem uFW{n:Nat}{c1 c2 c3 c4 c5 c6:Value}{x:DataW H×List MemPlace}(h:DataW.trod enc Tryz.prog W 0 (fun _=>true) true n 25 [c1,c2,c3,c4,c5,c6]=some x) :
  ∃ a:Val,(c1=vI a.kind/\c2=vI a.mant/\c3=vI a.exp/\c4=vT a.text/\c5=.bool a.truth/\c6=vI a.fault)/\-9223372036854775808<=a.mant/\a.mant<=9223372036854775807/\a.text.length<=Rows.uptoBulk x.1:=by
 obtain⟨xs,n,_,hx,_,hlen,hg⟩:=DataW.trod_struct Tryz.underlying25 h
 match xs,hlen with
 | [y0,y1,y2,y3,y4],_=>
  have g0:DataW.trod enc Tryz.prog W 0 (fun _=>true) true n 3 [c1]=some y0:=by have:=hg 0 _ rfl;simpa [pY] using this
  have g1:DataW.trod enc Tryz.prog W 0 (fun _=>true) true n 23 [c2,c3]=some y1:=by have:=hg 1 _ rfl;simpa [cellsN4] using this
  have g2:DataW.trod enc Tryz.prog W 0 (fun _=>true) true n 9 [c4]=some y2:=by have:=hg 2 _ rfl;simpa [uCR] using this
  have g3:DataW.trod enc Tryz.prog W 0 (fun _=>true) true n 4 [c5]=some y3:=by have:=hg 3 _ rfl;simpa [vF] using this
  have g4:DataW.trod enc Tryz.prog W 0 (fun _=>true) true n 3 [c6]=some y4:=by have:=hg 4 _ rfl;simpa [pY] using this
  obtain⟨k,e0,rfl,w0⟩:=DataW.trod_int Tryz.underlying3 g0;obtain⟨m,e,rfl,rfl,x1,a1,a2,a3,a4⟩:=trod_num g1;obtain⟨s,e2,rfl,w2⟩:=DataW.trod_string Tryz.underlying9 g2;obtain⟨b,e3,rfl⟩:=DataW.trod_bool Tryz.underlying4 g3;obtain⟨f,e4,rfl,w4⟩:=DataW.trod_int Tryz.underlying3 g4;injection e0 with e0;injection e2 with e2;injection e3 with e3;injection e4 with e4;subst e0 e2 e3 e4;refine⟨⟨k,m,e,s.data.toList,b,f⟩,⟨rfl,rfl,rfl,by simp,rfl,rfl⟩,a1,a2,?_⟩;rw[hx];simp only[List.map_cons,List.map_nil,Rows.uptoBulk,Rows.uptoBulkAll];omega
theorem uW{n:Nat}{c0 c1 c2 c3 c4 c5:Value}{x:DataW H×List MemPlace}(h:DataW.trod enc Tryz.prog W 0 (fun _=>true) true n 29 [c0,c1,c2,c3,c4,c5]=some x) :
  ∃ a:Cor,(c0=vI a.row.a/\c1=vI a.row.n/\c2=vI a.col.a/\c3=vI a.col.n/\c4=.bool a.fr/\c5=.bool a.fc)/\a.fits:=by
 obtain⟨xs,n,_,hx,_,hlen,hg⟩:=DataW.trod_struct Tryz.underlying29 h
 match xs,hlen with
 | [y0,y1,y2,y3],_=>
  have g0:DataW.trod enc Tryz.prog W 0 (fun _=>true) true n 27 [c0,c1]=some y0:=by have:=hg 0 _ rfl;simpa [pZ] using this
  have g1:DataW.trod enc Tryz.prog W 0 (fun _=>true) true n 27 [c2,c3]=some y1:=by have:=hg 1 _ rfl;simpa [pZ] using this
  have g2:DataW.trod enc Tryz.prog W 0 (fun _=>true) true n 4 [c4]=some y2:=by have:=hg 2 _ rfl;simpa [vF] using this
  have g3:DataW.trod enc Tryz.prog W 0 (fun _=>true) true n 4 [c5]=some y3:=by have:=hg 3 _ rfl;simpa [vF] using this
  obtain⟨r,rfl,rfl,rf⟩:=kF g0;obtain⟨k,rfl,rfl,kf⟩:=kF g1;obtain⟨b,e2,rfl⟩:=DataW.trod_bool Tryz.underlying4 g2;obtain⟨d,e3,rfl⟩:=DataW.trod_bool Tryz.underlying4 g3;injection e2 with e2;injection e3 with e3;subst e2 e3;exact⟨⟨r,k,b,d⟩,⟨rfl,rfl,rfl,rfl,rfl,rfl⟩,rf,kf⟩
theorem uFV:∀ (b n:Nat) (cs:List Value) (x:DataW H×List MemPlace),Rows.uptoBulk x.1<=b->DataW.trod enc Tryz.prog W 0 (fun _=>true) true n 34 cs=some x ->
  ∃ (t:Tree) (A:Option Addr) (cp:Nat),cs=(aH t.h A t.l.length cp).toList/\t.l.length<=cp/\KidsPO (fun _=>True) W A t.l/\t.ok (Rows.uptoBulk x.1)/\7*t.size<=Rows.uptoBulk x.1:=by
 intro b
 induction b with
 |zero=>intro n cs x hb;have:=mD x.1;omega
 |succ b ih=>
 intro n cs x hbx h;obtain⟨xs,k,hkn,hx,l9,hlen,hg⟩:=DataW.trod_struct Tryz.underlying34 h;rw[uCQ]at l9
 match cs,l9 with
 | [c0,c1,c2,c3,c4,c5,c6,c7,c8,c9,c10,c11,c12,c13,c14,c15,c16,c17,c18,c19,xc,jm],_=>
 match xs,hlen with
 | [y0,y1,y2,y3,y4,y5],_=>
  have g0:DataW.trod enc Tryz.prog W 0 (fun _=>true) true k 3 [c0]=some y0:=by have:=hg 0 _ rfl;simpa [pY] using this
  have g1:DataW.trod enc Tryz.prog W 0 (fun _=>true) true k 25 [c1,c2,c3,c4,c5,c6]=some y1:=by have:=hg 1 _ rfl;simpa [cellsN5] using this
  have g2:DataW.trod enc Tryz.prog W 0 (fun _=>true) true k 9 [c7]=some y2:=by have:=hg 2 _ rfl;simpa [uCR] using this
  have g3:DataW.trod enc Tryz.prog W 0 (fun _=>true) true k 31 [c8,c9,c10,c11,c12,c13,c14,c15,c16,c17,c18,c19]=some y3:=by have:=hg 3 _ rfl;simpa [cellsN8] using this
  have g4:DataW.trod enc Tryz.prog W 0 (fun _=>true) true k 3 [xc]=some y4:=by have:=hg 4 _ rfl;simpa [pY] using this
  have g5:DataW.trod enc Tryz.prog W 0 (fun _=>true) true k 32 [jm]=some y5:=by have:=hg 5 _ rfl;simpa [cellsN9] using this
  clear hg h;obtain⟨kd,e0,rfl,_⟩:=DataW.trod_int Tryz.underlying3 g0;obtain⟨v,⟨rfl,rfl,rfl,rfl,rfl,rfl⟩,v1,v2,v3⟩:=uFW g1;obtain⟨s,e2,rfl,_⟩:=DataW.trod_string Tryz.underlying9 g2;obtain⟨zs,k3,_,hz,_,hzl,hzg⟩:=DataW.trod_struct Tryz.underlying31 g3;obtain⟨rw',e4,rfl,_⟩:=DataW.trod_int Tryz.underlying3 g4;injection e0 with e0;injection e2 with e2;injection e4 with e4;subst e0 e2 e4
  match zs,hzl with
  | [z0,z1],_=>
  have q0:DataW.trod enc Tryz.prog W 0 (fun _=>true) true k3 29 [c8,c9,c10,c11,c12,c13]=some z0:=by have:=hzg 0 _ rfl;simpa [uCS] using this
  have q1:DataW.trod enc Tryz.prog W 0 (fun _=>true) true k3 29 [c14,c15,c16,c17,c18,c19]=some z1:=by have:=hzg 1 _ rfl;simpa [uCS] using this
  clear hzg;obtain⟨ca,⟨rfl,rfl,rfl,rfl,rfl,rfl⟩,fa⟩:=uW q0;obtain⟨cb,⟨rfl,rfl,rfl,rfl,rfl,rfl⟩,fb⟩:=uW q1;have b1:=mD y1.1;have b3:=mD y3.1;have hB:Rows.uptoBulk x.1=1+(Rows.uptoBulk y1.1+((s.data.toList.length+1)+(Rows.uptoBulk y3.1+(1+(Rows.uptoBulk y5.1+0)))))+1:=by
   rw[hx];simp only[List.map_cons,List.map_nil,Rows.uptoBulk,Rows.uptoBulkAll]
  rcases Go.Deep.open_slice Tryz.underlying32 g5 with⟨ep,h5⟩|⟨a,len,cap,m,n',D,Pl,ep,hb,hl,hm,wi,h5,hi⟩
  ·injection ep with ep _;subst ep;have b5:=mD y5.1;refine⟨.mk ⟨kd,v,s.data.toList,ca,cb,rw'⟩ [],none,0,by simp[Tree.h,Tree.l],zr,.inl rfl,⟨⟨v1,v2,fa,fb,by show v.text.length<=_;omega,by show s.data.toList.length<=_;omega⟩,trivial⟩,?_⟩;show 7*(aM []+1)<=_;rw[aM];omega
  injection ep with ep _;subst ep;rw[if_pos rfl]at wi;obtain rfl:cap=m:=wi.symm;rw[uCQ]at hi;have l6:Rows.uptoBulkAll ((List.range len).map D)+1<=Rows.uptoBulk y5.1:=by
   rw[h5];simp only[Rows.uptoBulk];omega
  obtain⟨g,o,spot⟩:=a;have key:∀ i,i<len->∃ (t:Tree) (A:Option Addr) (cp:Nat),(∀ j,j<22->W.cell? (((⟨g,o,spot⟩:Addr).add (i*22)).add j)=(aH t.h A t.l.length cp)[j]?)/\t.l.length<=cp/\KidsPO (fun _=>True) W A t.l/\t.ok (Rows.uptoBulk (D i))/\7*t.size<=Rows.uptoBulk (D i):=by
   intro i lc;obtain⟨l7,hc,ht'⟩:=hi i (by omega);obtain⟨_,l9,im⟩:=World.cells?_some hc;have hD:=bulk_part (yj.2 ⟨i,yg.2 lc,rfl⟩:D i∈(List.range len).map D);obtain⟨t,A,cp,rfl,t0,t1,t2,t3⟩:=ih n' l7 (D i,Pl i) (by show Rows.uptoBulk (D i)<=b;omega) ht';exact⟨t,A,cp,fun j hj=>by rw[im j hj];simp,t0,t1,t2,t3⟩
  obtain⟨f,hf⟩:∃ f:Nat->Tree,∀ i,i<len->∃ (A:Option Addr) (cp:Nat),(∀ j,j<22->W.cell? (((⟨g,o,spot⟩:Addr).add (i*22)).add j)=(aH (f i).h A (f i).l.length cp)[j]?)/\(f i).l.length<=cp/\KidsPO (fun _=>True) W A (f i).l/\(f i).ok (Rows.uptoBulk (D i))/\7*(f i).size<=Rows.uptoBulk (D i) :=
   ⟨fun i=>if h:i<len then Classical.choose (key i h) else tree0,fun i lc=>by
    have:=Classical.choose_spec (key i lc);simp only[dif_pos lc];exact this⟩
  have ap:=sG 0 len f D (fun i lc=>by obtain⟨_,_,_,_,_,_,h4⟩:=hf i lc;exact h4);refine⟨.mk ⟨kd,v,s.data.toList,ca,cb,rw'⟩ ((List.range len).map f),some ⟨g,o,spot⟩,cap,by simp[Tree.h,Tree.l],by show ((List.range len).map f).length<=cap;simpa using hl,?_,⟨⟨v1,v2,fa,fb,by show v.text.length<=_;omega,by show s.data.toList.length<=_;omega⟩,okL_of (fun t ht=>?_)⟩,?_⟩
  ·show KidsPO (fun _=>True) W (some ⟨g,o,spot⟩) ((List.range len).map f);by_cases h0:len=0
   ·subst h0;exact .inl rfl
   have zo:0<len:=by omega
   obtain⟨A0,cp0,oo,_⟩:=hf 0 zo;have m8:=oo 0 (by decide);have m8:W.cell? (((⟨g,o,spot⟩:Addr).add (0*22)).add 0)=some (vI (f 0).h.kind):=m8;have hsp:spot=none:=by simpa [Addr.add] using World.cell?_spot m8
   subst hsp;rw[mC,mC]at m8;refine .inr ⟨g,o,rfl,trivial,dA m8,rH _ _ (fun i lc=>?_)⟩;have hil':i<len:=by simpa using lc
   obtain⟨A,cp,hc,l9,hk,_⟩:=hf i hil';simp only[List.getElem_map,List.getElem_range];generalize f i=u at *;obtain⟨uh,ul⟩:=u;refine⟨A,cp,l9,fun j hj=>?_,hk⟩;have:=hc j hj
   rwa [mC,mC]at this
  ·obtain⟨i,hi2,rfl⟩:=yj.1 ht;obtain⟨_,_,_,_,_,h3,_⟩:=hf i (yg.1 hi2);refine h3.mono ?_;have:=bulk_part (yj.2 ⟨i,hi2,rfl⟩:D i∈(List.range len).map D);omega
  show 7*(aM ((List.range len).map f)+1)<=_;omega
end
end Go.Proofs.YtjfihpaeglpblaaGreatDoor
