/-
  Lemmas, part 27: RsC PlR3.
-/
import Derived.Test.YtjfihpaeglpblaaGreatDoorRv21
set_option maxHeartbeats 100000000
set_option maxRecDepth 1000000
namespace Go.Proofs.YtjfihpaeglpblaaGreatDoor
open Go.RowKit
def uDR:List Value:=vI 1::(kI.toList++(aK tree0.h none 0 0).toList)
theorem infoCont:(Tryz.prog.info? 67).map (·.size)=some uDR.length:=by kernel_rfl
theorem uAZ(w:World)(hT:Tab w)(hP:PowTab w):Calls Tryz.prog 26 #[.agg uDR.toArray,.pointer none,.pointer none] w fun e w'=>e=.returned (vS #[39,84,82,85,69])/\Below w.heap.size w w':=by
 obtain⟨W0,ak⟩:=zD (w.alloc (.cells uDR.toArray 67))
 have aj:=zh ak;have af:=zA ak;have HL:=zL ak;have HR:Hid (∀ W,Below W0.heap.size W0 W->W.cell? ⟨w.heap.size,0,none⟩=some (vI 1)/\W.cell? ⟨w.heap.size,1,none⟩=some (vI 2)/\W.cell? ⟨w.heap.size,2,none⟩=some (vI 0)/\W.cell? ⟨w.heap.size,3,none⟩=some (vI 0)/\W.cell? ⟨w.heap.size,4,none⟩=some (vS #[84,82,85,69])/\W.cell? ⟨w.heap.size,5,none⟩=some (.bool false)/\W.cell? ⟨w.heap.size,6,none⟩=some (vI 0)):=zh (fun W hb=>by
  have h:=HL.out.next hb;exact⟨h.cell 0,h.cell 1,h.cell 2,h.cell 3,h.cell 4,h.cell 5,h.cell 6⟩)
 have C1:Hid (Calls Tryz.prog 59 #[.agg kI] W0 fun x w'=>x=.returned (.bool true)/\Below W0.heap.size W0 w'):=zh (by
  have h:=qX mM W0 (by decide) (by decide) (by decide);rw[show aW mM=true from by kernel_rfl]at h;exact h)
 have C2:Hid (∀ W,Below w.heap.size w W->Calls Tryz.prog 60 #[.agg kI] W fun x w'=>x=.returned (vS #[84,82,85,69])/\Below W.heap.size W w'):=zh (fun W hb=>by
  have h:=zJ mM W (hT.next hb) (hP.next hb) (by decide) (by decide) (fun h=>by cases h);rw[show uEL mM=[84,82,85,69] from by kernel_rfl]at h;exact h)
 have C3:Hid (∀ W,Below w.heap.size w W->Calls Tryz.prog 61 #[.agg kI] W fun x w'=>x=.returned (.bool true)/\Below W.heap.size W w'):=zh (fun W hb=>isQ_any W);obtain⟨x0,x1,x2,x3,x4,x5,x6⟩:=HR.out W0 zB;have HI:=zh infoCont;generalize uDR=Cn at *;clear ak hT hP HL
 go_in
 go_upto_region 1 with fail
 rw[<- aj.out];clear aj
 go_wp2_with (first
  |((with_reducible refine C1.out.mono ?_);rintro e w1 ⟨rfl,hb⟩;have bi:=zT af hb;have HK1:=zh hb;clear x0 x1 x2 x3 x4 x5 x6;obtain⟨x0,x1,x2,x3,x4,x5,x6⟩:=HR.out w1 hb;clear hb)
  |((with_reducible refine(C2.out _ bi.out).mono ?_);rintro e w2 ⟨rfl,hb⟩;have aw:=zT bi hb;have fu:=zT HK1 hb;clear x0 x1 x2 x3 x4 x5 x6;obtain⟨x0,x1,x2,x3,x4,x5,x6⟩:=HR.out w2 fu.out;clear hb)
  |((with_reducible refine(C3.out _ aw.out).mono ?_);rintro e w3 ⟨rfl,hb⟩;have bf:=zT aw hb;clear hb))
 go_ret
 exact⟨rfl,bf.out⟩
theorem dQ{k:Int}:∀ {l:List Tree} (i:Nat) (hi:i<l.length),aZ l k=true->(l[i]'hi).right k=true/\(k=8->(l[i]'hi).h.kind=0)
 | [],_,hi,_=>absurd hi (by simp)
 |t::r,0,_,h=>by
  simp only[aZ,yh,Bool.or_eq_true,decide_eq_true_eq]at h;exact⟨h.1.2,fun e=>h.1.1.resolve_left (fun x=>x e)⟩
 |t::r,i+1,hi,h=>by
  simp only[aZ,yh]at h;exact dQ (l:=r) i (by simpa using hi) h.2
theorem eC{h:NodeH}{l:List Tree}{k:Int}(hr:(Tree.mk h l).right k=true):bJ h l.length (l.map fun t=>t.h.kind) k=true/\aZ l h.kind=true:=by
 rw[Tree.right]at hr;simpa using hr
theorem nB{h:NodeH}{n:Nat}{ks:List Int}{k:Int}(hr:bJ h n ks k=true)(hk:h.kind=0):aW h.v=true/\h.v.kind≠0:=by
 unfold bJ at hr;rw[if_pos hk]at hr;simp only[dH,yh,decide_eq_true_eq]at hr;exact⟨hr.1.1.1.2,hr.1.1.1.1⟩
theorem qO{h:NodeH}{n:Nat}{ks:List Int}{k:Int}(hr:bJ h n ks k=true)(hk:h.kind=2):¬ (h.a.row=id0/\h.a.col=id0)/\n=0:=by
 unfold bJ at hr;rw[if_neg (by omega),if_neg (by omega),if_pos hk]at hr;simp only[yh,decide_eq_true_eq]at hr;refine⟨fun⟨e1,e2⟩=>?_,hr.2⟩;have:=hr.1.1;simp[cG,e1,e2]at this
theorem yV{h:NodeH}{n:Nat}{ks:List Int}{k:Int}(hr:bJ h n ks k=true)(hk:h.kind=4):bY h.name=true/\n<=32:=by
 unfold bJ at hr;rw[if_neg (by omega),if_neg (by omega),if_neg (by omega),if_pos hk]at hr;simp only[yh,decide_eq_true_eq]at hr;exact⟨hr.1.1.1,hr.1.1.2⟩
theorem pJ{h:NodeH}{n:Nat}{ks:List Int}{k:Int}(hr:bJ h n ks k=true)(hk:h.kind=5):unB h.name=true/\n=1:=by
 unfold bJ at hr;rw[if_neg (by omega),if_neg (by omega),if_neg (by omega),if_neg (by omega),if_pos hk]at hr;simp only[yh,decide_eq_true_eq]at hr;exact⟨hr.1.1,hr.1.2⟩
theorem iH{h:NodeH}{n:Nat}{ks:List Int}{k:Int}(hr:bJ h n ks k=true)(hk:h.kind=6):mS h.name=true/\n=2:=by
 unfold bJ at hr;rw[if_neg (by omega),if_neg (by omega),if_neg (by omega),if_neg (by omega),if_neg (by omega),if_pos hk]at hr;simp only[yh,decide_eq_true_eq]at hr;exact⟨hr.1.1,hr.1.2⟩
theorem yW{h:NodeH}{n:Nat}{ks:List Int}{k:Int}(hr:bJ h n ks k=true)(hk:h.kind=7):bS h.name=true/\n=0:=by
 unfold bJ at hr;rw[if_neg (by omega),if_neg (by omega),if_neg (by omega),if_neg (by omega),if_neg (by omega),if_neg (by omega),if_pos hk]at hr;simp only[yh,decide_eq_true_eq]at hr;exact⟨hr.1.1,hr.2⟩
theorem nC{h:NodeH}{n:Nat}{ks:List Int}{k:Int}(hr:bJ h n ks k=true)(hk:h.kind=8):∃ r c:Nat,h.rows=(r:Int)/\1<=r/\1<=c/\n=r*c:=by
 unfold bJ at hr;rw[if_neg (by omega),if_neg (by omega),if_neg (by omega),if_neg (by omega),if_neg (by omega),if_neg (by omega),if_neg (by omega),if_pos hk]at hr;simp only[yh,decide_eq_true_eq]at hr;obtain⟨⟨⟨h1,h2⟩,h3⟩,_⟩:=hr;obtain⟨r,ny⟩:∃ r:Nat,h.rows=(r:Int):=⟨h.rows.toNat,by omega⟩
 rw[ny]at h1 h3;have h4:n % r=0:=by
  rw[<- Int.ofNat_tmod]at h3
  exact_mod_cast h3
 obtain⟨c,hc⟩:=Nat.dvd_of_mod_eq_zero h4;refine⟨r,c,ny,by omega,?_,hc⟩;rcases Nat.eq_zero_or_pos c with h0|h0
 ·subst h0;omega
 exact h0
theorem qP{h:NodeH}{n:Nat}{ks:List Int}{k:Int}(hr:bJ h n ks k=true):h.kind=0\/(h.kind=1\/h.kind=3)\/h.kind=2\/h.kind=4\/h.kind=5\/h.kind=6\/h.kind=7\/h.kind=8\/h.kind=9:=by
 unfold bJ at hr;by_cases h0:h.kind=0;· exact .inl h0
 by_cases h1:h.kind=1\/h.kind=3;· exact .inr (.inl h1)
 by_cases h2:h.kind=2;· simp[h2]
 by_cases h4:h.kind=4;· simp[h4]
 by_cases h5:h.kind=5;· simp[h5]
 by_cases h6:h.kind=6;· simp[h6]
 by_cases h7:h.kind=7;· simp[h7]
 by_cases h8:h.kind=8;· simp[h8]
 by_cases h9:h.kind=9;· simp[h9]
 rw[if_neg h0,if_neg h1,if_neg h2,if_neg h4,if_neg h5,if_neg h6,if_neg h7,if_neg h8,if_neg h9]at hr;cases hr
theorem bT(v:Say)(R C:AxV):∀ (l:List Tree),(bH v R C l).length=l.length
 | []=>rfl
 |t::r=>by rw[bH,yi,yi,bT v R C r]
theorem pO(v:Say)(R C:AxV):∀ (l:List Tree) (i:Nat) (hi:i<l.length) (hj:i<(bH v R C l).length),(bH v R C l)[i]'hj=(l[i]'hi).toks v R C
 | [],_,hi,_=>absurd hi (by simp)
 |t::r,0,_,_=>by simp[bH]
 |t::r,i+1,hi,hj=>by
  simp only[bH,List.getElem_cons_succ];exact pO v R C r i (by simpa using hi) _
def fS:List (List RTok)->Nat
 | []=>0
 |a::r=>a.length+fS r
theorem lK:∀ (a b:List (List RTok)),fS (a++b)=fS a+fS b
 | [],b=>by simp[fS]
 |x::a,b=>by rw[yp,fS,lK a b,fS];omega
theorem zP:∀ {l:List (List RTok)} {a:List RTok},a∈l->a.length<=fS l
 |x::r,a,h=>by
  rw[fS];rcases ym.1 h with e|e
  ·subst e;omega
  have:=zP e;omega
theorem lZ(l:List (List RTok))(k:Nat):fS (l.take k)<=fS l:=by
 have:=lK (l.take k) (l.drop k);rw[List.take_append_drop]at this;omega
theorem gO:∀ (l:List (List RTok)),(bG l).length<=fS l+(l.length-1)
 | []=>by simp[bG,fS]
 | [a]=>by simp[bG,fS]
 |a::b::r=>by
  have ih:=gO (b::r);rw[bG,fS,yl,yi];simp only[yi]at ih ⊢;omega
theorem jF(wide:Nat)(ts:List (List RTok)):∀ k,(cT wide ts k).length<=fS (ts.take (k*wide))+k*wide+k
 |0=>by simp[cT]
 |k+1=>by
  have ih:=jF wide ts k;have hl:=gO ((ts.drop (k*wide)).take wide);have h1:((ts.drop (k*wide)).take wide).length<=wide:=by rw[zc];omega
  have h2:fS (ts.take ((k+1)*wide))=fS (ts.take (k*wide))+fS ((ts.drop (k*wide)).take wide):=by
   rw[<- lK]
   congr 1
   rw[Nat.succ_mul,List.take_add]
  rw[cT,yl,yi,h2,Nat.succ_mul];omega
theorem eK(a b:Int)(ts:List RTok):(dV a b ts).length<=ts.length+2:=by
 unfold dV
 split <;> simp
theorem litT_len(x:Val):(jT x).length<=2:=by
 unfold jT
 repeat' split
 all_goals simp
theorem uEW(v:Say)(R C:AxV)(h:NodeH):(kF v R C h).length<=2:=by
 unfold kF dC
 repeat' split
 all_goals simp
theorem uGT(v:Say)(R C:AxV)(a b:Cor):(gF v R C a b).length<=3:=by
 unfold gF dC
 repeat' split
 all_goals simp
theorem uFO(v:Say)(R C:AxV)(h:NodeH)(lv:List Int)(ts:List (List RTok))(k:Int)(ks:List Int)(hr:bJ h ts.length ks k=true):(dN v R C h lv ts).length<=4+fS ts+2*ts.length:=by
 have qp:=gO ts;have hhd:(ts.headD []).length<=fS ts:=by
  cases ts with
  |nil=>simp
  |cons a r=>simp[fS]
 unfold dN;by_cases h0:h.kind=0
 ·rw[if_pos h0];have:=litT_len h.v;omega
 rw[if_neg h0];by_cases h1:h.kind=1\/h.kind=3
 ·rw[if_pos h1];have:=uEW v R C h;omega
 rw[if_neg h1];by_cases h2:h.kind=2
 ·rw[if_pos h2];have:=uGT v R C h.a h.b;omega
 rw[if_neg h2];by_cases h4:h.kind=4
 ·rw[if_pos h4];simp only[yi,yl,List.length_nil];omega
 rw[if_neg h4];by_cases h5:h.kind=5
 ·rw[if_pos h5]
  split
  ·have:=eK (lv.headD 0) 7 (ts.headD []);simp only[yl,yi,List.length_nil];omega
  have:=eK (lv.headD 0) 6 (ts.headD []);simp only[yi];omega
 rw[if_neg h5];by_cases h6:h.kind=6
 ·rw[if_pos h6];obtain⟨_,hn⟩:=iH hr h6
  match ts,hn with
  | [a,b],_=>
   have e1:=eK (lv.headD 0) (bE h.name) a;have e2:=eK (lv.tail.headD 0) (bE h.name+1) b;simp only[List.headD_cons,List.tail_cons,yl,yi,fS,List.length_nil];omega
 rw[if_neg h6];by_cases h7:h.kind=7
 ·rw[if_pos h7];simp;omega
 rw[if_neg h7];by_cases h8:h.kind=8
 ·rw[if_pos h8];obtain⟨r,c,ny,fh,dv,hn⟩:=nC hr h8;rw[ny];have hd:ts.length / (r:Int).toNat=c:=by rw[Int.toNat_natCast,hn];exact Nat.mul_div_cancel_left c (by omega)
  rw[hd,Int.toNat_natCast,yl];have e1:=jF c ts r;have e2:=lZ ts (r*c);have e3:r<=r*c:=Nat.le_mul_of_pos_right r dv;simp only[yi,List.length_nil];omega
 rw[if_neg h8];simp
mutual
theorem eF(v:Say)(R C:AxV):∀ (t:Tree) (k:Int),t.right k=true->(t.toks v R C).length+2<=6*t.size
 | .mk h l,k,hr=>by
  obtain⟨h1,h2⟩:=eC hr;have ih:=fT v R C l h.kind h2;have hn:=uFO v R C h (l.map bP) (bH v R C l) k (l.map fun t=>t.h.kind) (by rw[bT];exact h1);rw[bT]at hn;rw[Tree.toks,Tree.size];omega
theorem fT(v:Say)(R C:AxV):∀ (l:List Tree) (k:Int),aZ l k=true->fS (bH v R C l)+2*l.length<=6*aN l
 | [],_,_=>by simp[bH,fS,aN]
 |t::r,k,hr=>by
  simp only[aZ,yh]at hr;have h1:=eF v R C t k hr.1.2;have h2:=fT v R C r k hr.2;rw[bH,fS,aN,yi];omega
end
def iT(t:RTok):Prop:=t.text.length<=1000/\(t.kind=5->t.text≠[])
theorem zS(m e:Int)(hR:bI m e=true):(bL m e).length<=255:=by
 rcases Nat.lt_or_ge 255 (bL m e).length with hl|hl
 ·have hp:=uBU _ _ hR;unfold wZ at hp;rw[if_pos hl]at hp;cases hp
 exact hl
theorem uBQ{m e:Int}(h:bI m e=true):bI (-m) e=true:=by
 unfold bI at h ⊢;by_cases h0:m=0
 ·subst h0;simpa using h
 rw[if_neg h0]at h;rw[if_neg (by omega),Int.natAbs_neg];exact h
theorem xX(f:Int):(aY f).length<=7:=by
 unfold aY
 split
 ·generalize f.toNat=k;unfold jQ
  split <;> decide
 decide
theorem uBG{z:Int}(h1:-1000<=z)(h2:z<=1000):(Lib.itoa z).length<=5:=by
 unfold Lib.itoa;have h3:=bM z.natAbs 3 (by have:(10:Nat) ^ (3+1)=10000:=rfl;omega);have h4:=bM z.toNat 3 (by have:(10:Nat) ^ (3+1)=10000:=rfl;omega)
 split
 ·simp;omega
 omega
theorem litT_ok{x:Val}(hR:aW x=true):∀ t∈jT x,iT t:=by
 unfold jT;by_cases h1:x.kind=1
 ·rw[if_pos h1];have hp:bI x.mant x.exp=true:=by
   unfold aW at hR;simp only[yh]at hR;have:=hR.2
   rwa [if_pos h1]at this
  by_cases hm:x.mant<0
  ·rw[if_pos hm];have:=zS _ _ (uBQ hp);intro t ht;simp only[ym,List.not_mem_nil,or_false]at ht;rcases ht with rfl|rfl
   ·exact⟨by decide,fun _=>by simp⟩
   exact⟨by show (bL (-x.mant) x.exp).length<=1000;omega,fun h=>by cases h⟩
  rw[if_neg hm];have:=zS _ _ hp;intro t ht;simp only[ym,List.not_mem_nil,or_false]at ht;subst ht;exact⟨by show (bL x.mant x.exp).length<=1000;omega,fun h=>by cases h⟩
 rw[if_neg h1];by_cases h2:x.kind=2
 ·rw[if_pos h2];have hl:x.text.length<=255:=by
   unfold aW at hR;simp only[yh]at hR;have:=hR.2;rw[if_neg h1,if_pos h2]at this;simpa using this
  intro t ht;simp only[ym,List.not_mem_nil,or_false]at ht;subst ht;exact⟨by show x.text.length<=1000;omega,fun h=>by cases h⟩
 rw[if_neg h2];by_cases h4:x.kind=4
 ·rw[if_pos h4];have:=xX x.fault;intro t ht;simp only[ym,List.not_mem_nil,or_false]at ht;subst ht;exact⟨by show (aY x.fault).length<=1000;omega,fun h=>by cases h⟩
 rw[if_neg h4];intro t ht;simp only[ym,List.not_mem_nil,or_false]at ht;subst ht;refine⟨?_,fun h=>by cases h⟩;show (dF x).1.length<=1000;unfold dF;rw[if_neg h1,if_neg h2];by_cases h3:x.kind=3
 ·rw[if_pos h3];cases x.truth <;> decide
 rw[if_neg h3,if_neg h4]
 decide
theorem nQ:∀ t∈dC,iT t:=by
 intro t ht;simp only[dC,ym,List.not_mem_nil,or_false]at ht;subst ht;exact⟨by decide,fun h=>by cases h⟩
theorem xG{p q:Nat}{f:Bool}(hp:p<=400)(hq:q<=400):(bB p q f).length<=8:=by
 unfold bB;have h1:=bM (p+1) 3 (by have:(10:Nat) ^ (3+1)=10000:=rfl;omega);have h2:=uBG (z:=(p:Int)-(q:Int)) (by omega) (by omega)
 repeat' split
 ·omega
 ·decide
 simp;omega
theorem nF{v:Say}(hv:v.ok){r c:Nat}(hr:r<=400)(hc:c<=400)(fr fc:Bool):iT (cE v r c fr fc):=by
 cases v with
 |plain=>
  have h1:=bM (r+1) 3 (by have:(10:Nat) ^ (3+1)=10000:=rfl;omega);have h2:=gB (c+1) (by omega);refine⟨?_,fun h=>by cases h⟩;show (jC r c fr fc).length<=1000;unfold jC;cases fr <;> cases fc <;> simp[qY] <;> omega
 |seen a b=>
  have h1:=xG (f:=fr) hr hv.1;have h2:=xG (f:=fc) hc hv.2;refine⟨?_,fun h=>by cases h⟩;show (82::(bB r a fr++67::bB c b fc)).length<=1000;simp only[yi,yl];omega
theorem wA{v:Say}(hv:v.ok){r:Nat}(hr:r<=400)(f:Bool):iT (cX v r f):=by
 cases v with
 |plain=>
  have h1:=bM (r+1) 3 (by have:(10:Nat) ^ (3+1)=10000:=rfl;omega);cases f
  ·exact⟨by show (Lib.decDigits (r+1)).length<=1000;omega,fun h=>by cases h⟩
  exact⟨by show (36::Lib.decDigits (r+1)).length<=1000;rw[yi];omega,fun h=>by cases h⟩
 |seen a b=>
  have h1:=xG (f:=f) hr hv.1;exact⟨by show (82::bB r a f).length<=1000;rw[yi];omega,fun h=>by cases h⟩
theorem vZ{v:Say}(hv:v.ok){c:Nat}(hc:c<=400)(f:Bool):iT (cW v c f):=by
 cases v with
 |plain=>
  have h2:=gB (c+1) (by omega);cases f
  ·exact⟨by show (dT (c+1)).length<=1000;omega,fun h=>by cases h⟩
  exact⟨by show (36::dT (c+1)).length<=1000;rw[yi];omega,fun h=>by cases h⟩
 |seen a b=>
  have h1:=xG (f:=f) hc hv.2;exact⟨by show (67::bB c b f).length<=1000;rw[yi];omega,fun h=>by cases h⟩
theorem gL(s:Bs)(h:s≠[])(hl:s.length<=1000):iT (tk 5 s):=⟨hl,fun _=>h⟩
theorem eO{A:AxV}(hA:mO A)(x:IdR):aI A x<=300:=by
 match A,hA with
 |none,_=>show (-1:Int)<=300;omega
 |some (ids,fl),⟨h1,h2,_,_⟩=>
  show iG x 0 (aG ids fl)<=300;have:=dA ids fl;by_cases hm:x∈aG ids fl
  ·obtain⟨k,hk,hg⟩:=jD x _ 0 hm;have:=(List.getElem?_eq_some_iff.1 hg).1;rw[hk];omega
  rw[eW x _ 0 hm];omega
theorem cellT_ok{v:Say}(hv:v.ok){R C:AxV}(hR:mO R)(hC:mO C)(h:NodeH):∀ t∈kF v R C h,iT t:=by
 unfold kF
 split
 ·exact nQ
 have h1:=eO hR h.a.row;have h2:=eO hC h.a.col;intro t ht;rcases ym.1 ht with rfl|ht
 ·exact nF hv (by omega) (by omega) _ _
 split at ht
 ·simp only[ym,List.not_mem_nil,or_false]at ht;subst ht;exact gL _ (by simp) (by decide)
 cases ht
theorem tP{a b c:RTok}(ha:iT a)(hb:iT b)(hc:iT c):∀ t∈[a,b,c],iT t:=by
 intro t ht;simp only[ym,List.not_mem_nil,or_false]at ht;rcases ht with rfl|rfl|rfl
 ·exact ha
 ·exact hb
 exact hc
theorem spanT_ok{v:Say}(hv:v.ok){R C:AxV}(hR:mO R)(hC:mO C)(a b:Cor):∀ t∈gF v R C a b,iT t:=by
 have hs:iT (tk 5 [58]):=gL _ (by simp) (by decide);unfold gF;by_cases h1:a.row=id0
 ·rw[if_pos h1];rcases cI hC a.col b.col with h|⟨n,m,hn,hm,h⟩
  ·rw[h];exact nQ
  rw[h];exact tP (vZ hv (by simp;omega) _) hs (vZ hv (by simp;omega) _)
 rw[if_neg h1];by_cases h2:a.col=id0
 ·rw[if_pos h2];rcases cI hR a.row b.row with h|⟨n,m,hn,hm,h⟩
  ·rw[h];exact nQ
  rw[h];exact tP (wA hv (by simp;omega) _) hs (wA hv (by simp;omega) _)
 rw[if_neg h2];rcases cI hR a.row b.row with h|⟨n,m,hn,hm,h⟩
 ·rw[h];exact nQ
 rcases cI hC a.col b.col with g|⟨n',m',hn',mp,g⟩
 ·rw[h,g];exact nQ
 rw[h,g];exact tP (nF hv (by simp;omega) (by simp;omega) _ _) hs (nF hv (by simp;omega) (by simp;omega) _ _)
theorem pC:∀ {l:List (List RTok)} {t:RTok},t∈bG l->t=tk 5 [44]\/∃ a∈l,t∈a
 | [],_,h=>by cases h
 | [a],t,h=>.inr ⟨a,List.mem_cons_self,h⟩
 |a::b::r,t,h=>by
  rw[bG]at h;rcases List.mem_append.1 h with h|h
  ·exact .inr ⟨a,List.mem_cons_self,h⟩
  rcases ym.1 h with h|h
  ·exact .inl h
  rcases pC h with h|⟨x,hx,h⟩
  ·exact .inl h
  exact .inr ⟨x,zg _ hx,h⟩
theorem vX{wide:Nat}{ts:List (List RTok)}{t:RTok}:∀ {k:Nat},t∈cT wide ts k->(∃ s:Bs,s.length=1/\t=tk 5 s)\/∃ a∈ts,t∈a
 |0,h=>by cases h
 |k+1,h=>by
  rw[cT]at h;rcases List.mem_append.1 h with h|h
  ·exact vX h
  rcases ym.1 h with h|h
  ·exact .inl ⟨_,by split <;> rfl,h⟩
  rcases pC h with h|⟨x,hx,h⟩
  ·exact .inl ⟨_,rfl,h⟩
  exact .inr ⟨x,List.mem_of_mem_drop (List.mem_of_mem_take hx),h⟩
theorem mB{a b:Int}{ts:List RTok}{t:RTok}(h:t∈dV a b ts):(∃ s:Bs,s.length=1/\t=tk 5 s)\/t∈ts:=by
 unfold dV at h
 split at h
 ·exact .inr h
 rcases ym.1 h with h|h
 ·exact .inl ⟨_,rfl,h⟩
 rcases List.mem_append.1 h with h|h
 ·exact .inr h
 exact .inl ⟨[41],rfl,by simpa using h⟩
theorem sR{t:RTok}(h:∃ s:Bs,s.length=1/\t=tk 5 s):iT t:=by
 obtain⟨s,h1,rfl⟩:=h;exact gL s (fun e=>by subst e;cases h1) (by omega)
theorem binB_ln{s:Bs}(h:mS s=true):s≠[]/\s.length<=2:=by
 unfold mS at h;simp only[Bool.or_eq_true,beq_iff_eq]at h;rcases h with((((((((((h|h)|h)|h)|h)|h)|h)|h)|h)|h)|h)|h <;> subst h <;> decide
theorem unB_ln{s:Bs}(h:unB s=true):s≠[]/\s.length<=2:=by
 unfold unB at h;simp only[Bool.or_eq_true,beq_iff_eq]at h;rcases h with(h|h)|h <;> subst h <;> decide
theorem uEV{s:Bs}(h:bY s=true):s.length<=32:=by
 unfold bY at h;simp only[yh,decide_eq_true_eq]at h;exact h.1.1.1.2
theorem uFK{s:Bs}(h:bS s=true):s.length<=32:=by
 unfold bS at h;simp only[yh,decide_eq_true_eq]at h;exact h.1.1.1.1.2
theorem lQ{l:List (List RTok)}{t:RTok}(h:t∈l.headD []):∃ a∈l,t∈a:=by
 cases l with
 |nil=>cases h
 |cons a r=>exact⟨a,List.mem_cons_self,h⟩
theorem nodeT_ok{v:Say}(hv:v.ok){R C:AxV}(hR:mO R)(hC:mO C)(h:NodeH)(lv:List Int)(ts:List (List RTok))(k:Int)(ks:List Int)(hr:bJ h ts.length ks k=true)(hk:∀ a∈ts,∀ t∈a,iT t):∀ t∈dN v R C h lv ts,iT t:=by
 have s9:∀ t,(∃ a∈ts,t∈a)->iT t:=fun t ⟨a,ha,ht⟩=>hk a ha t ht
 have h44:iT (tk 5 [44]):=gL _ (by simp) (by decide);unfold dN;by_cases h0:h.kind=0
 ·rw[if_pos h0];exact litT_ok (nB hr h0).1
 rw[if_neg h0];by_cases h1:h.kind=1\/h.kind=3
 ·rw[if_pos h1];exact cellT_ok hv hR hC h
 rw[if_neg h1];by_cases h2:h.kind=2
 ·rw[if_pos h2];exact spanT_ok hv hR hC h.a h.b
 rw[if_neg h2];by_cases h4:h.kind=4
 ·rw[if_pos h4];have hl:=uEV (yV hr h4).1;intro t ht;rcases ym.1 ht with rfl|ht
  ·exact⟨by show h.name.length<=1000;omega,fun e=>by cases e⟩
  rcases ym.1 ht with rfl|ht
  ·exact gL _ (by simp) (by decide)
  rcases List.mem_append.1 ht with ht|ht
  ·rcases pC ht with e|e
   ·subst e;exact h44
   exact s9 t e
  rw[yf]at ht;subst ht;exact gL _ (by simp) (by decide)
 rw[if_neg h4];by_cases h5:h.kind=5
 ·rw[if_pos h5];obtain⟨e1,e2⟩:=unB_ln (pJ hr h5).1;have hnm:iT (tk 5 h.name):=gL _ e1 (by omega)
  split
  ·intro t ht;rcases List.mem_append.1 ht with ht|ht
   ·rcases mB ht with e|e
    ·exact sR e
    exact s9 t (lQ e)
   rw[yf]at ht;subst ht;exact hnm
  intro t ht;rcases ym.1 ht with rfl|ht
  ·exact hnm
  rcases mB ht with e|e
  ·exact sR e
  exact s9 t (lQ e)
 rw[if_neg h5];by_cases h6:h.kind=6
 ·rw[if_pos h6];obtain⟨e1,e2⟩:=binB_ln (iH hr h6).1;intro t ht;rcases List.mem_append.1 ht with ht|ht
  ·rcases mB ht with e|e
   ·exact sR e
   exact s9 t (lQ e)
  rcases ym.1 ht with rfl|ht
  ·exact gL _ e1 (by omega)
  rcases mB ht with e|e
  ·exact sR e
  obtain⟨a,ha,ht⟩:=lQ e;exact s9 t ⟨a,List.mem_of_mem_tail ha,ht⟩
 rw[if_neg h6];by_cases h7:h.kind=7
 ·rw[if_pos h7];have hl:=uFK (yW hr h7).1;intro t ht;rw[yf]at ht;subst ht;exact⟨by show h.name.length<=1000;omega,fun e=>by cases e⟩
 rw[if_neg h7];by_cases h8:h.kind=8
 ·rw[if_pos h8];intro t ht;rcases List.mem_append.1 ht with ht|ht
  ·rcases vX ht with e|e
   ·exact sR e
   exact s9 t e
  rw[yf]at ht;subst ht;exact gL _ (by simp) (by decide)
 rw[if_neg h8];intro t ht;cases ht
mutual
theorem xJ{v:Say}(hv:v.ok){R C:AxV}(hR:mO R)(hC:mO C):∀ (t:Tree) (k:Int),t.right k=true->∀ x∈t.toks v R C,iT x
 | .mk h l,k,hr=>by
  obtain⟨h1,h2⟩:=eC hr;have ih:=zR hv hR hC l h.kind h2;rw[Tree.toks];exact nodeT_ok hv hR hC h (l.map bP) (bH v R C l) k (l.map fun t=>t.h.kind) (by rw[bT];exact h1) ih
theorem zR{v:Say}(hv:v.ok){R C:AxV}(hR:mO R)(hC:mO C):∀ (l:List Tree) (k:Int),aZ l k=true->∀ a∈bH v R C l,∀ x∈a,iT x
 | [],_,_=>by intro a ha;cases ha
 |t::r,k,hr=>by
  simp only[aZ,yh]at hr;intro a ha;rw[bH]at ha;rcases ym.1 ha with rfl|ha
  ·exact xJ hv hR hC t k hr.1.2
  exact zR hv hR hC r k hr.2 a ha
end
theorem nZ{t:Tree}(h:dP t=0):t.right 6=true/\t.size<=256:=by
 unfold dP at h
 split at h
 ·cases h
 split at h
 ·cases h
 split at h
 ·exact⟨by assumption,by omega⟩
 cases h
end Go.Proofs.YtjfihpaeglpblaaGreatDoor
