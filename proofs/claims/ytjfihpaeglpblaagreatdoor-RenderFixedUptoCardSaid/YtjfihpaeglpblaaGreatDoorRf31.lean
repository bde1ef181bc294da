/-
  Lemmas, part 31: RsC PlR3 PlR4 PlR5 PlR6.
-/
import Derived.Test.YtjfihpaeglpblaaGreatDoorRf22
import Derived.Test.YtjfihpaeglpblaaGreatDoorRf23
set_option maxHeartbeats 100000000
set_option maxRecDepth 1000000
namespace Go.Proofs.YtjfihpaeglpblaaGreatDoor
open Go.RowKit
def uCU:List Value:=vI 1::(jK.toList++(aH tree0.h none 0 0).toList)
theorem infoCont:(Tryz.prog.info? 67).map (·.size)=some uCU.length:=by kernel_rfl
theorem zW(w:World)(hT:Tab w)(hP:PowTab w):Calls Tryz.prog 26 #[.agg uCU.toArray,.pointer none,.pointer none] w fun e w'=>e=.returned (vS #[39,84,82,85,69])/\Below w.heap.size w w':=by
 obtain⟨W0,aj⟩:=zD (w.alloc (.cells uCU.toArray 67))
 have ak:=zh aj;have aq:=zA aj;have HL:=zL aj;have HR:Hid (∀ W,Below W0.heap.size W0 W->W.cell? ⟨w.heap.size,0,none⟩=some (vI 1)/\W.cell? ⟨w.heap.size,1,none⟩=some (vI 2)/\W.cell? ⟨w.heap.size,2,none⟩=some (vI 0)/\W.cell? ⟨w.heap.size,3,none⟩=some (vI 0)/\W.cell? ⟨w.heap.size,4,none⟩=some (vS #[84,82,85,69])/\W.cell? ⟨w.heap.size,5,none⟩=some (.bool false)/\W.cell? ⟨w.heap.size,6,none⟩=some (vI 0)):=zh (fun W hb=>by
  have h:=HL.out.next hb;exact⟨h.cell 0,h.cell 1,h.cell 2,h.cell 3,h.cell 4,h.cell 5,h.cell 6⟩)
 have C1:Hid (Calls Tryz.prog 59 #[.agg jK] W0 fun x w'=>x=.returned (.bool true)/\Below W0.heap.size W0 w'):=zh (by
  have h:=pS lJ W0 (by decide) (by decide) (by decide);rw[show aR lJ=true from by kernel_rfl]at h;exact h)
 have C2:Hid (∀ W,Below w.heap.size w W->Calls Tryz.prog 60 #[.agg jK] W fun x w'=>x=.returned (vS #[84,82,85,69])/\Below W.heap.size W w'):=zh (fun W hb=>by
  have h:=xX lJ W (hT.next hb) (hP.next hb) (by decide) (by decide) (fun h=>by cases h);rw[show uDT lJ=[84,82,85,69] from by kernel_rfl]at h;exact h)
 have C3:Hid (∀ W,Below w.heap.size w W->Calls Tryz.prog 61 #[.agg jK] W fun x w'=>x=.returned (.bool true)/\Below W.heap.size W w'):=zh (fun W hb=>isQ_any W);obtain⟨x0,x1,x2,x3,x4,x5,x6⟩:=HR.out W0 zB;have HI:=zh infoCont;generalize uCU=Cn at *;clear aj hT hP HL
 go_in
 go_upto_region 1 with fail
 rw[<- ak.out];clear ak
 go_wp2_with (first
  |((with_reducible refine C1.out.mono ?_);rintro e w1 ⟨rfl,hb⟩;have bf:=zT aq hb;have HK1:=zh hb;clear x0 x1 x2 x3 x4 x5 x6;obtain⟨x0,x1,x2,x3,x4,x5,x6⟩:=HR.out w1 hb;clear hb)
  |((with_reducible refine(C2.out _ bf.out).mono ?_);rintro e w2 ⟨rfl,hb⟩;have ba:=zT bf hb;have fj:=zT HK1 hb;clear x0 x1 x2 x3 x4 x5 x6;obtain⟨x0,x1,x2,x3,x4,x5,x6⟩:=HR.out w2 fj.out;clear hb)
  |((with_reducible refine(C3.out _ ba.out).mono ?_);rintro e w3 ⟨rfl,hb⟩;have bi:=zT ba hb;clear hb))
 go_ret
 exact⟨rfl,bi.out⟩
theorem gO{k:Int}:∀ {l:List Tree} (i:Nat) (hi:i<l.length),aT l k=true->(l[i]'hi).right k=true/\(k=8->(l[i]'hi).h.kind=0)
 | [],_,hi,_=>absurd hi (by simp)
 |t::r,0,_,h=>by
  simp only[aT,yh,Bool.or_eq_true,decide_eq_true_eq]at h;exact⟨h.1.2,fun e=>h.1.1.resolve_left (fun x=>x e)⟩
 |t::r,i+1,hi,h=>by
  simp only[aT,yh]at h;exact gO (l:=r) i (by simpa using hi) h.2
theorem cY{h:NodeH}{l:List Tree}{k:Int}(hr:(Tree.mk h l).right k=true):aV h l.length (l.map fun t=>t.h.kind) k=true/\aT l h.kind=true:=by
 rw[Tree.right]at hr;simpa using hr
theorem lW{h:NodeH}{n:Nat}{ks:List Int}{k:Int}(hr:aV h n ks k=true)(hk:h.kind=0):aR h.v=true/\h.v.kind≠0:=by
 unfold aV at hr;rw[if_pos hk]at hr;simp only[cS,yh,decide_eq_true_eq]at hr;exact⟨hr.1.1.1.2,hr.1.1.1.1⟩
theorem xO{h:NodeH}{n:Nat}{ks:List Int}{k:Int}(hr:aV h n ks k=true)(hk:h.kind=2):¬ (h.a.row=id0/\h.a.col=id0)/\n=0:=by
 unfold aV at hr;rw[if_neg (by omega),if_neg (by omega),if_pos hk]at hr;simp only[yh,decide_eq_true_eq]at hr;refine⟨fun⟨e1,e2⟩=>?_,hr.2⟩;have:=hr.1.1;simp[bM,e1,e2]at this
theorem xP{h:NodeH}{n:Nat}{ks:List Int}{k:Int}(hr:aV h n ks k=true)(hk:h.kind=4):bN h.name=true/\n<=32:=by
 unfold aV at hr;rw[if_neg (by omega),if_neg (by omega),if_neg (by omega),if_pos hk]at hr;simp only[yh,decide_eq_true_eq]at hr;exact⟨hr.1.1.1,hr.1.1.2⟩
theorem oC{h:NodeH}{n:Nat}{ks:List Int}{k:Int}(hr:aV h n ks k=true)(hk:h.kind=5):unB h.name=true/\n=1:=by
 unfold aV at hr;rw[if_neg (by omega),if_neg (by omega),if_neg (by omega),if_neg (by omega),if_pos hk]at hr;simp only[yh,decide_eq_true_eq]at hr;exact⟨hr.1.1,hr.1.2⟩
theorem gN{h:NodeH}{n:Nat}{ks:List Int}{k:Int}(hr:aV h n ks k=true)(hk:h.kind=6):lO h.name=true/\n=2:=by
 unfold aV at hr;rw[if_neg (by omega),if_neg (by omega),if_neg (by omega),if_neg (by omega),if_neg (by omega),if_pos hk]at hr;simp only[yh,decide_eq_true_eq]at hr;exact⟨hr.1.1,hr.1.2⟩
theorem xQ{h:NodeH}{n:Nat}{ks:List Int}{k:Int}(hr:aV h n ks k=true)(hk:h.kind=7):bB h.name=true/\n=0:=by
 unfold aV at hr;rw[if_neg (by omega),if_neg (by omega),if_neg (by omega),if_neg (by omega),if_neg (by omega),if_neg (by omega),if_pos hk]at hr;simp only[yh,decide_eq_true_eq]at hr;exact⟨hr.1.1,hr.2⟩
theorem sD{h:NodeH}{n:Nat}{ks:List Int}{k:Int}(hr:aV h n ks k=true)(hk:h.kind=8):∃ r c:Nat,h.rows=(r:Int)/\1<=r/\1<=c/\n=r*c:=by
 unfold aV at hr;rw[if_neg (by omega),if_neg (by omega),if_neg (by omega),if_neg (by omega),if_neg (by omega),if_neg (by omega),if_neg (by omega),if_pos hk]at hr;simp only[yh,decide_eq_true_eq]at hr;obtain⟨⟨⟨h1,h2⟩,h3⟩,_⟩:=hr;obtain⟨r,qi⟩:∃ r:Nat,h.rows=(r:Int):=⟨h.rows.toNat,by omega⟩
 rw[qi]at h1 h3;have h4:n % r=0:=by
  rw[<- Int.ofNat_tmod]at h3
  exact_mod_cast h3
 obtain⟨c,hc⟩:=Nat.dvd_of_mod_eq_zero h4;refine⟨r,c,qi,by omega,?_,hc⟩;rcases Nat.eq_zero_or_pos c with h0|h0
 ·subst h0;omega
 exact h0
theorem pJ{h:NodeH}{n:Nat}{ks:List Int}{k:Int}(hr:aV h n ks k=true):h.kind=0\/(h.kind=1\/h.kind=3)\/h.kind=2\/h.kind=4\/h.kind=5\/h.kind=6\/h.kind=7\/h.kind=8\/h.kind=9:=by
 unfold aV at hr;by_cases h0:h.kind=0;· exact .inl h0
 by_cases h1:h.kind=1\/h.kind=3;· exact .inr (.inl h1)
 by_cases h2:h.kind=2;· simp[h2]
 by_cases h4:h.kind=4;· simp[h4]
 by_cases h5:h.kind=5;· simp[h5]
 by_cases h6:h.kind=6;· simp[h6]
 by_cases h7:h.kind=7;· simp[h7]
 by_cases h8:h.kind=8;· simp[h8]
 by_cases h9:h.kind=9;· simp[h9]
 rw[if_neg h0,if_neg h1,if_neg h2,if_neg h4,if_neg h5,if_neg h6,if_neg h7,if_neg h8,if_neg h9]at hr;cases hr
theorem cV(v:Say)(R C:AxV):∀ (l:List Tree),(bE v R C l).length=l.length
 | []=>rfl
 |t::r=>by rw[bE,yi,yi,cV v R C r]
theorem uV(v:Say)(R C:AxV):∀ (l:List Tree) (i:Nat) (hi:i<l.length) (hj:i<(bE v R C l).length),(bE v R C l)[i]'hj=(l[i]'hi).toks v R C
 | [],_,hi,_=>absurd hi (by simp)
 |t::r,0,_,_=>by simp[bE]
 |t::r,i+1,hi,hj=>by
  simp only[bE,List.getElem_cons_succ];exact uV v R C r i (by simpa using hi) _
def fN:List (List RTok)->Nat
 | []=>0
 |a::r=>a.length+fN r
theorem kD:∀ (a b:List (List RTok)),fN (a++b)=fN a+fN b
 | [],b=>by simp[fN]
 |x::a,b=>by rw[yp,fN,kD a b,fN];omega
theorem uT(l:List (List RTok))(k:Nat):fN (l.take k)<=fN l:=by
 have:=kD (l.take k) (l.drop k);rw[List.take_append_drop]at this;omega
theorem kL:∀ (l:List (List RTok)),(bX l).length<=fN l+(l.length-1)
 | []=>by simp[bX,fN]
 | [a]=>by simp[bX,fN]
 |a::b::r=>by
  have ih:=kL (b::r);rw[bX,fN,yl,yi];simp only[yi]at ih ⊢;omega
theorem kO(wide:Nat)(ts:List (List RTok)):∀ k,(dI wide ts k).length<=fN (ts.take (k*wide))+k*wide+k
 |0=>by simp[dI]
 |k+1=>by
  have ih:=kO wide ts k;have hl:=kL ((ts.drop (k*wide)).take wide);have h1:((ts.drop (k*wide)).take wide).length<=wide:=by rw[zc];omega
  have h2:fN (ts.take ((k+1)*wide))=fN (ts.take (k*wide))+fN ((ts.drop (k*wide)).take wide):=by
   rw[<- kD]
   congr 1
   rw[Nat.succ_mul,List.take_add]
  rw[dI,yl,yi,h2,Nat.succ_mul];omega
theorem iN(a b:Int)(ts:List RTok):(eZ a b ts).length<=ts.length+2:=by
 unfold eZ
 split <;> simp
theorem litT_len(x:Val):(kX x).length<=2:=by
 unfold kX
 repeat' split
 all_goals simp
theorem uEE(v:Say)(R C:AxV)(h:NodeH):(iE v R C h).length<=2:=by
 unfold iE eK
 repeat' split
 all_goals simp
theorem uFP(v:Say)(R C:AxV)(a b:Cor):(jJ v R C a b).length<=3:=by
 unfold jJ eK
 repeat' split
 all_goals simp
theorem uEW(v:Say)(R C:AxV)(h:NodeH)(lv:List Int)(ts:List (List RTok))(k:Int)(ks:List Int)(hr:aV h ts.length ks k=true):(eD v R C h lv ts).length<=4+fN ts+2*ts.length:=by
 have pz:=kL ts;have hhd:(ts.headD []).length<=fN ts:=by
  cases ts with
  |nil=>simp
  |cons a r=>simp[fN]
 unfold eD;by_cases h0:h.kind=0
 ·rw[if_pos h0];have:=litT_len h.v;omega
 rw[if_neg h0];by_cases h1:h.kind=1\/h.kind=3
 ·rw[if_pos h1];have:=uEE v R C h;omega
 rw[if_neg h1];by_cases h2:h.kind=2
 ·rw[if_pos h2];have:=uFP v R C h.a h.b;omega
 rw[if_neg h2];by_cases h4:h.kind=4
 ·rw[if_pos h4];simp only[yi,yl,List.length_nil];omega
 rw[if_neg h4];by_cases h5:h.kind=5
 ·rw[if_pos h5]
  split
  ·have:=iN (lv.headD 0) 7 (ts.headD []);simp only[yl,yi,List.length_nil];omega
  have:=iN (lv.headD 0) 6 (ts.headD []);simp only[yi];omega
 rw[if_neg h5];by_cases h6:h.kind=6
 ·rw[if_pos h6];obtain⟨_,hn⟩:=gN hr h6
  match ts,hn with
  | [a,b],_=>
   have e1:=iN (lv.headD 0) (bU h.name) a;have e2:=iN (lv.tail.headD 0) (bU h.name+1) b;simp only[List.headD_cons,List.tail_cons,yl,yi,fN,List.length_nil];omega
 rw[if_neg h6];by_cases h7:h.kind=7
 ·rw[if_pos h7];simp;omega
 rw[if_neg h7];by_cases h8:h.kind=8
 ·rw[if_pos h8];obtain⟨r,c,qi,i7,du,hn⟩:=sD hr h8;rw[qi];have hd:ts.length / (r:Int).toNat=c:=by rw[Int.toNat_natCast,hn];exact Nat.mul_div_cancel_left c (by omega)
  rw[hd,Int.toNat_natCast,yl];have e1:=kO c ts r;have e2:=uT ts (r*c);have e3:r<=r*c:=Nat.le_mul_of_pos_right r du;simp only[yi,List.length_nil];omega
 rw[if_neg h8];simp
mutual
theorem kE(v:Say)(R C:AxV):∀ (t:Tree) (k:Int),t.right k=true->(t.toks v R C).length+2<=6*t.size
 | .mk h l,k,hr=>by
  obtain⟨h1,h2⟩:=cY hr;have ih:=iM v R C l h.kind h2;have hn:=uEW v R C h (l.map eU) (bE v R C l) k (l.map fun t=>t.h.kind) (by rw[cV];exact h1);rw[cV]at hn;rw[Tree.toks,Tree.size];omega
theorem iM(v:Say)(R C:AxV):∀ (l:List Tree) (k:Int),aT l k=true->fN (bE v R C l)+2*l.length<=6*aM l
 | [],_,_=>by simp[bE,fN,aM]
 |t::r,k,hr=>by
  simp only[aT,yh]at hr;have h1:=kE v R C t k hr.1.2;have h2:=iM v R C r k hr.2;rw[bE,fN,aM,yi];omega
end
def gY(t:RTok):Prop:=t.text.length<=1000/\(t.kind=5->t.text≠[])
theorem yD(m e:Int)(hR:bF m e=true):(cC m e).length<=255:=by
 rcases Nat.lt_or_ge 255 (cC m e).length with hl|hl
 ·have hp:=uAX _ _ hR;unfold vW at hp;rw[if_pos hl]at hp;cases hp
 exact hl
theorem uAT{m e:Int}(h:bF m e=true):bF (-m) e=true:=by
 unfold bF at h ⊢;by_cases h0:m=0
 ·subst h0;simpa using h
 rw[if_neg h0]at h;rw[if_neg (by omega),Int.natAbs_neg];exact h
theorem wR(f:Int):(bA f).length<=7:=by
 unfold bA
 split
 ·generalize f.toNat=k;unfold jV
  split <;> decide
 decide
theorem uAG{z:Int}(h1:-1000<=z)(h2:z<=1000):(Lib.itoa z).length<=5:=by
 unfold Lib.itoa;have h3:=cO z.natAbs 3 (by have:(10:Nat) ^ (3+1)=10000:=rfl;omega);have h4:=cO z.toNat 3 (by have:(10:Nat) ^ (3+1)=10000:=rfl;omega)
 split
 ·simp;omega
 omega
theorem litT_ok{x:Val}(hR:aR x=true):∀ t∈kX x,gY t:=by
 unfold kX;by_cases h1:x.kind=1
 ·rw[if_pos h1];have hp:bF x.mant x.exp=true:=by
   unfold aR at hR;simp only[yh]at hR;have:=hR.2
   rwa [if_pos h1]at this
  by_cases hm:x.mant<0
  ·rw[if_pos hm];have:=yD _ _ (uAT hp);intro t ht;simp only[ym,List.not_mem_nil,or_false]at ht;rcases ht with rfl|rfl
   ·exact⟨by decide,fun _=>by simp⟩
   exact⟨by show (cC (-x.mant) x.exp).length<=1000;omega,fun h=>by cases h⟩
  rw[if_neg hm];have:=yD _ _ hp;intro t ht;simp only[ym,List.not_mem_nil,or_false]at ht;subst ht;exact⟨by show (cC x.mant x.exp).length<=1000;omega,fun h=>by cases h⟩
 rw[if_neg h1];by_cases h2:x.kind=2
 ·rw[if_pos h2];have hl:x.text.length<=255:=by
   unfold aR at hR;simp only[yh]at hR;have:=hR.2;rw[if_neg h1,if_pos h2]at this;simpa using this
  intro t ht;simp only[ym,List.not_mem_nil,or_false]at ht;subst ht;exact⟨by show x.text.length<=1000;omega,fun h=>by cases h⟩
 rw[if_neg h2];by_cases h4:x.kind=4
 ·rw[if_pos h4];have:=wR x.fault;intro t ht;simp only[ym,List.not_mem_nil,or_false]at ht;subst ht;exact⟨by show (bA x.fault).length<=1000;omega,fun h=>by cases h⟩
 rw[if_neg h4];intro t ht;simp only[ym,List.not_mem_nil,or_false]at ht;subst ht;refine⟨?_,fun h=>by cases h⟩;show (dZ x).1.length<=1000;unfold dZ;rw[if_neg h1,if_neg h2];by_cases h3:x.kind=3
 ·rw[if_pos h3];cases x.truth <;> decide
 rw[if_neg h3,if_neg h4]
 decide
theorem mH:∀ t∈eK,gY t:=by
 intro t ht;simp only[eK,ym,List.not_mem_nil,or_false]at ht;subst ht;exact⟨by decide,fun h=>by cases h⟩
theorem wA{p q:Nat}{f:Bool}(hp:p<=400)(hq:q<=400):(bV p q f).length<=8:=by
 unfold bV;have h1:=cO (p+1) 3 (by have:(10:Nat) ^ (3+1)=10000:=rfl;omega);have h2:=uAG (z:=(p:Int)-(q:Int)) (by omega) (by omega)
 repeat' split
 ·omega
 ·decide
 simp;omega
theorem lX{v:Say}(hv:v.ok){r c:Nat}(hr:r<=400)(hc:c<=400)(fr fc:Bool):gY (dX v r c fr fc):=by
 cases v with
 |plain=>
  have h1:=cO (r+1) 3 (by have:(10:Nat) ^ (3+1)=10000:=rfl;omega);have h2:=iG (c+1) (by omega);refine⟨?_,fun h=>by cases h⟩;show (mO r c fr fc).length<=1000;unfold mO;cases fr <;> cases fc <;> simp[qR] <;> omega
 |seen a b=>
  have h1:=wA (f:=fr) hr hv.1;have h2:=wA (f:=fc) hc hv.2;refine⟨?_,fun h=>by cases h⟩;show (82::(bV r a fr++67::bV c b fc)).length<=1000;simp only[yi,yl];omega
theorem uS{v:Say}(hv:v.ok){r:Nat}(hr:r<=400)(f:Bool):gY (fE v r f):=by
 cases v with
 |plain=>
  have h1:=cO (r+1) 3 (by have:(10:Nat) ^ (3+1)=10000:=rfl;omega);cases f
  ·exact⟨by show (Lib.decDigits (r+1)).length<=1000;omega,fun h=>by cases h⟩
  exact⟨by show (36::Lib.decDigits (r+1)).length<=1000;rw[yi];omega,fun h=>by cases h⟩
 |seen a b=>
  have h1:=wA (f:=f) hr hv.1;exact⟨by show (82::bV r a f).length<=1000;rw[yi];omega,fun h=>by cases h⟩
theorem uR{v:Say}(hv:v.ok){c:Nat}(hc:c<=400)(f:Bool):gY (fD v c f):=by
 cases v with
 |plain=>
  have h2:=iG (c+1) (by omega);cases f
  ·exact⟨by show (eH (c+1)).length<=1000;omega,fun h=>by cases h⟩
  exact⟨by show (36::eH (c+1)).length<=1000;rw[yi];omega,fun h=>by cases h⟩
 |seen a b=>
  have h1:=wA (f:=f) hc hv.2;exact⟨by show (67::bV c b f).length<=1000;rw[yi];omega,fun h=>by cases h⟩
theorem fS(s:Bs)(h:s≠[])(hl:s.length<=1000):gY (tk 5 s):=⟨hl,fun _=>h⟩
theorem iK{A:AxV}(hA:mB A)(x:IdR):aF A x<=300:=by
 match A,hA with
 |none,_=>show (-1:Int)<=300;omega
 |some (ids,fl),⟨h1,h2,_,_⟩=>
  show gM x 0 (aK ids fl)<=300;have:=dO ids fl;by_cases hm:x∈aK ids fl
  ·obtain⟨k,hk,hg⟩:=iI x _ 0 hm;have:=(List.getElem?_eq_some_iff.1 hg).1;rw[hk];omega
  rw[eN x _ 0 hm];omega
theorem cellT_ok{v:Say}(hv:v.ok){R C:AxV}(hR:mB R)(hC:mB C)(h:NodeH):∀ t∈iE v R C h,gY t:=by
 unfold iE
 split
 ·exact mH
 have h1:=iK hR h.a.row;have h2:=iK hC h.a.col;intro t ht;rcases ym.1 ht with rfl|ht
 ·exact lX hv (by omega) (by omega) _ _
 split at ht
 ·simp only[ym,List.not_mem_nil,or_false]at ht;subst ht;exact fS _ (by simp) (by decide)
 cases ht
theorem sJ{a b c:RTok}(ha:gY a)(hb:gY b)(hc:gY c):∀ t∈[a,b,c],gY t:=by
 intro t ht;simp only[ym,List.not_mem_nil,or_false]at ht;rcases ht with rfl|rfl|rfl
 ·exact ha
 ·exact hb
 exact hc
theorem spanT_ok{v:Say}(hv:v.ok){R C:AxV}(hR:mB R)(hC:mB C)(a b:Cor):∀ t∈jJ v R C a b,gY t:=by
 have hs:gY (tk 5 [58]):=fS _ (by simp) (by decide);unfold jJ;by_cases h1:a.row=id0
 ·rw[if_pos h1];rcases dM hC a.col b.col with h|⟨n,m,hn,hm,h⟩
  ·rw[h];exact mH
  rw[h];exact sJ (uR hv (by simp;omega) _) hs (uR hv (by simp;omega) _)
 rw[if_neg h1];by_cases h2:a.col=id0
 ·rw[if_pos h2];rcases dM hR a.row b.row with h|⟨n,m,hn,hm,h⟩
  ·rw[h];exact mH
  rw[h];exact sJ (uS hv (by simp;omega) _) hs (uS hv (by simp;omega) _)
 rw[if_neg h2];rcases dM hR a.row b.row with h|⟨n,m,hn,hm,h⟩
 ·rw[h];exact mH
 rcases dM hC a.col b.col with g|⟨n',m',hn',ly,g⟩
 ·rw[h,g];exact mH
 rw[h,g];exact sJ (lX hv (by simp;omega) (by simp;omega) _ _) hs (lX hv (by simp;omega) (by simp;omega) _ _)
theorem nS:∀ {l:List (List RTok)} {t:RTok},t∈bX l->t=tk 5 [44]\/∃ a∈l,t∈a
 | [],_,h=>by cases h
 | [a],t,h=>.inr ⟨a,List.mem_cons_self,h⟩
 |a::b::r,t,h=>by
  rw[bX]at h;rcases List.mem_append.1 h with h|h
  ·exact .inr ⟨a,List.mem_cons_self,h⟩
  rcases ym.1 h with h|h
  ·exact .inl h
  rcases nS h with h|⟨x,hx,h⟩
  ·exact .inl h
  exact .inr ⟨x,zg _ hx,h⟩
theorem uP{wide:Nat}{ts:List (List RTok)}{t:RTok}:∀ {k:Nat},t∈dI wide ts k->(∃ s:Bs,s.length=1/\t=tk 5 s)\/∃ a∈ts,t∈a
 |0,h=>by cases h
 |k+1,h=>by
  rw[dI]at h;rcases List.mem_append.1 h with h|h
  ·exact uP h
  rcases ym.1 h with h|h
  ·exact .inl ⟨_,by split <;> rfl,h⟩
  rcases nS h with h|⟨x,hx,h⟩
  ·exact .inl ⟨_,rfl,h⟩
  exact .inr ⟨x,List.mem_of_mem_drop (List.mem_of_mem_take hx),h⟩
theorem kU{a b:Int}{ts:List RTok}{t:RTok}(h:t∈eZ a b ts):(∃ s:Bs,s.length=1/\t=tk 5 s)\/t∈ts:=by
 unfold eZ at h
 split at h
 ·exact .inr h
 rcases ym.1 h with h|h
 ·exact .inl ⟨_,rfl,h⟩
 rcases List.mem_append.1 h with h|h
 ·exact .inr h
 exact .inl ⟨[41],rfl,by simpa using h⟩
theorem rQ{t:RTok}(h:∃ s:Bs,s.length=1/\t=tk 5 s):gY t:=by
 obtain⟨s,h1,rfl⟩:=h;exact fS s (fun e=>by subst e;cases h1) (by omega)
theorem binB_ln{s:Bs}(h:lO s=true):s≠[]/\s.length<=2:=by
 unfold lO at h;simp only[Bool.or_eq_true,beq_iff_eq]at h;rcases h with((((((((((h|h)|h)|h)|h)|h)|h)|h)|h)|h)|h)|h <;> subst h <;> decide
theorem unB_ln{s:Bs}(h:unB s=true):s≠[]/\s.length<=2:=by
 unfold unB at h;simp only[Bool.or_eq_true,beq_iff_eq]at h;rcases h with(h|h)|h <;> subst h <;> decide
theorem uED{s:Bs}(h:bN s=true):s.length<=32:=by
 unfold bN at h;simp only[yh,decide_eq_true_eq]at h;exact h.1.1.1.2
theorem uES{s:Bs}(h:bB s=true):s.length<=32:=by
 unfold bB at h;simp only[yh,decide_eq_true_eq]at h;exact h.1.1.1.1.2
theorem kI{l:List (List RTok)}{t:RTok}(h:t∈l.headD []):∃ a∈l,t∈a:=by
 cases l with
 |nil=>cases h
 |cons a r=>exact⟨a,List.mem_cons_self,h⟩
theorem nodeT_ok{v:Say}(hv:v.ok){R C:AxV}(hR:mB R)(hC:mB C)(h:NodeH)(lv:List Int)(ts:List (List RTok))(k:Int)(ks:List Int)(hr:aV h ts.length ks k=true)(hk:∀ a∈ts,∀ t∈a,gY t):∀ t∈eD v R C h lv ts,gY t:=by
 have rt:∀ t,(∃ a∈ts,t∈a)->gY t:=fun t ⟨a,ha,ht⟩=>hk a ha t ht
 have h44:gY (tk 5 [44]):=fS _ (by simp) (by decide);unfold eD;by_cases h0:h.kind=0
 ·rw[if_pos h0];exact litT_ok (lW hr h0).1
 rw[if_neg h0];by_cases h1:h.kind=1\/h.kind=3
 ·rw[if_pos h1];exact cellT_ok hv hR hC h
 rw[if_neg h1];by_cases h2:h.kind=2
 ·rw[if_pos h2];exact spanT_ok hv hR hC h.a h.b
 rw[if_neg h2];by_cases h4:h.kind=4
 ·rw[if_pos h4];have hl:=uED (xP hr h4).1;intro t ht;rcases ym.1 ht with rfl|ht
  ·exact⟨by show h.name.length<=1000;omega,fun e=>by cases e⟩
  rcases ym.1 ht with rfl|ht
  ·exact fS _ (by simp) (by decide)
  rcases List.mem_append.1 ht with ht|ht
  ·rcases nS ht with e|e
   ·subst e;exact h44
   exact rt t e
  rw[yf]at ht;subst ht;exact fS _ (by simp) (by decide)
 rw[if_neg h4];by_cases h5:h.kind=5
 ·rw[if_pos h5];obtain⟨e1,e2⟩:=unB_ln (oC hr h5).1;have hnm:gY (tk 5 h.name):=fS _ e1 (by omega)
  split
  ·intro t ht;rcases List.mem_append.1 ht with ht|ht
   ·rcases kU ht with e|e
    ·exact rQ e
    exact rt t (kI e)
   rw[yf]at ht;subst ht;exact hnm
  intro t ht;rcases ym.1 ht with rfl|ht
  ·exact hnm
  rcases kU ht with e|e
  ·exact rQ e
  exact rt t (kI e)
 rw[if_neg h5];by_cases h6:h.kind=6
 ·rw[if_pos h6];obtain⟨e1,e2⟩:=binB_ln (gN hr h6).1;intro t ht;rcases List.mem_append.1 ht with ht|ht
  ·rcases kU ht with e|e
   ·exact rQ e
   exact rt t (kI e)
  rcases ym.1 ht with rfl|ht
  ·exact fS _ e1 (by omega)
  rcases kU ht with e|e
  ·exact rQ e
  obtain⟨a,ha,ht⟩:=kI e;exact rt t ⟨a,List.mem_of_mem_tail ha,ht⟩
 rw[if_neg h6];by_cases h7:h.kind=7
 ·rw[if_pos h7];have hl:=uES (xQ hr h7).1;intro t ht;rw[yf]at ht;subst ht;exact⟨by show h.name.length<=1000;omega,fun e=>by cases e⟩
 rw[if_neg h7];by_cases h8:h.kind=8
 ·rw[if_pos h8];intro t ht;rcases List.mem_append.1 ht with ht|ht
  ·rcases uP ht with e|e
   ·exact rQ e
   exact rt t e
  rw[yf]at ht;subst ht;exact fS _ (by simp) (by decide)
 rw[if_neg h8];intro t ht;cases ht
mutual
theorem uDR{v:Say}(hv:v.ok){R C:AxV}(hR:mB R)(hC:mB C):∀ (t:Tree) (k:Int),t.right k=true->∀ x∈t.toks v R C,gY x
 | .mk h l,k,hr=>by
  obtain⟨h1,h2⟩:=cY hr;have ih:=yB hv hR hC l h.kind h2;rw[Tree.toks];exact nodeT_ok hv hR hC h (l.map eU) (bE v R C l) k (l.map fun t=>t.h.kind) (by rw[cV];exact h1) ih
theorem yB{v:Say}(hv:v.ok){R C:AxV}(hR:mB R)(hC:mB C):∀ (l:List Tree) (k:Int),aT l k=true->∀ a∈bE v R C l,∀ x∈a,gY x
 | [],_,_=>by intro a ha;cases ha
 |t::r,k,hr=>by
  simp only[aT,yh]at hr;intro a ha;rw[bE]at ha;rcases ym.1 ha with rfl|ha
  ·exact uDR hv hR hC t k hr.1.2
  exact yB hv hR hC r k hr.2 a ha
end
theorem jA{t:Tree}(h:cL t=0):t.right 6=true/\t.size<=256:=by
 unfold cL at h
 split at h
 ·cases h
 split at h
 ·cases h
 split at h
 ·exact⟨by assumption,by omega⟩
 cases h
def Fst(t:RTok):Bool:=sP t.kind||t.kind==6||(t.kind==5&&(t.text==[45]||t.text==[43]||t.text==[40]||t.text==[123]))
theorem xV{t:Tree}{k:Int}(h:t.right k=true)(hk:k≠4):t.h.kind≠9:=by
 obtain⟨th,l⟩:=t;obtain⟨h1,_⟩:=cY h;intro e;have e:th.kind=9:=e;unfold aV at h1;rw[if_neg (by omega),if_neg (by omega),if_neg (by omega),if_neg (by omega),if_neg (by omega),if_neg (by omega),if_neg (by omega),if_neg (by omega),if_pos e]at h1;simp only[yh,decide_eq_true_eq]at h1;exact hk h1.1.1
def sZ(c:UInt8):Bool:=c==45||c==43||c==40||c==123||c==36||c==35||c==95||aC c||aZ c
def NoBl(s:Bs):Prop:=∀ c∈s,c≠32
def OkS(s:Bs):Prop:=NoBl s/\∃ c r,s=c::r/\sZ c=true
theorem NoBl.of{s:Bs}(h:s.all (· != 32)=true):NoBl s:=fun c hc=>by simpa using List.all_eq_true.1 h c hc
theorem NoBl.app{a b:Bs}(ha:NoBl a)(hb:NoBl b):NoBl (a++b):=fun c hc=>(List.mem_append.1 hc).elim (ha c) (hb c)
theorem OkS.of{s:Bs}(h:(s.all (· != 32)&&sZ (s.headD 32))=true):OkS s:=by
 simp only[yh]at h;cases s with
 |nil=>exact absurd h.2 (by decide)
 |cons c r=>exact⟨NoBl.of h.1,c,r,rfl,h.2⟩
theorem OkS.app{a b:Bs}(ha:OkS a)(hb:NoBl b):OkS (a++b):=by
 obtain⟨h,c,r,rfl,hc⟩:=ha;exact⟨h.app hb,c,r++b,rfl,hc⟩
theorem uAJ{s:Bs}(h:AllDig s):NoBl s:=fun c hc e=>by
 subst e;exact absurd (h 32 hc) (by decide)
theorem nb_cap{s:Bs}(h:∀ c∈s,aZ c=true):NoBl s:=fun c hc e=>by
 subst e;exact absurd (h 32 hc) (by decide)
theorem fir_dig{c:UInt8}(h:aC c=true):sZ c=true:=by unfold sZ;simp[h]
theorem uDA{c:UInt8}(h:aZ c=true):sZ c=true:=by unfold sZ;simp[h]
theorem uAP{s:Bs}(h:AllDig s)(h0:0<s.length):OkS s:=by
 cases s with
 |nil=>exact absurd h0 (by decide)
 |cons c r=>exact⟨uAJ h,c,r,rfl,fir_dig (h c List.mem_cons_self)⟩
theorem ok_dec(u:Nat):OkS (Lib.decDigits u):=uAP (vH u).1 (uCV u)
theorem ok_lets(c:Nat)(h:0<c):OkS (eH c):=by
 have h1:=(lets_is c).1;have h2:=wZ c h;generalize eH c=s at *;cases s with
 |nil=>exact absurd h2 (by decide)
 |cons x r=>exact⟨nb_cap h1,x,r,rfl,uDA (h1 x List.mem_cons_self)⟩
theorem nb_dol(b:Bool):NoBl (qR b):=by cases b <;> exact NoBl.of rfl
theorem ok_dol(b:Bool){s:Bs}(h:OkS s):OkS (qR b++s):=by
 cases b
 ·exact h
 exact OkS.app (a:=[36]) (OkS.of rfl) h.1
theorem ok_mark(row col:Nat)(a b:Bool):OkS (mO row col a b):=ok_dol b ((ok_lets (col+1) (by omega)).app ((nb_dol a).app (ok_dec (row+1)).1))
theorem nb_rep(n:Nat):NoBl (List.replicate n 48):=fun c hc=>by rw[(List.mem_replicate.1 hc).2];decide
theorem uAQ(m e:Int)(h:0<=m):OkS (cC m e):=by
 have hd:=(vH m.natAbs).1;have hp:=uCV m.natAbs;unfold cC;simp only[if_neg (show ¬ m<0 by omega),List.nil_append];generalize Lib.decDigits m.natAbs=t at *
 split
 ·exact(uAP hd hp).app (nb_rep _)
 split
 ·rename_i h1 h2
  have h3:OkS (t.take ((t.length:Int)+e).toNat):=uAP (fun c hc=>hd c (List.mem_of_mem_take hc)) (by rw[zc];omega);exact(h3.app (b:=[46]) (NoBl.of rfl)).app (uAJ fun c hc=>hd c (List.mem_of_mem_drop hc))
 exact(OkS.app (a:=[48,46]) (OkS.of rfl) (nb_rep _)).app (uAJ hd)
structure TxT(t:RTok):Prop where
 k:t.kind≠2
 nb:NoBl t.text
 fs:Fst t=true->∃ c r,t.text=c::r/\sZ c=true
def TxL(ts:List RTok):Prop:=∀ t∈ts,TxT t
theorem TxT.ok{k:Int}{s:Bs}(h:OkS s)(hk:k≠2):TxT (tk k s):=⟨hk,h.1,fun _=>h.2⟩
theorem TxT.sg{s:Bs}(h1:s.all (· != 32)=true)(h2:(!(Fst (tk 5 s))||sZ (s.headD 32))=true):TxT (tk 5 s):=⟨(by decide:(5:Int)≠2),NoBl.of h1,fun h=>by
 rw[h]at h2;cases s with
 |nil=>exact absurd h2 (by decide)
 |cons c r=>exact⟨c,r,rfl,by simpa using h2⟩⟩
theorem TxL.nil:TxL []:=fun _ h=>by cases h
theorem TxL.cons{t:RTok}{l:List RTok}(h:TxT t)(hl:TxL l):TxL (t::l):=fun x hx=>(ym.1 hx).elim (fun e=>e ▸ h) (hl x)
theorem fault_ok(n:Int)(h1:1<=n)(h2:n<=9):OkS (bA n):=by
 unfold bA;rw[if_pos ⟨h1,h2⟩];have h3:∀ k,k<10->1<=k->((jV k).all (· != 32)&&sZ ((jV k).headD 32))=true:=by decide
 exact OkS.of (h3 _ (by omega) (by omega))
theorem lit_tx{v:Val}(h2:v.kind≠2)(h0:v.kind≠0)(hr:aR v=true):TxL (kX v):=by
 unfold kX;by_cases h1:v.kind=1
 ·rw[if_pos h1]
  split
  ·exact TxL.cons (TxT.sg rfl rfl) (TxL.cons (TxT.ok (uAQ _ _ (by omega)) (by decide)) TxL.nil)
  exact TxL.cons (TxT.ok (uAQ _ _ (by omega)) (by decide)) TxL.nil
 rw[if_neg h1,if_neg h2];unfold aR at hr;rw[if_neg h1,if_neg h2]at hr;simp only[yh,Bool.or_eq_true,decide_eq_true_eq]at hr;by_cases h4:v.kind=4
 ·rw[if_pos h4];have h5:1<=v.fault/\v.fault<=9:=by
   rcases hr.2 with(h|h)|h
   ·omega
   ·omega
   exact⟨h.1.2,h.2⟩
  exact TxL.cons (TxT.ok (fault_ok _ h5.1 h5.2) (by decide)) TxL.nil
 rw[if_neg h4];have h3:v.kind=3:=by
  rcases hr.2 with(h|h)|h
  ·exact absurd h h0
  ·exact h
  exact absurd h.1.1 h4
 unfold dZ;rw[if_neg h1,if_neg h2,if_pos h3];cases v.truth
 ·exact TxL.cons (TxT.ok (OkS.of rfl) (by decide)) TxL.nil
 exact TxL.cons (TxT.ok (OkS.of rfl) (by decide)) TxL.nil
theorem ok_all{s:Bs}(p q:UInt8->Bool)(h0:0<s.length)(h1:q (s.headD 0)=true)(h2:s.all p=true)(hp:p 32=false)(hq:∀ c,q c=true->sZ c=true):OkS s:=by
 cases s with
 |nil=>exact absurd h0 (by decide)
 |cons c r=>
  refine⟨fun x hx e=>?_,c,r,rfl,hq c h1⟩;subst e;rw[List.all_eq_true.1 h2 32 hx]at hp;cases hp
theorem name_ok{s:Bs}(h:bB s=true):OkS s:=by
 unfold bB at h;simp only[yh,decide_eq_true_eq]at h;exact ok_all (fun c=>aZ c||aC c||c==95||c==46) (fun c=>aZ c||c==95) h.1.1.1.1.1 h.1.1.1.2 h.1.1.2 (by decide) (fun c hc=>by
  simp only[Bool.or_eq_true]at hc;rcases hc with hc|hc
  ·exact uDA hc
  rw[beq_iff_eq.1 hc];rfl)
theorem vY{h:NodeH}{n:Nat}{ks:List Int}{k:Int}(hr:aV h n ks k=true)(hk:h.kind=7):bB h.name=true:=by
 unfold aV at hr;rw[if_neg (by omega),if_neg (by omega),if_neg (by omega),if_neg (by omega),if_neg (by omega),if_neg (by omega),if_pos hk]at hr;simp only[yh]at hr;exact hr.1.1
end Go.Proofs.YtjfihpaeglpblaaGreatDoor
