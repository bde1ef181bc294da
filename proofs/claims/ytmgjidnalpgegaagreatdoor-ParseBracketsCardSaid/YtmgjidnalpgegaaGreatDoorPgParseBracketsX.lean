/-
  Lemmas of ParseBrackets: PlSt PlSim PlLoc PlTok PlBr PlBk ParseBracketsW.
-/
import Derived.Test.YtmgjidnalpgegaaGreatDoorPg27
namespace Go.Proofs.YtmgjidnalpgegaaGreatDoor
open Go.RowKit
section
variable {z:UInt8} (hz:Stp z)
include hz
end
theorem uDR(c:UInt8)(r:Bs)(hc:c=40∨c=41∨c=44):aR (c::r)=(5,[c],1):=by
 have hd:aC c=false:=by rcases hc with rfl | rfl | rfl <;> rfl
 have h46:c≠46:=by rcases hc with rfl | rfl | rfl <;> decide
 have hl:fB (c::r)=false:=by rcases hc with rfl | rfl | rfl <;> rfl
 have hw:∀ d,d≠c→aP (c::r) 0 d=false:=fun d hd=>by
  rw[vL];simpa using Ne.symm hd
 have hs:dZ (c::r)=1:=by
  unfold dZ Lib.hasPrefix;rcases hc with rfl | rfl | rfl <;> rfl
 have hf:bZ (c::r)=[]:=by
  unfold bZ kE;rw[hw 35 (by rcases hc with rfl | rfl | rfl <;> decide)];rfl
 unfold aR;rw[pI c r hd h46,if_neg (by omega),hl,hw 95 (by rcases hc with rfl | rfl | rfl <;> decide),hw 36 (by rcases hc with rfl | rfl | rfl <;> decide),hw 34 (by rcases hc with rfl | rfl | rfl <;> decide),hf,hs];rfl
theorem qT(c:UInt8)(r:Bs)(k:Nat)(hc:c=40∨c=41∨c=44):bF (c::r) k=rS ⟨5,[c],k⟩ (bF r (k+1)):=by
 have h:=uDR c r hc;rw[gF c r k (by rcases hc with rfl | rfl | rfl <;> decide) (by rw[h];exact Nat.one_ne_zero),h];rfl
theorem zY(s:Bs):iG (40::(s++[41]))=match iG s with
  | .error p=>.error (p+1)
  | .ok ts=>.ok (⟨5,[40],0⟩::(ts.map (bL 1)++[⟨5,[41],s.length+1⟩])):=by
 unfold iG;rw[qT 40 _ 0 (.inl rfl)];have h41:Stp 41:=.inr (.inl rfl);have hs:bF s (0+1)=mU 1 (bF s 0):=nN s 0 1;cases hx:bF s 0 with
 | error p=>
  rw[hx]at hs;rw[mK h41 s.length s (0+1) (p+1) (Nat.le_refl _) hs];rfl
 | ok ts=>
  rw[hx]at hs;rw[qU h41 [] s.length s (0+1) _ (Nat.le_refl _) hs,qT 41 [] _ (.inr (.inl rfl)),jW];show Except.ok _=Except.ok _
  congr 1
  show _::(ts.map (bL 1)++[_])=_;rw[show 0+1+s.length=s.length+1 by omega]
theorem EndR.sorted{ρ:Tok→Tok→Prop}{ts ts':List Tok}(h:EndR ρ ts ts'):∀ x∈ts,(Go.Proofs.YtmgjidnalpgegaaGreatDoor.hd ts).place≤x.place:=by
 induction h with
 | one h h1=>intro x hx;rw[List.mem_singleton.1 hx];exact Nat.le_refl _
 | more h h1 hm hr ih=>
  intro x hx;rcases List.mem_cons.1 hx with rfl | hx
  ·exact Nat.le_refl _
  ·exact Nat.le_trans hm (ih x hx)
theorem EndR.right{ρ:Tok→Tok→Prop}{ts ts':List Tok}(h:EndR ρ ts ts'):∀ x'∈ts',∃ x∈ts,TokR ρ x x':=by
 induction h with
 | one h h1=>intro x hx;rw[List.mem_singleton.1 hx];exact⟨_,.head _,h⟩
 | more h h1 hm hr ih=>
  intro x hx;rcases List.mem_cons.1 hx with rfl | hx
  ·exact⟨_,.head _,h⟩
  ·obtain⟨y,hy,hh⟩:=ih x hx;exact⟨y,List.mem_cons_of_mem _ hy,hh⟩
inductive LocR (e:Tok) (Y:List Tok):List Tok→List Tok→Prop where
 | stop:LocR e Y [e] Y
 | more {t:Tok} {ts ts':List Tok} (h0:t.kind≠0) (hr:LocR e Y ts ts'):LocR e Y (t::ts) (t::ts')
def Far(y:Tok)(Y1:List Tok)(o:Out):Prop:=(∃ t ts c,o=.ok t ts c∧EndR (uG Y1) ts ts)∨(∃ k x,o=.bad k x.place∧x∈y::Y1)
def LocO(e y:Tok)(Y1:List Tok)(n n':Nat)(o o':Out):Prop :=
 (∃ t ts ts' c1,o=.ok t ts c1∧o'=.ok t ts' c1∧LocR e (y::Y1) ts ts'∧ts.length≤n∧ts'.length≤n')∨(∃ k p,o=.bad k p∧o'=.bad k p)∨((∃ k,o=.bad k e.place)∧Far y Y1 o')
def PL(e y:Tok)(Y1:List Tok)(P P':List Tok→Nat→Out):Prop:=∀ ts ts' c,LocR e (y::Y1) ts ts'→LocO e y Y1 ts.length ts'.length (P ts c) (P' ts' c)
def PSf(Y1:List Tok)(P:List Tok→Nat→Out):Prop:=∀ N,PR (uG Y1) False False 0 N P P
theorem xI{y:Tok}{Y1:List Tok}{G B:Prop}{N c:Nat}{o:Out}(h:OutR (uG Y1) G B 0 N c o o):Far y Y1 o:=by
 rcases h with⟨t,ts,ts',c1,h1,h2,h3,_,_⟩ | ⟨e,x,z,h1,h2,h3,_⟩
 ·rw[h1]at h2;injection h2 with _ h2 _;subst h2;exact .inl ⟨t,ts,c1,h1,h3⟩
 ·exact .inr ⟨e,x,h1,List.mem_cons_of_mem _ h3.2⟩
theorem LocO.wide{e y:Tok}{Y1:List Tok}{n n' m m':Nat}{o o':Out}(h:LocO e y Y1 n n' o o')(h1:n≤m)(h2:n'≤m'):LocO e y Y1 m m' o o':=by
 rcases h with⟨t,ts,ts',c1,g1,g2,g3,g4,g5⟩ | h
 ·exact .inl ⟨t,ts,ts',c1,g1,g2,g3,by omega,by omega⟩
 ·exact .inr h
theorem LocR.cut{e y:Tok}{Y1 ts ts':List Tok}(h:LocR e (y::Y1) ts ts'):(ts=[e]∧ts'=y::Y1)∨(hd ts=hd ts'∧(hd ts).kind≠0):=by
 cases h with
 | stop=>exact .inl ⟨rfl,rfl⟩
 | more h0 hr=>exact .inr ⟨rfl,h0⟩
theorem mG{y:Tok}{Y1:List Tok}(k:Nat):Far y Y1 (.bad k y.place):=.inr ⟨k,y,rfl,.head _⟩
theorem far_hd{y:Tok}{Y1 ts:List Tok}(h:EndR (uG Y1) ts ts)(k:Nat):Far y Y1 (.bad k (hd ts).place):=.inr ⟨k,_,rfl,List.mem_cons_of_mem _ h.hd.rel.2⟩
theorem uGW{y:Tok}{Y1:List Tok}{W:List Tok→Nat→Out}(hS:PSf Y1 W)(f:Nat)(l:List Tree){ts:List Tok}(hs:EndR (uG Y1) ts ts)(c:Nat):(∃ l1 ts1 c1,bS W f l ts c=.ok l1 ts1 c1∧EndR (uG Y1) ts1.tail ts1.tail)∨(∃ k x,bS W f l ts c=.bad k x.place∧x∈y::Y1):=by
 rcases yO (G:=False) (B:=False) (d:=0) (hS (bM ts)) f l ts ts 0 c hs (Nat.le_refl _) (fun h=>h.elim) with⟨l1,ts1,ts1',c1,h1,h2,h3,h4,h5,_⟩ | ⟨k,x,z,h1,h2,h3,_⟩
 ·have h2':bS W f l ts c=.ok l1 ts1' (c1+0):=h2;rw[h1]at h2';injection h2' with _ h2' _;subst h2';exact .inl ⟨l1,ts1,c1,h1,h3.tail (dD h5)⟩
 ·exact .inr ⟨k,x,h1,List.mem_cons_of_mem _ h3.2⟩
section
variable {e y:Tok} {Y1:List Tok} (hY:StopOk e y Y1) {ax:Ax}
include hY
theorem StopOk.y5:y.kind=5:=by
 rcases hY.ys with h | h <;> (unfold isS at h;simp at h;exact h.1)
theorem StopOk.ynot{s:Bs}(h1:s≠[41])(h2:s≠[44]):isS y s=false:=by
 rcases hY.ys with h | h
 all_goals
  unfold isS at h ⊢;simp at h;rw[h.2];simp;intro _ e
  first | exact h1 e.symm | exact h2 e.symm
theorem LocR.isS{ts ts':List Tok}(h:LocR e (y::Y1) ts ts'){s:Bs}(h1:s≠[41])(h2:s≠[44]):isS (hd ts') s=isS (hd ts) s:=by
 cases h with
 | stop=>show Go.Proofs.YtmgjidnalpgegaaGreatDoor.isS y s=Go.Proofs.YtmgjidnalpgegaaGreatDoor.isS e s;rw[hY.enot,hY.ynot h1 h2]
 | more h0 hr=>rfl
theorem LocR.tail{ts ts':List Tok}(h:LocR e (y::Y1) ts ts')(h0:(hd ts).kind≠0):LocR e (y::Y1) ts.tail ts'.tail∧ts.tail.length<ts.length∧ts'.tail.length<ts'.length:=by
 cases h with
 | stop=>exact absurd hY.e0 h0
 | more h0 hr=>exact⟨hr,Nat.lt_succ_self _,Nat.lt_succ_self _⟩
theorem litV_e:eC e=.error 6:=by
 have hi:cB e=false:=by unfold cB;rw[hY.e0];rfl
 unfold eC;rw[hY.e0,hi];rfl
theorem litV_y:eC y=.error 6:=by
 have hi:cB y=false:=by unfold cB;rw[hY.y5];rfl
 unfold eC;rw[hY.y5,hi];rfl
theorem xR:PL e y Y1 cH cH:=by
 intro ts ts' c h;cases h with
 | stop=>
  refine .inr (.inr ⟨⟨6,?_⟩,?_⟩)
  ·unfold cH;rw[show hd [e]=e from rfl,litV_e hY];rfl
  ·unfold cH;rw[show hd (y::Y1)=y from rfl,litV_y hY];exact mG 6
 | @more t ts ts' h0 hr=>
  unfold cH;show LocO _ _ _ _ _ (match eC t with | .error e=>_ | .ok v=>_) (match eC t with | .error e=>_ | .ok v=>_);cases eC t with
  | error k=>exact .inr (.inl ⟨k,t.place,rfl,rfl⟩)
  | ok v=>exact .inl ⟨_,_,_,_,rfl,rfl,hr,Nat.le_succ _,Nat.le_succ _⟩
theorem cell_e:dM ax [e]=.error 6:=by
 unfold dM;rw[show hd [e]=e from rfl,hY.e0];rfl
theorem cell_y:dM ax (y::Y1)=.error 6:=by
 unfold dM;rw[show hd (y::Y1)=y from rfl,hY.y5];rfl
theorem uGL:PL e y Y1 (gW ax) (gW ax):=by
 intro ts ts' c h;rcases LocR.cut h with⟨rfl,rfl⟩ | ⟨e1,e2⟩
 ·refine .inr (.inr ⟨⟨6,?_⟩,?_⟩)
  ·unfold gW;rw[cell_e hY];rfl
  ·unfold gW;rw[cell_y hY];exact mG 6
 ·obtain⟨hr,hr2,hr3⟩:=LocR.tail hY h e2;unfold gW;have hca:dM ax ts'=dM ax ts:=by unfold dM;rw[e1]
  rw[hca];cases hc:dM ax ts with
  | error k=>exact .inr (.inl ⟨k,_,rfl,by show Out.bad k (hd ts').place=_;rw[← e1]⟩)
  | ok a=>
   dsimp only;rw[LocR.isS hY hr (s:=[35]) (by decide) (by decide),LocR.isS hY hr (s:=[58]) (by decide) (by decide)];by_cases h35:isS (hd ts.tail) [35]=true
   ·rw[if_pos h35,if_pos h35];obtain⟨g1,g2,g3⟩:=LocR.tail hY hr (dD h35);exact .inl ⟨_,_,_,_,rfl,rfl,g1,by omega,by omega⟩
   ·rw[if_neg h35,if_neg h35];by_cases h58:isS (hd ts.tail) [58]=true
    ·rw[if_pos h58,if_pos h58];obtain⟨g1,g2,g3⟩:=LocR.tail hY hr (dD h58);rcases LocR.cut g1 with⟨e1,e2⟩ | ⟨e1,e2⟩
     ·rw[e1,e2,cell_e hY,cell_y hY];exact .inr (.inr ⟨⟨6,rfl⟩,mG 6⟩)
     ·have hce:dM ax ts'.tail.tail=dM ax ts.tail.tail:=by unfold dM;rw[e1]
      rw[hce];cases hb:dM ax ts.tail.tail with
      | error k=>exact .inr (.inl ⟨k,_,rfl,by show Out.bad k (hd ts'.tail.tail).place=_;rw[← e1]⟩)
      | ok b=>
       obtain⟨k1,k2,k3⟩:=LocR.tail hY g1 e2;exact .inl ⟨_,_,_,_,rfl,rfl,k1,by omega,by omega⟩
    ·rw[if_neg h58,if_neg h58];exact .inl ⟨_,_,_,_,rfl,rfl,hr,by omega,by omega⟩
theorem line_e(row col:Bool):cV ax row col [e]=.error 6:=by
 unfold cV;rw[show hd [e]=e from rfl,hY.e0];rfl
theorem line_y(row col:Bool):cV ax row col (y::Y1)=.error 6:=by
 unfold cV;rw[show hd (y::Y1)=y from rfl,hY.y5];rfl
theorem qD:PL e y Y1 (fH ax) (fH ax):=by
 intro ts ts' c h;rcases LocR.cut h with⟨rfl,rfl⟩ | ⟨e1,e2⟩
 ·refine .inr (.inr ⟨⟨6,?_⟩,?_⟩)
  ·unfold fH;rw[line_e hY];rfl
  ·unfold fH;rw[line_y hY];exact mG 6
 ·obtain⟨hr,hr2,hr3⟩:=LocR.tail hY h e2;unfold fH;have hca:cV ax true true ts'=cV ax true true ts:=by unfold cV;rw[e1]
  rw[hca];cases hc:cV ax true true ts with
  | error k=>exact .inr (.inl ⟨k,_,rfl,by show Out.bad k (hd ts').place=_;rw[← e1]⟩)
  | ok a=>
   dsimp only;rw[LocR.isS hY hr (s:=[58]) (by decide) (by decide)];by_cases h58:isS (hd ts.tail) [58]=true
   ·rw[if_pos h58,if_pos h58];obtain⟨g1,g2,g3⟩:=LocR.tail hY hr (dD h58);rcases LocR.cut g1 with⟨e1,e2⟩ | ⟨e1,e2⟩
    ·rw[e1,e2,line_e hY,line_y hY];exact .inr (.inr ⟨⟨6,rfl⟩,mG 6⟩)
    ·have hce:cV ax (decide (a.row≠id0)) (decide (a.col≠id0)) ts'.tail.tail=cV ax (decide (a.row≠id0)) (decide (a.col≠id0)) ts.tail.tail:=by unfold cV;rw[e1]
     rw[hce];cases hb:cV ax (decide (a.row≠id0)) (decide (a.col≠id0)) ts.tail.tail with
     | error k=>exact .inr (.inl ⟨k,_,rfl,by show Out.bad k (hd ts'.tail.tail).place=_;rw[← e1]⟩)
     | ok b=>
      obtain⟨k1,k2,k3⟩:=LocR.tail hY g1 e2;exact .inl ⟨_,_,_,_,rfl,rfl,k1,by omega,by omega⟩
   ·rw[if_neg h58,if_neg h58];rcases LocR.cut hr with⟨e1,e2⟩ | ⟨e1,e2⟩
    ·rw[e1,e2];exact .inr (.inr ⟨⟨6,rfl⟩,mG 6⟩)
    ·exact .inr (.inl ⟨6,_,rfl,by show Out.bad 6 (hd ts'.tail).place=_;rw[← e1]⟩)
theorem zD{ts ts':List Tok}(c:Nat)(h:LocR e (y::Y1) ts ts') :
  (∃ t ts1 ts1' c1,cU ts c=.ok t ts1 c1∧cU ts' c=.ok t ts1' c1∧LocR e (y::Y1) ts1 ts1'∧ts1.length≤ts.length∧ts1'.length≤ts'.length)∨(∃ k p,cU ts c=.bad k p∧cU ts' c=.bad k p)∨(∃ k,cU ts c=.bad k e.place∧cU ts' c=.bad k y.place):=by
 unfold cU;rw[LocR.isS hY h (s:=[45]) (by decide) (by decide)];by_cases h45:isS (hd ts) [45]=true
 ·rw[if_pos h45,if_pos h45];obtain⟨g1,g2,g3⟩:=LocR.tail hY h (dD h45);rcases LocR.cut g1 with⟨e1,e2⟩ | ⟨e1,e2⟩
  ·rw[e1,e2];have q1:(hd [e]).kind≠1:=by show e.kind≠1;rw[hY.e0];decide
   have q2:(hd (y::Y1)).kind≠1:=by show y.kind≠1;rw[hY.y5];decide
   rw[if_pos q1,if_pos q2];exact .inr (.inr ⟨6,rfl,rfl⟩)
  ·rw[e1];by_cases h1:(hd ts'.tail).kind≠1
   ·rw[if_pos h1,if_pos h1];exact .inr (.inl ⟨6,_,by show Out.bad 6 (hd ts.tail).place=_;rw[e1],rfl⟩)
   ·rw[if_neg h1,if_neg h1];cases hl:eC (hd ts'.tail) with
    | error k=>exact .inr (.inl ⟨k,_,by show Out.bad k (hd ts.tail).place=_;rw[e1],rfl⟩)
    | ok v=>
     obtain⟨k1,k2,k3⟩:=LocR.tail hY g1 e2;exact .inl ⟨_,_,_,_,rfl,rfl,k1,by omega,by omega⟩
 ·rw[if_neg h45,if_neg h45];unfold cH;rcases LocR.cut h with⟨e1,e2⟩ | ⟨e1,e2⟩
  ·rw[e1,e2];rw[show hd [e]=e from rfl,litV_e hY,show hd (y::Y1)=y from rfl,litV_y hY];exact .inr (.inr ⟨6,rfl,rfl⟩)
  ·rw[e1];cases hl:eC (hd ts') with
   | error k=>exact .inr (.inl ⟨k,_,by show Out.bad k (hd ts).place=_;rw[e1],rfl⟩)
   | ok v=>
    obtain⟨k1,k2,k3⟩:=LocR.tail hY h e2;exact .inl ⟨_,_,_,_,rfl,rfl,k1,by omega,by omega⟩
theorem mat_loc:∀ (f f':Nat) (rows cols wide:Nat) (l:List Tree) (ts ts':List Tok) (c:Nat),LocR e (y::Y1) ts ts'→ts.length≤f→ts'.length≤f'→LocO e y Y1 ts.length ts'.length (eN f rows cols wide l ts c) (eN f' rows cols wide l ts' c):=by
 intro f
 induction f with
 | zero=>intro f' rows cols wide l ts ts' c h h1 h2;cases h <;> simp at h1
 | succ f ih=>
  intro f' rows cols wide l ts ts' c h hf hf';cases f' with
  | zero=>cases h <;> simp at hf'
  | succ f'=>
   unfold eN;rcases zD hY c h with⟨t,ts1,ts1',c1,h1,h2,h3,h4,h5⟩ | ⟨k,p,h1,h2⟩ | ⟨k,h1,h2⟩
   ·rw[h1,h2];dsimp only;rcases LocR.cut h3 with⟨e1,e2⟩ | ⟨e1,e2⟩
    ·rw[e1,e2,show hd [e]=e from rfl,show hd (y::Y1)=y from rfl,hY.enot,hY.enot,hY.enot,hY.ynot (s:=[59]) (by decide) (by decide),hY.ynot (s:=[125]) (by decide) (by decide)];simp only[Bool.false_and,Bool.false_eq_true,if_false];refine .inr (.inr ⟨⟨6,rfl⟩,?_⟩)
     split
     ·exact xI (N:=bM Y1) (c:=0) (uFG (G:=False) (B:=False) (d:=0) f' rows cols (wide+1) (l++[t]) Y1 Y1 0 c1 hY.self (Nat.le_refl _) (fun h=>h.elim))
     ·exact mG 6
    ·rw[e1];obtain⟨g1,g2,g3⟩:=LocR.tail hY h3 e2
     split
     ·exact(ih f' _ _ _ _ _ _ _ g1 (by omega) (by omega)).wide (by omega) (by omega)
     ·split
      ·exact(ih f' _ _ _ _ _ _ _ g1 (by omega) (by omega)).wide (by omega) (by omega)
      ·split
       ·exact .inl ⟨_,_,_,_,rfl,rfl,g1,by omega,by omega⟩
       ·exact .inr (.inl ⟨6,_,by show Out.bad 6 (hd ts1).place=_;rw[e1],rfl⟩)
   ·rw[h1,h2];exact .inr (.inl ⟨k,p,rfl,rfl⟩)
   ·rw[h1,h2];exact .inr (.inr ⟨⟨k,rfl⟩,mG k⟩)
theorem uDL{ts ts':List Tok}(c:Nat)(h:LocR e (y::Y1) ts ts')(hs:isS (hd ts) [123]=true):LocO e y Y1 ts.length ts'.length (gP ts c) (gP ts' c):=by
 unfold gP;obtain⟨g1,g2,g3⟩:=LocR.tail hY h (dD hs);exact(mat_loc hY _ _ 0 0 1 [] _ _ c g1 (by omega) (by omega)).wide (by omega) (by omega)
def LocL(e y:Tok)(Y1:List Tok)(n n':Nat)(o o':kB):Prop :=
 (∃ l ts ts' c1,o=.ok l ts c1∧o'=.ok l ts' c1∧LocR e (y::Y1) ts ts'∧ts.length≤n∧ts'.length≤n'∧(hd ts).kind≠0)∨(∃ k p,o=.bad k p∧o'=.bad k p) ∨
 ((∃ k,o=.bad k e.place)∧((∃ l ts c,o'=.ok l ts c∧EndR (uG Y1) ts.tail ts.tail)∨(∃ k x,o'=.bad k x.place∧x∈y::Y1)))
theorem qB{W:List Tok→Nat→Out}(hS:PSf Y1 W)(f:Nat)(l:List Tree){ts1:List Tok}(c1:Nat)(hs:(ts1=y::Y1)∨EndR (uG Y1) ts1 ts1)(o:kB)
  (ho:o=(if isS (hd ts1) [41]=true then kB.ok l ts1 c1 else if isS (hd ts1) [44]=true then (if 32≤l.length then kB.bad 10 (hd ts1).place else bS W f l ts1.tail c1) else kB.bad 6 (hd ts1).place)) :
  (∃ l2 ts2 c2,o=.ok l2 ts2 c2∧EndR (uG Y1) ts2.tail ts2.tail)∨(∃ k x,o=.bad k x.place∧x∈y::Y1):=by
 have hm:hd ts1∈y::Y1:=by
  rcases hs with rfl | hs
  ·exact .head _
  ·exact List.mem_cons_of_mem _ hs.hd.rel.2
 have ht:(hd ts1).kind≠0→EndR (uG Y1) ts1.tail ts1.tail:=fun h0=>by
  rcases hs with rfl | hs
  ·exact hY.self
  ·exact hs.tail h0
 by_cases b1:isS (hd ts1) [41]=true
 ·rw[if_pos b1]at ho;exact .inl ⟨_,_,_,ho,ht (dD b1)⟩
 ·rw[if_neg b1]at ho;by_cases b2:isS (hd ts1) [44]=true
  ·rw[if_pos b2]at ho;by_cases b3:32≤l.length
   ·rw[if_pos b3]at ho;exact .inr ⟨10,_,ho,hm⟩
   ·rw[if_neg b3]at ho;rw[ho];exact uGW hS f l (ht (dD b2)) c1
  ·rw[if_neg b2]at ho;exact .inr ⟨6,_,ho,hm⟩
theorem args_loc{W:List Tok→Nat→Out}(hW:PL e y Y1 W W)(hS:PSf Y1 W)(hE:∀ c,W [e] c=.bad 6 e.place):∀ (f f':Nat) (l:List Tree) (ts ts':List Tok) (c:Nat),LocR e (y::Y1) ts ts'→ts.length≤f→ts'.length≤f' →
  LocL e y Y1 ts.length ts'.length (bS W f l ts c) (bS W f' l ts' c):=by
 intro f
 induction f with
 | zero=>intro f' l ts ts' c h h1 h2;cases h <;> simp at h1
 | succ f ih=>
  intro f' l ts ts' c h hf hf';cases f' with
  | zero=>cases h <;> simp at hf'
  | succ f'=>
   have hlen:∀ x:Tree,(l++[x]).length=l.length+1:=fun x=>by simp
   rcases LocR.cut h with⟨rfl,rfl⟩ | ⟨e1,e2⟩
   ·refine .inr (.inr ⟨⟨6,?_⟩,?_⟩)
    ·unfold bS kQ;rw[show hd [e]=e from rfl,hY.enot,hY.enot];simp only[Bool.or_self,Bool.false_eq_true,if_false];rw[hE]
    ·unfold bS kQ;have hb:(isS (hd (y::Y1)) [44]||isS (hd (y::Y1)) [41])=true:=by
      show (isS y [44]||isS y [41])=true;rcases hY.ys with h | h <;> rw[h] <;> simp
     rw[if_pos hb];exact qB hY hS f' (l++[uFT]) (ts1:=y::Y1) (c+1) (.inl rfl) _ (by rw[hlen])
   ·have hA:(∃ x ts1 ts1' c1,kQ W ts c=.ok x ts1 c1∧kQ W ts' c=.ok x ts1' c1∧LocR e (y::Y1) ts1 ts1'∧ts1.length≤ts.length∧ts1'.length≤ts'.length)∨(∃ k p,kQ W ts c=.bad k p∧kQ W ts' c=.bad k p)∨((∃ k,kQ W ts c=.bad k e.place)∧Far y Y1 (kQ W ts' c)):=by
     unfold kQ;rw[e1]
     split
     ·exact .inl ⟨_,_,_,_,rfl,rfl,h,Nat.le_refl _,Nat.le_refl _⟩
     ·exact hW ts ts' c h
    unfold bS;rcases hA with⟨x,ts1,ts1',c1,h1,h2,h3,h4,h5⟩ | ⟨k,p,h1,h2⟩ | ⟨⟨k,h1⟩,h2⟩
    ·rw[h1,h2];dsimp only;rcases LocR.cut h3 with⟨g1,g2⟩ | ⟨g1,g2⟩
     ·subst g1 g2;rw[show hd [e]=e from rfl,hY.enot,hY.enot];simp only[Bool.false_eq_true,if_false];refine .inr (.inr ⟨⟨6,rfl⟩,?_⟩);exact qB hY hS f' (l++[x]) (ts1:=y::Y1) c1 (.inl rfl) _ (by rw[hlen])
     ·rw[g1];obtain⟨k1,k2,k3⟩:=LocR.tail hY h3 g2
      split
      ·exact .inl ⟨_,_,_,_,rfl,rfl,h3,h4,h5,g2⟩
      ·split
       ·split
        ·exact .inr (.inl ⟨10,_,rfl,rfl⟩)
        ·rcases ih f' (l++[x]) _ _ c1 k1 (by omega) (by omega) with⟨l2,t2,t2',c2,q1,q2,q3,q4,q5,q6⟩ | q
         ·exact .inl ⟨l2,t2,t2',c2,q1,q2,q3,by omega,by omega,q6⟩
         ·exact .inr q
       ·exact .inr (.inl ⟨6,_,rfl,rfl⟩)
    ·rw[h1,h2];exact .inr (.inl ⟨k,p,rfl,rfl⟩)
    ·rw[h1];refine .inr (.inr ⟨⟨k,rfl⟩,?_⟩);rcases h2 with⟨x,ts1,c1,q1,q2⟩ | ⟨k2,x,q1,q2⟩
     ·rw[q1];exact qB hY hS f' (l++[x]) c1 (.inr q2) _ (by rw[hlen])
     ·rw[q1];exact .inr ⟨k2,x,rfl,q2⟩
theorem xW{ts ts':List Tok}(h:LocR e (y::Y1) ts ts')(h0:(hd ts).kind≠0):nxt ts=hd ts.tail∧nxt ts'=hd ts'.tail:=by
 cases h with
 | stop=>exact absurd hY.e0 h0
 | more h0 hr=>cases hr with
  | stop=>exact⟨rfl,rfl⟩
  | more h1 hr=>exact⟨rfl,rfl⟩
theorem call_loc{W:Nat→List Tok→Nat→Out}{op:Nat}(hW:PL e y Y1 (W (op+1)) (W (op+1)))(hS:PSf Y1 (W (op+1)))(hE:∀ c,W (op+1) [e] c=.bad 6 e.place){ts ts':List Tok}(c:Nat)(h:LocR e (y::Y1) ts ts')(h3:(hd ts).kind≠0)(e1:hd ts=hd ts')(hs:isS (nxt ts) [40]=true) :
  LocO e y Y1 ts.length ts'.length (mQ W op ts c) (mQ W op ts' c):=by
 obtain⟨n1,n2⟩:=xW hY h h3;obtain⟨g1,g2,g3⟩:=LocR.tail hY h h3;rw[n1]at hs;obtain⟨k1,k2,k3⟩:=LocR.tail hY g1 (dD hs);have e2:hd ts.tail=hd ts'.tail:=by
  rcases LocR.cut g1 with⟨q1,q2⟩ | ⟨q1,q2⟩
  ·rw[q1]at hs;rw[show isS (hd [e]) [40]=false from hY.enot [40]]at hs;cases hs
  ·exact q1
 unfold mQ;rw[e1]
 split
 ·exact .inr (.inl ⟨9,_,by show Out.bad 9 (hd ts).place=_;rw[e1],rfl⟩)
 ·split
  ·exact .inr (.inl ⟨8,_,by show Out.bad 8 (hd ts.tail).place=_;rw[e2],rfl⟩)
  ·have hargs:LocL e y Y1 ts.length ts'.length (if isS (hd ts.tail.tail) [41]=true then kB.ok [] ts.tail.tail c else bS (W (op+1)) ts.length [] ts.tail.tail c) (if isS (hd ts'.tail.tail) [41]=true then kB.ok [] ts'.tail.tail c else bS (W (op+1)) ts'.length [] ts'.tail.tail c):=by
    have hgo:=args_loc hY hW hS hE ts.length ts'.length [] _ _ c k1 (by omega) (by omega);have hgo2:LocL e y Y1 ts.length ts'.length (bS (W (op+1)) ts.length [] ts.tail.tail c) (bS (W (op+1)) ts'.length [] ts'.tail.tail c):=by
     rcases hgo with⟨l2,t2,t2',c2,q1,q2,q3,q4,q5,q6⟩ | q
     ·exact .inl ⟨l2,t2,t2',c2,q1,q2,q3,by omega,by omega,q6⟩
     ·exact .inr q
    rcases LocR.cut k1 with⟨q1,q2⟩ | ⟨q1,q2⟩
    ·rw[if_neg (by rw[q1,show hd [e]=e from rfl,hY.enot];decide)];by_cases b:isS (hd ts'.tail.tail) [41]=true
     ·rw[if_pos b];refine .inr (.inr ⟨⟨6,?_⟩,.inl ⟨_,_,_,rfl,by rw[q2];exact hY.self⟩⟩);have hl:ts.length=(ts.length-1)+1:=by omega
      rw[q1,hl];unfold bS kQ;rw[show hd [e]=e from rfl,hY.enot,hY.enot];simp only[Bool.or_self,Bool.false_eq_true,if_false];rw[hE]
     ·rw[if_neg b];exact hgo2
    ·rw[q1]
     split
     ·exact .inl ⟨_,_,_,_,rfl,rfl,k1,by omega,by omega,q2⟩
     ·exact hgo2
   rcases hargs with⟨l,ts1,ts1',c1,h1,h2,h4,h5,h6,h7⟩ | ⟨k,p,h1,h2⟩ | ⟨⟨k,h1⟩,h2⟩
   ·rw[h1,h2];obtain⟨m1,m2,m3⟩:=LocR.tail hY h4 h7;exact .inl ⟨_,_,_,_,rfl,rfl,m1,by omega,by omega⟩
   ·rw[h1,h2];exact .inr (.inl ⟨k,p,rfl,rfl⟩)
   ·rw[h1];refine .inr (.inr ⟨⟨k,rfl⟩,?_⟩);rcases h2 with⟨l,ts1,c1,q1,q2⟩ | ⟨k2,x,q1,q2⟩
    ·rw[q1];exact .inl ⟨_,_,_,rfl,q2⟩
    ·rw[q1];exact .inr ⟨k2,x,rfl,q2⟩
theorem name_loc{W:Nat→List Tok→Nat→Out}{op:Nat}(hW:PL e y Y1 (W (op+1)) (W (op+1)))(hS:PSf Y1 (W (op+1)))(hE:∀ c,W (op+1) [e] c=.bad 6 e.place){ts ts':List Tok}(c:Nat)(h:LocR e (y::Y1) ts ts')(h3:(hd ts).kind≠0)(e1:hd ts=hd ts') :
  LocO e y Y1 ts.length ts'.length (mR W op ts c) (mR W op ts' c):=by
 obtain⟨n1,n2⟩:=xW hY h h3;obtain⟨g1,g2,g3⟩:=LocR.tail hY h h3;have hn:isS (nxt ts') [40]=isS (nxt ts) [40]:=by rw[n1,n2];exact LocR.isS hY g1 (by decide) (by decide)
 unfold mR;rw[hn];by_cases b1:isS (nxt ts) [40]=true
 ·rw[if_pos b1,if_pos b1];exact call_loc hY hW hS hE c h h3 e1 b1
 ·rw[if_neg b1,if_neg b1,e1]
  split
  ·exact xR hY ts ts' c h
  ·split
   ·exact .inl ⟨_,_,_,_,rfl,rfl,g1,by omega,by omega⟩
   ·exact .inr (.inl ⟨9,_,by show Out.bad 9 (hd ts).place=_;rw[e1],rfl⟩)
theorem part_loc{W:Nat→List Tok→Nat→Out}{op:Nat}(hW:PL e y Y1 (W (op+1)) (W (op+1)))(hS:PSf Y1 (W (op+1)))(hE:∀ c,W (op+1) [e] c=.bad 6 e.place):PL e y Y1 (eO W ax op) (eO W ax op):=by
 intro ts ts' c h;rcases LocR.cut h with⟨rfl,rfl⟩ | ⟨e1,e2⟩
 ·refine .inr (.inr ⟨⟨6,?_⟩,?_⟩)
  ·unfold eO;rw[show hd [e]=e from rfl,hY.e0,hY.enot,hY.enot];rfl
  ·unfold eO;rw[show hd (y::Y1)=y from rfl,hY.y5,hY.ynot (s:=[40]) (by decide) (by decide),hY.ynot (s:=[123]) (by decide) (by decide)];exact mG 6
 ·obtain⟨n1,n2⟩:=xW hY h e2;obtain⟨g1,g2,g3⟩:=LocR.tail hY h e2;have hn:isS (nxt ts') [58]=isS (nxt ts) [58]:=by rw[n1,n2];exact LocR.isS hY g1 (by decide) (by decide)
  unfold eO;rw[hn,← e1];by_cases k1:(hd ts).kind=1
  ·rw[if_pos k1,if_pos k1]
   split
   ·exact qD hY ts ts' c h
   ·exact xR hY ts ts' c h
  ·rw[if_neg k1,if_neg k1];by_cases k2:(hd ts).kind=2∨(hd ts).kind=6
   ·rw[if_pos k2,if_pos k2];exact xR hY ts ts' c h
   ·rw[if_neg k2,if_neg k2];by_cases k3:(hd ts).kind=3
    ·rw[if_pos k3,if_pos k3]
     split
     ·exact qD hY ts ts' c h
     ·exact name_loc hY hW hS hE c h e2 e1
    ·rw[if_neg k3,if_neg k3];by_cases k4:(hd ts).kind=4
     ·rw[if_pos k4,if_pos k4]
      split
      ·exact uGL hY ts ts' c h
      ·exact qD hY ts ts' c h
     ·rw[if_neg k4,if_neg k4];by_cases b1:isS (hd ts) [40]=true
      ·rw[if_pos b1,if_pos b1]
       split
       ·exact .inr (.inl ⟨8,_,rfl,by show Out.bad 8 (hd ts').place=_;rw[e1]⟩)
       ·rcases hW ts.tail ts'.tail c g1 with⟨t,ts1,ts1',c1,h1,h2,h3,h4,h5⟩ | ⟨k,p,h1,h2⟩ | ⟨⟨k,h1⟩,h2⟩
        ·rw[h1,h2];dsimp only;rcases LocR.cut h3 with⟨q1,q2⟩ | ⟨q1,q2⟩
         ·subst q1 q2;rw[show hd [e]=e from rfl,hY.enot];simp only[Bool.false_eq_true,if_false];refine .inr (.inr ⟨⟨6,rfl⟩,?_⟩)
          split
          ·exact .inl ⟨_,_,_,rfl,hY.self⟩
          ·exact mG 6
         ·rw[q1];obtain⟨m1,m2,m3⟩:=LocR.tail hY h3 q2
          split
          ·exact .inl ⟨_,_,_,_,rfl,rfl,m1,by omega,by omega⟩
          ·exact .inr (.inl ⟨6,_,by show Out.bad 6 (hd ts1).place=_;rw[q1],rfl⟩)
        ·rw[h1,h2];exact .inr (.inl ⟨k,p,rfl,rfl⟩)
        ·rw[h1];refine .inr (.inr ⟨⟨k,rfl⟩,?_⟩);rcases h2 with⟨x,ts1,c1,q1,q2⟩ | ⟨k2,x,q1,q2⟩
         ·rw[q1];dsimp only
          split
          ·rename_i b
           exact .inl ⟨_,_,_,rfl,q2.tail (dD b)⟩
          ·exact far_hd q2 6
         ·rw[q1];exact .inr ⟨k2,x,rfl,q2⟩
      ·rw[if_neg b1,if_neg b1];by_cases b2:isS (hd ts) [123]=true
       ·rw[if_pos b2,if_pos b2];exact uDL hY c h b2
       ·rw[if_neg b2,if_neg b2];exact .inr (.inl ⟨6,_,rfl,by show Out.bad 6 (hd ts').place=_;rw[e1]⟩)
theorem pct_loc:∀ (f f':Nat) (t:Tree) (ts ts':List Tok) (c:Nat),LocR e (y::Y1) ts ts'→ts.length≤f→ts'.length≤f'→LocO e y Y1 ts.length ts'.length (gC f t ts c) (gC f' t ts' c):=by
 intro f
 induction f with
 | zero=>intro f' t ts ts' c h h1 h2;cases h <;> simp at h1
 | succ f ih=>
  intro f' t ts ts' c h hf hf';cases f' with
  | zero=>cases h <;> simp at hf'
  | succ f'=>
   unfold gC;rw[LocR.isS hY h (s:=[37]) (by decide) (by decide)];by_cases b:isS (hd ts) [37]=true
   ·rw[if_pos b,if_pos b];obtain⟨g1,g2,g3⟩:=LocR.tail hY h (dD b);exact(ih f' _ _ _ _ g1 (by omega) (by omega)).wide (by omega) (by omega)
   ·rw[if_neg b,if_neg b];exact .inl ⟨_,_,_,_,rfl,rfl,h,Nat.le_refl _,Nat.le_refl _⟩
theorem uAT{P:List Tok→Nat→Out}(hP:PL e y Y1 P P):PL e y Y1 (bD P) (bD P):=by
 intro ts ts' c h;unfold bD;rcases hP ts ts' c h with⟨t,ts1,ts1',c1,h1,h2,h3,h4,h5⟩ | ⟨k,p,h1,h2⟩ | ⟨⟨k,h1⟩,h2⟩
 ·rw[h1,h2];exact(pct_loc hY _ _ t ts1 ts1' c1 h3 (Nat.le_refl _) (Nat.le_refl _)).wide h4 h5
 ·rw[h1,h2];exact .inr (.inl ⟨k,p,rfl,rfl⟩)
 ·rw[h1];refine .inr (.inr ⟨⟨k,rfl⟩,?_⟩);rcases h2 with⟨x,ts1,c1,q1,q2⟩ | ⟨k2,x,q1,q2⟩
  ·rw[q1];exact xI (N:=bM ts1) (c:=0) (uFN (G:=False) (B:=False) (d:=0) ts1.length x ts1 ts1 0 c1 q2 (Nat.le_refl _) (fun h=>h.elim))
  ·rw[q1];exact .inr ⟨k2,x,rfl,q2⟩
theorem uGA{ts ts':List Tok}(h:LocR e (y::Y1) ts ts'):aX ts'=aX ts∧LocR e (y::Y1) (ts.drop (aX ts)) (ts'.drop (aX ts))∧ts'.take (aX ts)=ts.take (aX ts):=by
 induction h with
 | stop=>
  have h1:aX [e]=0:=by
   unfold aX dB;rw[hY.enot,hY.enot];rfl
  have h2:aX (y::Y1)=0:=by
   unfold aX dB;rw[hY.ynot (s:=[43]) (by decide) (by decide),hY.ynot (s:=[45]) (by decide) (by decide)];rfl
  rw[h1,h2];exact⟨rfl,.stop,rfl⟩
 | @more t ts ts' h0 hr ih=>
  obtain⟨i1,i2,i3⟩:=ih;cases ha:dB t with
  | false=>
   have h1:aX (t::ts)=0:=by unfold aX;rw[ha];rfl
   have h2:aX (t::ts')=0:=by unfold aX;rw[ha];rfl
   rw[h1,h2];exact⟨rfl,.more h0 hr,rfl⟩
  | true=>
   have h1:aX (t::ts)=aX ts+1:=by rw[aX,ha,if_pos rfl]
   have h2:aX (t::ts')=aX ts'+1:=by rw[aX,ha,if_pos rfl]
   rw[h1,h2];exact⟨by rw[i1],i2,by rw[List.take_succ_cons,List.take_succ_cons,i3]⟩
theorem uEL{P:List Tok→Nat→Out}(hP:PL e y Y1 P P):PL e y Y1 (cI P) (cI P):=by
 intro ts ts' c h;obtain⟨i1,i2,i3⟩:=uGA hY h;unfold cI;rw[i1,i3];rcases hP _ _ c i2 with⟨t,ts1,ts1',c1,h1,h2,h3,h4,h5⟩ | ⟨k,p,h1,h2⟩ | ⟨⟨k,h1⟩,h2⟩
 ·rw[h1,h2];rw[List.length_drop]at h4 h5;exact .inl ⟨_,_,_,_,rfl,rfl,h3,by omega,by omega⟩
 ·rw[h1,h2];exact .inr (.inl ⟨k,p,rfl,rfl⟩)
 ·rw[h1];refine .inr (.inr ⟨⟨k,rfl⟩,?_⟩);rcases h2 with⟨x,ts1,c1,q1,q2⟩ | ⟨k2,x,q1,q2⟩
  ·rw[q1];exact .inl ⟨_,_,_,rfl,q2⟩
  ·rw[q1];exact .inr ⟨k2,x,rfl,q2⟩
theorem uHG{ts ts':List Tok}(h:LocR e (y::Y1) ts ts'){sg:List Bs}(hsg:∀ s∈sg,lG s=true):eG sg (hd ts')=eG sg (hd ts):=by
 cases h with
 | stop=>
  have h1:eG sg e=false:=by unfold eG;rw[hY.e0];rfl
  have h2:eG sg y=false:=by
   unfold eG;cases hc:sg.contains y.text
   ·simp
   ·have hb:=hsg _ (List.contains_iff_mem.1 hc);rcases hY.ys with h | h
    all_goals
     unfold isS at h;simp at h;rw[h.2]at hb;exact absurd hb (by decide)
  show eG sg y=eG sg e;rw[h1,h2]
 | more h0 hr=>rfl
theorem lev_loc{P:List Tok→Nat→Out}(hP:PL e y Y1 P P)(hS:PSf Y1 P){sg:List Bs}(hsg:∀ s∈sg,lG s=true):∀ (f f':Nat) (t:Tree) (ts ts':List Tok) (c:Nat),LocR e (y::Y1) ts ts'→ts.length≤f→ts'.length≤f' →
  LocO e y Y1 ts.length ts'.length (fT P sg f t ts c) (fT P sg f' t ts' c):=by
 intro f
 induction f with
 | zero=>intro f' t ts ts' c h h1 h2;cases h <;> simp at h1
 | succ f ih=>
  intro f' t ts ts' c h hf hf';cases f' with
  | zero=>cases h <;> simp at hf'
  | succ f'=>
   unfold fT;rw[uHG hY h hsg];by_cases b:eG sg (hd ts)=true
   ·rw[if_pos b,if_pos b];have h0:(hd ts).kind≠0:=by
     unfold eG at b;simp at b;omega
    have e1:hd ts'=hd ts:=by
     rcases LocR.cut h with⟨q1,q2⟩ | ⟨q1,q2⟩
     ·rw[q1]at h0;exact absurd hY.e0 h0
     ·exact q1.symm
    obtain⟨g1,g2,g3⟩:=LocR.tail hY h h0;rcases hP ts.tail ts'.tail c g1 with⟨x,ts1,ts1',c1,h1,h2,h3,h4,h5⟩ | ⟨k,p,h1,h2⟩ | ⟨⟨k,h1⟩,h2⟩
    ·rw[h1,h2];dsimp only;rw[e1];exact(ih f' _ ts1 ts1' _ h3 (by omega) (by omega)).wide (by omega) (by omega)
    ·rw[h1,h2];exact .inr (.inl ⟨k,p,rfl,rfl⟩)
    ·rw[h1];refine .inr (.inr ⟨⟨k,rfl⟩,?_⟩);rcases h2 with⟨x,ts1,c1,q1,q2⟩ | ⟨k2,x,q1,q2⟩
     ·rw[q1];exact xI (N:=bM ts1) (c:=0) (xP (G:=False) (B:=False) (d:=0) (hS (bM ts1)) hsg f' _ ts1 ts1 0 (c1+1) q2 (Nat.le_refl _) (fun h=>h.elim))
     ·rw[q1];exact .inr ⟨k2,x,rfl,q2⟩
   ·rw[if_neg b,if_neg b];exact .inl ⟨_,_,_,_,rfl,rfl,h,Nat.le_refl _,Nat.le_refl _⟩
theorem kP{P:List Tok→Nat→Out}(hP:PL e y Y1 P P)(hS:PSf Y1 P){sg:List Bs}(hsg:∀ s∈sg,lG s=true):PL e y Y1 (bH P sg) (bH P sg):=by
 intro ts ts' c h;unfold bH;rcases hP ts ts' c h with⟨t,ts1,ts1',c1,h1,h2,h3,h4,h5⟩ | ⟨k,p,h1,h2⟩ | ⟨⟨k,h1⟩,h2⟩
 ·rw[h1,h2];exact(lev_loc hY hP hS hsg _ _ t ts1 ts1' c1 h3 (Nat.le_refl _) (Nat.le_refl _)).wide h4 h5
 ·rw[h1,h2];exact .inr (.inl ⟨k,p,rfl,rfl⟩)
 ·rw[h1];refine .inr (.inr ⟨⟨k,rfl⟩,?_⟩);rcases h2 with⟨x,ts1,c1,q1,q2⟩ | ⟨k2,x,q1,q2⟩
  ·rw[q1];exact xI (N:=bM ts1) (c:=0) (xP (G:=False) (B:=False) (d:=0) (hS (bM ts1)) hsg ts1.length x ts1 ts1 0 c1 q2 (Nat.le_refl _) (fun h=>h.elim))
  ·rw[q1];exact .inr ⟨k2,x,rfl,q2⟩
theorem uBS{P:List Tok→Nat→Out}(hP:PL e y Y1 P P)(hS:PSf Y1 P):PL e y Y1 (dK P) (dK P):=by
 have s1:PSf Y1 (cI (bD P)):=fun N=>oI (mT (hS N))
 have s2:PSf Y1 (bH (cI (bD P)) nR):=fun N=>dP (s1 N) lA
 have s3:PSf Y1 (bH (bH (cI (bD P)) nR) pP):=fun N=>dP (s2 N) kZ
 have s4:PSf Y1 (bH (bH (bH (cI (bD P)) nR) pP) fX):=fun N=>dP (s3 N) kY
 have s5:PSf Y1 (bH (bH (bH (bH (cI (bD P)) nR) pP) fX) oH):=fun N=>dP (s4 N) jJ
 unfold dK;exact kP hY (kP hY (kP hY (kP hY (kP hY (uEL hY (uAT hY hP)) s1 lA) s2 kZ) s3 kY) s4 jJ) s5 oG
theorem uIN(ha:lD ax):∀ (f op:Nat),PL e y Y1 (cD f ax op) (cD f ax op):=by
 intro f
 induction f with
 | zero=>
  intro op ts ts' c h;rcases LocR.cut h with⟨rfl,rfl⟩ | ⟨e1,e2⟩
  ·exact .inr (.inr ⟨⟨6,rfl⟩,mG 6⟩)
  ·exact .inr (.inl ⟨6,_,rfl,by show Out.bad 6 (hd ts').place=_;rw[e1]⟩)
 | succ f ih=>
  intro op;have hS:∀ op,PSf Y1 (cD f ax op):=fun op N=>iS ha f f op op N ⟨.inl rfl,fun h=>h.elim⟩ (.inl ⟨rfl,rfl⟩)
  have hp:PL e y Y1 (eO (cD f ax) ax op) (eO (cD f ax) ax op):=part_loc hY (ih (op+1)) (hS (op+1)) (fun c=>wW hY f (op+1) c);have hps:PSf Y1 (eO (cD f ax) ax op):=fun N=>uB ha ⟨.inl rfl,fun h=>h.elim⟩ (fun M _=>hS (op+1) M)
  exact uBS hY hp hps
end
theorem uHW(ts:List Tok)(e:Tok)(h:e.kind=0):bM (ts++[e])=bM ts:=by
 induction ts with
 | nil=>
  have:isS e [40]=false:=by unfold isS;rw[h];rfl
  show (if isS e [40] then 1 else 0)+0=0;rw[this];rfl
 | cons t ts ih=>show _+bM (ts++[e])=_+bM ts;rw[ih]
theorem jC{P:List Tok→Nat→Out}{sg:List Bs}{L:List Tok}{c k p:Nat}(h:P L c=.bad k p):bH P sg L c=.bad k p:=by unfold bH;rw[h]
theorem kA{P:List Tok→Nat→Out}{L:List Tok}{c k p:Nat}(ha:aX L=0)(h:P L c=.bad k p):dK P L c=.bad k p:=by
 have h1:cI (bD P) L c=.bad k p:=by
  unfold cI bD;rw[ha,List.drop_zero,h]
 unfold dK;exact jC (jC (jC (jC (jC h1))))
theorem jD{P:List Tok→Nat→Out}{sg:List Bs}{L:List Tok}{c:Nat}{t:Tree}{e:Tok}{c1:Nat}(he:e.kind=0)(h:P L c=.ok t [e] c1):bH P sg L c=.ok t [e] c1:=by
 unfold bH;rw[h];show fT P sg 1 t [e] c1=_;unfold fT;have:eG sg (hd [e])=false:=by show eG sg e=false;unfold eG;rw[he];rfl
 rw[this];rfl
theorem yJ{P:List Tok→Nat→Out}{L:List Tok}{c:Nat}{t:Tree}{e:Tok}{c1:Nat}(ha:aX L=0)(he:e.kind=0)(h:P L c=.ok t [e] c1):dK P L c=.ok t [e] c1:=by
 have h1:cI (bD P) L c=.ok t [e] c1:=by
  unfold cI bD;rw[ha,List.drop_zero,h];show (match gC 1 t [e] c1 with | .bad e p=>Out.bad e p | .ok t ts1 c1=>_)=_;unfold gC;have:isS (hd [e]) [37]=false:=by show isS e [37]=false;unfold isS;rw[he];rfl
  rw[this];rfl
 unfold dK;exact jD he (jD he (jD he (jD he (jD he h1))))
theorem yI{ρ:Tok→Tok→Prop}{G B:Prop}{N c0:Nat}{P:List Tok→Nat→Out}{L:List Tok}(hP:PR ρ G B 0 N P P)(ha:aX L=0)(h:OutR ρ G B 0 N c0 (P L c0) (P L c0)):OutR ρ G B 0 N c0 (dK P L c0) (dK P L c0):=by
 have h1:OutR ρ G B 0 N c0 (cI (bD P) L c0) (cI (bD P) L c0):=by
  have hp:OutR ρ G B 0 N c0 (bD P L c0) (bD P L c0):=pK (ts:=L) (ts':=L) (c:=c0) (d:=0) h;have he:cI (bD P) L c0=bD P L c0:=by
   unfold cI;rw[ha,List.drop_zero];cases bD P L c0 with
   | ok t ts c=>rfl
   | bad e p=>rfl
  rw[he];exact hp
 have s1:=oI (mT hP);have s2:=dP s1 lA;have s3:=dP s2 kZ;have s4:=dP s3 kY;have s5:=dP s4 jJ;unfold dK;exact gT (ts:=L) (ts':=L) (c:=c0) (d:=0) s5 oG (gT (ts:=L) (ts':=L) (c:=c0) (d:=0) s4 jJ (gT (ts:=L) (ts':=L) (c:=c0) (d:=0) s3 kY (gT (ts:=L) (ts':=L) (c:=c0) (d:=0) s2 kZ (gT (ts:=L) (ts':=L) (c:=c0) (d:=0) s1 lA h1))))
theorem LocR.mem{e:Tok}{Y ts ts':List Tok}(h:LocR e Y ts ts'):∀ x∈ts',x∈ts∨x∈Y:=by
 induction h with
 | stop=>exact fun x hx=>.inr hx
 | more h0 hr ih=>
  intro x hx;rcases List.mem_cons.1 hx with rfl | hx
  ·exact .inl (.head _)
  ·rcases ih x hx with h | h
   ·exact .inl (List.mem_cons_of_mem _ h)
   ·exact .inr h
theorem uAD{e:Tok}{Y:List Tok}:∀ (ts:List Tok),(∀ t∈ts,t.kind≠0)→LocR e Y (ts++[e]) (ts++Y)
 | [],_=>.stop
 | t::ts,h=>.more (h t (.head _)) (uAD ts (fun x hx=>h x (List.mem_cons_of_mem _ hx)))
theorem EndR.diag{ρ:Tok→Tok→Prop}{ts ts':List Tok}(h:EndR ρ ts ts'){σ:Tok→Tok→Prop}(hs:∀ x∈ts,σ x x):EndR σ ts ts:=by
 induction h with
 | @one e e' h h0=>exact .one ⟨hs _ (.head _),rfl,rfl,fun _=>rfl,h.num⟩ h0
 | @more t t' ts ts' h h0 hm hr ih=>exact .more ⟨hs _ (.head _),rfl,rfl,fun _=>rfl,h.num⟩ h0 hm (ih (fun x hx=>hs x (List.mem_cons_of_mem _ hx)))
abbrev iN:Tok:=⟨5,[40],0⟩
theorem uIA(W:Nat→List Tok→Nat→Out)(ax:Ax)(R:List Tok)(c:Nat):eO W ax 0 (iN::R) c=match W 1 R c with
  | .bad e p=>.bad e p
  | .ok x ts1 c1=>if isS (hd ts1) [41] then .ok x ts1.tail c1 else fD 6 ts1:=rfl
theorem uBX(R:List Tok):aX (iN::R)=0:=rfl
def lK(o:Out):Except (Nat×Nat) Tree:=match o with
 | .bad e p=>.error (e,p)
 | .ok t ts1 c=>if (hd ts1).kind≠0 then .error (6,(hd ts1).place) else if 256<c then .error (5,0) else if dV t≠0 then .error (dV t,0) else .ok t
theorem rD(ax:Ax)(ts:List Tok):dT ax ts=lK (cD 65 ax 0 ts 0):=rfl
def Beyond(r:Except (Nat×Nat) Tree)(s:Bs)(p:Nat):Prop :=
 (∃ t,r=.ok t∧s[p]?=some 41)∨(∃ f,(f=5∨f=8)∧r=.error (f,0)∧s[p]?=some 41)∨(∃ f q,f≠0∧f≠5∧f≠8∧r=.error (f,q)∧p≤q)
theorem uX{σ:Tok→Tok→Prop}{N:Nat}{s:Bs}{p:Nat}{o:Out}(hσ:∀ x z,σ x z→p≤x.place)(hs:s[p]?=some 41)(h:OutR σ True True 0 N 0 o o):Beyond (lK o) s p:=by
 rcases h with⟨t,r,r',c,h1,h2,h3,h4,h5⟩ | ⟨k,x,z,h1,h2,h3,h4⟩
 ·rw[h1];unfold lK;dsimp only;by_cases k0:(hd r).kind≠0
  ·rw[if_pos k0];exact .inr (.inr ⟨6,_,by decide,by decide,by decide,rfl,hσ _ _ h3.hd.rel⟩)
  ·rw[if_neg k0];obtain⟨g1,g2⟩:=h5 trivial;by_cases k1:256<c
   ·rw[if_pos k1];exact .inr (.inl ⟨5,.inl rfl,rfl,hs⟩)
   ·rw[if_neg k1];rcases mC g2 (by omega) with⟨hc,_⟩ | hc
    ·rw[hc];exact .inl ⟨t,rfl,hs⟩
    ·rw[hc];exact .inr (.inl ⟨8,.inr rfl,rfl,hs⟩)
 ·rw[h1];exact .inr (.inr ⟨k,_,h4.1,h4.2.1,h4.2.2.2 trivial,rfl,hσ _ _ h3⟩)
theorem sH(ax:Ax)(ha:lD ax)(s:Bs)(hb:s.count 40<60) :
  (∃ t,aY ax s=.ok t∧aY ax (40::(s++[41]))=.ok t)∨(∃ k,aY ax s=.error (7,k)∧aY ax (40::(s++[41]))=.error (7,k+1)) ∨
  (∃ e p q,(e=5∨e=8)∧aY ax s=.error (e,p)∧aY ax (40::(s++[41]))=.error (e,q)∧(q=p∨q=p+1)) ∨
  (∃ e p,e≠0∧e≠5∧e≠7∧e≠8∧aY ax s=.error (e,p)∧Beyond (aY ax (40::(s++[41]))) s p):=by
 unfold aY;rw[zY];cases hl:iG s with
 | error k=>exact .inr (.inl ⟨k,rfl,rfl⟩)
 | ok ts=>
  obtain⟨f1,f2,f3⟩:=mL s ts hl;have hke:∀ n,¬ (hd [aW n]).kind≠0:=fun n h=>h rfl
  have hle:∀ t∈ts,t.place<s.length:=fun t ht=>by have:=(f1 t ht).hi;omega
  have hlen:(40::(s++[41]):Bs).length=s.length+2:=by simp
  have hL1:(iN::(ts.map (bL 1)++[(⟨5,[41],s.length+1⟩:Tok)]))++[aW (s.length+2)]=iN::(ts.map (bL 1)++(⟨5,[41],s.length+1⟩:Tok)::[aW (s.length+2)]):=by simp
  dsimp only;rw[hlen,hL1,rD,rD];have hw:cD 65 ax 0 (iN::(ts.map (bL 1)++(⟨5,[41],s.length+1⟩:Tok)::[aW (s.length+2)])) 0=dK (eO (cD 64 ax) ax 0) (iN::(ts.map (bL 1)++(⟨5,[41],s.length+1⟩:Tok)::[aW (s.length+2)])) 0:=rfl;have hp:=uIA (cD 64 ax) ax (ts.map (bL 1)++(⟨5,[41],s.length+1⟩:Tok)::[aW (s.length+2)]) 0;have hah:=uBX (ts.map (bL 1)++(⟨5,[41],s.length+1⟩:Tok)::[aW (s.length+2)]);have hN0:bM (ts++[aW s.length])<60:=by rw[uHW _ _ rfl];omega
  have E0:EndR (fun x z=>x∈ts++[aW s.length]∧z=bL 1 x) (ts++[aW s.length]) (ts.map (bL 1)++[aW (s.length+1)]) :=
   iX (ρ:=fun x z=>x∈ts++[aW s.length]∧z=bL 1 x) (e:=aW s.length) (e':=aW (s.length+1)) (bL 1) rfl (lL _ _ rfl rfl rfl ⟨by simp,rfl⟩) ts (fun t ht=>⟨(f1 t ht).k0,rW (f1 t ht) _ rfl rfl ⟨List.mem_append_left _ ht,rfl⟩,Nat.le_of_lt (hle t ht)⟩) f2
  have hJ:=iS (ρ:=fun x z=>x∈ts++[aW s.length]∧z=bL 1 x) (G:=True) (B:=True) (d:=0) ha 65 64 0 1 (bM (ts++[aW s.length])) ⟨.inr ⟨by omega,by omega⟩,fun _=>by omega⟩ (.inr ⟨by omega,by omega⟩) _ _ 0 E0 (Nat.le_refl _);have hSt:StopOk (aW (s.length+1)) (⟨5,[41],s.length+1⟩:Tok) [aW (s.length+2)]:=⟨rfl,.inl rfl,.one (lL _ _ rfl rfl rfl ⟨rfl,.head _⟩) rfl⟩
  have hI:=uIN hSt ha 64 1 _ _ 0 (uAD (e:=aW (s.length+1)) (Y:=(⟨5,[41],s.length+1⟩:Tok)::[aW (s.length+2)]) (ts.map (bL 1)) (fun t ht=>by
   obtain⟨x,hx,rfl⟩:=List.mem_map.1 ht;exact(f1 x hx).k0))
  have ES:EndR (fun x z=>x=z) (ts.map (bL 1)++(⟨5,[41],s.length+1⟩:Tok)::[aW (s.length+2)]) (ts.map (bL 1)++(⟨5,[41],s.length+1⟩:Tok)::[aW (s.length+2)]):=by
   have h:=iX (ρ:=fun x z=>x=z) id (e:=aW (s.length+2)) (e':=aW (s.length+2)) rfl (lL _ _ rfl rfl rfl rfl) (ts.map (bL 1)++[(⟨5,[41],s.length+1⟩:Tok)]) (fun t ht=>by
    rcases List.mem_append.1 ht with ht | ht
    ·obtain⟨x,hx,rfl⟩:=List.mem_map.1 ht;have:=hle x hx;exact⟨(f1 x hx).k0,⟨rfl,rfl,rfl,fun _=>rfl,(f1 x hx).num⟩,by show x.place+1≤s.length+2;omega⟩
    ·rw[List.mem_singleton.1 ht];exact⟨by show (5:Nat)≠0;decide,⟨rfl,rfl,rfl,fun _=>rfl,fun h=>(by cases h)⟩,by show s.length+1≤s.length+2;omega⟩) (by
    rw[List.pairwise_append];refine⟨?_,by simp,fun a ha' b hb'=>?_⟩
    ·rw[List.pairwise_map];exact f2.imp (fun h=>by show _+1≤_+1;omega)
    ·obtain⟨x,hx,rfl⟩:=List.mem_map.1 ha';rw[List.mem_singleton.1 hb'];have:=hle x hx;show x.place+1≤s.length+1;omega)
   simpa using h
  have hNS:bM (ts.map (bL 1)++(⟨5,[41],s.length+1⟩:Tok)::[aW (s.length+2)])<60:=by
   have key:∀ l:List Tok,bM (l.map (bL 1)++(⟨5,[41],s.length+1⟩:Tok)::[aW (s.length+2)])=bM l:=by
    intro l
    induction l with
    | nil=>rfl
    | cons a l ih=>show _+bM (l.map (bL 1)++_)=_+bM l;rw[ih];rfl
   rw[key];omega
  have hS:=iS (ρ:=fun x z=>x=z) (G:=True) (B:=True) (d:=0) ha 64 64 1 1 (bM (ts.map (bL 1)++(⟨5,[41],s.length+1⟩:Tok)::[aW (s.length+2)])) ⟨.inl rfl,fun _=>by omega⟩ (.inl ⟨rfl,rfl⟩) _ _ 0 ES (Nat.le_refl _);rw[hw];generalize hL:ts.map (bL 1)++(⟨5,[41],s.length+1⟩:Tok)::[aW (s.length+2)]=R at *;rcases hJ with⟨t,r,r',c1,j1,j2,j3,j4,j5⟩ | ⟨e,x,x',j1,j2,j3,j4⟩
  ·obtain⟨g1,g2⟩:=j5 trivial;rw[j1];rcases hI with⟨t2,r2,r2',c2,i1,i2,i3,_,_⟩ | ⟨k,p,i1,i2⟩ | ⟨⟨k,i1⟩,i2⟩
   rotate_left
   ·rw[i1]at j2;cases j2
   ·rw[i1]at j2;cases j2
   rw[i1]at j2;injection j2 with q1 q2 q3;subst q1 q2 q3;rw[i2]at hp;dsimp only at hp;by_cases k0:(hd r).kind=0
   ·have hcut:r2=[aW (s.length+1)]∧r2'=(⟨5,[41],s.length+1⟩:Tok)::[aW (s.length+2)]:=by
     rcases LocR.cut i3 with h | ⟨_,h⟩
     ·exact h
     ·exact absurd (by rw[← j3.hd.kind];exact k0) h
    rw[hcut.2]at hp;have hp2:eO (cD 64 ax) ax 0 (iN::R) 0=.ok t2 [aW (s.length+2)] c2:=hp;rw[yJ hah rfl hp2];have e1:lK (.ok t2 r c2)=lK (.ok t2 [aW (s.length+2)] c2):=by
     unfold lK;dsimp only;rw[if_neg (fun h=>h k0),if_neg (hke (s.length+2))]
    rw[e1];unfold lK;dsimp only;rw[if_neg (hke (s.length+2))];by_cases k1:256<c2
    ·rw[if_pos k1];exact .inr (.inr (.inl ⟨5,0,0,.inl rfl,rfl,rfl,.inl rfl⟩))
    ·rw[if_neg k1];rcases mC g2 (by omega) with⟨hc,_⟩ | hc
     ·rw[hc];exact .inl ⟨t2,rfl,rfl⟩
     ·rw[hc];exact .inr (.inr (.inl ⟨8,0,0,.inr rfl,rfl,rfl,.inl rfl⟩))
   ·have e1:lK (.ok t2 r c2)=.error (6,(hd r).place):=by
     unfold lK;dsimp only;rw[if_pos k0]
    rw[e1];have hhd:hd r2=hd r2':=by
     rcases LocR.cut i3 with⟨h,_⟩ | ⟨h,_⟩
     ·exfalso
      have:=j3.hd.kind;rw[h]at this;exact k0 this
     ·exact h
    obtain⟨m1,m2⟩:=j3.hd.rel;have mts:hd r∈ts:=by
     rcases List.mem_append.1 m1 with h | h
     ·exact h
     ·rw[List.mem_singleton.1 h]at k0;exact absurd rfl k0
    have hpl:=hle _ mts;refine .inr (.inr (.inr ⟨6,(hd r).place,by decide,by decide,by decide,by decide,rfl,?_⟩));by_cases b:isS (hd r2') [41]=true
    ·rw[if_pos b]at hp;have hs41:s[(hd r).place]?=some 41:=by
      rw[← hhd,m2]at b;unfold isS at b;simp only[Bool.and_eq_true,decide_eq_true_eq,beq_iff_eq]at b;exact(f1 _ mts).br 41 b.1 b.2
     rw[i2]at hS;have hself:EndR (fun x z=>x=z) r2' r2'∧bM r2'<60:=by
      rcases hS with⟨t3,r3,r3',c3,h1,h2,h3,h4,h5⟩ | ⟨k,x,z,h1,_⟩
      ·injection h1 with _ h1 _;injection h2 with _ h2 _;rw[← h1,← h2]at h3;rw[← h1]at h4;exact⟨h3,by omega⟩
      ·cases h1
     have hmem:∀ x∈r2'.tail,(hd r).place≤x.place:=by
      intro x hx;have hx2:x∈r2':=List.mem_of_mem_tail hx;rcases LocR.mem i3 x hx2 with h | h
      ·obtain⟨z,hz,hzr⟩:=j3.right x h;have h1:=j3.sorted z hz;rw[hzr.rel.2];show _≤z.place+1;omega
      ·rcases List.mem_cons.1 h with rfl | h
       ·show _≤s.length+1;omega
       ·rw[List.mem_singleton.1 h];show _≤s.length+2;omega
     have hrest:=(hself.1.tail (dD b)).diag (σ:=fun x z=>x=z∧(hd r).place≤x.place) (fun x hx=>⟨rfl,hmem x hx⟩);have ho:OutR (fun x z=>x=z∧(hd r).place≤x.place) True True 0 64 0 (eO (cD 64 ax) ax 0 (iN::R) 0) (eO (cD 64 ax) ax 0 (iN::R) 0):=by
      rw[hp];exact .inl ⟨t2,_,_,c2,rfl,rfl,hrest,by have:=bK r2';omega,fun _=>⟨g1,g2⟩⟩
     have hPR:PR (fun x z=>x=z∧(hd r).place≤x.place) True True 0 64 (eO (cD 64 ax) ax 0) (eO (cD 64 ax) ax 0):=uB ha ⟨.inl rfl,fun _=>by omega⟩ (fun M hM=>iS ha 64 64 1 1 M ⟨.inl rfl,fun _=>by omega⟩ (.inl ⟨rfl,rfl⟩));exact uX (fun x z h=>h.2) hs41 (yI hPR hah ho)
    ·rw[if_neg b]at hp;rw[kA hah hp,← hhd,m2];exact .inr (.inr ⟨6,_,by decide,by decide,by decide,rfl,by show (hd r).place≤(hd r).place+1;omega⟩)
  ·rw[j1];refine .inr (.inr (.inr ⟨e,x.place,j4.1,j4.2.1,j4.2.2.1,j4.2.2.2 trivial,rfl,?_⟩));have hx':x'.place=x.place+1:=by rw[j3.2];rfl
   rcases hI with⟨t2,r2,r2',c2,i1,i2,i3,_,_⟩ | ⟨k,p,i1,i2⟩ | ⟨⟨k,i1⟩,i2⟩
   ·rw[i1]at j2;cases j2
   ·rw[i1]at j2;injection j2 with q1 q2;subst q1;rw[i2]at hp;dsimp only at hp;rw[kA hah hp];exact .inr (.inr ⟨k,p,j4.1,j4.2.1,j4.2.2.2 trivial,rfl,by omega⟩)
   ·rw[i1]at j2;injection j2 with q1 q2;subst q1;have hxn:x.place=s.length:=by
     have:s.length+1=x'.place:=q2;omega
    rcases i2 with⟨t3,r3,c3,i2,i3⟩ | ⟨k2,z,i2,i3⟩
    ·rw[i2]at hp;dsimp only at hp;have hm:=i3.hd.rel.2;have he:hd r3=aW (s.length+2):=List.mem_singleton.1 hm;rw[he,if_neg (by rw[show isS (aW (s.length+2)) [41]=false from rfl];decide)]at hp;rw[kA hah hp,he];exact .inr (.inr ⟨6,_,by decide,by decide,by decide,rfl,by show x.place≤s.length+2;omega⟩)
    ·have hk2:Er True k2:=by
      rw[i2]at hS;rcases hS with⟨t3,r3,r3',c3,h1,_⟩ | ⟨k,x,z,h1,_,_,h4⟩
      ·cases h1
      ·injection h1 with h1 _;rw[h1];exact h4
     rw[i2]at hp;dsimp only at hp;rw[kA hah hp];refine .inr (.inr ⟨k2,_,hk2.1,hk2.2.1,hk2.2.2.2 trivial,rfl,?_⟩);rcases List.mem_cons.1 i3 with rfl | h
     ·show x.place≤s.length+1;omega
     ·rw[List.mem_singleton.1 h];show x.place≤s.length+2;omega
theorem at_of{s:Bs}{p:Nat}(h:s[p]?=some 41):∃ hl:p<s.length,((s[p].toNat:Int)==41)=true:=by
 obtain⟨hl,he⟩:=List.getElem?_eq_some_iff.1 h;exact⟨hl,by rw[he];rfl⟩
theorem xE(ax:Ax)(ha:lD ax)(s:Bs)(h:s.count 40<60):∃ (t t2:Tree) (e m p q:Nat),(nH (aY ax s)=t∧uDY (aY ax s)=p∧uDX (aY ax s)=e)∧(nH (aY ax (40::(s++[41])))=t2∧uDY (aY ax (40::(s++[41])))=q∧uDX (aY ax (40::(s++[41])))=m)∧p≤s.length∧q≤s.length+2 ∧
  ((t2=t∧e=0∧p=0∧m=0∧q=0)∨(e=7∧m=7∧q=p+1)∨((e=5∨e=8)∧m=e∧(q=p∨q=p+1))∨(e≠0∧e≠5∧e≠7∧e≠8∧((m=0∧q=0∧s[p]?=some 41)∨((m=5∨m=8)∧q=0∧s[p]?=some 41)∨(m≠0∧m≠5∧m≠8∧p≤q)))):=by
 have hlen:(40::(s++[41]):Bs).length=s.length+2:=by simp
 rcases sH ax ha s h with⟨t,h1,h2⟩ | ⟨k,h1,h2⟩ | ⟨e,p,q,he,h1,h2,hq⟩ | ⟨e,p,a0,a5,a7,a8,h1,hB⟩
 ·rw[h1,h2];exact⟨t,t,0,0,0,0,⟨rfl,rfl,rfl⟩,⟨rfl,rfl,rfl⟩,Nat.zero_le _,Nat.zero_le _,.inl ⟨rfl,rfl,rfl,rfl,rfl⟩⟩
 ·have hp:=fU ax ha s _ _ h1;rw[h1,h2];exact⟨lX,lX,7,7,k,k+1,⟨rfl,rfl,rfl⟩,⟨rfl,rfl,rfl⟩,hp,by omega,.inr (.inl ⟨rfl,rfl,rfl⟩)⟩
 ·have hp:=fU ax ha s _ _ h1;rw[h1,h2];exact⟨lX,lX,e,e,p,q,⟨rfl,rfl,rfl⟩,⟨rfl,rfl,rfl⟩,hp,by omega,.inr (.inr (.inl ⟨he,rfl,hq⟩))⟩
 ·have hp:=fU ax ha s _ _ h1;rcases hB with⟨t2,h2,h3⟩ | ⟨f,hf,h2,h3⟩ | ⟨f,q,b0,b5,b8,h2,h3⟩
  ·rw[h1,h2];exact⟨lX,t2,e,0,p,0,⟨rfl,rfl,rfl⟩,⟨rfl,rfl,rfl⟩,hp,Nat.zero_le _,.inr (.inr (.inr ⟨a0,a5,a7,a8,.inl ⟨rfl,rfl,h3⟩⟩))⟩
  ·rw[h1,h2];exact⟨lX,lX,e,f,p,0,⟨rfl,rfl,rfl⟩,⟨rfl,rfl,rfl⟩,hp,Nat.zero_le _,.inr (.inr (.inr ⟨a0,a5,a7,a8,.inr (.inl ⟨hf,rfl,h3⟩)⟩))⟩
  ·have hq:=fU ax ha _ _ _ h2;rw[hlen]at hq;rw[h1,h2];exact⟨lX,lX,e,f,p,q,⟨rfl,rfl,rfl⟩,⟨rfl,rfl,rfl⟩,hp,hq,.inr (.inr (.inr ⟨a0,a5,a7,a8,.inr (.inr ⟨b0,b5,b8,h3⟩)⟩))⟩
set_option maxRecDepth 1000000 in
set_option maxHeartbeats 12800000 in
theorem brackets_any(s:Bs)(A B:Option Addr)(ca cb:Nat)(ids jds:List IdR)(w:World)(hT:Tab w)(hA:lW w A ids)(hB:lW w B jds)(hf:∀ y∈ids,y.fits)(hg:∀ y∈jds,y.fits) :
  Calls Tryz.prog 4 #[.string ⟨s.toArray⟩,.slice A ids.length ca,.slice B jds.length cb] w fun e w'=>e=.returned (.bool true)∧Below w.heap.size w w':=by
 have CA:=zh (sD w hT);have HA:=zh hA;have HB:=zh hB;have HFt:=zh (And.intro hf hg);have HT:=zh hT;clear hT hA hB hf hg
 go_enter Tryz.func4,Tryz.ntmps4
 go_wp2_with fail
 refine CA.out.mono ?_;rintro e W1 ⟨rfl,hb1⟩;have HT1:=zh (HT.out.next hb1);have HA1:=zh (lP HA.out hb1);have HB1:=zh (lP HB.out hb1);have HL1:=zh hb1;clear hb1 CA HA HB;by_cases hbig:1500<s.length∨200<ids.length∨200<jds.length
 ·have CG:=zh (jR s A B none ids.length jds.length 0 ca cb 0 W1 true (by simp;omega))
  go_wp2_with fail
  refine CG.out.mono ?_;rintro e W2 ⟨rfl,hW2⟩;rw[hW2];clear hW2 CG
  go_wp2_with fail
  go_ret
  exact⟨rfl,HL1.out⟩
 have CG:=zh (jR s A B none ids.length jds.length 0 ca cb 0 W1 false (by simp;omega));have HSm:Hid (s.length≤1500∧ids.length≤200∧jds.length≤200):=zh (by omega);clear hbig
 go_wp2_with fail
 refine CG.out.mono ?_;rintro e W2 ⟨rfl,hW2⟩;rw[hW2];clear hW2 CG;have hsz:(s.length:Int)≤1500:=by have:=HSm.out.1;omega
 go_wp2_with fail
 go_loop [7,8] (fun u v=>∃ i:Nat,v=.int .i64 (i:Int)∧i≤s.length∧u=.int .i64 ((s.take i).count 40:Nat)) (fun _ v=>s.length-(intOf v).toNat)
 case atStart=>exact⟨0,rfl,Nat.zero_le _,rfl⟩
 case round=>
  obtain⟨i,rfl,hi,rfl⟩:=hrel;obtain⟨n,hn⟩:∃ n,(s.take i).count 40=n:=⟨_,rfl⟩
  have hni:n≤i:=by rw[← hn];exact Nat.le_trans List.count_le_length (by rw[List.length_take];omega)
  have hnb:(n:Int)≤1500:=by omega
  rw[hn];by_cases hlt:i<s.length
  ·have e40:=gS s i 40 40 rfl hlt;have hstep:(s.take (i+1)).count 40=n+(if aP s i 40=true then 1 else 0):=by
    rw[List.take_succ_eq_append_getElem hlt,List.count_append,hn,List.count_singleton];unfold aP;rw[List.getElem?_eq_getElem hlt];simp
   have HS:=zh hstep;clear hstep hn;cases h40:aP s i 40
   ·rw[h40]at e40 HS;have HS2:Hid ((s.take (i+1)).count 40=n):=zh (by simpa using HS.out);clear h40 HS
    go_wp2_with fail
    go_round
    case rel=>exact⟨i+1,by go_num,by omega,by rw[HS2.out]⟩
    case measure=>simp[intOf];omega
   ·rw[h40]at e40 HS;have HS2:Hid ((s.take (i+1)).count 40=n+1):=zh (by simpa using HS.out);clear h40 HS
    go_wp2_with fail
    go_round
    case rel=>exact⟨i+1,by go_num,by omega,by rw[HS2.out];go_num⟩
    case measure=>simp[intOf];omega
  ·have hns:s.count 40=n:=by rw[← hn,List.take_of_length_le (by omega)]
   clear hn;by_cases h60:60≤n
   ·have h60i:(60:Int)≤(n:Int):=by omega
    go_wp2_with fail
    go_ret
    exact⟨rfl,HL1.out⟩
   have h60i:¬ (60:Int)≤(n:Int):=by omega
   have hs60:s.count 40<60:=by omega
   clear hns h60;have CX:=zh (yU A B ca cb ids jds W1 HT1.out HA1.out HB1.out (by have:=HSm.out;omega) (by have:=HSm.out;omega) HFt.out.1 HFt.out.2 w HL1.out HT.out.lt);clear HA1 HB1 HT1 HL1
   go_wp2_with fail
   refine CX.out.mono ?_;rintro e W2 ⟨⟨u,rfl⟩,hb2,hcx⟩;have CX2:=zh hcx;clear hcx hb2 CX
   go_wp2_with fail
   refine CX2.out.mono ?_;rintro e W3 ⟨⟨u2,rfl⟩,hL3⟩;have HL3:=zh hL3;clear hL3 CX2;generalize W1.heap.size=qa at *;generalize W2.heap.size=qb at *;obtain⟨ax,hax⟩:∃ ax:Ax,ax=⟨cO ids,cO jds⟩:=⟨_,rfl⟩
   have hok:lD ax:=by rw[hax];exact xA ids jds
   rw[← hax]at HL3;clear hax;have CF:=zh (fun W S hL hs=>zV ax hok qa qb w W S hL hs);have CS:=zh (fun W (t:Tree) (C C':Array Value) (hn:t.size≤256) (h1:TreeIn W t C) (h2:TreeIn W t C')=>uK 256 (by omega) t t C C' W hn h1 h2);obtain⟨t,t2,e,m,p,q,hr1,hr2,hp,hq2,hq⟩:=xE ax hok s hs60;have HQ:=zh hq;have HR1:=zh hr1;have HR2:=zh hr2;have hpi:(p:Int)≤1500:=by omega
   have hqi:(q:Int)≤1502:=by omega
   clear hq hr1 hr2 hok hs60
   go_wp2_with fail
   refine(CF.out W3 (s) HL3.out (by have:=HSm.out;omega)).mono ?_;rintro e' W2' ⟨hL,hN,hs,h256,C1,rfl,hC,hC1,hk⟩;rw[HR1.out.1]at hk h256;rw[HR1.out.2.1,HR1.out.2.2];obtain⟨-,z2,z3,z4⟩:=oX hL HL3.out.qs hs hC hk;have HZ:=zh (And.intro z3 (And.intro z2 (And.intro h256 trivial)));have HTh:Hid (World.there (W2'.alloc (.cells aB.toArray 41)) W2'.heap.size 0 C1.toArray.size):=zh (kN hC);have HC1:=zh hC1;have zi:(Tryz.prog.info? 41).map (·.size)=some C1.toArray.size:=by rw[List.size_toArray,hC];exact aE
   clear z2 z3 z4 hL hN hs hC hC1 hk h256 HL3;simp only[aB]at HZ
   go_upto_region 16 with(first |(refine wpList_store_mid rfl 41 (.tmp 13) (.tmp 54) rfl W2'.heap.size 0 C1.toArray rfl rfl HTh.out zi HC1.out ?_;change wpList _ _ _ _ _ (World.setCells _ W2'.heap.size 0 C1);generalize World.setCells _ _ _ _=W2 at HZ ⊢))
   have HL12:=zh HZ.out.1;have HN1:=zh HZ.out.2.1;have H256:=zh HZ.out.2.2.1;clear HZ HTh HC1 zi;generalize W2'.heap.size=g1 at *;have HH1:=zh H256.out;clear H256
   go_wp2_with fail
   refine(CF.out W2 (40::(s++[41])) HL12.out (by have:=HSm.out;simp;omega)).mono ?_;rintro e' W3' ⟨hL,hN,hs,h256,C2,rfl,hC,hC1,hk⟩;rw[HR2.out.1]at hk h256;rw[HR2.out.2.1,HR2.out.2.2];obtain⟨-,z2,z3,z4⟩:=oX hL HL12.out.qs hs hC hk;have HZ:=zh (And.intro z3 (And.intro z2 (And.intro h256 (And.intro (z4 _ _ _ (hN _ _ _ HN1.out)) trivial))));have HTh:Hid (World.there (W3'.alloc (.cells aB.toArray 41)) W3'.heap.size 0 C2.toArray.size):=zh (kN hC);have HC1:=zh hC1;have zi:(Tryz.prog.info? 41).map (·.size)=some C2.toArray.size:=by rw[List.size_toArray,hC];exact aE
   clear z2 z3 z4 hL hN hs hC hC1 hk h256 HL12 HN1;simp only[aB]at HZ
   go_upto_region 17 with(first |(refine wpList_store_mid rfl 41 (.tmp 16) (.tmp 64) rfl W3'.heap.size 0 C2.toArray rfl rfl HTh.out zi HC1.out ?_;change wpList _ _ _ _ _ (World.setCells _ W3'.heap.size 0 C2);generalize World.setCells _ _ _ _=W3 at HZ ⊢))
   have HL13:=zh HZ.out.1;have HN2:=zh HZ.out.2.1;have HN1:=zh HZ.out.2.2.2.1;have H256:=zh HZ.out.2.2.1;clear HZ HTh HC1 zi;generalize W3'.heap.size=g2 at *;obtain⟨D1,hD1,hl1,ht1⟩:=HN1.out.tree;obtain⟨D2,hD2,hl2,ht2⟩:=HN2.out.tree;have hi1:(Tryz.prog.info? 41).map (·.size)=some D1.toArray.size:=by rw[List.size_toArray,hD1];exact aE
   have hi2:(Tryz.prog.info? 41).map (·.size)=some D2.toArray.size:=by rw[List.size_toArray,hD2];exact aE
   obtain⟨cT,hcT⟩:∃ b:Bool,b=true:=⟨_,rfl⟩
   have hts:=wT t;have HB:=zh HL13.out.bel;clear HN1 HN2 HL13;rcases HQ.out with⟨rfl,he0,hp0,hm0,hq0⟩ | ⟨he7,hm7,hq⟩ | ⟨h58,hme,hq⟩ | ⟨he0,he5,he7,he8,hq⟩
   ·have xe:((e:Int)==0)=true:=by rw[Bool.eq_iff_iff];simp;try omega
    have xm:((m:Int)==0)=true:=by rw[Bool.eq_iff_iff];simp;try omega
    have xq:((q:Int)==0)=true:=by rw[Bool.eq_iff_iff];simp;try omega
    clear he0 hp0 hm0 hq0
    go_upto_region 18 with fail
    obtain⟨TT,hTT⟩:∃ TT:List (Nat×Nat×Value),TT=((0,69,.int .i64 (m:Int))::(1,70,.bool cT)::(2,71,.bool cT)::(3,72,(bif cT then .int .i64 (q:Int) else undef))::(4,73,(bif cT then .bool cT else undef))::(5,74,.bool cT)::(6,75,.bool cT)::(7,76,(bif cT then .agg D1.toArray else undef))::(8,77,(bif cT then .agg D2.toArray else undef))::(9,78,(bif cT then .bool true else undef))::(10,79,.bool cT)::(11,6,.bool cT)::[]):=⟨_,rfl⟩
    have HTT:=zh hTT;clear hTT;refine bA (fun a0=>137≤a0.tmps.size∧a0.eval (.tmp 13)=.pointer (some ⟨g1,0,none⟩)∧a0.eval (.tmp 16)=.pointer (some ⟨g2,0,none⟩)∧a0.eval (.tmp 17)=.int .i64 (q:Int)∧a0.eval (.tmp 18)=.int .i64 (m:Int)) (69::70::71::72::73::74::75::76::77::78::79::6::[]) TT [] (fun w'=>Below W3.heap.size W3 w') (by kernel_rfl) ⟨by simp,rfl,rfl,rfl,rfl⟩ (Below.refl _ _) ?_ ?_
    ·rintro a0 ⟨hs,hq13,hq16,hq17,hq18⟩ zl a1 w1 zj o hsz hI hun ho zd;have hb1:Below W3.heap.size W3 w1:=hI.st;have hTT:=HTT.out;have hk:okU (TT.map fun e=>(e.1,e.2.1)) (69::70::71::72::73::74::75::76::77::78::79::6::[]) 137=true:=by rw[hTT];rfl
     subst hTT;have e13x:=aA ((hI.off.eval (by decide)).trans hq13);have e16x:=aA ((hI.off.eval (by decide)).trans hq16);have e17x:=aA ((hI.off.eval (by decide)).trans hq17);have e18x:=aA ((hI.off.eval (by decide)).trans hq18);have hj:=Up.of_false hun;have hj12:zj<12:=by rw[hsz]at hj;exact hj
     have G:RG _ _ _ _ _ _ _ _ _ _ _:=⟨hk,hI,hs,hun,ho,zd⟩
     rcases(by omega:zj=0∨zj=1∨zj=2∨zj=3∨zj=4∨zj=5∨zj=6∨zj=7∨zj=8∨zj=9∨zj=10∨zj=11) with rfl | rfl | rfl | rfl | rfl | rfl | rfl | rfl | rfl | rfl | rfl | rfl
     ·obtain rfl:=oi ho;exact G.nl 0 rfl (by simp[execOp,go_sem,e18x])
     ·obtain rfl:=oi ho;have p0:=G.d 0 rfl;exact G.nl 1 rfl (by simp[execOp,go_sem,aA p0,xm,hcT])
     ·obtain rfl:=oi ho;have p1:=G.d 1 rfl;exact G.nl 2 rfl (by simp[execOp,go_sem,aA p1])
     ·obtain rfl:=oi ho;have pg:=G.g 2 rfl;cases cT with
      | false=>exact G.sk 3 rfl pg rfl
      | true=>
       exact G.vl 3 rfl pg rfl (by simp[execOp,go_sem,e17x])
     ·obtain rfl:=oi ho;have pg:=G.g 2 rfl;cases cT with
      | false=>exact G.sk 4 rfl pg rfl
      | true=>
       have p3:=G.d 3 rfl;exact G.vl 4 rfl pg rfl (by simp[execOp,go_sem,aA p3,xq])
     ·obtain rfl:=oi ho;cases cT
      all_goals have p2:=G.d 2 rfl
      all_goals have p4:=G.d 4 rfl
      all_goals exact G.nl 5 rfl (by simp[execOp,go_sem,aA p2,aA p4])
     ·obtain rfl:=oi ho;have p5:=G.d 5 rfl;exact G.nl 6 rfl (by simp[execOp,go_sem,aA p5])
     ·obtain rfl:=oi ho;have pg:=G.g 6 rfl;cases cT with
      | false=>exact G.sk 7 rfl pg rfl
      | true=>
       have e13y:=(hI.off.eval (by decide)).trans hq13;exact G.vl 7 rfl pg rfl (aL 41 (.tmp 13) rfl g1 0 e13y D1 _ (hl1.next hb1).range Tryz.underlying41 rfl hi1)
     ·obtain rfl:=oi ho;have pg:=G.g 6 rfl;cases cT with
      | false=>exact G.sk 8 rfl pg rfl
      | true=>
       have e16y:=(hI.off.eval (by decide)).trans hq16;exact G.vl 8 rfl pg rfl (aL 41 (.tmp 16) rfl g2 0 e16y D2 _ (hl2.next hb1).range Tryz.underlying41 rfl hi2)
     ·obtain rfl:=oi ho;have pg:=G.g 6 rfl;cases cT with
      | false=>exact G.sk 9 rfl pg rfl
      | true=>
       have p7:=G.d 7 rfl;have p8:=G.d 8 rfl;refine dA (inT 9 rfl) hk hI hs hun ho zd (Eq.trans (aN rfl rfl rfl pg) rfl) rfl 12 #[.agg D1.toArray,.agg D2.toArray] (by simp[go_sem,aA p7,aA p8]) ?_;refine(CS.out w1 t2 D1.toArray D2.toArray HH1.out (ht1 w1 hb1) (ht2 w1 hb1)).mono ?_;rintro e w2 ⟨rfl,hb⟩;rw[hts];exact⟨rfl,hb1.trans (hb.mono hb1.size)⟩
     ·obtain rfl:=oi ho;cases cT
      all_goals have p6:=G.d 6 rfl
      all_goals have p9:=G.d 9 rfl
      all_goals exact G.nl 10 rfl (by simp[execOp,go_sem,aA p6,aA p9])
     ·obtain rfl:=oi ho;have p10:=G.d 10 rfl;exact G.nl 11 rfl (by simp[execOp,go_sem,aA p10])
    ·intro zl a1 w1 hI hup;have hb1:Below W3.heap.size W3 w1:=hI.st;have hTT:=HTT.out;subst hTT;have z6:=hI.ptk 11 rfl (hup 11 (by decide));obtain⟨ff,rfl,hf⟩:=hI.off.forms;rw[← hf 6]at z6;clear hI;simp only[List.foldl,Act.put,List.setIfInBounds_toArray,List.set];rw[z6];have HB2:Hid (Below w.heap.size w w1):=zh (HB.out.trans (hb1.mono HB.out.size));rw[hcT]
     go_wp2_with fail
     go_ret
     exact⟨rfl,HB2.out⟩
   clear hl1 hl2 ht1 ht2 hi1 hi2 hcT hts
   ·have x0:((e:Int)==0)=false:=by rw[Bool.eq_iff_iff];simp;try omega
    have x7:((e:Int)==7)=true:=by rw[Bool.eq_iff_iff];simp;try omega
    have y7:((m:Int)==7)=true:=by rw[Bool.eq_iff_iff];simp;try omega
    have yq:((q:Int)==p+1)=true:=by rw[Bool.eq_iff_iff];simp;try omega
    clear he7 hm7 hq
    go_wp2_with fail
    go_ret
    exact⟨rfl,HB.out⟩
   ·have x0:((e:Int)==0)=false:=by rw[Bool.eq_iff_iff];simp;try omega
    have x7:((e:Int)==7)=false:=by rw[Bool.eq_iff_iff];simp;try omega
    have ym:((m:Int)==e)=true:=by rw[Bool.eq_iff_iff];simp;try omega
    rcases h58 with h5 | h8
    ·have x5:((e:Int)==5)=true:=by rw[Bool.eq_iff_iff];simp;try omega
     rcases hq with hq | hq
     ·have yq:((q:Int)==p)=true:=by rw[Bool.eq_iff_iff];simp;try omega
      clear h5 hme hq
      go_wp2_with fail
      go_ret
      exact⟨rfl,HB.out⟩
     ·have yq:((q:Int)==p)=false:=by rw[Bool.eq_iff_iff];simp;try omega
      have yq1:((q:Int)==p+1)=true:=by rw[Bool.eq_iff_iff];simp;try omega
      clear h5 hme hq
      go_wp2_with fail
      go_ret
      exact⟨rfl,HB.out⟩
    ·have x5:((e:Int)==5)=false:=by rw[Bool.eq_iff_iff];simp;try omega
     have x8:((e:Int)==8)=true:=by rw[Bool.eq_iff_iff];simp;try omega
     rcases hq with hq | hq
     ·have yq:((q:Int)==p)=true:=by rw[Bool.eq_iff_iff];simp;try omega
      clear h8 hme hq
      go_wp2_with fail
      go_ret
      exact⟨rfl,HB.out⟩
     ·have yq:((q:Int)==p)=false:=by rw[Bool.eq_iff_iff];simp;try omega
      have yq1:((q:Int)==p+1)=true:=by rw[Bool.eq_iff_iff];simp;try omega
      clear h8 hme hq
      go_wp2_with fail
      go_ret
      exact⟨rfl,HB.out⟩
   ·have x0:((e:Int)==0)=false:=by rw[Bool.eq_iff_iff];simp;try omega
    have x5:((e:Int)==5)=false:=by rw[Bool.eq_iff_iff];simp;try omega
    have x7:((e:Int)==7)=false:=by rw[Bool.eq_iff_iff];simp;try omega
    have x8:((e:Int)==8)=false:=by rw[Bool.eq_iff_iff];simp;try omega
    clear he0 he5 he7 he8;rcases hq with⟨hm0,hq0,hs41⟩ | ⟨h58,hq0,hs41⟩ | ⟨hm0,hm5,hm8,hpq⟩
    ·obtain⟨hlt2,hat⟩:=at_of hs41;have hlti:(p:Int)<(s.length:Int):=by omega
     have y0:((m:Int)==0)=true:=by rw[Bool.eq_iff_iff];simp;try omega
     have yq:((q:Int)==0)=true:=by rw[Bool.eq_iff_iff];simp;try omega
     clear hm0 hq0 hs41
     go_wp2_with fail
     go_ret
     exact⟨rfl,HB.out⟩
    ·obtain⟨hlt2,hat⟩:=at_of hs41;have hlti:(p:Int)<(s.length:Int):=by omega
     have yq:((q:Int)==0)=true:=by rw[Bool.eq_iff_iff];simp;try omega
     rcases h58 with h5 | h8
     ·have y0:((m:Int)==0)=false:=by rw[Bool.eq_iff_iff];simp;try omega
      have y5:((m:Int)==5)=true:=by rw[Bool.eq_iff_iff];simp;try omega
      clear h5 hq0 hs41
      go_wp2_with fail
      go_ret
      exact⟨rfl,HB.out⟩
     ·have y0:((m:Int)==0)=false:=by rw[Bool.eq_iff_iff];simp;try omega
      have y5:((m:Int)==5)=false:=by rw[Bool.eq_iff_iff];simp;try omega
      have y8:((m:Int)==8)=true:=by rw[Bool.eq_iff_iff];simp;try omega
      clear h8 hq0 hs41
      go_wp2_with fail
      go_ret
      exact⟨rfl,HB.out⟩
    ·have y0:((m:Int)==0)=false:=by rw[Bool.eq_iff_iff];simp;try omega
     have y5:((m:Int)==5)=false:=by rw[Bool.eq_iff_iff];simp;try omega
     have y8:((m:Int)==8)=false:=by rw[Bool.eq_iff_iff];simp;try omega
     have hpqi:(p:Int)≤(q:Int):=by omega
     clear hm0 hm5 hm8
     go_wp2_with fail
     go_ret
     exact⟨rfl,HB.out⟩
end Go.Proofs.YtmgjidnalpgegaaGreatDoor
