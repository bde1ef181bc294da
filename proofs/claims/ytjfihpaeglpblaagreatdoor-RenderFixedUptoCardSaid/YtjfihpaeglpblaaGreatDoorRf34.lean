/-
  Lemmas, part 34: RsD FxA.
-/
import Derived.Test.YtjfihpaeglpblaaGreatDoorRf33
set_option maxHeartbeats 100000000
set_option maxRecDepth 1000000
namespace Go.Proofs.YtjfihpaeglpblaaGreatDoor
open Go.RowKit
abbrev twoH:NodeH:=⟨0,⟨1,2,0,[],false,0⟩,[],aN,aN,0⟩
abbrev powH:NodeH:=⟨6,aD,[94],aN,aN,0⟩
abbrev negH:NodeH:=⟨5,aD,[45],aN,aN,0⟩
def negT:Tree:=.mk negH [.mk powH [.mk twoH [],.mk twoH []]]
def fT:List Value:=(aH twoH none 0 0).toList
def uBB(q:Nat):List Value:=(aH powH (some ⟨q,0,none⟩) 2 2).toList
def rO(q:Nat):List Value:=(aH negH (some ⟨q,0,none⟩) 1 1).toList
theorem uEC:Tryz.prog.built 34 [(0,vI 0),(1,.agg #[vI 1,vI 2,vI 0,vS #[],.bool false,vI 0])]=some fT.toArray:=by kernel_rfl
theorem uEB(q:Nat):Tryz.prog.built 34 [(0,vI 6),(2,vS #[94]),(5,.slice (some ⟨q,0,none⟩) 2 2)]=some (uBB q).toArray:=by kernel_rfl
theorem uEA(q:Nat):Tryz.prog.built 34 [(0,vI 5),(2,vS #[45]),(5,.slice (some ⟨q,0,none⟩) 1 1)]=some (rO q).toArray:=by kernel_rfl
theorem iC{ops:Array Oper}{rest:List Oper}{o:Oper}{a:Act}{w:World}{Q:Exit->Act->World->Prop}(hg:o.guard=none)(t:TypeId)(parts:Array (Nat×Go.Operand))(ho:o.op=.build t parts)(C:List Value)
  (hf:Tryz.prog.built t (parts.map fun(i,x)=>(i,a.eval x)).toList=some C.toArray) (h:wpList Tryz.prog ops Q rest (a.put o.dst (.agg C.toArray)) w):wpList Tryz.prog ops Q (o::rest) a w :=
 wpList_build hg t parts ho (by rw[hf];rfl) (by rw[hf];exact h)
theorem uAK:eG .plain none none negT=[45,40,50,94,50,41]:=by kernel_rfl
theorem two_one:fT.toArray.all (·.oneCell')=true:=by simp[fT,Value.oneCell']
theorem neg_one(q:Nat):(rO q).toArray.all (·.oneCell')=true:=by simp[rO,Value.oneCell']
theorem neg_fine:negT.fine:=by
 refine⟨⟨by decide,by decide,by decide,by decide⟩,⟨⟨by decide,by decide,by decide,by decide⟩,⟨⟨by decide,by decide,by decide,by decide⟩,trivial⟩,⟨⟨by decide,by decide,by decide,by decide⟩,trivial⟩,trivial⟩,trivial⟩
theorem eJ:aN.fits:=⟨⟨by decide,by decide⟩,⟨by decide,by decide⟩⟩
theorem neg_ok:negT.ok 10:=by
 refine⟨⟨by decide,by decide,eJ,eJ,by decide,by decide⟩,⟨⟨by decide,by decide,eJ,eJ,by decide,by decide⟩,⟨⟨by decide,by decide,eJ,eJ,by decide,by decide⟩,trivial⟩,⟨⟨by decide,by decide,eJ,eJ,by decide,by decide⟩,trivial⟩,trivial⟩,trivial⟩
theorem neg_tree{P:Nat->Prop}{W:World}{a b:Nat}(h1:Lies W a 34 (fT++fT).toArray)(h2:Lies W b 34 (uBB a).toArray)(ha:P a)(hb:P b):TreeP P W negT (rO b).toArray:=by
 refine⟨some ⟨b,0,none⟩,1,rfl,by decide,.inr ⟨b,0,rfl,hb,h2.lt,⟨some ⟨a,0,none⟩,2,by decide,fun j hj=>?_,.inr ⟨a,0,rfl,ha,h1.lt,⟨none,0,by decide,fun j hj=>?_,.inl rfl⟩,⟨none,0,by decide,fun j hj=>?_,.inl rfl⟩,trivial⟩⟩,trivial⟩⟩
 ·rw[Nat.zero_add,h2.cell j];rfl
 ·rw[Nat.zero_add,h1.cell j];have e:fT.length=22:=rfl;rw[za,List.getElem?_append_left (by omega)];simp[fT]
 rw[h1.cell];have e:fT.length=22:=rfl;rw[za,List.getElem?_append_right (by omega),e,show 0+22+j-22=j from by omega];simp[fT]
theorem lM(w:World)(hg:Gl w):Calls Tryz.prog 10 #[] w fun e w'=>e=.returned (.bool true)/\Below w.heap.size w w':=by
 obtain⟨q,hq⟩:=zD w.heap.size
 obtain⟨W0,aj⟩:=zD (w.alloc (.cells bT.toArray 34))
 have s0:W0.heap.size=q+1:=by rw[aj,World.size_alloc,hq]
 have l0:Lies W0 q 34 bT.toArray:=by rw[aj,hq];exact Lies.new w _ _
 have b0:Below q w W0:=by rw[aj,hq];exact(Below.refl _ w).alloc zr _
 have z0:Kp [] w W0:=by rw[aj];exact(Kp.refl _ w).alloc _
 obtain⟨W1,am⟩:=zD (W0.setCells q 0 fT)
 have l1:Lies W1 q 34 fT.toArray:=by rw[am];exact l0.putAll rfl
 have z1:Kp [] w W1:=by rw[am];exact mM (.inr (by omega)) fT 0 z0
 have s1:W1.heap.size=q+1:=by rw[am,lH,s0]
 obtain⟨W2,dx⟩:=zD (W1.alloc (.cells (fT++fT).toArray 34))
 have s2:W2.heap.size=q+2:=by rw[dx,World.size_alloc,s1]
 have z2:Kp [] w W2:=by rw[dx];exact z1.alloc _
 have l2:Lies W2 (q+1) 34 (fT++fT).toArray:=by rw[dx,<- s1];exact Lies.new _ _ _
 obtain⟨W3,jk⟩:=zD (W2.alloc (.cells (uBB (q+1)).toArray 34))
 have s3:W3.heap.size=q+3:=by rw[jk,World.size_alloc,s2]
 have z3:Kp [] w W3:=by rw[jk];exact z2.alloc _
 have l3:Lies W3 (q+2) 34 (uBB (q+1)).toArray:=by rw[jk,<- s2];exact Lies.new _ _ _
 have m3:Lies W3 (q+1) 34 (fT++fT).toArray:=by rw[jk];exact l2.alloc _
 obtain⟨W4,l8⟩:=zD (W3.alloc (.cells bT.toArray 34))
 have s4:W4.heap.size=q+4:=by rw[l8,World.size_alloc,s3]
 have z4:Kp [] w W4:=by rw[l8];exact z3.alloc _
 have l4:Lies W4 (q+3) 34 bT.toArray:=by rw[l8,<- s3];exact Lies.new _ _ _
 obtain⟨W5,dr⟩:=zD (W4.setCells (q+3) 0 (rO (q+2)))
 have l5:Lies W5 (q+3) 34 (rO (q+2)).toArray:=by rw[dr];exact l4.putAll rfl
 have z5:Kp [] w W5:=by rw[dr];exact mM (.inr (by omega)) _ 0 z4
 have n5:Lies W5 (q+2) 34 (uBB (q+1)).toArray:=by rw[dr];exact fH (by omega) _ 0 (by rw[l8];exact l3.alloc _)
 have m5:Lies W5 (q+1) 34 (fT++fT).toArray:=by rw[dr];exact fH (by omega) _ 0 (by rw[l8];exact m3.alloc _)
 have bk:Hid (Below w.heap.size w W5):=zh (z5.below (fun k hk=>by cases hk) zr);have CF:Hid (Calls Tryz.prog 13 #[.agg (rO (q+2)).toArray,.pointer none,.pointer none] W5 fun e w'=>e=.returned (vS #[45,40,50,94,50,41])/\Gl w'/\Below W5.heap.size W5 w'):=zh (by
  have h:=wD negT 10 none none none none (rO (q+2)) W5 (neg_tree m5 n5 (by simp) (by simp)) neg_fine neg_ok (by decide) trivial trivial (fun b hb=>by cases hb) (hg.next bk.out) (fun b hb=>by cases hb);rw[uAK]at h;refine h.mono ?_;rintro e w' ⟨rfl,-,-,h3,h4⟩;exact⟨rfl,h3,h4.below (fun k hk=>by cases hk) zr⟩)
 have HT0:Hid (W0.there q 0 fT.toArray.size):=zh l0.thereA;have HT4:Hid (W4.there (q+3) 0 (rO (q+2)).toArray.size):=zh l4.thereA;have kv:=zh l1.range;have lh:=zh l5.range;have H22:Hid (fT.length=22):=zh rfl;have HP22:Hid ((uBB (q+1)).length=22):=zh rfl;have HI1:Hid ((Tryz.prog.info? 34).map (·.size)=some fT.length):=zh bO
 have HI5:Hid ((Tryz.prog.info? 34).map (·.size)=some (rO (q+2)).length):=zh bO
 have ak:=zh aj;have al:=zh am;have jo:=zh dx;have HW3:=zh jk;have HW4:=zh l8;have HW5:=zh dr;have eu:=zh s1;have lj:=zh s2;have ou:=zh s3;have HQ:=zh hq;have HBT:=zh uEC;have HBP:=zh (uEB (q+1));have HBN:=zh (uEA (q+2));have tf:=zh two_one;have HON:=zh (neg_one (q+2));clear aj am dx jk l8 dr s0 s1 s2 s3 s4 z0 z1 z2 z3 z4 z5 b0 l0 l1 l2 l3 l4 l5 m3 n5 m5 hg hq;generalize fT=c2 at *;generalize uBB (q+1)=cp at *;generalize rO (q+2)=cn at *
 go_in
 go_upto_region 2 with(first
  |(refine iC rfl 34 #[(0,.const (vI 0)),(1,.tmp 4)] rfl c2 (by simp only[List.map_toArray,List.map_cons,List.map_nil];exact HBT.out) ?_)
  |(refine yq rfl 34 (.tmp 1) (.tmp 5) rfl w.heap.size 0 c2.toArray rfl rfl (by rw[<- HQ.out,<- ak.out];exact HT0.out) HI1.out tf.out ?_;change wpList _ _ _ _ _ (World.setCells _ w.heap.size 0 c2);rw[<- ak.out,<- HQ.out,<- al.out]))
 go_upto_region 3 with(first
  |(refine yr rfl 34 (.tmp 1) rfl q 0 rfl c2 _ kv.out Tryz.underlying34 rfl HI1.out ?_)
  |(refine uCK rfl (.tmp 6) (.tmp 7) rfl c2 c2 rfl rfl H22.out H22.out (q+1) eu.out _ rfl ?_;rw[<- jo.out])
  |(refine iC rfl 34 #[(0,.const (vI 6)),(2,.const (vS #[94])),(5,.tmp 8)] rfl cp (by simp only[List.map_toArray,List.map_cons,List.map_nil];exact HBP.out) ?_)
  |(refine sS rfl (.tmp 9) rfl cp rfl HP22.out (q+2) lj.out _ rfl ?_;rw[<- HW3.out])
  |(refine iC rfl 34 #[(0,.const (vI 5)),(2,.const (vS #[45])),(5,.tmp 10)] rfl cn (by simp only[List.map_toArray,List.map_cons,List.map_nil];exact HBN.out) ?_)
  |(refine yq rfl 34 (.tmp 2) (.tmp 11) rfl W3.heap.size 0 cn.toArray rfl rfl (by rw[<- HW4.out,ou.out];exact HT4.out) HI5.out HON.out ?_;change wpList _ _ _ _ _ (World.setCells _ W3.heap.size 0 cn);rw[<- HW4.out,ou.out,<- HW5.out]))
 clear ak al jo HW3 HW4 HW5 kv eu lj ou HT0 HT4 HI1 H22 HP22;have CE:Hid (∀ W,Gl W->Calls Tryz.prog 26 #[.agg #[vI 1,vI 2,vI 0,vI 0,vS #[84,82,85,69],.bool false,vI 0,vI 0,vI 0,vI 0,vI 0,vS #[],.bool false,vI 0,vS #[],vI 0,vI 0,vI 0,vI 0,.bool false,.bool false,vI 0,vI 0,vI 0,vI 0,.bool false,.bool false,vI 0,.slice none 0 0],.pointer none,.pointer none] W fun e w'=>e=.returned (vS #[39,84,82,85,69])/\Below W.heap.size W w'):=zh (fun W h=>zW W h.tab h.pow)
 go_wp2_with (first
  |(refine yr rfl 34 (.tmp 2) rfl (q+3) 0 rfl cn _ lh.out Tryz.underlying34 rfl HI5.out ?_)
  |((with_reducible refine CF.out.mono ?_);rintro e w1 ⟨rfl,iy,hb⟩;have HG1:=zh iy;have qe:=zT bk hb;clear iy hb)
  |((with_reducible refine(CE.out _ HG1.out).mono ?_);rintro e w2 ⟨rfl,hb⟩;have o8:=zT qe hb;clear hb))
 go_ret
 exact⟨rfl,o8.out⟩
def fixC(a:Cor):Cor:=⟨a.row,a.col,decide (a.row≠id0),decide (a.col≠id0)⟩
def cQ(h:NodeH):NodeH:=⟨h.kind,h.v,h.name,fixC h.a,fixC h.b,h.rows⟩
mutual
def cR:Tree->Tree
 | .mk h l=>.mk (cQ h) (dG l)
def dG:List Tree->List Tree
 | []=>[]
 |t::r=>cR t::dG r
end
theorem iF:∀ l:List Tree,(dG l).length=l.length
 | []=>by rw[dG]
 |t::r=>by rw[dG,yi,yi,iF r]
theorem tS:∀ (l:List Tree) (i:Nat) (hi:i<l.length) (hj:i<(dG l).length),(dG l)[i]'hj=cR (l[i]'hi)
 | [],_,hi,_=>absurd hi (by simp)
 |t::r,0,_,_=>by simp[dG]
 |t::r,i+1,hi,hj=>by
  have h:=tS r i (by simpa using hi) (by rw[iF];simpa using hi);simpa [dG] using h
mutual
theorem tT:∀ t:Tree,(cR t).size=t.size
 | .mk h l=>by rw[cR,Tree.size,Tree.size,qV l]
theorem qV:∀ l:List Tree,aM (dG l)=aM l
 | []=>by rw[dG]
 |t::r=>by rw[dG,aM,aM,tT t,qV r]
end
mutual
theorem uDB{N:Nat}:∀ {t:Tree},t.ok N->(cR t).ok N
 | .mk h l,hk=>by
  rw[Tree.ok]at hk;rw[cR,Tree.ok];exact⟨hk.1,wS hk.2⟩
theorem wS{N:Nat}:∀ {l:List Tree},okL N l->okL N (dG l)
 | [],_=>by rw[dG,okL];trivial
 |t::r,hk=>by
  rw[okL]at hk;rw[dG,okL];exact⟨uDB hk.1,wS hk.2⟩
end
theorem cell_fix(r c r' c':Nat)(R C:AxV)(h:NodeH)(h1:h.a.row≠id0)(h2:h.a.col≠id0):iE (.seen r c) R C (cQ h)=iE (.seen r' c') R C (cQ h):=by
 have e1:(cQ h).a.fr=true:=decide_eq_true h1;have e2:(cQ h).a.fc=true:=decide_eq_true h2;unfold iE;rw[e1,e2];rfl
theorem span_fix(r c r' c':Nat)(R C:AxV)(h:NodeH)(hg:bM (cQ h).a (cQ h).b=true):jJ (.seen r c) R C (cQ h).a (cQ h).b=jJ (.seen r' c') R C (cQ h).a (cQ h).b:=by
 have ea1:(cQ h).a.fr=decide ((cQ h).a.row≠id0):=rfl;have ea2:(cQ h).a.fc=decide ((cQ h).a.col≠id0):=rfl;have eb1:(cQ h).b.fr=decide ((cQ h).b.row≠id0):=rfl;have eb2:(cQ h).b.fc=decide ((cQ h).b.col≠id0):=rfl;generalize (cQ h).a=a at *;generalize (cQ h).b=b at *;unfold bM at hg;simp only[yh,Bool.or_eq_true,beq_iff_eq]at hg;obtain⟨⟨⟨⟨g1,g2⟩,g3⟩,_⟩,_⟩:=hg;rw[<- ea1,<- eb1]at g1;rw[<- ea2,<- eb2]at g2;rw[<- ea1,<- ea2]at g3;unfold jJ;by_cases h1:a.row=id0
 ·have e1:a.fr=false:=by rw[ea1];exact decide_eq_false (by simpa using h1)
  have e2:a.fc=true:=by rw[e1]at g3;simpa using g3
  rw[if_pos h1,if_pos h1,<- g2,e2];rfl
 have e1:a.fr=true:=by rw[ea1];exact decide_eq_true h1
 rw[if_neg h1,if_neg h1];by_cases h2:a.col=id0
 ·rw[if_pos h2,if_pos h2,<- g1,e1];rfl
 have e2:a.fc=true:=by rw[ea2];exact decide_eq_true h2
 rw[if_neg h2,if_neg h2,<- g1,<- g2,e1,e2];rfl
theorem node_fix(r c r' c':Nat)(R C:AxV)(h:NodeH)(lv:List Int)(ts:List (List RTok))(n:Nat)(ks:List Int)(k:Int)(hr:aV (cQ h) n ks k=true):eD (.seen r c) R C (cQ h) lv ts=eD (.seen r' c') R C (cQ h) lv ts:=by
 unfold eD;by_cases h1:(cQ h).kind=1\/(cQ h).kind=3
 ·have h0:¬ (cQ h).kind=0:=by omega
  rw[if_neg h0,if_pos h1,if_neg h0,if_pos h1];unfold aV at hr;rw[if_neg h0,if_pos h1]at hr;simp only[yh,decide_eq_true_eq]at hr;exact cell_fix r c r' c' R C h hr.1.1.1 hr.1.1.2
 by_cases h2:(cQ h).kind=2
 ·have h0:¬ (cQ h).kind=0:=by omega
  rw[if_neg h0,if_neg h1,if_pos h2,if_neg h0,if_neg h1,if_pos h2];unfold aV at hr;rw[if_neg h0,if_neg h1,if_pos h2]at hr;simp only[yh]at hr;exact span_fix r c r' c' R C h hr.1.1
 simp only[if_neg h1,if_neg h2]
mutual
theorem yC(r c r' c':Nat)(R C:AxV):∀ (t:Tree) (k:Int),(cR t).right k=true->(cR t).toks (.seen r c) R C=(cR t).toks (.seen r' c') R C
 | .mk h l,k,hr=>by
  rw[cR]at hr ⊢;obtain⟨h1,h2⟩:=cY hr;rw[Tree.toks,Tree.toks,uU r c r' c' R C l _ h2];exact node_fix r c r' c' R C h _ _ _ _ k h1
theorem uU(r c r' c':Nat)(R C:AxV):∀ (l:List Tree) (k:Int),aT (dG l) k=true->bE (.seen r c) R C (dG l)=bE (.seen r' c') R C (dG l)
 | [],_,_=>by rw[dG,bE,bE]
 |t::q,k,hr=>by
  rw[dG]at hr ⊢;simp only[aT,yh]at hr;rw[bE,bE,yC r c r' c' R C t k hr.1.2,uU r c r' c' R C q k hr.2]
end
theorem uDH:∀ (l:List RTok) (p:Option RTok),(∃ x∈l,kY x≠[])->dN p l≠[]
 | [],_,⟨_,h,_⟩=>by cases h
 |t::r,p,⟨x,hx,hn⟩=>by
  rw[dN];rcases ym.1 hx with rfl|hx
  ·intro e;simp only[List.append_eq_nil_iff]at e;exact hn e.2.1
  intro e;simp only[List.append_eq_nil_iff]at e;exact uDH r (some t) ⟨x,hx,hn⟩ e.2.2
theorem iZ{k:Int}{s:Bs}(hk:k≠2)(hs:s≠[]):kY (tk k s)≠[]:=by
 unfold kY;rw[if_neg (by rw[beq_iff_eq];exact hk)];exact hs
theorem OkS.ne{s:Bs}(h:OkS s):s≠[]:=by
 obtain⟨_,c,r,e,_⟩:=h;rw[e];simp
theorem node_ne(v:Say)(R C:AxV)(h:NodeH)(lv:List Int)(ts:List (List RTok))(n:Nat)(ks:List Int)(k:Int)(hr:aV h n ks k=true)(h9:h.kind≠9):∃ x∈eD v R C h lv ts,kY x≠[]:=by
 have gone:∃ x∈eK,kY x≠[]:=⟨_,List.mem_cons_self,by decide⟩
 unfold eD;by_cases h0:h.kind=0
 ·rw[if_pos h0];obtain⟨g1,g2⟩:=lW hr h0;by_cases hk:h.v.kind=2
  ·unfold kX;rw[if_neg (by omega),if_pos hk];exact⟨_,List.mem_cons_self,by unfold kY;simp⟩
  have hT:=lit_tx hk g2 g1;unfold kX at hT ⊢;by_cases h1:h.v.kind=1
  ·rw[if_pos h1]
   split
   ·exact⟨_,List.mem_cons_self,by decide⟩
   exact⟨_,List.mem_cons_self,iZ (by decide) (uAQ _ _ (by omega)).ne⟩
  rw[if_neg h1,if_neg hk]at hT ⊢
  split
  ·rename_i h4
   rw[if_pos h4]at hT;obtain⟨_,_,hs⟩:=hT _ List.mem_cons_self;obtain⟨c,q,e,_⟩:=hs rfl;exact⟨_,List.mem_cons_self,iZ (by decide) (by rw[show bA h.v.fault=c::q from e];simp)⟩
  rename_i h4
  rw[if_neg h4]at hT;obtain⟨_,_,hs⟩:=hT _ List.mem_cons_self;obtain⟨c,q,e,_⟩:=hs rfl;exact⟨_,List.mem_cons_self,iZ (by decide) (by rw[show (dZ h.v).1=c::q from e];simp)⟩
 rw[if_neg h0];by_cases h1:h.kind=1\/h.kind=3
 ·rw[if_pos h1];unfold iE
  split
  ·exact gone
  refine⟨_,List.mem_cons_self,?_⟩;cases v
  ·exact iZ (by decide) (ok_mark _ _ _ _).ne
  exact iZ (by decide) (by simp)
 rw[if_neg h1];have col:∀ a b:RTok,∃ x∈[a,tk 5 [58],b],kY x≠[]:=fun a b=>⟨tk 5 [58],by simp,by decide⟩
 by_cases h2:h.kind=2
 ·rw[if_pos h2];unfold jJ
  split
  ·split
   ·exact gone
   exact col _ _
  split
  ·split
   ·exact gone
   exact col _ _
  split
  ·exact col _ _
  exact gone
 rw[if_neg h2];by_cases h4:h.kind=4
 ·rw[if_pos h4];exact⟨tk 5 [40],by simp,by decide⟩
 rw[if_neg h4];by_cases h5:h.kind=5
 ·rw[if_pos h5];have hu:=(oC hr h5).1;have cg:h.name≠[]:=by
   intro e;rw[e]at hu;exact absurd hu (by decide)
  split
  ·exact⟨tk 5 h.name,by simp,iZ (by decide) cg⟩
  exact⟨tk 5 h.name,by simp,iZ (by decide) cg⟩
 rw[if_neg h5];by_cases h6:h.kind=6
 ·rw[if_pos h6];have hu:=(gN hr h6).1;have cg:h.name≠[]:=by
   intro e;rw[e]at hu;exact absurd hu (by decide)
  exact⟨tk 5 h.name,by simp,iZ (by decide) cg⟩
 rw[if_neg h6];by_cases h7:h.kind=7
 ·rw[if_pos h7];exact⟨tk 3 h.name,by simp,iZ (by decide) (name_ok (vY hr h7)).ne⟩
 rw[if_neg h7];have h8:h.kind=8:=by
  rcases pJ hr with q|q|q|q|q|q|q|q|q
  ·exact absurd q h0
  ·exact absurd q h1
  ·exact absurd q h2
  ·exact absurd q h4
  ·exact absurd q h5
  ·exact absurd q h6
  ·exact absurd q h7
  ·exact q
  exact absurd q h9
 rw[if_pos h8];exact⟨tk 5 [125],by simp,by decide⟩
theorem uFF(v:Say)(R C:AxV)(t:Tree)(hc:cL t=0):eG v R C t≠[]:=by
 obtain⟨hr,_⟩:=jA hc;have h9:=xV hr (by decide);obtain⟨h,l⟩:=t;obtain⟨h1,_⟩:=cY hr;obtain⟨x,hx,hn⟩:=node_ne v R C h (l.map eU) (bE v R C l) _ _ _ h1 h9;unfold eG;rw[if_neg (by rw[hc];simp)];refine uDH _ _ ⟨x,List.mem_append_left _ ?_,hn⟩;rw[Tree.toks];exact hx
theorem zZ(R C:AxV)(t:Tree)(x y x' y':IdR)(hc:cL (cR t)=0)(h1:0<=aF R x)(h2:0<=aF C y)(wn:0<=aF R x')(h2':0<=aF C y'):jM R C x y (cR t)=jM R C x' y' (cR t):=by
 unfold jM eG;rw[if_neg (by omega:¬ (aF R x<0\/aF C y<0)),if_neg (by omega:¬ (aF R x'<0\/aF C y'<0)),yC _ _ (aF R x').toNat (aF C y').toNat R C t 6 (jA hc).1]
theorem fixed_ne(R C:AxV)(t:Tree)(x y:IdR)(hc:cL (cR t)=0)(h1:0<=aF R x)(h2:0<=aF C y):jM R C x y (cR t)≠[]:=by
 unfold jM;rw[if_neg (by omega)];exact uFF _ R C _ hc
theorem zX(R C:AxV)(t:Tree)(x y:IdR)(h:aF R x<0\/aF C y<0):jM R C x y t=[]:=by
 unfold jM;rw[if_pos h]
end Go.Proofs.YtjfihpaeglpblaaGreatDoor
