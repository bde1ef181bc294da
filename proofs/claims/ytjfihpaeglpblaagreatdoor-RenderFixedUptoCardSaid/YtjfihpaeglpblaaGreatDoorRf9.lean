/-
  Lemmas, part 9: PaE PaF PaI PaT PaH PaJ PaM PaB PaC.
-/
import Derived.Lib.SlBytesConst
import Derived.Test.YtjfihpaeglpblaaGreatDoorRf8
set_option maxHeartbeats 100000000
set_option maxRecDepth 1000000
namespace Go.Proofs.YtjfihpaeglpblaaGreatDoor
open Go.RowKit
abbrev arV(a b:Cor):Value:=.agg #[vI a.row.a,vI a.row.n,vI a.col.a,vI a.col.n,.bool a.fr,.bool a.fc,vI b.row.a,vI b.row.n,vI b.col.a,vI b.col.n,.bool b.fr,.bool b.fc]
theorem eql_area(a b a2 b2:Cor)(w:World):(binOp .eql 31 (arV a b) (arV a2 b2)).run Tryz.prog w=.ok (.bool (decide (a=a2)&&decide (b=b2))) w:=by
 obtain⟨⟨x0,x1⟩,⟨x2,x3⟩,x4,x5⟩:=a;obtain⟨⟨x6,x7⟩,⟨x8,x9⟩,xa,xb⟩:=b;obtain⟨⟨y0,y1⟩,⟨y2,y3⟩,y4,y5⟩:=a2;obtain⟨⟨y6,y7⟩,⟨y8,y9⟩,ya,yb⟩:=b2;dsimp only[arV]
 go_simp
 by_cases h0:x0=y0
 case neg=>simp[h0]
 by_cases h1:x1=y1
 case neg=>simp[h0,h1]
 by_cases h2:x2=y2
 case neg=>simp[h0,h1,h2]
 by_cases h3:x3=y3
 case neg=>simp[h0,h1,h2,h3]
 by_cases h4:x4=y4
 case neg=>simp[h0,h1,h2,h3,h4]
 by_cases h5:x5=y5
 case neg=>simp[h0,h1,h2,h3,h4,h5]
 by_cases h6:x6=y6
 case neg=>simp[h0,h1,h2,h3,h4,h5,h6]
 by_cases h7:x7=y7
 case neg=>simp[h0,h1,h2,h3,h4,h5,h6,h7]
 by_cases h8:x8=y8
 case neg=>simp[h0,h1,h2,h3,h4,h5,h6,h7,h8]
 by_cases h9:x9=y9
 case neg=>simp[h0,h1,h2,h3,h4,h5,h6,h7,h8,h9]
 by_cases ha:xa=ya
 case neg=>simp[h0,h1,h2,h3,h4,h5,h6,h7,h8,h9,ha]
 by_cases hb:xb=yb
 case neg=>simp[h0,h1,h2,h3,h4,h5,h6,h7,h8,h9,ha,hb]
 simp[h0,h1,h2,h3,h4,h5,h6,h7,h8,h9,ha,hb]
theorem neq_area(a b a2 b2:Cor)(w:World):(binOp .neq 31 (arV a b) (arV a2 b2)).run Tryz.prog w=.ok (.bool (!(decide (a=a2)&&decide (b=b2)))) w:=by
 obtain⟨⟨x0,x1⟩,⟨x2,x3⟩,x4,x5⟩:=a;obtain⟨⟨x6,x7⟩,⟨x8,x9⟩,xa,xb⟩:=b;obtain⟨⟨y0,y1⟩,⟨y2,y3⟩,y4,y5⟩:=a2;obtain⟨⟨y6,y7⟩,⟨y8,y9⟩,ya,yb⟩:=b2;dsimp only[arV]
 go_simp
 by_cases h0:x0=y0
 case neg=>simp[h0]
 by_cases h1:x1=y1
 case neg=>simp[h0,h1]
 by_cases h2:x2=y2
 case neg=>simp[h0,h1,h2]
 by_cases h3:x3=y3
 case neg=>simp[h0,h1,h2,h3]
 by_cases h4:x4=y4
 case neg=>simp[h0,h1,h2,h3,h4]
 by_cases h5:x5=y5
 case neg=>simp[h0,h1,h2,h3,h4,h5]
 by_cases h6:x6=y6
 case neg=>simp[h0,h1,h2,h3,h4,h5,h6]
 by_cases h7:x7=y7
 case neg=>simp[h0,h1,h2,h3,h4,h5,h6,h7]
 by_cases h8:x8=y8
 case neg=>simp[h0,h1,h2,h3,h4,h5,h6,h7,h8]
 by_cases h9:x9=y9
 case neg=>simp[h0,h1,h2,h3,h4,h5,h6,h7,h8,h9]
 by_cases ha:xa=ya
 case neg=>simp[h0,h1,h2,h3,h4,h5,h6,h7,h8,h9,ha]
 by_cases hb:xb=yb
 case neg=>simp[h0,h1,h2,h3,h4,h5,h6,h7,h8,h9,ha,hb]
 simp[h0,h1,h2,h3,h4,h5,h6,h7,h8,h9,ha,hb]
theorem neq_val(a b:Val)(w:World):(binOp .neq 25 (.agg #[vI a.kind,vI a.mant,vI a.exp,vT a.text,.bool a.truth,vI a.fault]) (.agg #[vI b.kind,vI b.mant,vI b.exp,vT b.text,.bool b.truth,vI b.fault])).run Tryz.prog w=.ok (.bool (!aW a b)) w:=by
 obtain⟨x0,x1,x2,x3,x4,x5⟩:=a;obtain⟨y0,y1,y2,y3,y4,y5⟩:=b;unfold aW;dsimp only
 go_simp
 by_cases h0:x0=y0
 case neg=>simp[h0]
 by_cases h1:x1=y1
 case neg=>simp[h0,h1]
 by_cases h2:x2=y2
 case neg=>simp[h0,h1,h2]
 by_cases h3:x3=y3
 case neg=>simp[h0,h1,h2,h3]
 by_cases h4:x4=y4
 case neg=>simp[h0,h1,h2,h3,h4]
 by_cases h5:x5=y5
 case neg=>simp[h0,h1,h2,h3,h4,h5]
 simp[h0,h1,h2,h3,h4,h5]
theorem gI:(Tryz.prog.info? 25).map (·.size)=some 6:=by kernel_rfl
theorem gH:(Tryz.prog.info? 31).map (·.size)=some 12:=by kernel_rfl
def NodeIn(W:World)(g o:Nat)(h:NodeH)(A:Option Addr)(n c:Nat):Prop:=g<W.heap.size/\∀ j,j<22->W.cell? ⟨g,o+j,none⟩=(aH h A n c)[j]?
theorem NodeIn.kp{W W':World}{g o:Nat}{h:NodeH}{A:Option Addr}{n c:Nat}(hn:NodeIn W g o h A n c)(hk:Kp [] W W'):NodeIn W' g o h A n c :=
 ⟨yu hn.1 hk.size,fun j hj=>(hk.cell hn.1 (by simp)).trans (hn.2 j hj)⟩
theorem NodeIn.sub{W:World}{g o:Nat}{h:NodeH}{A:Option Addr}{n c:Nat}(hn:NodeIn W g o h A n c)(j:Nat)(cs:List Value)(hj:j+cs.length<=22)(hs:((aH h A n c).toList.drop j).take cs.length=cs):W.rangeAt g (o+j) cs:=fun k v hv=>by
 have hk:k<cs.length:=(List.getElem?_eq_some_iff.1 hv).1;have key:=List.getElem?_take_of_lt (l:=(aH h A n c).toList.drop j) hk;rw[hs,hv,List.getElem?_drop]at key;rw[show o+j+k=o+(j+k) by omega,hn.2 (j+k) (by omega),key];simp
def TreeIn(W:World)(t:Tree)(cs:Array Value):Prop:=∃ A cp,cs=aH t.h A t.l.length cp/\KidsOk W [] A t.l
theorem TreeIn.kp{W W':World}{t:Tree}{cs:Array Value}(h:TreeIn W t cs)(hk:Kp [] W W'):TreeIn W' t cs:=by
 obtain⟨A,cp,h1,h2⟩:=h;exact⟨A,cp,h1,h2.kp hk⟩
theorem KidsAt.get{W:World}{X:List Nat}{g:Nat}:∀ {l:List Tree} {j:Nat} (i:Nat) (hi:i<l.length),KidsAt W X g j l->NodeAt W X g (j+i*22) l[i]
 | [],_,_,hi,_=>absurd hi (by simp)
 |t::r,j,0,_,h=>by rw[Nat.zero_mul,Nat.add_zero];exact h.1
 |t::r,j,i+1,hi,h=>by
  have:=KidsAt.get (l:=r) (j:=j+22) i (by simpa using hi) h.2;rw[show j+(i+1)*22=j+22+i*22 by omega];exact this
theorem fU{W:World}{A:Option Addr}{l:List Tree}(h:KidsOk W [] A l)(i:Nat)(hi:i<l.length):∃ g og ci,A=some ⟨g,og,none⟩/\(ci:List Value).length=22/\∀ W',Kp [] W W'->W'.rangeAt g (og+i*22) ci/\TreeIn W' l[i] ci.toArray:=by
 rcases h with h|⟨g,og,hA,hx,hg,hk⟩
 ·subst h;exact absurd hi (by simp)
 have hn:=KidsAt.get i hi hk;generalize l[i]=t at *;cases t with
 |mk th tl=>
  obtain⟨A2,c2,h1,h2⟩:=hn;refine⟨g,og,(aH th A2 tl.length c2).toList,hA,rfl,fun W' gq=>⟨fun j v hv=>?_,⟨A2,c2,rfl,KidsOk.kp gq h2⟩⟩⟩;have hj:j<22:=(List.getElem?_eq_some_iff.1 hv).1;rw[gq.cell hg (by simp),h1 j hj];rw[<- hv];simp
theorem kQ:∀ {l l':List Tree},l.length=l'.length->(eY l l'=true↔∀ i (h:i<l.length) (h':i<l'.length),l[i].same l'[i]=true)
 | [],[],_=>by simp[eY]
 | [],_::_,h=>by simp at h
 |_::_,[],h=>by simp at h
 |t::r,t'::r',h=>by
  have ih:=kQ (l:=r) (l':=r') (by simpa using h);unfold eY;rw[yh,ih];constructor
  ·rintro⟨h1,h2⟩ i hi q8;cases i with
   |zero=>exact h1
   |succ i=>exact h2 i (by simpa using hi) (by simpa using q8)
  intro h1;exact⟨h1 0 (by simp) (by simp),fun i hi q8=>h1 (i+1) (by simpa using hi) (by simpa using q8)⟩
theorem uQ:∀ {l l':List Tree},l.length≠l'.length->eY l l'=false
 | [],[],h=>absurd rfl h
 | [],_::_,_=>by simp[eY]
 |_::_,[],_=>by simp[eY]
 |t::r,t'::r',h=>by
  unfold eY;rw[uQ (l:=r) (l':=r') (by simpa using h),Bool.and_false]
theorem eF{t:Tree}{i:Nat}(hi:i<t.l.length):(t.l[i]).size<t.size:=by
 cases t with
 |mk h l=>
  show l[i].size<aM l+1;have key:∀ (l:List Tree) (i:Nat) (hi:i<l.length),l[i].size<=aM l:=by
   intro l
   induction l with
   |nil=>intro i hi;exact absurd hi (by simp)
   |cons u r ih=>
    intro i hi;unfold aM;cases i with
    |zero=>simp only[List.getElem_cons_zero];omega
    |succ i=>have:=ih i (by simpa using hi);simp only[List.getElem_cons_succ];omega
  have:=key l i hi;omega
theorem Lies.sub{w:World}{b:Nat}{t:TypeId}{C:Array Value}(h:Lies w b t C)(o:Nat)(cs:List Value)(hs:(C.toList.drop o).take cs.length=cs):w.rangeAt b o cs:=fun j v hv=>by
 have hj:j<cs.length:=(List.getElem?_eq_some_iff.1 hv).1;have key:=List.getElem?_take_of_lt (l:=C.toList.drop o) hj;rw[hs,hv,List.getElem?_drop]at key;rw[h.cell,key];simp
theorem bS:∀ (l:List Tree),l.length<=aM l
 | []=>zm _
 |t::r=>by
  have:=bS r;have h1:1<=t.size:=by cases t;unfold Tree.size;omega
  unfold aM;rw[yi];omega
section
variable {ops:Array Oper} {Q:Exit->Act->World->Prop}
theorem yL{S:List Nat}{T:List (Nat×Nat×Value)}{ms:List (Nat×(World->Prop))}{P:World->Prop}{a0:Act}(hb:fA ops=true)
  (bw:∀ zl a w i o,zl.size=ops.size->GU ops S T ms P a0 zl a w->zl.getD i true=false->ops[i]?=some o->(∀ e∈o.after,Region.binds .any e=true->Up zl e.on)->wpOp Tryz.prog ops Q i (GU ops S T ms P a0 (zl.setIfInBounds i true)) a w)
  (b7:∀ zl a' w',GU ops S T ms P a0 zl a' w'->(∀ i,i<ops.size->Up zl i)->Q .normal a' w') :
  ∀ (m i:Nat) (zl:Array Bool) (a:Act) (w:World),i+m=ops.size->zl.size=ops.size->(∀ j,Up zl j↔j<i)->GU ops S T ms P a0 zl a w->wpOps Tryz.prog ops Q (List.range' i m) a w
 |0,i,zl,a,w,hm,hs,hu,hI=>b7 zl a w hI (fun j hj=>(hu j).2 (by omega))
 |m+1,i,zl,a,w,hm,hs,hu,hI=>by
  rw[List.range'_succ,wpOps_cons];have hi:i<ops.size:=by omega
  have ho:ops[i]?=some ops[i]:=Array.getElem?_eq_getElem hi;have ah:zl.getD i true=false:=by
   cases h:zl.getD i true with
   |false=>rfl
   |true=>
    exfalso
    have lc:i<zl.size:=by omega
    have:Up zl i:=by
     unfold Up;rw[Array.getD_eq_getD_getElem?,Array.getElem?_eq_getElem lc]at h ⊢;exact h
    have:=(hu i).1 this;omega
  refine wpOp_mono (fun a' w' h'=>?_) (bw zl a w i _ hs hI ah ho (fun e he uq=>(hu e.on).2 (gD hb ho e he uq)));exact yL hb bw b7 m (i+1) _ a' w' (by omega) (by rw[Array.size_setIfInBounds];exact hs) (fun j=>by rw[Up.set (by omega),hu j];omega) h'
theorem aS{id:Nat}{a:Act}{w0:World}(F0:Act->Prop)(S:List Nat)(T:List (Nat×Nat×Value))(ms:List (Nat×(World->Prop)))(P:World->Prop)(hb:fA ops=true)(hF0:F0 a)(hX:P w0)
  (bw:∀ a0,F0 a0->∀ zl a w i o,zl.size=ops.size->GU ops S T ms P a0 zl a w->zl.getD i true=false->ops[i]?=some o->(∀ e∈o.after,Region.binds .any e=true->Up zl e.on)->wpOp Tryz.prog ops Q i (GU ops S T ms P a0 (zl.setIfInBounds i true)) a w)
  (b7:∀ zl a' w',GU ops S T ms P a zl a' w'->(∀ i,i<ops.size->Up zl i)->Q .normal a' w'):(Code.region id ops false).wp Tryz.prog Q a w0:=by
 refine wp_region ?_;rw[List.range_eq_range'];exact yL hb (bw a hF0) b7 ops.size 0 (Array.replicate ops.size false) a w0 (by omega) (by simp) (fun j=>⟨fun h=>absurd h (Up.none _ _),fun h=>absurd h (by omega)⟩) (GU.start _ _ hX)
end
theorem inT{α:Type}{l:List α}{x:α}(n:Nat)(h:l[n]?=some x):x∈l:=List.mem_of_getElem? h
theorem GU.ptk{ops:Array Oper}{S:List Nat}{T:List (Nat×Nat×Value)}{ms:List (Nat×(World->Prop))}{P:World->Prop}{a0 a:Act}{zl:Array Bool}{w:World}(hI:GU ops S T ms P a0 zl a w)(n:Nat){i s:Nat}{v:Value}(h:T[n]?=some (i,s,v))(hu:Up zl i):a.eval (.tmp s)=v:=hI.pt (i,s,v) (inT n h) hu
theorem nomk{i:Nat}:∀ m∈([]:List (Nat×(World->Prop))),m.1≠i:=fun m hm=>by cases hm
theorem uDV(h h':NodeH)(A A':Option Addr)(n n' cp ko g1 o1 g2 o2:Nat)(w:World)(h1:NodeIn w g1 o1 h A n cp)(h2:NodeIn w g2 o2 h' A' n' ko) :
  Calls Tryz.prog 207 #[vP g1 o1,vP g2 o2] w fun e w'=>e=.returned (.bool (NodeH.same h h'&&decide (n=n')))/\Below w.heap.size w w':=by
 have HB:Hid (Below w.heap.size w w.drew):=zh zB.drew;have k0:w.drew.cell? ⟨g1,o1,none⟩=some (vI h.kind):=h1.2 0 (by decide);have m0:w.drew.cell? ⟨g2,o2,none⟩=some (vI h'.kind):=h2.2 0 (by decide);have k7:w.drew.cell? ⟨g1,o1+7,none⟩=some (vT h.name):=h1.2 7 (by decide);have m7:w.drew.cell? ⟨g2,o2+7,none⟩=some (vT h'.name):=h2.2 7 (by decide);have k20:w.drew.cell? ⟨g1,o1+20,none⟩=some (vI h.rows):=h1.2 20 (by decide);have m20:w.drew.cell? ⟨g2,o2+20,none⟩=some (vI h'.rows):=h2.2 20 (by decide);have k21:w.drew.cell? ⟨g1,o1+21,none⟩=some (.slice A n cp):=h1.2 21 (by decide);have m21:w.drew.cell? ⟨g2,o2+21,none⟩=some (.slice A' n' ko):=h2.2 21 (by decide);obtain⟨VA,hVA⟩:∃ VA:List Value,VA=[vI h.v.kind,vI h.v.mant,vI h.v.exp,vT h.v.text,.bool h.v.truth,vI h.v.fault]:=⟨_,rfl⟩
 obtain⟨VB,hVB⟩:∃ VA:List Value,VA=[vI h'.v.kind,vI h'.v.mant,vI h'.v.exp,vT h'.v.text,.bool h'.v.truth,vI h'.v.fault]:=⟨_,rfl⟩
 obtain⟨RA,hRA⟩:∃ VA:List Value,VA=[vI h.a.row.a,vI h.a.row.n,vI h.a.col.a,vI h.a.col.n,.bool h.a.fr,.bool h.a.fc,vI h.b.row.a,vI h.b.row.n,vI h.b.col.a,vI h.b.col.n,.bool h.b.fr,.bool h.b.fc]:=⟨_,rfl⟩
 obtain⟨RB,xh⟩:∃ VA:List Value,VA=[vI h'.a.row.a,vI h'.a.row.n,vI h'.a.col.a,vI h'.a.col.n,.bool h'.a.fr,.bool h'.a.fc,vI h'.b.row.a,vI h'.b.row.n,vI h'.b.col.a,vI h'.b.col.n,.bool h'.b.fr,.bool h'.b.fc]:=⟨_,rfl⟩
 have l1:Hid (w.drew.rangeAt g1 (o1+1) VA):=zh (by rw[hVA];exact NodeIn.sub (W:=w.drew) h1 1 _ (by simp) rfl);have l2:Hid (w.drew.rangeAt g2 (o2+1) VB):=zh (by rw[hVB];exact NodeIn.sub (W:=w.drew) h2 1 _ (by simp) rfl);have l3:Hid (w.drew.rangeAt g1 (o1+8) RA):=zh (by rw[hRA];exact NodeIn.sub (W:=w.drew) h1 8 _ (by simp) rfl);have l4:Hid (w.drew.rangeAt g2 (o2+8) RB):=zh (by rw[xh];exact NodeIn.sub (W:=w.drew) h2 8 _ (by simp) rfl);have i1:(Tryz.prog.info? 25).map (·.size)=some VA.length:=by rw[hVA];exact gI
 have i2:(Tryz.prog.info? 25).map (·.size)=some VB.length:=by rw[hVB];exact gI
 have i3:(Tryz.prog.info? 31).map (·.size)=some RA.length:=by rw[hRA];exact gH
 have i4:(Tryz.prog.info? 31).map (·.size)=some RB.length:=by rw[xh];exact gH
 have hev:∀ w:World,(binOp .eql 25 (.agg VA.toArray) (.agg VB.toArray)).run Tryz.prog w=.ok (.bool (aW h.v h'.v)) w:=by intro w;rw[hVA,hVB];exact dW _ _ _ _ _ _ _ _ _ _ _ _ w
 have hea:∀ w:World,(binOp .eql 31 (.agg RA.toArray) (.agg RB.toArray)).run Tryz.prog w=.ok (.bool (decide (h.a=h'.a)&&decide (h.b=h'.b))) w:=by intro w;rw[hRA,xh];exact eql_area h.a h.b h'.a h'.b w
 clear hVA hVB hRA xh h1 h2;obtain⟨bb,sy⟩:∃ bb,(NodeH.same h h'&&decide (n=n'))=bb:=⟨_,rfl⟩
 have tg:Hid (bb=(decide (h.kind=h'.kind)&&aW h.v h'.v&&decide (h.name=h'.name)&&(decide (h.a=h'.a)&&decide (h.b=h'.b))&&decide (h.rows=h'.rows)&&decide (n=n'))):=zh (by rw[<- sy];unfold NodeH.same;rw[show (h.name==h'.name)=decide (h.name=h'.name) from by rw[ze];simp];cases aW h.v h'.v <;> cases decide (h.a=h'.a) <;> cases decide (h.b=h'.b) <;> cases decide (h.kind=h'.kind) <;> cases decide (h.name=h'.name) <;> cases decide (h.rows=h'.rows) <;> cases decide (n=n') <;> rfl);rw[sy];clear sy;generalize du:aW h.v h'.v=b1 at *;generalize ur:(decide (h.a=h'.a)&&decide (h.b=h'.b))=b3 at *;clear du ur;generalize h.kind=x0 at *;generalize h'.kind=y0 at *;generalize h.name=x7 at *;generalize h'.name=y7 at *;generalize h.rows=x20 at *;generalize h'.rows=y20 at *;obtain⟨b0,e0⟩:=zE (decide (x0=y0))
 obtain⟨b2,e2⟩:=zE (decide (x7=y7))
 obtain⟨b4,e4⟩:=zE (decide (x20=y20))
 obtain⟨b5,e5⟩:=zE (decide (n=n'))
 rw[e0,e2,e4,e5]at tg;have e0':(x0==y0)=b0:=by rw[<- e0,ze];simp
 have e2':(x7==y7)=b2:=by rw[<- e2,ze];simp
 have e4':(x20==y20)=b4:=by rw[<- e4,ze];simp
 have e5':(n==n')=b5:=by rw[<- e5,ze];simp
 have e5z:((n:Int)==(n':Int))=b5:=by rw[<- e5,ze];simp;omega
 obtain⟨c1,h1⟩:∃ c1,c1=(b0&&b1):=⟨_,rfl⟩
 obtain⟨c2,h2⟩:∃ c2,c2=(c1&&b2):=⟨_,rfl⟩
 obtain⟨c3,h3⟩:∃ c3,c3=(c2&&b3):=⟨_,rfl⟩
 obtain⟨c4,h4⟩:∃ c4,c4=(c3&&b4):=⟨_,rfl⟩
 obtain⟨c5,h5⟩:∃ c5,c5=(c4&&b5):=⟨_,rfl⟩
 rw[<- h1,<- h2,<- h3,<- h4,<- h5]at tg;have HH:=zh (And.intro h1 (And.intro h2 (And.intro h3 (And.intro h4 (And.intro h5 (And.intro e0 (And.intro e2 (And.intro e4 (And.intro e5 (And.intro e0' (And.intro e2' (And.intro e4' (And.intro e5' e5z)))))))))))));clear h1 h2 h3 h4 h5 e0 e2 e4 e5 e0' e2' e4' e5' e5z
 go_in
 go_upto_region 1 with fail
 dsimp only[List.append];obtain⟨h1,h2,h3,h4,h5,e0,e2,e4,e5,e0',e2',e4',e5',e5z⟩:=HH.out
 obtain⟨TT,ag⟩:∃ TT:List (Nat×Nat×Value),TT=((0,5,vP g1 o1)::(1,6,vP g1 o1)::(2,7,vP g1 o1)::(3,8,vI x0)::(4,9,vP g2 o2)::(5,10,vP g2 o2)::(6,11,vP g2 o2)::(7,12,vI y0)::(8,13,.bool b0)::(9,14,.bool b0)::(10,15,(bif b0 then vP g1 o1 else undef))::(11,16,(bif b0 then vP g1 o1 else undef))::(12,17,(bif b0 then vP g1 (o1+1) else undef))::(13,18,(bif b0 then .agg VA.toArray else undef))::(14,19,(bif b0 then vP g2 o2 else undef))::(15,20,(bif b0 then vP g2 o2 else undef))::(16,21,(bif b0 then vP g2 (o2+1) else undef))::(17,22,(bif b0 then .agg VB.toArray else undef))::(18,23,(bif b0 then .bool b1 else undef))::(19,24,.bool c1)::(20,25,.bool c1)::(21,26,(bif c1 then vP g1 o1 else undef))::(22,27,(bif c1 then vP g1 o1 else undef))::(23,28,(bif c1 then vP g1 (o1+7) else undef))::(24,29,(bif c1 then vT x7 else undef))::(25,30,(bif c1 then vP g2 o2 else undef))::(26,31,(bif c1 then vP g2 o2 else undef))::(27,32,(bif c1 then vP g2 (o2+7) else undef))::(28,33,(bif c1 then vT y7 else undef))::(29,34,(bif c1 then .bool b2 else undef))::(30,35,.bool c2)::(31,36,.bool c2)::(32,37,(bif c2 then vP g1 o1 else undef))::(33,38,(bif c2 then vP g1 o1 else undef))::(34,39,(bif c2 then vP g1 (o1+8) else undef))::(35,40,(bif c2 then .agg RA.toArray else undef))::(36,41,(bif c2 then vP g2 o2 else undef))::(37,42,(bif c2 then vP g2 o2 else undef))::(38,43,(bif c2 then vP g2 (o2+8) else undef))::(39,44,(bif c2 then .agg RB.toArray else undef))::(40,45,(bif c2 then .bool b3 else undef))::(41,46,.bool c3)::(42,47,.bool c3)::(43,48,(bif c3 then vP g1 o1 else undef))::(44,49,(bif c3 then vP g1 o1 else undef))::(45,50,(bif c3 then vP g1 (o1+20) else undef))::(46,51,(bif c3 then vI x20 else undef))::(47,52,(bif c3 then vP g2 o2 else undef))::(48,53,(bif c3 then vP g2 o2 else undef))::(49,54,(bif c3 then vP g2 (o2+20) else undef))::(50,55,(bif c3 then vI y20 else undef))::(51,56,(bif c3 then .bool b4 else undef))::(52,57,.bool c4)::(53,58,.bool c4)::(54,59,(bif c4 then vP g1 o1 else undef))::(55,60,(bif c4 then vP g1 o1 else undef))::(56,61,(bif c4 then vP g1 (o1+21) else undef))::(57,62,(bif c4 then .slice A n cp else undef))::(58,63,(bif c4 then vI (n:Nat) else undef))::(59,64,(bif c4 then vP g2 o2 else undef))::(60,65,(bif c4 then vP g2 o2 else undef))::(61,66,(bif c4 then vP g2 (o2+21) else undef))::(62,67,(bif c4 then .slice A' n' ko else undef))::(63,68,(bif c4 then vI (n':Nat) else undef))::(64,69,(bif c4 then .bool b5 else undef))::(65,70,.bool c5)::(66,4,.bool c5)::[]):=⟨_,rfl⟩
 have aw:=zh ag;clear ag;refine bK (fun a0=>71<=a0.tmps.size/\a0.eval (.tmp 0)=vP g1 o1/\a0.eval (.tmp 1)=vP g2 o2) (5::6::7::8::9::10::11::12::13::14::15::16::17::18::19::20::21::22::23::24::25::26::27::28::29::30::31::32::33::34::35::36::37::38::39::40::41::42::43::44::45::46::47::48::49::50::51::52::53::54::55::56::57::58::59::60::61::62::63::64::65::66::67::68::69::70::4::[]) TT [] (fun w'=>w'=w.drew) (by kernel_rfl) (by kernel_rfl) ⟨by simp,rfl,rfl⟩ rfl ?_ ?_
 ·rintro a0 ⟨hs,dh,cr⟩ zl a1 w1 zj o ap hI ah ho zd;obtain rfl:w1=w.drew:=hI.st;have ag:=aw.out
  subst ag;have e0x:=hI.off.q dh;have e1x:=hI.off.q cr;have hj:=Up.of_false ah;have hj12:zj<67:=by rw[ap]at hj;exact hj
  have G:RG _ _ _ _ _ _ _ _ _ _ _:=⟨by rfl,hI,hs,ah,ho,zd⟩
  (iterate 66 rcases zq hj12 with hj12|rfl);obtain rfl:=cz hj12;all_goals obtain rfl:=oi ho
  ·exact G.nl 0 rfl (by simp[execOp,go_sem,e0x])
  ·exact G.nl 1 rfl (by simp[execOp,go_sem,G.t 0])
  ·exact G.nl 2 rfl (by simp[execOp,go_sem,G.t 1])
  ·exact G.nl 3 rfl (by simp[execOp,go_sem,G.t 2,k0])
  ·exact G.nl 4 rfl (by simp[execOp,go_sem,e1x])
  ·exact G.nl 5 rfl (by simp[execOp,go_sem,G.t 4])
  ·exact G.nl 6 rfl (by simp[execOp,go_sem,G.t 5])
  ·exact G.nl 7 rfl (by simp[execOp,go_sem,G.t 6,m0])
  ·exact G.nl 8 rfl (by simp[execOp,go_sem,G.t 3,G.t 7,e0'])
  ·exact G.nl 9 rfl (by simp[execOp,go_sem,G.t 8])
  ·refine G.gv 9 10 ?_;rintro rfl;simp[execOp,go_sem,e0x]
  ·refine G.gv 9 11 ?_;rintro rfl;simp[execOp,go_sem,G.t 10]
  ·refine G.gv 9 12 ?_;rintro rfl;simp[execOp,go_sem,G.t 11]
  ·refine G.gv 9 13 ?_;rintro rfl;have p12:=G.d 12;exact aO 25 (.tmp 17) rfl g1 (o1+1) p12 VA _ l1.out Tryz.underlying25 rfl i1
  ·refine G.gv 9 14 ?_;rintro rfl;simp[execOp,go_sem,e1x]
  ·refine G.gv 9 15 ?_;rintro rfl;simp[execOp,go_sem,G.t 14]
  ·refine G.gv 9 16 ?_;rintro rfl;simp[execOp,go_sem,G.t 15]
  ·refine G.gv 9 17 ?_;rintro rfl;have p16:=G.d 16;exact aO 25 (.tmp 21) rfl g2 (o2+1) p16 VB _ l2.out Tryz.underlying25 rfl i2
  ·refine G.gv 9 18 ?_;rintro rfl;simp[execOp,go_sem,G.t 13,G.t 17,hev]
  ·cases b0
   all_goals exact G.nl 19 rfl (by simp[execOp,go_sem,G.t 9,G.t 18,h1])
  ·exact G.nl 20 rfl (by simp[execOp,go_sem,G.t 19])
  ·refine G.gv 20 21 ?_;rintro rfl;simp[execOp,go_sem,e0x]
  ·refine G.gv 20 22 ?_;rintro rfl;simp[execOp,go_sem,G.t 21]
  ·refine G.gv 20 23 ?_;rintro rfl;simp[execOp,go_sem,G.t 22]
  ·refine G.gv 20 24 ?_;rintro rfl;simp[execOp,go_sem,G.t 23,k7]
  ·refine G.gv 20 25 ?_;rintro rfl;simp[execOp,go_sem,e1x]
  ·refine G.gv 20 26 ?_;rintro rfl;simp[execOp,go_sem,G.t 25]
  ·refine G.gv 20 27 ?_;rintro rfl;simp[execOp,go_sem,G.t 26]
  ·refine G.gv 20 28 ?_;rintro rfl;simp[execOp,go_sem,G.t 27,m7]
  ·refine G.gv 20 29 ?_;rintro rfl;simp[execOp,go_sem,G.t 24,G.t 28,e2']
  ·cases c1
   all_goals exact G.nl 30 rfl (by simp[execOp,go_sem,G.t 20,G.t 29,h2])
  ·exact G.nl 31 rfl (by simp[execOp,go_sem,G.t 30])
  ·refine G.gv 31 32 ?_;rintro rfl;simp[execOp,go_sem,e0x]
  ·refine G.gv 31 33 ?_;rintro rfl;simp[execOp,go_sem,G.t 32]
  ·refine G.gv 31 34 ?_;rintro rfl;simp[execOp,go_sem,G.t 33]
  ·refine G.gv 31 35 ?_;rintro rfl;have p34:=G.d 34;exact aO 31 (.tmp 39) rfl g1 (o1+8) p34 RA _ l3.out Tryz.underlying31 rfl i3
  ·refine G.gv 31 36 ?_;rintro rfl;simp[execOp,go_sem,e1x]
  ·refine G.gv 31 37 ?_;rintro rfl;simp[execOp,go_sem,G.t 36]
  ·refine G.gv 31 38 ?_;rintro rfl;simp[execOp,go_sem,G.t 37]
  ·refine G.gv 31 39 ?_;rintro rfl;have p38:=G.d 38;exact aO 31 (.tmp 43) rfl g2 (o2+8) p38 RB _ l4.out Tryz.underlying31 rfl i4
  ·refine G.gv 31 40 ?_;rintro rfl;simp[execOp,go_sem,G.t 35,G.t 39,hea]
  ·cases c2
   all_goals exact G.nl 41 rfl (by simp[execOp,go_sem,G.t 31,G.t 40,h3])
  ·exact G.nl 42 rfl (by simp[execOp,go_sem,G.t 41])
  ·refine G.gv 42 43 ?_;rintro rfl;simp[execOp,go_sem,e0x]
  ·refine G.gv 42 44 ?_;rintro rfl;simp[execOp,go_sem,G.t 43]
  ·refine G.gv 42 45 ?_;rintro rfl;simp[execOp,go_sem,G.t 44]
  ·refine G.gv 42 46 ?_;rintro rfl;simp[execOp,go_sem,G.t 45,k20]
  ·refine G.gv 42 47 ?_;rintro rfl;simp[execOp,go_sem,e1x]
  ·refine G.gv 42 48 ?_;rintro rfl;simp[execOp,go_sem,G.t 47]
  ·refine G.gv 42 49 ?_;rintro rfl;simp[execOp,go_sem,G.t 48]
  ·refine G.gv 42 50 ?_;rintro rfl;simp[execOp,go_sem,G.t 49,m20]
  ·refine G.gv 42 51 ?_;rintro rfl;simp[execOp,go_sem,G.t 46,G.t 50,e4']
  ·cases c3
   all_goals exact G.nl 52 rfl (by simp[execOp,go_sem,G.t 42,G.t 51,h4])
  ·exact G.nl 53 rfl (by simp[execOp,go_sem,G.t 52])
  ·refine G.gv 53 54 ?_;rintro rfl;simp[execOp,go_sem,e0x]
  ·refine G.gv 53 55 ?_;rintro rfl;simp[execOp,go_sem,G.t 54]
  ·refine G.gv 53 56 ?_;rintro rfl;simp[execOp,go_sem,G.t 55]
  ·refine G.gv 53 57 ?_;rintro rfl;simp[execOp,go_sem,G.t 56,k21]
  ·refine G.gv 53 58 ?_;rintro rfl;simp[go_sem,G.t 57]
  ·refine G.gv 53 59 ?_;rintro rfl;simp[execOp,go_sem,e1x]
  ·refine G.gv 53 60 ?_;rintro rfl;simp[execOp,go_sem,G.t 59]
  ·refine G.gv 53 61 ?_;rintro rfl;simp[execOp,go_sem,G.t 60]
  ·refine G.gv 53 62 ?_;rintro rfl;simp[execOp,go_sem,G.t 61,m21]
  ·refine G.gv 53 63 ?_;rintro rfl;simp[go_sem,G.t 62]
  ·refine G.gv 53 64 ?_;rintro rfl;simp[execOp,go_sem,G.t 58,G.t 63,e5z]
  ·cases c4
   all_goals exact G.nl 65 rfl (by simp[execOp,go_sem,G.t 53,G.t 64,h5])
  exact G.nl 66 rfl (by simp[execOp,go_sem,G.t 65])
 intro zl a1 w1 hI bd;have ag:=aw.out;subst ag;obtain rfl:w1=w.drew:=hI.st;have z4:=hI.ptk 66 rfl (bd 66 (by decide));obtain⟨ff,rfl,hf⟩:=hI.off.forms;rw[<- hf 4]at z4;clear hI;simp only[List.foldl,Act.put,yz,List.set];rw[z4]
 go_wp2_with fail
 go_ret
 exact⟨by rw[tg.out];rfl,HB.out⟩
theorem Lies.node{W:World}{q:Nat}{h:NodeH}{A:Option Addr}{n c:Nat}(hl:Lies W q 34 (aH h A n c)):NodeIn W q 0 h A n c:=⟨hl.lt,fun j _=>by rw[Nat.zero_add];exact hl.cell j⟩
theorem dY(h hw:NodeH)(A Aw:Option Addr)(n nw c cw g o:Nat)(w:World)(hn:NodeIn w g o h A n c) :
  Calls Tryz.prog 162 #[vP g o,cE hw Aw nw cw] w fun e w'=>e=.returned (.bool (NodeH.same h { hw with kind:=h.kind }&&decide (n=nw)))/\Below w.heap.size w w':=by
 obtain⟨W1,am⟩:=zD (w.alloc (.cells (aH hw Aw nw cw) 34))
 have al:=zh am;have HL:=zL am;have HB:=zA am;have HN:=zh (NodeIn.kp hn (Kp.of_below HB.out));have k0:W1.cell? ⟨g,o,none⟩=some (vI h.kind):=HN.out.2 0 (by decide);have hgl:=hn.1;clear am hn;obtain⟨bb,sy⟩:∃ bb,(NodeH.same h { hw with kind:=h.kind }&&decide (n=nw))=bb:=⟨_,rfl⟩
 have tg:=zh sy;rw[sy];clear sy
 go_in
 go_upto_region 1 with fail
 rw[<- al.out];generalize hq:w.heap.size=q at *;have hgq:g≠q:=by omega
 have x0:=HL.out.cell 0;have xf0:=HL.out.frozen 0;simp only[za,zb]at x0;have gw:=zh (HL.out.put 0 (vI h.kind));have HN2:Hid (NodeIn (W1.setCell ⟨q,0,none⟩ (vI h.kind)) g o h A n c):=zh ⟨by have:=HN.out.1;simpa using this,fun j hj=>by
  rw[<- HN.out.2 j hj];apply World.cell?_setCell_other;intro e;injection e with e;exact hgq e.symm⟩
 have ba:Hid (Below q w (W1.setCell ⟨q,0,none⟩ (vI h.kind))):=zh (HB.out.setCell (p:=⟨q,0,none⟩) (Nat.le_refl q) _);clear HL HN HB al
 go_upto_region 2 with fail
 generalize World.setCell _ _ _=W2 at *;clear k0 x0 xf0;have HC:=zh (uDV h { hw with kind:=h.kind } A Aw n nw c cw g o q 0 W2 HN2.out (Lies.node gw.out));rw[tg.out]at HC;clear tg
 go_wp2_with fail
 refine HC.out.mono ?_;rintro e w3 ⟨rfl,hb⟩;have bi:=zh (ba.out.trans (hb.mono (by have:=ba.out.size;omega)));clear hb HC
 go_wp2_with fail
 go_ret
 exact⟨rfl,by first|exact bi.out |(rw[hq];exact bi.out)⟩
theorem cU(c:UInt8)(w:World) :
  Calls Tryz.prog 208 #[.int .u8 (c.toNat:Int)] w fun e w'=>e=.returned (.bool (aZ c))/\w=w':=by
 go_in
 go_wp2
 all_goals go_ret
 all_goals exact⟨aA (by unfold aZ;rw[ze];simp;try omega),rfl⟩
theorem dT(c:UInt8)(w:World) :
  Calls Tryz.prog 209 #[.int .u8 (c.toNat:Int)] w fun e w'=>e=.returned (.bool (aC c))/\w=w':=by
 go_in
 go_wp2
 all_goals go_ret
 all_goals exact⟨aA (by unfold aC;rw[ze];simp;try omega),rfl⟩
theorem pO(l:Bs)(w:World)(hs:l.length<=maxLen) :
  Calls Tryz.prog 236 #[vT l] w fun e w'=>e=.returned (vI (aG l))/\w=w':=by
 unfold maxLen at hs;unfold aG
 go_in
 go_wp2
 go_loop [3] (fun i=>∃ k:Nat,k<=l.length/\i=vI k/\k<=aU aC l) (fun i=>l.length-(intOf i).toNat)
 case atStart=>exact⟨0,zm _,rfl,zm _⟩
 case round=>
  obtain⟨k,hk,rfl,hr⟩:=hrel;by_cases hlt:k<l.length
  ·cases hd:aC l[k]
   ·have HQ:=zh (mX _ _ _ hr hlt hd)
    go_wp2_with (go_at_call 209;refine(dT _ _).mono ?_;rintro e w' ⟨rfl,rfl⟩)
    go_ret
    exact⟨mU (by rw[HQ.out]),rfl⟩
   have hq:=iL _ _ _ hr hlt hd
   go_wp2_with (go_at_call 209;refine(dT _ _).mono ?_;rintro e w' ⟨rfl,rfl⟩)
   go_round
   case rel=>exact⟨k+1,by omega,by go_num,hq⟩
   case measure=>simp[intOf];omega
  have hq:aU aC l=k:=by have:=cJ aC l;omega
  have HQ:=zh hq;clear hq
  go_wp2
  go_ret
  exact⟨mU (by rw[HQ.out]),rfl⟩
theorem sI(l:Bs)(w:World)(hs:l.length<=1000000) :
  Calls Tryz.prog 210 #[vT l] w fun e w'=>e=.returned (.tuple #[vI (aE l:Nat),vI (aG (l.drop (aE l)):Nat),.bool (decide (aE l+aG (l.drop (aE l))=l.length))])/\w=w':=by
 have hd:=fun k=>pO (l.drop k) w (by rw[yk];unfold maxLen;omega)
 have HD:=zh hd;have HDL:Hid (∀ k,aG (l.drop k)<=l.length):=zh (fun k=>by have:=cJ aC (l.drop k);rw[yk]at this;unfold aG;omega);clear hd;unfold aE
 go_in
 go_wp2
 go_loop [2] (fun i=>∃ k:Nat,k<=l.length/\i=vI k/\k<=aU aZ l) (fun i=>l.length-(intOf i).toNat)
 case atStart=>exact⟨0,zm _,rfl,zm _⟩
 case round=>
  obtain⟨k,hk,rfl,hr⟩:=hrel;by_cases hlt:k<l.length
  ·cases hd:aZ l[k]
   ·have HQ:=zh (mX _ _ _ hr hlt hd);have se:=zh (HD.out k);have qy:=HDL.out k;clear hr
    go_upto_region 3 with(go_at_call 208;refine(cU _ _).mono ?_;rintro e w' ⟨rfl,rfl⟩)
    clear hd;generalize hdd:aG (l.drop k)=m at *
    go_wp2_with fail
    refine se.out.mono ?_;rintro e w' ⟨rfl,rfl⟩
    go_wp2_with fail
    go_ret3
    rw[HQ.out,hdd];refine⟨?_,rfl⟩;have e1:((k:Int)+(m:Int)-(k:Int))=(m:Int):=by omega
    have e2:(((k:Int)+(m:Int))==(l.length:Int))=decide (k+m=l.length):=by rw[ze];simp;omega
    show Ending.returned (.tuple #[vI (k:Int),vI ((k:Int)+(m:Int)-(k:Int)),.bool (((k:Int)+(m:Int))==(l.length:Int))])=_;rw[e1,e2]
   have hq:=iL _ _ _ hr hlt hd
   go_wp2_with (go_at_call 208;refine(cU _ _).mono ?_;rintro e w' ⟨rfl,rfl⟩)
   go_round
   case rel=>exact⟨k+1,by omega,by go_num,hq⟩
   case measure=>simp[intOf];omega
  have hq:aU aZ l=k:=by have:=cJ aZ l;omega
  have HQ:=zh hq;have se:=zh (HD.out k);have qy:=HDL.out k;clear hq hr;generalize hdd:aG (l.drop k)=m at *
  go_wp2_with fail
  refine se.out.mono ?_;rintro e w' ⟨rfl,rfl⟩
  go_wp2_with fail
  go_ret3
  rw[HQ.out,hdd];refine⟨?_,rfl⟩;have e1:((k:Int)+(m:Int)-(k:Int))=(m:Int):=by omega
  have e2:(((k:Int)+(m:Int))==(l.length:Int))=decide (k+m=l.length):=by rw[ze];simp;omega
  show Ending.returned (.tuple #[vI (k:Int),vI ((k:Int)+(m:Int)-(k:Int)),.bool (((k:Int)+(m:Int))==(l.length:Int))])=_;rw[e1,e2]
theorem uBV(l:Bs)(w:World):Calls Tryz.prog 165 #[vT l] w fun e w'=>e=.returned (.bool (unB l))/\w=w':=by
 by_cases h0:l=[45]
 ·subst h0
  go_in
  go_wp2_with fail
  go_ret
  exact⟨rfl,rfl⟩
 have e0:(l==([45]:Bs))=false:=by simpa using h0
 by_cases h1:l=[43]
 ·subst h1
  go_in
  go_wp2_with fail
  go_ret
  exact⟨rfl,rfl⟩
 have e1:(l==([43]:Bs))=false:=by simpa using h1
 by_cases h2:l=[37]
 ·subst h2
  go_in
  go_wp2_with fail
  go_ret
  exact⟨rfl,rfl⟩
 have e2:(l==([37]:Bs))=false:=by simpa using h2
 have hr:unB l=false:=by unfold unB;simp only[e0,e1,e2,Bool.or_self]
 rw[hr];clear hr
 go_in
 go_wp2_with fail
 go_ret
 exact⟨rfl,rfl⟩
theorem yA(l:Bs)(w:World):Calls Tryz.prog 166 #[vT l] w fun e w'=>e=.returned (.bool (lO l))/\w=w':=by
 by_cases h0:l=[43]
 ·subst h0
  go_in
  go_wp2_with fail
  go_ret
  exact⟨rfl,rfl⟩
 have e0:(l==([43]:Bs))=false:=by simpa using h0
 by_cases h1:l=[45]
 ·subst h1
  go_in
  go_wp2_with fail
  go_ret
  exact⟨rfl,rfl⟩
 have e1:(l==([45]:Bs))=false:=by simpa using h1
 by_cases h2:l=[42]
 ·subst h2
  go_in
  go_wp2_with fail
  go_ret
  exact⟨rfl,rfl⟩
 have e2:(l==([42]:Bs))=false:=by simpa using h2
 by_cases h3:l=[47]
 ·subst h3
  go_in
  go_wp2_with fail
  go_ret
  exact⟨rfl,rfl⟩
 have e3:(l==([47]:Bs))=false:=by simpa using h3
 by_cases h4:l=[94]
 ·subst h4
  go_in
  go_wp2_with fail
  go_ret
  exact⟨rfl,rfl⟩
 have e4:(l==([94]:Bs))=false:=by simpa using h4
 by_cases h5:l=[38]
 ·subst h5
  go_in
  go_wp2_with fail
  go_ret
  exact⟨rfl,rfl⟩
 have e5:(l==([38]:Bs))=false:=by simpa using h5
 by_cases h6:l=[61]
 ·subst h6
  go_in
  go_wp2_with fail
  go_ret
  exact⟨rfl,rfl⟩
 have e6:(l==([61]:Bs))=false:=by simpa using h6
 by_cases h7:l=[60,62]
 ·subst h7
  go_in
  go_wp2_with fail
  go_ret
  exact⟨rfl,rfl⟩
 have e7:(l==([60,62]:Bs))=false:=by simpa using h7
 by_cases h8:l=[60]
 ·subst h8
  go_in
  go_wp2_with fail
  go_ret
  exact⟨rfl,rfl⟩
 have e8:(l==([60]:Bs))=false:=by simpa using h8
 by_cases h9:l=[60,61]
 ·subst h9
  go_in
  go_wp2_with fail
  go_ret
  exact⟨rfl,rfl⟩
 have e9:(l==([60,61]:Bs))=false:=by simpa using h9
 by_cases vc:l=[62]
 ·subst vc
  go_in
  go_wp2_with fail
  go_ret
  exact⟨rfl,rfl⟩
 have e10:(l==([62]:Bs))=false:=by simpa using vc
 by_cases h11:l=[62,61]
 ·subst h11
  go_in
  go_wp2_with fail
  go_ret
  exact⟨rfl,rfl⟩
 have e11:(l==([62,61]:Bs))=false:=by simpa using h11
 have hr:lO l=false:=by unfold lO;simp only[e0,e1,e2,e3,e4,e5,e6,e7,e8,e9,e10,e11,Bool.or_self]
 rw[hr];clear hr
 go_in
 go_wp2_with fail
 go_ret
 exact⟨rfl,rfl⟩
def dB(s:Bs):Nat->Nat
 |0=>0
 |1=>if bH s 0 82 then 1+aG (s.drop 1) else 0
 |_=>let a:=if bH s 0 82 then 1+aG (s.drop 1) else 0
  if bH s a 67 then a+1+aG (s.drop (a+1)) else a
theorem jT(s:Bs):aG s<=s.length:=cJ aC s
theorem xW(s:Bs):dB s 1<=s.length:=by
 show (if bH s 0 82 then 1+aG (s.drop 1) else 0)<=s.length
 split
 ·rename_i h
  have:=jT (s.drop 1);rw[yk]at this;have:0<s.length:=by
   cases s with
   |nil=>cases h
   |cons=>simp
  omega
 omega
theorem tO(w:World)(C:Array Value)(e:TypeId)(f:Nat×Nat)(i:Nat):(w.alloc (.cells C e f)).cell? ⟨w.heap.size,i,none⟩=C[i]?:=by
 have h:(w.alloc (.cells C e f)).heap[w.heap.size]?=some (.cells C e f):=by
  show (w.heap.push (.cells C e f))[w.heap.size]?=_;simp
 unfold World.cell?;simp only[h];rfl
theorem seen_1(s:Bs):dB s 1=if bH s 0 82 then 0+1+aG (s.drop (0+1)) else 0:=by
 show (if bH s 0 82 then 1+aG (s.drop 1) else 0)=_;rw[Nat.zero_add]
theorem seen_2(s:Bs):dB s 2=if bH s (dB s 1) 67 then dB s 1+1+aG (s.drop (dB s 1+1)) else dB s 1:=rfl
theorem seen_le2(s:Bs):dB s 2<=s.length:=by
 rw[seen_2]
 split
 ·rename_i h
  have h1:=wK _ _ _ h;have:=jT (s.drop (dB s 1+1));rw[yk]at this;omega
 exact xW s
theorem uFS(l:Bs)(w:World)(hs:l.length<=1000000) :
  Calls Tryz.prog 211 #[vT l] w fun e w'=>e=.returned (.bool (dH l))/\Below w.heap.size w w':=by
 have HD:=zh (fun k W=>pO (l.drop k) W (by rw[yk];unfold maxLen;omega));have HDL:Hid (∀ k,aG (l.drop k)<=l.length-k):=zh (fun k=>by have:=jT (l.drop k);rwa [yk]at this);have HR:Hid (dH l=decide (dB l 2=l.length)):=zh rfl;have iu:=zh (xW l);have gw:=zh (seen_le2 l);have HB:Hid (Below w.heap.size w (w.alloc (.cells #[.int .u8 82,.int .u8 67] 5 (2,3)))):=zh (zp _);have HI:Hid ((w.alloc (.cells #[.int .u8 82,.int .u8 67] 5 (2,3))).cell? ⟨w.heap.size,0,none⟩=some (.int .u8 82)/\(w.alloc (.cells #[.int .u8 82,.int .u8 67] 5 (2,3))).cell? ⟨w.heap.size,1,none⟩=some (.int .u8 67)):=zh ⟨tO _ _ _ _ 0,tO _ _ _ _ 1⟩;have hcv:=Lib.run_convert_bytes_const (P:=Tryz.prog) w 110 5 #[.int .u8 82,.int .u8 67] 2 2 Tryz.underlying110 Tryz.underlying5
 simp only[yd,yi,List.length_nil,Nat.zero_add,Nat.reduceAdd]at hcv
 go_in
 go_wp2_with fail
 clear hcv;generalize w.alloc (.cells #[.int .u8 82,.int .u8 67] 5 (2,3))=W1 at HB HI ⊢;generalize w.heap.size=q at HI ⊢
 go_loop [3,9] (fun a i=>∃ k n:Nat,k<=2/\n=dB l k/\i=vI (k:Int)/\a=vI (n:Int)) (fun _ i=>2-(intOf i).toNat)
 case atStart=>exact⟨0,0,by omega,rfl,rfl,rfl⟩
 case round=>
  obtain⟨k,n,hk,hn,rfl,rfl⟩:=hrel;obtain⟨x0,x1⟩:=HI.out;rcases(by omega:k=2\/k=0\/k=1) with rfl|rfl|rfl
  ·have HN:=zh hn;clear hn x0 x1;have sq:(n:Int)<=(l.length:Int):=by have:=gw.out;have:=HN.out;omega
   go_wp2_with fail
   go_ret
   refine⟨?_,HB.out⟩;rw[HR.out,<- HN.out];have e:((n:Int)==(l.length:Int))=decide (n=l.length):=by rw[ze];simp;try omega
   show Ending.returned (.bool ((n:Int)==(l.length:Int)))=_;rw[e]
  ·have en:dB l 1=if bH l n 82 then n+1+aG (l.drop (n+1)) else n:=by have h0:n=0:=hn;rw[h0];exact seen_1 l
   have sq:n<=l.length:=by have h0:n=0:=hn;omega
   have je:=zh en;clear en hn hk;by_cases hlt:n<l.length
   ·have hb:=qH l n 82 82 rfl hlt;cases im:bH l n 82 with
    |true=>
     rw[im]at hb;have HN:Hid (dB l 1=n+1+aG (l.drop (n+1))):=zh (by rw[je.out,im];rfl);have qy:=HDL.out (n+1);have se:=zh (HD.out (n+1));clear je im;generalize hdd:aG (l.drop (n+1))=m at *;clear hdd
     go_wp2_with fail
     refine(se.out _).mono ?_;rintro e w' ⟨rfl,rfl⟩
     go_wp2_with fail
     go_round
     case rel=>exact⟨1,n+1+m,by omega,HN.out.symm,rfl,by go_num⟩
     case measure=>simp[intOf]
    |false=>
     rw[im]at hb;have HN:Hid (dB l 1=n):=zh (by rw[je.out,im];rfl);clear je im
     go_wp2_with fail
     go_round
     case rel=>exact⟨1,n,by omega,HN.out.symm,rfl,rfl⟩
     case measure=>simp[intOf]
   have HN:Hid (dB l 1=n):=zh (by rw[je.out,nI l n 82 (by omega)];rfl);have hnl2:¬ (n:Int)<(l.length:Int):=by omega
   clear je
   go_wp2_with fail
   go_round
   case rel=>exact⟨1,n,by omega,HN.out.symm,rfl,rfl⟩
   case measure=>simp[intOf]
  have en:dB l 2=if bH l n 67 then n+1+aG (l.drop (n+1)) else n:=by rw[hn];exact seen_2 l
  have sq:n<=l.length:=by have:=iu.out;omega
  have je:=zh en;clear en hn hk;by_cases hlt:n<l.length
  ·have hb:=qH l n 67 67 rfl hlt;cases im:bH l n 67 with
   |true=>
    rw[im]at hb;have HN:Hid (dB l 2=n+1+aG (l.drop (n+1))):=zh (by rw[je.out,im];rfl);have qy:=HDL.out (n+1);have se:=zh (HD.out (n+1));clear je im;generalize hdd:aG (l.drop (n+1))=m at *;clear hdd
    go_wp2_with fail
    refine(se.out _).mono ?_;rintro e w' ⟨rfl,rfl⟩
    go_wp2_with fail
    go_round
    case rel=>exact⟨2,n+1+m,by omega,HN.out.symm,rfl,by go_num⟩
    case measure=>simp[intOf]
   |false=>
    rw[im]at hb;have HN:Hid (dB l 2=n):=zh (by rw[je.out,im];rfl);clear je im
    go_wp2_with fail
    go_round
    case rel=>exact⟨2,n,by omega,HN.out.symm,rfl,rfl⟩
    case measure=>simp[intOf]
  have HN:Hid (dB l 2=n):=zh (by rw[je.out,nI l n 67 (by omega)];rfl);have hnl2:¬ (n:Int)<(l.length:Int):=by omega
  clear je
  go_wp2_with fail
  go_round
  case rel=>exact⟨2,n,by omega,HN.out.symm,rfl,rfl⟩
  case measure=>simp[intOf]
end Go.Proofs.YtjfihpaeglpblaaGreatDoor
