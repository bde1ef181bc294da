/-
  Lemmas, part 28: RkL RkM RkN PlSg RkQ LaidP OpenI OpenJ.
-/
import Derived.ProofKit
import Derived.OpenShut
import Derived.Lib.LaidTab
import Derived.Deep.DeepHandedRow
import Derived.Test.YtmgjidnalpgegaaGreatDoorCards
import Derived.ShutString
import Derived.Deep.Slices
import Derived.SizedLaws
import Derived.Test.YtmgjidnalpgegaaGreatDoorPk27
set_option maxHeartbeats 100000000
namespace Go.Proofs.YtmgjidnalpgegaaGreatDoor
open Go.RowKit
theorem RG.gz{ops:Array Oper}{S:List Nat}{T:List (Nat×Nat×Value)}{P:World->Prop}{a0 a:Act}{zl:Array Bool}{w:World}{N i s:Nat}{v:Value}{o:Oper}{Q:Exit->Act->World->Prop}(G:RG ops S T P a0 N zl a w i o)(g n:Nat){jg sg:Nat}{b:Bool}(hg:T[g]?=some (jg,sg,.bool (!b)))(h:T[n]?=some (i,s,bif b then undef else v))(hq:(o.guard.bind fun gp=>(ops[gp.1]?).bind fun og=>og.dst.map fun d=>(d,gp.2))=some (sg,true))(hr:b=false->(execOp a.eval o).run Tryz.prog w=.ok (.value v) w)(hm:{ on:=jg,ground:=.guard }∈o.after:=by simp)(hd:o.dst=some s:=by rfl):wpOp Tryz.prog ops Q i (GU ops S T [] P a0 (zl.setIfInBounds i true)) a w:=by
 have pg:=RG.g G g hg hm;cases b
 ·exact RG.vl G n h pg hq (hr rfl) rfl hd
 exact RG.sk G n h pg hq rfl hd
theorem fM{h h':NodeH}(e:NodeH.same h h'=true):h=h':=by
 unfold NodeH.same at e;simp only[yh,decide_eq_true_eq,iX,beq_iff_eq]at e;obtain⟨⟨⟨⟨⟨e1,e2⟩,e3⟩,e4⟩,e5⟩,e6⟩:=e;cases h;cases h';simp only at e1 e2 e3 e4 e5 e6;subst e1 e2 e3 e4 e5 e6;rfl
theorem rOwn_ok(t:Tree)(k:Int)(cs:Array Value)(w:World)(hr:t.right k=true)(hs:t.size<=1000000)(ht:TreeIn w t cs) :
  Calls Tryz.prog 39 #[.agg cs] w fun e w'=>e=.returned (.bool true)/\Below w.heap.size w w':=by
 obtain⟨h,l⟩:=t;obtain⟨A,cp,hc,hk⟩:=ht;obtain⟨Cn,rfl⟩:∃ C:List Value,cs=C.toArray:=⟨cs.toList,by simp⟩
 have hk:KidsOk w [] A l:=hk;have be:Hid (Cn.toArray=bC h A l.length cp):=zh hc;have hs:bH l+1<=1000000:=hs;rw[Tree.right,yh]at hr;have h1:=hr.1;unfold bJ at h1
 split at h1
 ·simp only[yh,decide_eq_true_eq]at h1;obtain⟨⟨a1,a2⟩,a3⟩:=h1;rw[fM a2]at be;unfold cI at a1;simp only[yh,decide_eq_true_eq]at a1;exact rOwn0 h.v l A cp Cn w hk hs be a1.1 a3
 split at h1
 ·rename_i k1
  simp only[yh,decide_eq_true_eq]at h1;obtain⟨⟨⟨a1,a2⟩,a3⟩,a4⟩:=h1;rcases k1 with k1|k1
  ·rw[k1]at a3;rw[fM a3]at be;exact rOwn1 h.a l A cp Cn w hk hs be ⟨a1,a2⟩ a4
  rw[k1]at a3;rw[fM a3]at be;exact rOwn3 h.a l A cp Cn w hk hs be ⟨a1,a2⟩ a4
 split at h1
 ·simp only[yh,decide_eq_true_eq]at h1;obtain⟨⟨a1,a2⟩,a3⟩:=h1;rw[fM a2]at be;exact rOwn2 h.a h.b l A cp Cn w hk hs be a1 a3
 split at h1
 ·simp only[yh,decide_eq_true_eq,Bool.not_eq_true',Bool.and_eq_false_iff,decide_eq_false_iff_not]at h1;obtain⟨⟨⟨a1,a2⟩,a3⟩,a4⟩:=h1;rw[fM a4]at be;by_cases hn:l.length=1
  ·have hp:0<l.length:=by omega
   obtain⟨g,ci,hA,fb,my⟩:=jR hk 0 hp;have h9:l[0].h.kind≠9:=by
    rcases a3 with a3|a3
    ·exact absurd hn a3
    intro e9;apply a3;cases l with
    |nil=>simp at hp
    |cons x r=>
     cases r with
     |nil=>rw[List.map_cons,List.map_nil];rw[show x.h.kind=9 from e9]
     |cons y r=>simp at hn
   exact rOwn4b h.name g l[0].h.kind l A cp Cn w hk hs be a1 hn hA (fun W' hb=>by
    obtain⟨c1,A',qy,c2,_⟩:=my W' (Kp.of_below hb);have h0:ci[0]?=some (.int .i64 l[0].h.kind):=by
     have:=congrArg (fun a=>a[0]?) c2;simpa using this
    have:=c1 0 _ h0;simpa using this) h9
  exact rOwn4a h.name l A cp Cn w hk hs be a1 a2 hn
 split at h1
 ·simp only[yh,decide_eq_true_eq]at h1;obtain⟨⟨a1,a2⟩,a3⟩:=h1;rw[fM a3]at be;exact rOwn5 h.name l A cp Cn w hk hs be (by unfold unB at a1;simpa [or_assoc] using a1) a2
 split at h1
 ·simp only[yh,decide_eq_true_eq]at h1;obtain⟨⟨a1,a2⟩,a3⟩:=h1;rw[fM a3]at be;exact rOwn6 h.name l A cp Cn w hk hs be (by unfold kZ at a1;simpa [or_assoc] using a1) a2
 split at h1
 ·simp only[yh,decide_eq_true_eq]at h1;obtain⟨⟨a1,a2⟩,a3⟩:=h1;rw[fM a2]at be;exact rOwn7 h.name l A cp Cn w hk hs be a1 a3
 split at h1
 ·simp only[yh,decide_eq_true_eq]at h1;obtain⟨⟨⟨a1,a2⟩,a3⟩,a4⟩:=h1;rw[fM a4]at be;exact rOwn8 h.rows l A cp Cn w hk hs be a1 a2 a3
 split at h1
 ·simp only[yh,decide_eq_true_eq]at h1;obtain⟨⟨a1,a2⟩,a3⟩:=h1;rw[fM a2]at be;exact rOwn9 l A cp Cn w hk hs be a3
 cases h1
theorem uKO{h:NodeH}{l:List Tree}{k:Int}(hr:(Tree.mk h l).right k=true)(i:Nat)(hi:i<l.length):l[i].right h.kind=true/\(h.kind=8->l[i].h.kind=0):=by
 rw[Tree.right,yh]at hr;have key:∀ (l:List Tree) (k:Int),bP l k=true->∀ i (hi:i<l.length),l[i].right k=true/\(k=8->l[i].h.kind=0):=by
  intro l
  induction l with
  |nil=>intro k _ i hi;simp at hi
  |cons t r ih=>
   intro k hl i hi;rw[bP]at hl;simp only[yh,Bool.or_eq_true,decide_eq_true_eq]at hl;cases i with
   |zero=>exact⟨hl.1.2,fun hk=>hl.1.1.elim (fun h=>absurd hk h) id⟩
   |succ i=>exact ih k hl.2 i (by simpa using hi)
 exact key l h.kind hr.2 i hi
theorem uGI{t:Tree}{k:Int}(hr:t.right k=true)(h9:t.h.kind=9):k=4:=by
 obtain⟨h,l⟩:=t;have h9:h.kind=9:=h9;rw[Tree.right,yh]at hr;have h1:=hr.1;unfold bJ at h1;rw[h9]at h1;simp at h1;exact h1.1.1
theorem sM{t:Tree}{k:Int}(hr:t.right k=true)(h8:k≠8):¬ (t.h.kind=0/\t.h.v.kind=1/\t.h.v.mant<0):=by
 obtain⟨h,l⟩:=t;rintro⟨h0,h1,h2⟩;have h0:h.kind=0:=h0;have h2:h.v.mant<0:=h2;rw[Tree.right,yh]at hr;have g:=hr.1;unfold bJ cI at g;rw[if_pos h0]at g;simp[h8]at g;omega
set_option maxRecDepth 1000000 in
theorem uKL:∀ (n:Nat),n<=1000000->∀ (t:Tree) (k:Int) (b:Bool) (cs:Array Value) (w:World),t.size<=n->t.right k=true->(b=true\/t.h.kind≠9)->TreeIn w t cs->Calls Tryz.prog 30 #[.agg cs,.bool b] w fun e w'=>e=.returned (.bool true)/\Below w.heap.size w w':=by
 intro n
 induction n with
 |zero=>intro _ t _ _ _ _ hs;cases t;simp[Tree.size]at hs
 |succ n ih=>
 intro av;rintro⟨h,l⟩ k b cs w hs hr hb ht;have hKD:=fun(i:Nat) (hi:i<l.length)=>uKO hr i hi
 have IH:=zh (fun(i:Nat) (hi:i<l.length) (b:Bool) cs W h1 h2=>ih (by omega) (l[i]'hi) h.kind b cs W (by have h9:(l[i]'hi).size<(Tree.mk h l).size:=iN (t:=.mk h l) (i:=i) hi;omega) (hKD i hi).1 h1 h2);have yy:=zh hKD;have HOWN:=zh (fun W (hb:Below w.heap.size w W)=>rOwn_ok (.mk h l) k cs W hr (by omega) (ht.kp (Kp.of_below hb)));have fe:b=true\/h.kind≠9:=hb;clear hKD hb;obtain⟨A,cp,hc,hk⟩:=ht;obtain⟨Cn,rfl⟩:∃ C:List Value,cs=C.toArray:=⟨cs.toList,by simp⟩
 have ir:Hid (l.length<=1000000):=zh (by have h1:=dK l;have h2:bH l+1<=n+1:=hs;omega);clear ih hs;dsimp only[Tree.h,Tree.l]at hk hc;have HK:=zh hk;have be:Hid (Cn.toArray=bC h A l.length cp):=zh hc;clear hk hc;generalize b9:(w.alloc (.cells Cn.toArray 41))=W1;have HL:Hid (Lies W1 w.heap.size 41 Cn.toArray):=zh (by rw[<- b9];exact Lies.new _ _ _);have HB:Hid (Below w.heap.size w W1):=zh (by rw[<- b9];exact zp _);have cy:=zh b9;clear b9;have HO:=zh (HOWN.out W1 HB.out);have HI:=zh (dW be.out);have ja:=zh (HL.out.rangeL)
 go_enter Tryz.func30,Tryz.ntmps30
 go_upto_region 1 with fail
 rw[cy.out];clear cy;generalize hQ:w.heap.size=q at *
 go_cut [17] (fun v wx=>v=.bool false/\Hid (Below W1.heap.size W1 wx))
 case first=>
  go_wp2_with (first |(refine yr rfl 41 (.tmp 2) rfl q 0 rfl Cn _ ja.out Tryz.underlying41 rfl HI.out ?_))
  refine HO.out.mono ?_;rintro e w2 ⟨rfl,bf⟩;have x0:=(HL.out.next bf).cell 0;rw[be.out]at x0;simp only[za,zb]at x0;rcases fe with rfl|h9
  ·go_wp2_with fail
   all_goals go_meet
   all_goals exact⟨rfl,zh bf⟩
  have h9b:(h.kind==9)=false:=by simpa using h9
  go_wp2_with fail
  go_meet
  exact⟨rfl,zh bf⟩
 case rest=>
 obtain⟨rfl,hcut⟩:=hcut;have co:=zh (HB.out.trans (hcut.out.mono (by have:=HB.out.size;omega)));have mj:Hid (∀ W',Below wc.heap.size wc W'->W'.cell? ⟨q,0,none⟩=some (.int .i64 h.kind)/\W'.cell? ⟨q,21,none⟩=some (.slice A l.length cp)):=zh (fun W' hb=>by
  have h0:=((HL.out.next hcut.out).next hb).cell 0;have h1:=((HL.out.next hcut.out).next hb).cell 21;rw[be.out]at h0 h1;exact⟨h0,h1⟩)
 clear hcut HO ja HOWN HL HB fe
 go_wp2_with fail
 go_loopw [5] (fun v wr=>∃ i:Nat,i<=l.length/\v=.int .i64 (i:Int)/\Hid (Below wc.heap.size wc wr)) (fun v _=>l.length-(intOf v).toNat)
 case atStart=>exact⟨0,zm _,rfl,zh (Below.refl _ _)⟩
 case round=>
  obtain⟨i,hi,rfl,i7⟩:=hrel;obtain⟨x0,hx⟩:=mj.out wr i7.out;by_cases hlt:i<l.length
  ·obtain⟨g,ci,rfl,sh,my⟩:=jR HK.out i hlt;have HLT:=zh hlt;have hib:(i:Int)<=1000000:=by have:=ir.out;omega
   have ux:(i:Int)<(l.length:Int):=by omega
   have zi:(Tryz.prog.info? 41).map (·.size)=some ci.length:=by rw[sh];exact aE
   obtain⟨b8,zt⟩:∃ x,(h.kind==8)=x:=⟨_,rfl⟩
   obtain⟨b4,lp⟩:∃ x,(h.kind==4)=x:=⟨_,rfl⟩
   have hn8:(h.kind != 8)=!b8:=by rw[<- zt];rfl
   obtain⟨kk,hkk⟩:∃ kk,l[i].h.kind=kk:=⟨_,rfl⟩
   have hk8:b8=true->kk=0:=fun e=>by rw[<- hkk];exact(yy.out i hlt).2 (by rw[e]at zt;simpa using zt)
   have hkr:l[i].right h.kind=true:=(yy.out i hlt).1;have vg:Hid (∀ W',Below wr.heap.size wr W'->W'.rangeAt g (i*22) ci/\W'.cell? ⟨g,i*22,none⟩=some (.int .i64 kk)/\Calls Tryz.prog 30 #[.agg ci.toArray,.bool b4] W' (fun e w'=>e=.returned (.bool true)/\Below W'.heap.size W' w')/\(b8=false->Calls Tryz.prog 29 #[.agg ci.toArray] W' (fun e w'=>e=.returned (.bool false)/\Below W'.heap.size W' w'))):=zh (fun W' hb=>by
    obtain⟨c1,c2⟩:=my W' (Kp.of_below (by rw[hQ];exact co.out.trans ((i7.out.trans (hb.mono i7.out.size)).mono (by have:=co.out.size;omega))));refine⟨c1,?_,?_,?_⟩
    ·obtain⟨A',qy,c3,_⟩:=c2;have h0:ci[0]?=some (.int .i64 kk):=by
      have e1:ci.toArray[0]?=_:=congrArg (fun a:Array Value=>a[0]?) c3;rw[za]at e1;rw[<- hkk,e1];rfl
     have:=c1 0 _ h0;simpa using this
    ·refine IH.out i hlt b4 ci.toArray W' ?_ c2;by_cases h9:l[i].h.kind=9
     ·left
      rw[<- lp,uGI hkr h9];rfl
     exact .inr h9
    intro e8;obtain⟨A',qy,c3,_⟩:=c2;rw[c3];exact xU _ _ _ _ _ (sM hkr (by intro e;rw[e]at zt;rw[<- zt]at e8;cases e8)))
   have HS:=zh (And.intro hn8 (And.intro lp (And.intro zt hk8)));clear my hkr hkk hk8 hn8
   go_upto_region 6 with fail
   clear x0 hx
   go_cut [61] (fun v wx=>v=.bool false/\Hid (Below wr.heap.size wr wx))
   case first=>
    obtain⟨TT,ae⟩:∃ TT:List (Nat×Nat×Value),TT=((0,25,.pointer (some ⟨q,0,none⟩))::(1,26,.int .i64 h.kind)::(2,27,.bool b8)::(3,28,.bool b8)::(4,29,(bif b8 then .pointer (some ⟨q,21,none⟩) else undef))::(5,30,(bif b8 then .slice (some ⟨g,0,none⟩) l.length cp else undef))::(6,31,(bif b8 then .int .i64 (i:Int) else undef))::(7,32,(bif b8 then .pointer (some ⟨g,i*22,none⟩) else undef))::(8,33,(bif b8 then .pointer (some ⟨g,i*22,none⟩) else undef))::(9,34,(bif b8 then .int .i64 0 else undef))::(10,35,(bif b8 then .bool false else undef))::(11,36,.bool false)::(12,37,.bool false)::(13,38,.pointer (some ⟨q,0,none⟩))::(14,39,.int .i64 h.kind)::(15,40,.bool (!b8))::(16,41,.bool (!b8))::(17,42,(bif b8 then undef else .pointer (some ⟨q,21,none⟩)))::(18,43,(bif b8 then undef else .slice (some ⟨g,0,none⟩) l.length cp))::(19,44,(bif b8 then undef else .int .i64 (i:Int)))::(20,45,(bif b8 then undef else .pointer (some ⟨g,i*22,none⟩)))::(21,46,(bif b8 then undef else .agg ci.toArray))::(22,47,(bif b8 then undef else .bool false))::(23,48,.bool false)::(24,49,.bool false)::(25,50,.bool false)::(26,51,.pointer (some ⟨q,21,none⟩))::(27,52,.slice (some ⟨g,0,none⟩) l.length cp)::(28,53,.int .i64 (i:Int))::(29,54,.pointer (some ⟨g,i*22,none⟩))::(30,55,.agg ci.toArray)::(31,56,.pointer (some ⟨q,0,none⟩))::(32,57,.int .i64 h.kind)::(33,58,.bool b4)::(34,59,.bool true)::(35,60,.bool false)::(36,61,.bool false)::[]):=⟨_,rfl⟩
    have aq:=zh ae;clear ae;refine bO (fun a0=>62<=a0.tmps.size/\a0.eval (.tmp 2)=.pointer (some ⟨q,0,none⟩)/\a0.eval (.tmp 5)=.int .i64 (i:Int)) (25::26::27::28::29::30::31::32::33::34::35::36::37::38::39::40::41::42::43::44::45::46::47::48::49::50::51::52::53::54::55::56::57::58::59::60::61::[]) TT [] (fun w'=>Below wr.heap.size wr w') (by kernel_rfl) (by kernel_rfl) ⟨by simp,rfl,rfl⟩ ((Below.refl _ _).drew) ?_ ?_
    ·rintro a0 ⟨hs,ma,ub⟩ zl a1 w1 zj o bg hI aa ho zd;have af:Below wr.heap.size wr w1:=hI.st;have ae:=aq.out;have hk:okU (TT.map fun e=>(e.1,e.2.1)) (25::26::27::28::29::30::31::32::33::34::35::36::37::38::39::40::41::42::43::44::45::46::47::48::49::50::51::52::53::54::55::56::57::58::59::60::61::[]) 62=true:=by rw[ae];rfl
     subst ae;have e2x:=aF ((hI.off.eval (by decide)).trans ma);have e5x:=aF ((hI.off.eval (by decide)).trans ub);have hj:=Up.of_false aa;have hj12:zj<37:=by rw[bg]at hj;exact hj
     have G:RG _ _ _ _ _ _ _ _ _ _ _:=⟨hk,hI,hs,aa,ho,zd⟩
     (iterate 36 rcases zq hj12 with hj12|rfl);obtain rfl:=cz hj12;all_goals obtain rfl:=oi ho
     ·exact G.nl 0 rfl (by simp[execOp,go_sem,e2x])
     ·have xq:w1.cell? ⟨q,0,none⟩=some (.int .i64 h.kind):=(mj.out _ (i7.out.trans (af.mono i7.out.size))).1;exact G.nl 1 rfl (by simp[execOp,go_sem,G.t 0 rfl,xq])
     ·exact G.nl 2 rfl (by simp[execOp,go_sem,G.t 1 rfl,HS.out.2.2.1])
     ·exact G.nl 3 rfl (by simp[execOp,go_sem,G.t 2 rfl])
     ·refine G.gv 3 4 rfl rfl rfl ?_;rintro rfl;simp[execOp,go_sem,e2x]
     ·refine G.gv 3 5 rfl rfl rfl ?_;rintro rfl;have xq:w1.cell? ⟨q,21,none⟩=some (.slice (some ⟨g,0,none⟩) l.length cp):=(mj.out _ (i7.out.trans (af.mono i7.out.size))).2;simp[execOp,go_sem,G.t 4 rfl,xq]
     ·refine G.gv 3 6 rfl rfl rfl ?_;rintro rfl;simp[execOp,go_sem,e5x]
     ·refine G.gv 3 7 rfl rfl rfl ?_;rintro rfl;simp[execOp,go_sem,G.t 5 rfl,G.t 6 rfl,ux]
     ·refine G.gv 3 8 rfl rfl rfl ?_;rintro rfl;simp[execOp,go_sem,G.t 7 rfl]
     ·have pg:=G.g 3 rfl;cases b8
      ·exact G.sk 9 rfl pg rfl
      have xq:w1.cell? ⟨g,i*22,none⟩=some (.int .i64 0):=by have h1:=(vg.out _ af).2.1;rw[HS.out.2.2.2 rfl]at h1;exact h1
      exact G.vl 9 rfl pg rfl (by simp[execOp,go_sem,G.t 8 rfl,xq])
     ·refine G.gv 3 10 rfl rfl rfl ?_;rintro rfl;simp[execOp,go_sem,G.t 9 rfl]
     ·cases b8
      all_goals have p3:=G.d 3 rfl
      all_goals have p10:=G.d 10 rfl
      all_goals exact G.nl 11 rfl (by simp[execOp,go_sem,aF p3,aF p10])
     ·exact G.nl 12 rfl (by simp[execOp,go_sem,G.t 11 rfl])
     ·have pg:=G.g 12 rfl;exact G.vl 13 rfl pg rfl (by simp[execOp,go_sem,e2x])
     ·have pg:=G.g 12 rfl;have xq:w1.cell? ⟨q,0,none⟩=some (.int .i64 h.kind):=(mj.out _ (i7.out.trans (af.mono i7.out.size))).1;exact G.vl 14 rfl pg rfl (by simp[execOp,go_sem,G.t 13 rfl,xq])
     ·have pg:=G.g 12 rfl;exact G.vl 15 rfl pg rfl (by simp[execOp,go_sem,G.t 14 rfl,HS.out.1])
     ·have pg:=G.g 12 rfl;exact G.vl 16 rfl pg rfl (by simp[execOp,go_sem,G.t 15 rfl])
     ·refine G.gz 16 17 rfl rfl rfl ?_;rintro rfl;simp[execOp,go_sem,e2x]
     ·refine G.gz 16 18 rfl rfl rfl ?_;rintro rfl;have xq:w1.cell? ⟨q,21,none⟩=some (.slice (some ⟨g,0,none⟩) l.length cp):=(mj.out _ (i7.out.trans (af.mono i7.out.size))).2;simp[execOp,go_sem,G.t 17 rfl,xq]
     ·refine G.gz 16 19 rfl rfl rfl ?_;rintro rfl;simp[execOp,go_sem,e5x]
     ·refine G.gz 16 20 rfl rfl rfl ?_;rintro rfl;simp[execOp,go_sem,G.t 18 rfl,G.t 19 rfl,ux]
     ·refine G.gz 16 21 rfl rfl rfl ?_;rintro rfl;have p20:=G.d 20 rfl;exact aW 41 (.tmp 45) rfl _ _ p20 _ _ (vg.out _ af).1 Tryz.underlying41 rfl zi
     ·have pg:=G.g 16 rfl;cases b8
      ·refine dN (inT 22 rfl) hk hI hs aa ho zd (Eq.trans (aH rfl rfl rfl pg) rfl) rfl 29 #[.agg ci.toArray] (by simp[go_sem,G.t 21 rfl]) ?_;refine((vg.out _ af).2.2.2 rfl).mono ?_;rintro e w2 ⟨rfl,hb⟩;exact⟨rfl,af.trans (hb.mono af.size)⟩
      exact G.sk 22 rfl pg rfl
     ·cases b8
      all_goals have pg:=G.g 12 rfl
      all_goals have p16:=G.d 16 rfl
      all_goals have p22:=G.d 22 rfl
      all_goals exact G.vl 23 rfl pg rfl (by simp[execOp,go_sem,aF p16,aF p22])
     ·exact G.nl 24 rfl (by simp[execOp,go_sem,G.t 12 rfl,G.t 23 rfl])
     ·exact G.nl 25 rfl (by simp[execOp,go_sem,G.t 24 rfl])
     ·have pg:=G.g 25 rfl;exact G.vl 26 rfl pg rfl (by simp[execOp,go_sem,e2x])
     ·have pg:=G.g 25 rfl;have xq:w1.cell? ⟨q,21,none⟩=some (.slice (some ⟨g,0,none⟩) l.length cp):=(mj.out _ (i7.out.trans (af.mono i7.out.size))).2;exact G.vl 27 rfl pg rfl (by simp[execOp,go_sem,G.t 26 rfl,xq])
     ·have pg:=G.g 25 rfl;exact G.vl 28 rfl pg rfl (by simp[execOp,go_sem,e5x])
     ·have pg:=G.g 25 rfl;exact G.vl 29 rfl pg rfl (by simp[execOp,go_sem,G.t 27 rfl,G.t 28 rfl,ux])
     ·have pg:=G.g 25 rfl;have p29:=G.d 29 rfl;exact G.vl 30 rfl pg rfl (aW 41 (.tmp 54) rfl _ _ p29 _ _ (vg.out _ af).1 Tryz.underlying41 rfl zi)
     ·have pg:=G.g 25 rfl;exact G.vl 31 rfl pg rfl (by simp[execOp,go_sem,e2x])
     ·have pg:=G.g 25 rfl;have xq:w1.cell? ⟨q,0,none⟩=some (.int .i64 h.kind):=(mj.out _ (i7.out.trans (af.mono i7.out.size))).1;exact G.vl 32 rfl pg rfl (by simp[execOp,go_sem,G.t 31 rfl,xq])
     ·have pg:=G.g 25 rfl;exact G.vl 33 rfl pg rfl (by simp[execOp,go_sem,G.t 32 rfl,HS.out.2.1])
     ·have pg:=G.g 25 rfl;refine dN (inT 34 rfl) hk hI hs aa ho zd (Eq.trans (aH rfl rfl rfl pg) rfl) rfl 30 #[.agg ci.toArray,.bool b4] (by simp[go_sem,G.t 30 rfl,G.t 33 rfl]) ?_;refine(vg.out _ af).2.2.1.mono ?_;rintro e w2 ⟨rfl,hb⟩;exact⟨rfl,af.trans (hb.mono af.size)⟩
     ·have pg:=G.g 25 rfl;exact G.vl 35 rfl pg rfl (by simp[execOp,go_sem,G.t 34 rfl])
     exact G.nl 36 rfl (by simp[execOp,go_sem,G.t 25 rfl,G.t 35 rfl])
    intro zl a1 w1 hI aw;have af:Below wr.heap.size wr w1:=hI.st;have ae:=aq.out;subst ae;have z61:=hI.ptk 36 rfl (aw 36 (by decide));obtain⟨ff,rfl,hf⟩:=hI.off.forms;rw[<- hf 61]at z61;clear hI;simp only[List.foldl,Act.put,yz,List.set];rw[z61];simp only[Exit.then]
    go_step
    go_meet
    exact⟨rfl,zh af⟩
   case rest=>
    obtain⟨rfl,hcut⟩:=hcut;have HBn:=zh (i7.out.trans (hcut.out.mono i7.out.size));clear hcut vg HS
    go_wp2_with fail
    go_roundw
    case rel=>exact⟨i+1,by have:=HLT.out;omega,by go_num,HBn⟩
    case measure=>have:=HLT.out;simp[intOf];omega
  have hnl:¬ ((i:Int)<(l.length:Int)):=by omega
  go_wp2_with fail
  go_ret
  have h2:Below q w wr:=co.out.trans (i7.out.mono (by have:=co.out.size;omega));exact⟨rfl,by first|exact h2 |(rw[hQ];exact h2)⟩
theorem zG{t:Tree}(hr:t.right 6=true):cK t=if 256<t.size then 5 else if 32<t.depth then 8 else 0:=by
 unfold cK;rw[hr,if_pos rfl]
set_option maxRecDepth 1000000 in
theorem xV(t:Tree)(cs:Array Value)(w:World)(hr:t.right 6=true)(hs:t.size<=1000000)(ht:TreeIn w t cs) :
  Calls Tryz.prog 13 #[.agg cs] w fun e w'=>e=.returned (.int .i64 (cK t:Nat))/\Below w.heap.size w w':=by
 rw[zG hr];have HTI:=zh (fun W (hb:Below w.heap.size w W)=>ht.kp (Kp.of_below hb));have cr:=zh hs;have HR:=zh hr;have HDB:=zh (oT t);have HBL:Hid (∀ A n c W,Calls Tryz.prog 29 #[dO t.h A n c] W fun e w'=>e=.returned (.bool false)/\Below W.heap.size W w'):=zh (fun A n c W=>xU _ _ _ _ _ (sM hr (by decide)));have me:Hid (t.h.kind≠9):=zh (vN hr);obtain⟨A,cp,hc,hk⟩:=ht;obtain⟨Cn,rfl⟩:∃ C:List Value,cs=C.toArray:=⟨cs.toList,by simp⟩
 have be:Hid (Cn.toArray=bC t.h A t.l.length cp):=zh hc;clear hk hc hs hr;generalize b9:(w.alloc (.cells Cn.toArray 41))=W1;have HL:Hid (Lies W1 w.heap.size 41 Cn.toArray):=zh (by rw[<- b9];exact Lies.new _ _ _);have HB:Hid (Below w.heap.size w W1):=zh (by rw[<- b9];exact zp _);have cy:=zh b9;clear b9;have HI:=zh (dW be.out);have ja:=zh (HL.out.rangeL);have dx:=zh (uGD 1000000 zr t Cn.toArray W1 cr.out (HTI.out W1 HB.out));have HSB:Hid ((t.size:Int)<=1000000):=zh (by have:=cr.out;omega)
 go_enter Tryz.func13,Tryz.ntmps13
 go_upto_region 1 with fail
 rw[cy.out];clear cy;generalize hQ:w.heap.size=q at *
 go_wp2_with (first |(refine yr rfl 41 (.tmp 1) rfl q 0 rfl Cn _ ja.out Tryz.underlying41 rfl HI.out ?_))
 refine dx.out.mono ?_;rintro e w2 ⟨A2,c2,xs,rfl,ho2,sy,bf⟩;have co:=zh (HB.out.trans (bf.mono (by have:=HB.out.size;omega)));have ju:=zh (HL.out.next bf);clear bf dx ja HL HB ho2 sy;have ja:=zh (ju.out.rangeL);have HC2:=zh (uGC 1000000 zr t Cn.toArray w2 cr.out (HTI.out w2 co.out));by_cases dz:256<t.size
 ·have h1:(256:Int)<(t.size:Int):=by omega
  go_wp2_with fail
  go_ret
  try rw[if_pos dz]
  exact⟨rfl,by first|exact co.out |(rw[hQ];exact co.out)⟩
 have h1:¬ (256:Int)<(t.size:Int):=by omega
 go_wp2_with (first |(refine yr rfl 41 (.tmp 1) rfl q 0 rfl Cn _ ja.out Tryz.underlying41 rfl HI.out ?_))
 refine HC2.out.mono ?_;rintro e w3 ⟨rfl,bu⟩;have au:=zh (co.out.trans (bu.mono (by have:=co.out.size;omega)));have rv:=zh (ju.out.next bu);clear bu HC2 ja ju co;have ja:=zh (rv.out.rangeL);have HC3:=zh (HBL.out A t.l.length cp w3);rw[show dO t.h A t.l.length cp=.agg Cn.toArray by rw[be.out]]at HC3;by_cases oj:32<t.depth
 ·have h2:(32:Int)<(t.depth:Int):=by omega
  go_wp2_with fail
  go_ret
  try rw[if_neg dz,if_pos oj]
  exact⟨rfl,by first|exact au.out |(rw[hQ];exact au.out)⟩
 have h2:¬ (32:Int)<(t.depth:Int):=by omega
 go_wp2_with (first |(refine yr rfl 41 (.tmp 1) rfl q 0 rfl Cn _ ja.out Tryz.underlying41 rfl HI.out ?_))
 refine HC3.out.mono ?_;rintro e w4 ⟨rfl,lp⟩;have cg:=zh (au.out.trans (lp.mono (by have:=au.out.size;omega)));have qh:=zh (rv.out.next lp);clear lp HC3 ja rv au;have ja:=zh (qh.out.rangeL);have HC4:=zh (uKL 1000000 zr t 6 false Cn.toArray w4 cr.out HR.out (.inr me.out) (HTI.out w4 cg.out))
 go_wp2_with (first |(refine aL (Eq.trans (aH rfl rfl rfl rfl) rfl) 41 (.tmp 1) rfl q 0 rfl Cn _ ja.out Tryz.underlying41 rfl HI.out ?_))
 refine HC4.out.mono ?_;rintro e w5 ⟨rfl,ip⟩;have di:=zh (cg.out.trans (ip.mono (by have:=cg.out.size;omega)));clear ip
 go_wp2_with fail
 go_ret
 try rw[if_neg dz,if_neg oj]
 exact⟨rfl,by first|exact di.out |(rw[hQ];exact di.out)⟩
theorem uEQ{ax:Ax}(ha:lU ax){s:Bs}{t:Tree}(h:aR ax s=.ok t):∃ ts e c,jH s=.ok ts/\bY 65 ax 0 (ts++[bA s.length]) 0=.ok t [e] c/\e.kind=0:=by
 unfold aR at h;cases hl:jH s with
 |error k=>rw[hl]at h;cases h
 |ok ts=>
  rw[hl]at h;have h:eS ax (ts++[bA s.length])=.ok t:=h;obtain⟨f1,f2,f3⟩:=kB s ts hl;have E0:EndR (fun x z=>x=z) (ts++[bA s.length]) (ts++[bA s.length]):=by
   have h:=nD (ρ:=fun x z=>x=z) id (e:=bA s.length) (e':=bA s.length) rfl (mA _ _ rfl rfl rfl rfl) ts (fun t ht=>⟨(f1 t ht).k0,sZ (f1 t ht) _ rfl rfl rfl,by have:=(f1 t ht).hi;show t.place<=s.length;omega⟩) f2
   rwa [List.map_id]at h
  have hw:=lT (ρ:=fun x z=>x=z) (G:=True) (B:=False) (d:=0) ha 65 65 0 0 (cA (ts++[bA s.length])) ⟨.inl rfl,fun h=>h.elim⟩ (.inl ⟨rfl,rfl⟩) _ _ 0 E0 zr;unfold eS at h;rcases hw with⟨t1,r,r',c,h1,h2,h3,h4,h5⟩|⟨e,x,y,h1,_⟩
  ·rw[h1]at h;dsimp only at h;by_cases k0:(hd r).kind≠0
   ·rw[if_pos k0]at h;cases h
   rw[if_neg k0]at h;have k0:(hd r).kind=0:=Nat.eq_zero_of_not_pos (fun h=>k0 (Nat.pos_iff_ne_zero.1 h));have hr:∃ e,r=[e]/\e.kind=0:=by
    cases h3 with
    |one h h0=>exact⟨_,rfl,h0⟩
    |more h h0 hm hr=>exact absurd k0 h0
   obtain⟨e,rfl,he⟩:=hr;have ht:t1=t:=by
    split at h
    ·cases h
    split at h
    ·cases h
    injection h
   subst ht;exact⟨ts,e,c,rfl,h1,he⟩
  rw[h1]at h;cases h
theorem EndR.behind{A B:List Tok}(h:EndR (fun x z=>x=z) (A++B) (A++B))(hA:∀ t∈A,t.kind≠0):EndR (fun x z=>x=z) B B:=by
 induction A with
 |nil=>exact h
 |cons a A ih=>exact ih (h.tail (hA a (.head _))) (fun t ht=>hA t (zg _ ht))
structure Operand(ax:Ax)(s:Bs)(t:Tree)(ts:List Tok):Prop where
 lex:jH s=.ok ts
 right:t.right 6=true
 first:∀ (k:Nat) (R:List Tok),isS (hd (ts.map (aU k)++R)) [44]=false/\isS (hd (ts.map (aU k)++R)) [41]=false
 read:∀ (k f op c:Nat) (y:Tok) (Y1:List Tok),50<=f->op<=14->(isS y [41]=true\/isS y [44]=true)->EndR (fun x z=>x=z) Y1 Y1->bY f ax op (ts.map (aU k)++y::Y1) c=.ok t (y::Y1) (c+t.size)
theorem wC{ax:Ax}{L:List Tok}{c f op:Nat}(h:isS (hd L) [44]=true\/isS (hd L) [41]=true):∃ k p,bY f ax op L c=.bad k p:=by
 cases f with
 |zero=>exact⟨6,_,rfl⟩
 |succ f=>
  refine⟨6,(hd L).place,?_⟩;show eD (fI (bY f ax) ax op) L c=_;have hk:(hd L).kind=5/\((hd L).text=[44]\/(hd L).text=[41]):=by
   rcases h with h|h
   all_goals
    unfold isS at h;simp at h;exact⟨h.1,by simp[h.2]⟩
  have hah:bD L=0:=by
   cases L with
   |nil=>rfl
   |cons a L=>
    have hk:a.kind=5/\(a.text=[44]\/a.text=[41]):=hk;unfold bD dA isS;rcases hk.2 with h|h <;> rw[h] <;> simp
  refine uDK hah ?_;unfold fI isS;rw[hk.1];rcases hk.2 with h|h <;> rw[h] <;> rfl
theorem kU{ax:Ax}(ha:lU ax){s:Bs}{t:Tree}(h:aR ax s=.ok t)(hb:s.count 40<50):∃ ts,Operand ax s t ts:=by
 obtain⟨ts,e,c0,hl,hw,he⟩:=uEQ ha h;obtain⟨f1,f2,f3⟩:=kB s ts hl;have hN0:cA (ts++[bA s.length])<50:=by rw[uJY _ _ rfl];omega
 have hsim:∀ k f op c,50<=f->op<=14->OutR (fun x z=>z=aU k x) True False c (cA (ts++[bA s.length])) 0 (bY 65 ax 0 (ts++[bA s.length]) 0) (bY f ax op (ts.map (aU k)++[bA (s.length+k)]) (0+c)):=fun k f op c hf ho=>by
  have E0:EndR (fun x z=>z=aU k x) (ts++[bA s.length]) (ts.map (aU k)++[bA (s.length+k)]) :=
   nD (ρ:=fun x z=>z=aU k x) (e:=bA s.length) (e':=bA (s.length+k)) (aU k) rfl (mA _ _ rfl rfl rfl rfl) ts (fun t ht=>⟨(f1 t ht).k0,sZ (f1 t ht) _ rfl rfl rfl,by have:=(f1 t ht).hi;show t.place<=s.length;omega⟩) f2
  exact lT (ρ:=fun x z=>z=aU k x) (G:=True) (B:=False) (d:=c) ha 65 f 0 op (cA (ts++[bA s.length])) ⟨.inr ⟨by omega,by omega⟩,fun h=>h.elim⟩ (.inr ⟨by omega,by omega⟩) _ _ 0 E0 zr
 have zy:∀ k f op c,50<=f->op<=14->∃ e',e'.kind=0/\bY f ax op (ts.map (aU k)++[bA (s.length+k)]) c=.ok t [e'] (c+t.size)/\t.right 6=true:=fun k f op c hf ho=>by
  have hJ:=hsim k f op c hf ho;rw[Nat.zero_add,hw]at hJ;rcases hJ with⟨t1,r,r',c1,h1,h2,h3,h4,h5⟩|⟨e,x,y,h1,_⟩
  ·injection h1 with q1 q2 q3;subst q1 q2 q3;obtain⟨g1,g2⟩:=h5 trivial;cases h3 with
   |one hh h0=>exact⟨_,by rw[<- hh.kind];exact h0,by rw[h2,show c0+c=c+t.size by omega],g2⟩
   |more hh h0 hm hr=>exact absurd he h0
  cases h1
 obtain⟨_,_,_,hR⟩:=zy 0 65 0 0 (by omega) (by omega);refine⟨ts,hl,hR,fun k R=>?_,fun k f op c y Y1 hf ho hy hS=>?_⟩
 ·obtain⟨e',gb,hw',_⟩:=zy k 65 0 0 (by omega) (by omega);have m8:∀ L:List Tok,(∃ c t r c',bY 65 ax 0 L c=.ok t r c')->isS (hd L) [44]=false/\isS (hd L) [41]=false:=fun L hL=>by
   obtain⟨c,t,r,c',hL⟩:=hL;cases h1:isS (hd L) [44] with
   |true=>obtain⟨k,p,hb⟩:=wC (ax:=ax) (c:=c) (f:=65) (op:=0) (.inl h1);rw[hb]at hL;cases hL
   |false=>
    cases h2:isS (hd L) [41] with
    |true=>obtain⟨k,p,hb⟩:=wC (ax:=ax) (c:=c) (f:=65) (op:=0) (.inr h2);rw[hb]at hL;cases hL
    |false=>exact⟨rfl,rfl⟩
  cases hts:ts with
  |nil=>
   rw[hts]at hw';have hE:StopOk (bA (s.length+k)) ⟨5,[41],0⟩ [⟨0,[],0⟩]:=⟨rfl,.inl rfl,.one ⟨⟨rfl,.head _⟩,rfl,rfl,fun _=>rfl,fun h=>by cases h⟩ rfl⟩
   have hw'':bY 65 ax 0 [bA (s.length+k)] 0=.ok t [e'] (0+t.size):=hw';rw[yE hE 65 0 0]at hw'';cases hw''
  |cons a r=>
   rw[hts]at hw';have h9:=m8 _ ⟨0,_,_,_,hw'⟩;exact h9
 obtain⟨e',gb,hw',_⟩:=zy k f op c hf ho;have hSt:StopOk (bA (s.length+k)) y Y1:=⟨rfl,hy,hS.diag (fun x hx=>⟨rfl,hx⟩)⟩
 have hI:=uKZ hSt ha f op _ _ c (uBP (e:=bA (s.length+k)) (Y:=y::Y1) (ts.map (aU k)) (fun t ht=>by
  obtain⟨x,hx,rfl⟩:=yj.1 ht;exact(f1 x hx).k0))
 rcases hI with⟨t2,r2,r2',c2,i1,i2,i3,_,_⟩|⟨k,p,i1,i2⟩|⟨⟨k,i1⟩,i2⟩
 ·rw[hw']at i1;injection i1 with q1 q2 q3;subst q1 q2 q3;rcases LocR.cut i3 with⟨_,h⟩|⟨_,h⟩
  ·rw[i2,h]
  exact absurd gb h
 ·rw[hw']at i1;cases i1
 rw[hw']at i1;cases i1
theorem fC{ax:Ax}{s:Bs}{t:Tree}{ts:List Tok}(h:Operand ax s t ts){z:UInt8}(hz:Stp z)(r:Bs)(k:Nat):bK (s++z::r) k=lV (ts.map (aU k)) (bK (z::r) (k+s.length)):=by
 have hs:bK s (0+k)=vS k (bK s 0):=wH s 0 k;have hl:bK s 0=.ok ts:=h.lex;rw[hl,Nat.zero_add]at hs;exact uBJ hz r s.length s k _ zr hs
theorem uJ{s:Bs}{ts:List Tok}(h:jH s=.ok ts):EndR (fun x z=>x=z) (ts++[bA s.length]) (ts++[bA s.length])/\∀ t∈ts,t.kind≠0:=by
 obtain⟨f1,f2,f3⟩:=kB s ts h;refine⟨?_,fun t ht=>(f1 t ht).k0⟩;have h:=nD (ρ:=fun x z=>x=z) id (e:=bA s.length) (e':=bA s.length) rfl (mA _ _ rfl rfl rfl rfl) ts (fun t ht=>⟨(f1 t ht).k0,sZ (f1 t ht) _ rfl rfl rfl,by have:=(f1 t ht).hi;show t.place<=s.length;omega⟩) f2
 rwa [List.map_id]at h
set_option maxRecDepth 1000000 in
theorem wR(A:Option Addr)(cap:Nat)(ids:List IdR)(w:World)(hA:mR w A ids)(hn:ids.length<=maxLen)(hf:∀ y∈ids,y.fits) :
  Calls Tryz.prog 10 #[.slice A ids.length cap,.slice none 0 0] w fun e w'=>∃ u,e=.returned (.tuple #[.pointer (some ⟨w.heap.size,0,none⟩),u])/\(ids.length<=300->AxIn w' (some w.heap.size) (fR ids))/\Below w.heap.size w w':=by
 have CA:=zh (uDS A cap ids w hA hn hf);have CR:=zh (fun W h=>uKQ A cap ids W h hn);have HA:=zh hA;obtain⟨k1,k2,k3,k4⟩:=rH ids;have HP:Hid (∀ (b:Nat) v1 v2 W,AxMk w.heap.size b (cY ids) v1 v2 W->ids.length<=300->AxIn W (some w.heap.size) (fR ids)):=zh (fun b v1 v2 W h hl=>by
  rw[zF ids (by omega)]at h;exact h.axIn (by omega) (fun y hy=>hf y (k4 y hy)) k1)
 clear hA k1 k2 k3 k4 hf hn
 go_enter Tryz.func10,Tryz.ntmps10
 go_wp2_with fail
 refine CA.out.mono ?_;rintro e w1 ⟨v1,v2,rfl,h1,af⟩;have H1:=zh (HP.out _ _ _ _ h1);have eo:=zh af;have CR1:=zh (CR.out w1 (fun h0=>by obtain⟨g,o,e,hr⟩:=HA.out h0;exact⟨g,o,e,hr.at af.size (af.block g hr.1)⟩));clear h1 af CA CR
 go_wp2_with fail
 refine CR1.out.mono ?_;rintro e w2 ⟨u1,u2,rfl,h2,bf⟩;have H2:=zh (fun hl=>dM (H1.out hl) bf);have co:=zh (eo.out.trans (bf.mono eo.out.size));clear h2 bf CR1 H1 eo
 go_wp2_with fail
 go_loopw [8] (fun v wr=>v=.int .i64 0/\Hid (wr=w2)) (fun _ _=>0)
 case atStart=>exact⟨rfl,zh rfl⟩
 case round=>
  obtain⟨rfl,hw⟩:=hrel;obtain rfl:=hw.out
  go_wp2_with fail
  (try simp only[Exit.inBlock,Exit.then])
  refine yt (results_tmp2 rfl _ _ _) rfl ?_;exact⟨⟨_,rfl⟩,H2.out,co.out⟩
theorem wS(A B:Option Addr)(ca cb:Nat)(ids jds:List IdR)(w:World)(hT:Tab w)(hA:mR w A ids)(hB:mR w B jds)(hn:ids.length<=maxLen)(hm:jds.length<=maxLen)(hf:∀ y∈ids,y.fits)(hg:∀ y∈jds,y.fits)(w0:World)(cn:Below w0.heap.size w0 w)(hT0:0<w0.heap.size) :
  Calls Tryz.prog 10 #[.slice A ids.length ca,.slice none 0 0] w fun e w1=>(∃ u,e=.returned (.tuple #[.pointer (some ⟨w.heap.size,0,none⟩),u]))/\Below w.heap.size w w1 /\
   Calls Tryz.prog 10 #[.slice B jds.length cb,.slice none 0 0] w1 fun e w2=>(∃ u,e=.returned (.tuple #[.pointer (some ⟨w1.heap.size,0,none⟩),u]))/\Below w0.heap.size w0 w2/\(ids.length<=300->jds.length<=300->LSt ⟨fR ids,fR jds⟩ w.heap.size w1.heap.size w0 w2):=by
 refine(wR A ca ids w hA hn hf).mono ?_;rintro e w1 ⟨u,rfl,h1,af⟩;refine⟨⟨u,rfl⟩,af,?_⟩;refine(wR B cb jds w1 (fun h0=>by obtain⟨g,o,e,hr⟩:=hB h0;exact⟨g,o,e,hr.at af.size (af.block g hr.1)⟩) hm hg).mono ?_;rintro e w2 ⟨u2,rfl,h2,bf⟩;refine⟨⟨u2,rfl⟩,(cn.trans (af.mono cn.size)).trans (bf.mono (yv cn.size af.size)),fun hl hl2=>?_⟩;obtain⟨cs,hc⟩:=(h1 hl).box _ rfl;obtain⟨cs2,fi⟩:=(h2 hl2).box _ rfl;exact⟨dM (h1 hl) bf,h2 hl2,(hT.next af).next bf,hT0,cn.size,hc.lt,fi.lt,(cn.trans (af.mono cn.size)).trans (bf.mono (yv cn.size af.size))⟩
theorem iZ(s:Bs)(w:World)(hs:s.length<=1500) :
  Calls Tryz.prog 17 #[.string ⟨s.toArray⟩] w fun e w'=>e=.returned (.int .i64 (s.count 40:Nat))/\w=w':=by
 have bg:(s.length:Int)<=1500:=by omega
 go_enter Tryz.func17,Tryz.ntmps17
 go_wp2_with fail
 go_loop [3,4] (fun u v=>∃ i:Nat,v=.int .i64 (i:Int)/\i<=s.length/\u=.int .i64 ((s.take i).count 40:Nat)) (fun _ v=>s.length-(intOf v).toNat)
 case atStart=>exact⟨0,rfl,zm _,rfl⟩
 case round=>
  obtain⟨i,rfl,hi,rfl⟩:=hrel;obtain⟨n,hn⟩:∃ n,(s.take i).count 40=n:=⟨_,rfl⟩
  have hni:n<=i:=by rw[<- hn];exact yv List.count_le_length (by rw[zc];omega)
  have hnb:(n:Int)<=1500:=by omega
  rw[hn];by_cases hlt:i<s.length
  ·have e40:=iE s i 40 40 rfl hlt;have bw:(s.take (i+1)).count 40=n+(if aZ s i 40=true then 1 else 0):=by
    rw[yw hlt,List.count_append,hn,List.count_singleton];unfold aZ;rw[List.getElem?_eq_getElem hlt];simp
   have HS:=zh bw;clear bw hn;cases h40:aZ s i 40
   ·rw[h40]at e40 HS;have dy:Hid ((s.take (i+1)).count 40=n):=zh (by simpa using HS.out);clear h40 HS
    go_wp2_with fail
    go_round
    case rel=>exact⟨i+1,by go_num,by omega,by rw[dy.out]⟩
    case measure=>simp[intOf];omega
   rw[h40]at e40 HS;have dy:Hid ((s.take (i+1)).count 40=n+1):=zh (by simpa using HS.out);clear h40 HS
   go_wp2_with fail
   go_round
   case rel=>exact⟨i+1,by go_num,by omega,by rw[dy.out];go_num⟩
   case measure=>simp[intOf];omega
  have hns:Hid (s.count 40=n):=zh (by rw[<- hn,List.take_of_length_le (by omega)]);clear hn
  go_wp2_with fail
  go_ret
  exact⟨by rw[hns.out];rfl,rfl⟩
theorem mE(ax:Ax)(ha:lU ax)(s:Bs):(∃ t,aR ax s=.ok t)\/(∃ e p,aR ax s=.error (e,p)/\e≠0):=by
 unfold aR;cases hl:jH s with
 |error k=>exact .inr ⟨7,k,rfl,by decide⟩
 |ok ts=>
  show (∃ t,eS ax (ts++[bA s.length])=.ok t)\/(∃ e p,eS ax (ts++[bA s.length])=.error (e,p)/\e≠0);rcases uGW ha (uJ hl).1 with⟨t,h1,_⟩|⟨e,he,h1,_⟩|⟨e,x,y,h1,_,_,h4⟩
  ·exact .inl ⟨t,h1⟩
  ·exact .inr ⟨e,0,h1,by rcases he with rfl|rfl <;> decide⟩
  exact .inr ⟨e,_,h1,h4.1⟩
theorem law_kids{W:World}{X:List Nat}{xs:List Value}{l:List Tree}(hk:KCells W X xs l)(hX:W.heap.size∉X):KidsOk (W.alloc (.cells xs.toArray 41)) X (some ⟨W.heap.size,0,none⟩) l:=by
 have hb:Below W.heap.size W (W.alloc (.cells xs.toArray 41)):=(zp _);refine .inr ⟨W.heap.size,rfl,hX,by rw[World.size_alloc];exact Nat.lt_succ_self _,?_⟩;have hl:=Lies.new W 41 xs.toArray;refine KCells.at hl 0 (hk.kp (Kp.of_below hb)) (fun j _=>?_);rw[Nat.zero_mul,Nat.zero_add];simp
theorem NSt.cells{qb q x:Nat}{t:Tree}{W:World}(h:NSt qb q t x W):∃ D:List Value,D.length=22/\Lies W q 41 D.toArray/\∃ A cp,D.toArray=bC t.h A t.l.length cp/\∀ y,y<=x->KidsOk W (List.range y) A t.l:=by
 obtain⟨h1,h2,C,h3,h4,A,cp,h5,h6⟩:=h;exact⟨C,h3,h4,A,cp,h5,fun y hy=>KidsOk.anti (fun z hz _=>yg.2 (by have:=yg.1 hz;omega)) h6⟩
theorem uBD{W:World}{X:List Nat}{t:Tree}{D xs:List Value}{l:List Tree}(fb:D.length=22){A:Option Addr}{cp:Nat}(h:D.toArray=bC t.h A t.l.length cp)(hk:KidsOk W X A t.l)(hr:KCells W X xs l):KCells W X (D++xs) (t::l):=⟨D,xs,rfl,fb,⟨A,cp,h,hk⟩,hr⟩
theorem uBH{qa qb:Nat}{ax:Ax}{w W:World}(h:LSt ax qa qb w W){x:Nat}(hx:qb<x)(hxW:x<=W.heap.size)(hd:NodeH)(l:List Tree)(xs:List Value)(hk:KCells W (List.range x) xs l)(c:Nat) :
  ∃ Cw:List Value,(bC hd (some ⟨W.heap.size,0,none⟩) l.length c)=Cw.toArray/\Cw.length=22/\Cw.toArray.all (·.oneCell')=true /\
   LSt ax qa qb w (World.setCells ((W.alloc (.cells xs.toArray 41)).alloc (.cells aA.toArray 41)) (W.alloc (.cells xs.toArray 41)).heap.size 0 Cw) /\
   NSt qb (W.alloc (.cells xs.toArray 41)).heap.size (.mk hd l) x (World.setCells ((W.alloc (.cells xs.toArray 41)).alloc (.cells aA.toArray 41)) (W.alloc (.cells xs.toArray 41)).heap.size 0 Cw) /\
   (∀ q t x,NSt qb q t x W->NSt qb q t x (World.setCells ((W.alloc (.cells xs.toArray 41)).alloc (.cells aA.toArray 41)) (W.alloc (.cells xs.toArray 41)).heap.size 0 Cw)) /\
   World.there ((W.alloc (.cells xs.toArray 41)).alloc (.cells aA.toArray 41)) (W.alloc (.cells xs.toArray 41)).heap.size 0 Cw.toArray.size:=by
 have hkk:=law_kids hk (by intro hm;have:=yg.1 hm;omega);have hbA:Below W.heap.size W (W.alloc (.cells xs.toArray 41)):=(zp _);have bg:W.heap.size<=(W.alloc (.cells xs.toArray 41)).heap.size:=hbA.size;generalize dv:W.alloc (.cells xs.toArray 41)=W1 at *;have fb:(bC hd (some ⟨W.heap.size,0,none⟩) l.length c).toList.length=22:=rfl;have hb:Below W1.heap.size W1 (World.setCells (W1.alloc (.cells aA.toArray 41)) W1.heap.size 0 (bC hd (some ⟨W.heap.size,0,none⟩) l.length c).toList):=cU (aQ (.inr zr) _ 0 ((Kp.refl _ _).alloc _));have je:=hbA.trans (hb.mono bg);refine⟨(bC hd (some ⟨W.heap.size,0,none⟩) l.length c).toList,rfl,fb,dG _ _ _ _,h.next je,⟨hx,by omega,_,fb,(Lies.new W1 41 aA.toArray).putAll (by rw[fb];rfl),_,_,rfl,hkk.kp (Kp.of_below hb)⟩,fun q t x hn=>hn.next je,cH fb⟩
open Go.ChangeShapes Go.WideShapes Go.ChangeAt Go.RowKit
theorem own:ownKnob Tryz.prog.godebug=none:=by kernel_rfl
theorem laidOut:laidOutB Tryz.prog=true:=by kernel_rfl
theorem wE{H:Type}{enc:TypeId×Value->H}{P:Program}{w:World}{base:Nat}{sp:Nat->Bool}{held:Bool}{fuel:Nat}{t e:TypeId}{n:Nat}{cs:List Value}{ss:List Bs}{p:List MemPlace}
  (ht:P.underlying t=some (.array n e)) (he:P.underlying e=some .string) (hce:P.cellsOf e=1) (hct:P.cellsOf t=n)
  (h:DataW.trod enc P w base sp held fuel t cs=some (.agg (ss.map fun s=>.lit (.string s)),p)):cs=ss.map fun s=>Value.string ⟨s.toArray⟩:=by
 cases fuel with
 |zero=>simp[DataW.trod]at h
 |succ fuel=>
  simp only[DataW.trod,ht,hce,hct,Nat.mul_one]at h
  split at h
  ·rename_i hl
   obtain⟨xs,hm,hx⟩:=Option.map_eq_some_iff.1 h;have hxs:xs.map (·.1)=ss.map fun s=>(DataW.lit (.string s):DataW H):=by
    have:=congrArg Prod.fst hx;simpa using this
   have hxl:xs.length=n:=by simpa using Lib.mapM_length hm
   have hzl:ss.length=n:=by
    have:=congrArg List.length hxs;simp at this;omega
   apply List.ext_getElem?;intro i;by_cases hi:i<n
   ·obtain⟨b,hb,hf⟩:=Lib.mapM_at hm i i (by simp[hi]);obtain⟨z,hc,rfl,_⟩:=DataW.trod_string he hf;have h1:cs[i]?=some (.string z):=by
     have:=congrArg (·[0]?) hc;simpa [List.getElem?_take,List.getElem?_drop] using this
    have h2:(xs.map (·.1))[i]?=some (DataW.lit (.string z.data.toList):DataW H):=by simp[hb]
    rw[hxs]at h2;simp only[List.getElem?_map,Option.map_eq_some_iff,DataW.lit.injEq,Lit.string.injEq]at h2;obtain⟨z',hz',j5⟩:=h2;simp[h1,hz',j5]
   rw[List.getElem?_eq_none (by omega),List.getElem?_eq_none (by simp;omega)]
  cases h
theorem uBF{P:Program}{w:World}:∀ {laid:List (String×DataW Unit)} {ps:List MemPlace},DataW.LaidVars P w laid ps->∀ {n:String} {d:DataW Unit},(n,d)∈laid ->
  ∃ g t cs fuel p,P.globalNamed n=some g/\(P.globals[g]?).map (·.type)=some t/\w.var? P n=some cs/\DataW.trod (fun _=>()) P w 0 (fun _=>true) false fuel t cs.toList=some (d,p)
 | [],_,_,_,_,hm=>by simp at hm
 |(n',d')::r,ps,h,n,d,hm=>by
  obtain⟨g,t,cs,fuel,p,q,h1,h2,h3,h4,h5,_⟩:=h;rcases ym.1 hm with e|e
  ·injection e with e1 e2;subst e1 e2;exact⟨g,t,cs,fuel,p,h1,h2,h3,h4⟩
  exact uBF h5 e
def faultName:String:= "counterpane/value.faultTexts"
theorem gFault:Tryz.prog.globalNamed faultName=some 0:=by kernel_rfl
theorem uES:(Tryz.prog.globals[0]?).map (·.type)=some 134:=by kernel_rfl
theorem tab_of_laid{laid:List (String×DataW Unit)}{W:World}(h:laidMet Tryz.prog laid W)(hm:(faultName,Rows.laid_counterpane_value_faultTexts)∈laid):Tab W:=by
 obtain⟨ps,hl,_⟩:=h;obtain⟨g,t,cs,fuel,p,h1,h2,h3,h4⟩:=uBF hl hm;obtain rfl:=Option.some.inj (gFault.symm.trans h1);obtain rfl:=Option.some.inj (uES.symm.trans h2);have gz:=wE (ss:=(List.range 10).map dE) Tryz.underlying134 Tryz.underlying9 (by kernel_rfl) (by kernel_rfl) h4;intro i hi;have h5:=World.var?_cell gFault h3 i;rw[h5];have h6:cs[i]?=cs.toList[i]?:=by simp
 rw[h6,gz];simp[hi]
noncomputable def laidWorld (os:Os):World :=
 { World.holding Tryz.prog os ⟨#[],#[],[]⟩ with heap:=(World.holding Tryz.prog os ⟨#[],#[],[]⟩).heap.modify 0 fun
   | .cells _ t frozen=>.cells #[.string ⟨#[]⟩,.string ⟨#[35,68,73,86,47,48,33]⟩,.string ⟨#[35,86,65,76,85,69,33]⟩,.string ⟨#[35,82,69,70,33]⟩,.string ⟨#[35,78,65,77,69,63]⟩,.string ⟨#[35,78,85,77,33]⟩,.string ⟨#[35,78,47,65]⟩,.string ⟨#[35,83,80,73,76,76,33]⟩,.string ⟨#[35,67,73,82,67,33]⟩,.string ⟨#[35,67,65,76,67,33]⟩] t frozen
   |o=>o }
end Go.Proofs.YtmgjidnalpgegaaGreatDoor
namespace Go.Proofs.YtmgjidnalpgegaaGreatDoor
open Go.ChangeShapes Go.WideShapes Go.ChangeAt Go.RowKit
section
variable {H:Type} {enc:TypeId×Value->H} {W:World}
set_option maxRecDepth 100000 in
theorem trod_idR{n:Nat}{c0 c1:Value}{x:DataW H×List MemPlace}(h:DataW.trod enc Tryz.prog W 0 (fun _=>true) true n 34 [c0,c1]=some x) :
  ∃ t:IdR,c0=.int .i64 t.a/\c1=.int .i64 t.n/\t.fits:=by
 obtain⟨xs,k,_,hx,_,hlen,hg⟩:=DataW.trod_struct Tryz.underlying34 h
 match xs,hlen with
 | [y0,y1],_=>
  have g0:DataW.trod enc Tryz.prog W 0 (fun _=>true) true k 3 [c0]=some y0:=by have:=hg 0 _ rfl;simpa [uE] using this
  have g1:DataW.trod enc Tryz.prog W 0 (fun _=>true) true k 3 [c1]=some y1:=by have:=hg 1 _ rfl;simpa [uE] using this
  obtain⟨m,e0,rfl,w0⟩:=DataW.trod_int Tryz.underlying3 g0;obtain⟨p,e2,rfl,w2⟩:=DataW.trod_int Tryz.underlying3 g1;injection e0 with e0;injection e2 with e2;subst e0 e2;exact⟨⟨m,p⟩,rfl,rfl,w0,w2⟩
set_option maxRecDepth 100000 in
theorem in_ids{a:Option Addr}{len cap:Nat}{d:DataW H}{p:List MemPlace}(h:DataW.Trod enc Tryz.prog W 0 (fun _=>true) true 22 (.slice a len cap) d p) :
  ∃ ts:List IdR,ts.length=len/\mR W a ts/\∀ t∈ts,t.fits:=by
 obtain⟨fuel,hf⟩:=h;rcases Go.Deep.open_slice Tryz.underlying22 hf with⟨gz,_⟩|⟨x,l,c,m,n,D,Pl,gz,hb,hl,hm,hmm,hx,hi⟩
 ·simp[Value.cells]at gz;obtain⟨rfl,rfl,rfl⟩:=gz;exact⟨[],rfl,fun h0=>by simp at h0,fun t ht=>by simp at ht⟩
 simp[Value.cells]at gz;obtain⟨rfl,rfl,rfl⟩:=gz;rw[if_pos rfl]at hmm;subst hmm;rw[yS]at hi;obtain⟨g,o,spot⟩:=x;have key:∀ i,i<len->∃ t:IdR,(W.cell? ((⟨g,o,spot⟩:Addr).add (i*2))=some (.int .i64 t.a)/\W.cell? (((⟨g,o,spot⟩:Addr).add (i*2)).add 1)=some (.int .i64 t.n))/\t.fits:=by
  intro i qr;obtain⟨ry,hc,ht'⟩:=hi i (by omega);obtain⟨_,vk,ed⟩:=World.cells?_some hc
  match ry,vk with
  | [c0,c1],_=>
   obtain⟨t,e0,e1,ef⟩:=trod_idR ht';have h0:=ed 0 (by omega);have h1:=ed 1 (by omega);simp only[zb,zf]at h0 h1;refine⟨t,⟨?_,?_⟩,ef⟩
   ·rw[<- e0,<- h0];simp[Addr.add]
   rw[<- e1,<- h1]
 have hch:∃ f:Nat->IdR,∀ i (qr:i<len),(W.cell? ((⟨g,o,spot⟩:Addr).add (i*2))=some (.int .i64 (f i).a)/\W.cell? (((⟨g,o,spot⟩:Addr).add (i*2)).add 1)=some (.int .i64 (f i).n))/\(f i).fits :=
  ⟨fun i=>if h:i<len then Classical.choose (key i h) else ⟨0,0⟩,fun i qr=>by
   have:=Classical.choose_spec (key i qr);simp only[dif_pos qr];exact this⟩
 obtain⟨f,hf2⟩:=hch;refine⟨(List.range len).map f,by simp,fun h0=>?_,fun t ht=>?_⟩
 ·have h0':0<len:=by simpa using h0
  have hsp:spot=none:=by
   have:=(hf2 0 h0').1.1;simpa [Addr.add] using World.cell?_spot this
  subst hsp;have hadd:∀ k j:Nat,(⟨g,k,none⟩:Addr).add j=⟨g,k+j,none⟩:=fun k j=>by
   unfold Addr.add;by_cases e:j=0
   ·simp[e]
   simp[e]
  refine⟨g,o,rfl,?_,fun j hj=>?_⟩
  ·have:=(hf2 0 h0').1.1;rw[hadd]at this;exact uO this
  have hj':j<len:=by simpa using hj
  obtain⟨h1,h2⟩:=(hf2 j hj').1;rw[hadd,hadd]at h2;rw[hadd]at h1;simp only[List.getElem_map,List.getElem_range];exact⟨h1,h2⟩
 obtain⟨i,hi,rfl⟩:=yj.1 ht;exact(hf2 i (yg.1 hi)).2
end
end Go.Proofs.YtmgjidnalpgegaaGreatDoor
namespace Go.Proofs.YtmgjidnalpgegaaGreatDoor
open Go.ChangeShapes Go.WideShapes Go.ChangeAt Go.RowKit
theorem ids_len{H:Type}{enc:TypeId×Value->H}{W:World}{a:Option Addr}{len cap:Nat}{d:DataW H}{p:List MemPlace}(h:DataW.Trod enc Tryz.prog W 0 (fun _=>true) true 22 (.slice a len cap) d p):len<=maxLen:=by
 obtain⟨fuel,hf⟩:=h;rcases Go.Deep.open_slice Tryz.underlying22 hf with⟨gz,_⟩|⟨x,l,c,m,n,D,Pl,gz,hb,hl,hm,hmm,hx,hi⟩
 ·simp[Value.cells]at gz;obtain⟨rfl,rfl,rfl⟩:=gz;exact zm _
 simp[Value.cells]at gz;obtain⟨rfl,rfl,rfl⟩:=gz;exact yv hl hm
end Go.Proofs.YtmgjidnalpgegaaGreatDoor
