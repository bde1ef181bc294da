/-
  Lemmas, part 19: RmH RmI.
-/
import Derived.Test.YtjfihpaeglpblaaGreatDoorRf18
set_option maxHeartbeats 100000000
set_option maxRecDepth 1000000
namespace Go.Proofs.YtjfihpaeglpblaaGreatDoor
open Go.RowKit
theorem xK:∀ (n:Nat),n<=1000000->∀ (t:Tree) (k:Int) (b:Bool) (cs:Array Value) (w:World),t.size<=n->t.fine->(k=8\/t.belowB=false)->b=decide (k=4)->TreeIn w t cs->Calls Tryz.prog 39 #[.agg cs,.bool b] w fun e w'=>e=.returned (.bool (t.right k))/\Below w.heap.size w w':=by
 intro n
 induction n with
 |zero=>intro _ t _ _ _ _ hs;cases t;simp[Tree.size]at hs
 |succ n ih=>
 intro bg;rintro⟨h,l⟩ k b cs w hs hf l6 rfl ht;have IH:=zh (fun(i:Nat) (hi:i<l.length) cs W (hb:h.kind=8\/(l[i]'hi).belowB=false) h2=>ih (by omega) (l[i]'hi) h.kind (decide (h.kind=4)) cs W (by have h9:(l[i]'hi).size<(Tree.mk h l).size:=eF (t:=.mk h l) (i:=i) hi;omega) (nN i hi hf.2) hb rfl h2);have hR:(Tree.mk h l).right k=(uAR h l.length (l.map fun t=>t.h.kind)&&!(decide (h.kind=9)&&!decide (k=4))&&aT l h.kind):=by
  rw[Tree.right,uBK (l6.elim .inl (fun h8=>.inr (fun h9=>by rw[(nJ (t:=.mk h l)).2 h9]at h8;cases h8)))]
 obtain⟨rr,qi⟩:∃ r,(Tree.mk h l).right k=r:=⟨_,rfl⟩
 rw[qi]at hR ⊢;obtain⟨ow,how⟩:∃ x,uAR h l.length (l.map fun t=>t.h.kind)=x:=⟨_,rfl⟩
 rw[how]at hR;have HOWN:Hid (∀ W,Below w.heap.size w W->Calls Tryz.prog 87 #[.agg cs] W fun e w'=>e=.returned (.bool ow)/\Below W.heap.size W w'):=zh (fun W hb=>by rw[<- how];exact rOwn_any (.mk h l) cs W (by omega) hf.1 (ht.kp (Kp.of_below hb)));obtain⟨b9,gr⟩:∃ x,decide (h.kind=9)=x:=⟨_,rfl⟩
 have h9b:(h.kind==9)=b9:=by rw[<- gr];rfl
 rw[gr]at hR;generalize decide (k=4)=b at *;obtain⟨d0,qw⟩:∃ x,(!ow||(b9&&!b))=x:=⟨_,rfl⟩
 have HR:Hid (rr=(!d0&&aT l h.kind)):=zh (by rw[hR,<- qw];cases ow <;> cases b9 <;> cases b <;> rfl);have HD0:=zh qw;clear hR qi how gr qw l6;obtain⟨A,cp,hc,hk⟩:=ht;obtain⟨Cn,rfl⟩:∃ C:List Value,cs=C.toArray:=⟨cs.toList,by simp⟩
 have fm:Hid (l.length<=1000000):=zh (by have h1:=bS l;have h2:aM l+1<=n+1:=hs;omega);clear ih hs hf;dsimp only[Tree.h,Tree.l]at hk hc;have HK:=zh hk;have ai:Hid (Cn.toArray=aH h A l.length cp):=zh hc;clear hk hc;generalize ir:(w.alloc (.cells Cn.toArray 34))=W1;have HL:Hid (Lies W1 w.heap.size 34 Cn.toArray):=zh (by rw[<- ir];exact Lies.new _ _ _);have HB:Hid (Below w.heap.size w W1):=zh (by rw[<- ir];exact zp _);have al:=zh ir;clear ir;have HO:=zh (HOWN.out W1 HB.out);have HI:=zh (cA ai.out);have ij:=zh (HL.out.rangeL)
 go_in
 go_upto_region 1 with fail
 rw[al.out];clear al;generalize hQ:w.heap.size=q at *
 go_cut [17] (fun v wx=>v=.bool d0/\Hid (Below W1.heap.size W1 wx))
 case first=>
  go_wp2_with (first |(refine yr rfl 34 (.tmp 2) rfl q 0 rfl Cn _ ij.out Tryz.underlying34 rfl HI.out ?_))
  refine HO.out.mono ?_;rintro e w2 ⟨rfl,hb2⟩;have x0:=(HL.out.next hb2).cell 0;rw[ai.out]at x0;simp only[za,zb]at x0;cases ow <;> cases b9 <;> cases b
  all_goals go_wp2_with fail
  all_goals go_meet
  all_goals exact⟨by rw[<- HD0.out];rfl,zh hb2⟩
 case rest=>
 obtain⟨rfl,hcut⟩:=hcut;have ba:=zh (HB.out.trans (hcut.out.mono (by have:=HB.out.size;omega)));have mj:Hid (∀ W',Below wc.heap.size wc W'->W'.cell? ⟨q,0,none⟩=some (vI h.kind)/\W'.cell? ⟨q,21,none⟩=some (.slice A l.length cp)):=zh (fun W' hb=>by
  have h0:=((HL.out.next hcut.out).next hb).cell 0;have h1:=((HL.out.next hcut.out).next hb).cell 21;rw[ai.out]at h0 h1;exact⟨h0,h1⟩)
 clear hcut HO ij HOWN HL HB h9b HD0;cases d0 with
 |true=>
  go_wp2_with fail
  go_ret
  exact⟨aA (by rw[HR.out];rfl),by first|exact ba.out |(rw[hQ];exact ba.out)⟩
 |false=>
 have j3:Hid (rr=aT l h.kind):=zh (by rw[HR.out];rfl);clear HR
 go_wp2_with fail
 go_loopw [5] (fun v wr=>∃ i:Nat,i<=l.length/\v=vI (i:Int)/\Hid (Below wc.heap.size wc wr)/\Hid (rr=aT (l.drop i) h.kind)) (fun v _=>l.length-(intOf v).toNat)
 case atStart=>exact⟨0,zm _,rfl,zh zB,j3⟩
 case round=>
  obtain⟨i,hi,rfl,j9,HRi⟩:=hrel;obtain⟨x0,hx⟩:=mj.out wr j9.out;by_cases hlt:i<l.length
  ·obtain⟨g,og,ci,rfl,dw,dy⟩:=fU HK.out i hlt;have vz:=zh hlt;have hib:(i:Int)<=1000000:=by have:=fm.out;omega
   have tp:(i:Int)<(l.length:Int):=by omega
   have zi:(Tryz.prog.info? 34).map (·.size)=some ci.length:=by rw[dw];exact bO
   obtain⟨b8,hb8⟩:∃ x,(h.kind==8)=x:=⟨_,rfl⟩
   obtain⟨b4,ki⟩:∃ x,(h.kind==4)=x:=⟨_,rfl⟩
   have hn8:(h.kind != 8)=!b8:=by rw[<- hb8];rfl
   obtain⟨kk,mr⟩:∃ kk,(l[i]'hlt).h.kind=kk:=⟨_,rfl⟩
   obtain⟨nk,hnk⟩:∃ x,(kk != 0)=x:=⟨_,rfl⟩
   obtain⟨bl,l6⟩:∃ x,(l[i]'hlt).belowB=x:=⟨_,rfl⟩
   obtain⟨rk,hrk⟩:∃ x,(l[i]'hlt).right h.kind=x:=⟨_,rfl⟩
   obtain⟨d1,si⟩:∃ x,x=(b8&&nk):=⟨_,rfl⟩
   obtain⟨d2,hd2⟩:∃ x,x=(d1||(!b8&&bl)):=⟨_,rfl⟩
   obtain⟨d3,hd3⟩:∃ x,x=(d2||!rk):=⟨_,rfl⟩
   have je:Hid (aT (l.drop i) h.kind=(!d3&&aT (l.drop (i+1)) h.kind)):=zh (by
    rw[xR hlt,hd3,hd2,si]
    congr 1
    have e1:decide (h.kind≠8)=!b8:=by rw[<- hb8];by_cases h8:h.kind=8 <;> simp[h8]
    have e2:decide ((l[i]'hlt).h.kind=0)=!nk:=by rw[mr,<- hnk];by_cases h8:kk=0 <;> simp[h8]
    rw[e1,e2,hrk];have e3:b8=false->bl=true->rk=false:=fun h1 h2=>by
     cases la:rk with
     |false=>rfl
     |true=>
      rw[la]at hrk;rw[h1]at hb8;exact absurd (nJ.1 (by rw[l6,h2])) (pK hrk (by simpa using hb8))
    cases b8 <;> cases nk <;> cases bl <;> cases rk <;> simp_all)
   have HD:=zh (And.intro si (And.intro hd2 hd3));have sh:Hid (∀ W',Below wr.heap.size wr W'->W'.rangeAt g (og+i*22) ci/\W'.cell? ⟨g,og+i*22,none⟩=some (vI kk)/\(d2=false->Calls Tryz.prog 39 #[.agg ci.toArray,.bool b4] W' (fun e w'=>e=.returned (.bool rk)/\Below W'.heap.size W' w'))/\Calls Tryz.prog 38 #[.agg ci.toArray] W' (fun e w'=>e=.returned (.bool bl)/\Below W'.heap.size W' w')):=zh (fun W' hb=>by
    obtain⟨c1,c2⟩:=dy W' (Kp.of_below (by rw[hQ];exact ba.out.trans ((zU j9.out hb).mono (by have:=ba.out.size;omega))));refine⟨c1,?_,?_,?_⟩
    ·obtain⟨A',ko,c3,_⟩:=c2;have h0:ci[0]?=some (vI kk):=by
      have e1:ci.toArray[0]?=_:=congrArg (fun a:Array Value=>a[0]?) c3;rw[za]at e1;rw[<- mr,e1];rfl
     have:=c1 0 _ h0;simpa using this
    ·intro e2;have h4:decide (h.kind=4)=b4:=by rw[<- ki];rfl
     have h2:=IH.out i hlt ci.toArray W' (by
      by_cases h8:h.kind=8
      ·exact .inl h8
      right
      rw[l6];rw[hd2]at e2;have e8:b8=false:=by rw[<- hb8];simpa using h8
      rw[e8]at e2;cases hq:bl with
      |false=>rfl
      |true=>rw[hq]at e2;simp at e2) c2
     rwa [h4,hrk]at h2
    obtain⟨A',ko,c3,_⟩:=c2;rw[c3,<- l6];exact sA _ _ _ _ _)
   have HS:=zh (And.intro hn8 (And.intro ki (And.intro hb8 hnk)));clear dy mr hn8 hnk l6 hrk si hd2 hd3
   go_upto_region 6 with fail
   clear x0 hx
   go_cut [61] (fun v wx=>v=.bool d3/\Hid (Below wr.heap.size wr wx))
   case first=>
    obtain⟨TT,ag⟩:∃ TT:List (Nat×Nat×Value),TT=((0,25,vP q 0)::(1,26,vI h.kind)::(2,27,.bool b8)::(3,28,.bool b8)::(4,29,(bif b8 then vP q 21 else undef))::(5,30,(bif b8 then .slice (some ⟨g,og,none⟩) l.length cp else undef))::(6,31,(bif b8 then vI (i:Int) else undef))::(7,32,(bif b8 then vP g (og+i*22) else undef))::(8,33,(bif b8 then vP g (og+i*22) else undef))::(9,34,(bif b8 then vI kk else undef))::(10,35,(bif b8 then .bool nk else undef))::(11,36,.bool d1)::(12,37,.bool d1)::(13,38,(bif d1 then undef else vP q 0))::(14,39,(bif d1 then undef else vI h.kind))::(15,40,(bif d1 then undef else .bool (!b8)))::(16,41,(bif d1 then undef else .bool (!b8)))::(17,42,(bif d1 then undef else (bif b8 then undef else vP q 21)))::(18,43,(bif d1 then undef else (bif b8 then undef else .slice (some ⟨g,og,none⟩) l.length cp)))::(19,44,(bif d1 then undef else (bif b8 then undef else vI (i:Int))))::(20,45,(bif d1 then undef else (bif b8 then undef else vP g (og+i*22))))::(21,46,(bif d1 then undef else (bif b8 then undef else .agg ci.toArray)))::(22,47,(bif d1 then undef else (bif b8 then undef else .bool bl)))::(23,48,(bif d1 then undef else .bool (!b8&&bl)))::(24,49,.bool d2)::(25,50,.bool d2)::(26,51,(bif d2 then undef else vP q 21))::(27,52,(bif d2 then undef else .slice (some ⟨g,og,none⟩) l.length cp))::(28,53,(bif d2 then undef else vI (i:Int)))::(29,54,(bif d2 then undef else vP g (og+i*22)))::(30,55,(bif d2 then undef else .agg ci.toArray))::(31,56,(bif d2 then undef else vP q 0))::(32,57,(bif d2 then undef else vI h.kind))::(33,58,(bif d2 then undef else .bool b4))::(34,59,(bif d2 then undef else .bool rk))::(35,60,(bif d2 then undef else .bool (!rk)))::(36,61,.bool d3)::[]):=⟨_,rfl⟩
    have aw:=zh ag;clear ag;refine bK (fun a0=>62<=a0.tmps.size/\a0.eval (.tmp 2)=vP q 0/\a0.eval (.tmp 5)=vI (i:Int)) (25::26::27::28::29::30::31::32::33::34::35::36::37::38::39::40::41::42::43::44::45::46::47::48::49::50::51::52::53::54::55::56::57::58::59::60::61::[]) TT [] (fun w'=>Below wr.heap.size wr w') (by kernel_rfl) (by kernel_rfl) ⟨by simp,rfl,rfl⟩ (zB.drew) ?_ ?_
    ·rintro a0 ⟨hs,sc,pu⟩ zl a1 w1 zj o ap hI ah ho zd;have ab:Below wr.heap.size wr w1:=hI.st;have ag:=aw.out
     subst ag;have e2x:=hI.off.q sc;have e5x:=hI.off.q pu;have hj:=Up.of_false ah;have hj12:zj<37:=by rw[ap]at hj;exact hj
     have G:RG _ _ _ _ _ _ _ _ _ _ _:=⟨by rfl,hI,hs,ah,ho,zd⟩
     (iterate 36 rcases zq hj12 with hj12|rfl);obtain rfl:=cz hj12;all_goals obtain rfl:=oi ho
     ·exact G.nl 0 rfl (by simp[execOp,go_sem,e2x])
     ·have xq:w1.cell? ⟨q,0,none⟩=some (vI h.kind):=(mj.out _ (zU j9.out ab)).1;exact G.nl 1 rfl (by simp[execOp,go_sem,G.t 0,xq])
     ·exact G.nl 2 rfl (by simp[execOp,go_sem,G.t 1,HS.out.2.2.1])
     ·exact G.nl 3 rfl (by simp[execOp,go_sem,G.t 2])
     ·refine G.gv 3 4 ?_;rintro rfl;simp[execOp,go_sem,e2x]
     ·refine G.gv 3 5 ?_;rintro rfl;have xq:w1.cell? ⟨q,21,none⟩=some (.slice (some ⟨g,og,none⟩) l.length cp):=(mj.out _ (zU j9.out ab)).2;simp[execOp,go_sem,G.t 4,xq]
     ·refine G.gv 3 6 ?_;rintro rfl;simp[execOp,go_sem,e5x]
     ·refine G.gv 3 7 ?_;rintro rfl;simp[execOp,go_sem,G.t 5,G.t 6,tp]
     ·refine G.gv 3 8 ?_;rintro rfl;simp[execOp,go_sem,G.t 7]
     ·refine G.gv 3 9 ?_;rintro rfl;have xq:=(sh.out _ ab).2.1;simp[execOp,go_sem,G.t 8,xq]
     ·refine G.gv 3 10 ?_;rintro rfl;simp[execOp,go_sem,G.t 9,HS.out.2.2.2]
     ·cases b8
      all_goals exact G.nl 11 rfl (by simp[execOp,go_sem,G.t 3,G.t 10,HD.out.1])
     ·exact G.nl 12 rfl (by simp[execOp,go_sem,G.t 11])
     ·refine G.gn 12 13 ?_;rintro rfl;simp[execOp,go_sem,e2x]
     ·refine G.gn 12 14 ?_;rintro rfl;have xq:w1.cell? ⟨q,0,none⟩=some (vI h.kind):=(mj.out _ (zU j9.out ab)).1;simp[execOp,go_sem,G.t 13,xq]
     ·refine G.gn 12 15 ?_;rintro rfl;simp[execOp,go_sem,G.t 14,HS.out.1]
     ·refine G.gn 12 16 ?_;rintro rfl;simp[execOp,go_sem,G.t 15]
     ·have pg:=G.g 16;cases d1
      ·cases b8
       ·exact G.vl 17 rfl pg (by simp[execOp,go_sem,e2x])
       exact G.sk 17 pg
      exact G.su 17 pg
     ·have pg:=G.g 16;cases d1
      ·cases b8
       ·have xq:w1.cell? ⟨q,21,none⟩=some (.slice (some ⟨g,og,none⟩) l.length cp):=(mj.out _ (zU j9.out ab)).2;exact G.vl 18 rfl pg (by simp[execOp,go_sem,G.t 17,xq])
       exact G.sk 18 pg
      exact G.su 18 pg
     ·have pg:=G.g 16;cases d1
      ·cases b8
       ·exact G.vl 19 rfl pg (by simp[execOp,go_sem,e5x])
       exact G.sk 19 pg
      exact G.su 19 pg
     ·have pg:=G.g 16;cases d1
      ·cases b8
       ·exact G.vl 20 rfl pg (by simp[execOp,go_sem,G.t 18,G.t 19,tp])
       exact G.sk 20 pg
      exact G.su 20 pg
     ·have pg:=G.g 16;cases d1
      ·cases b8
       ·have p20:=G.d 20;exact G.vl 21 rfl pg (aO 34 (.tmp 45) rfl _ _ p20 _ _ (sh.out _ ab).1 Tryz.underlying34 rfl zi)
       exact G.sk 21 pg
      exact G.su 21 pg
     ·have pg:=G.g 16;cases d1
      ·cases b8
       ·refine G.cw 22 rfl pg 38 #[.agg ci.toArray] (by simp[go_sem,G.t 21]) ?_;refine((sh.out _ ab).2.2.2).mono ?_;rintro e w2 ⟨rfl,hb⟩;exact⟨rfl,zU ab hb⟩
       exact G.sk 22 pg
      exact G.su 22 pg
     ·have pg:=G.g 12;cases d1
      ·cases b8
       all_goals exact G.vl 23 rfl pg (by simp[execOp,go_sem,G.t 16,G.t 22])
      exact G.sk 23 pg
     ·cases d1
      all_goals exact G.nl 24 rfl (by simp[execOp,go_sem,G.t 12,G.t 23,HD.out.2.1])
     ·exact G.nl 25 rfl (by simp[execOp,go_sem,G.t 24])
     ·refine G.gn 25 26 ?_;rintro rfl;simp[execOp,go_sem,e2x]
     ·refine G.gn 25 27 ?_;rintro rfl;have xq:w1.cell? ⟨q,21,none⟩=some (.slice (some ⟨g,og,none⟩) l.length cp):=(mj.out _ (zU j9.out ab)).2;simp[execOp,go_sem,G.t 26,xq]
     ·refine G.gn 25 28 ?_;rintro rfl;simp[execOp,go_sem,e5x]
     ·refine G.gn 25 29 ?_;rintro rfl;simp[execOp,go_sem,G.t 27,G.t 28,tp]
     ·refine G.gn 25 30 ?_;rintro rfl;have p29:=G.d 29;exact aO 34 (.tmp 54) rfl _ _ p29 _ _ (sh.out _ ab).1 Tryz.underlying34 rfl zi
     ·refine G.gn 25 31 ?_;rintro rfl;simp[execOp,go_sem,e2x]
     ·refine G.gn 25 32 ?_;rintro rfl;have xq:w1.cell? ⟨q,0,none⟩=some (vI h.kind):=(mj.out _ (zU j9.out ab)).1;simp[execOp,go_sem,G.t 31,xq]
     ·refine G.gn 25 33 ?_;rintro rfl;simp[execOp,go_sem,G.t 32,HS.out.2.1]
     ·have pg:=G.g 25;cases d2
      ·refine G.cw 34 rfl pg 39 #[.agg ci.toArray,.bool b4] (by simp[go_sem,G.t 30,G.t 33]) ?_;refine((sh.out _ ab).2.2.1 rfl).mono ?_;rintro e w2 ⟨rfl,hb⟩;exact⟨rfl,zU ab hb⟩
      exact G.sk 34 pg
     ·refine G.gn 25 35 ?_;rintro rfl;simp[execOp,go_sem,G.t 34]
     cases d2
     all_goals exact G.nl 36 rfl (by simp[execOp,go_sem,G.t 25,G.t 35,HD.out.2.2])
    intro zl a1 w1 hI bd;have ab:Below wr.heap.size wr w1:=hI.st;have ag:=aw.out;subst ag;have z61:=hI.ptk 36 rfl (bd 36 (by decide));obtain⟨ff,rfl,hf⟩:=hI.off.forms;rw[<- hf 61]at z61;clear hI;simp only[List.foldl,Act.put,yz,List.set];rw[z61];simp only[Exit.then]
    go_step
    go_meet
    exact⟨rfl,zh ab⟩
   case rest=>
    obtain⟨rfl,hcut⟩:=hcut;have oe:=zh (zU j9.out hcut.out);clear hcut sh HS HD;cases d3 with
    |true=>
     have h2:Below q w wc:=ba.out.trans (oe.out.mono (by have:=ba.out.size;omega))
     go_wp2_with fail
     go_ret
     exact⟨aA (by rw[HRi.out,je.out];rfl),by first|exact h2 |(rw[hQ];exact h2)⟩
    |false=>
    have HRn:Hid (rr=aT (l.drop (i+1)) h.kind):=zh (by rw[HRi.out,je.out];rfl);clear je HRi
    go_wp2_with fail
    go_roundw
    case rel=>exact⟨i+1,by have:=vz.out;omega,by go_num,oe,HRn⟩
    case measure=>have:=vz.out;simp[intOf];omega
  have sq:¬ ((i:Int)<(l.length:Int)):=by omega
  have HRe:Hid (rr=true):=zh (by rw[HRi.out,List.drop_eq_nil_of_le (by omega),aT])
  go_wp2_with fail
  go_ret
  have h2:Below q w wr:=ba.out.trans (j9.out.mono (by have:=ba.out.size;omega));exact⟨aA (by rw[HRe.out]),by first|exact h2 |(rw[hQ];exact h2)⟩
theorem uBG(t:Tree)(cs:Array Value)(w:World)(hf:t.fine)(hs:t.size<=1000000)(ht:TreeIn w t cs) :
  Calls Tryz.prog 16 #[.agg cs] w fun e w'=>e=.returned (vI (cL t:Nat))/\Below w.heap.size w w':=by
 have HTI:=zh (fun W (hb:Below w.heap.size w W)=>ht.kp (Kp.of_below hb));have ew:=zh hs;have HR:=zh hf;have HDB:=zh (lR t);obtain⟨bl,l6⟩:∃ x,t.belowB=x:=⟨_,rfl⟩
 have HBL:Hid (∀ A n c W,Calls Tryz.prog 38 #[cE t.h A n c] W fun e w'=>e=.returned (.bool bl)/\Below W.heap.size W w'):=zh (fun A n c W=>by rw[<- l6];exact sA _ _ _ _ _);have HBF:=zh l6;obtain⟨pc,hpc⟩:∃ x,cL t=x:=⟨_,rfl⟩
 have HPC:Hid (pc=if 256<t.size then 5 else if 32<t.depth then 8 else if t.right 6 then 0 else 6):=zh hpc.symm;rw[hpc];clear l6 hpc;obtain⟨A,cp,hc,hk⟩:=ht;obtain⟨Cn,rfl⟩:∃ C:List Value,cs=C.toArray:=⟨cs.toList,by simp⟩
 have ai:Hid (Cn.toArray=aH t.h A t.l.length cp):=zh hc;clear hk hc hs hf;generalize ir:(w.alloc (.cells Cn.toArray 34))=W1;have HL:Hid (Lies W1 w.heap.size 34 Cn.toArray):=zh (by rw[<- ir];exact Lies.new _ _ _);have HB:Hid (Below w.heap.size w W1):=zh (by rw[<- ir];exact zp _);have al:=zh ir;clear ir;have HI:=zh (cA ai.out);have ij:=zh (HL.out.rangeL);have kz:=zh (sB 1000000 zr t Cn.toArray W1 ew.out (HTI.out W1 HB.out));have HSB:Hid ((t.size:Int)<=1000000):=zh (by have:=ew.out;omega)
 go_in
 go_upto_region 1 with fail
 rw[al.out];clear al;generalize hQ:w.heap.size=q at *
 go_wp2_with (first |(refine yr rfl 34 (.tmp 1) rfl q 0 rfl Cn _ ij.out Tryz.underlying34 rfl HI.out ?_))
 refine kz.out.mono ?_;rintro e w2 ⟨A2,c2,xs,rfl,ho2,hp2,hb2⟩;have ba:=zh (HB.out.trans (hb2.mono (by have:=HB.out.size;omega)));have gw:=zh (HL.out.next hb2);clear hb2 kz ij HL HB ho2 hp2;have ij:=zh (gw.out.rangeL);have HC2:=zh (uBH 1000000 zr t Cn.toArray w2 ew.out (HTI.out w2 ba.out));by_cases v9:256<t.size
 ·have h1:(256:Int)<(t.size:Int):=by omega
  go_wp2_with fail
  go_ret
  have hpq:pc=5:=by rw[HPC.out,if_pos v9]
  exact⟨by rw[hpq];rfl,by first|exact ba.out |(rw[hQ];exact ba.out)⟩
 have h1:¬ (256:Int)<(t.size:Int):=by omega
 go_wp2_with (first |(refine yr rfl 34 (.tmp 1) rfl q 0 rfl Cn _ ij.out Tryz.underlying34 rfl HI.out ?_))
 refine HC2.out.mono ?_;rintro e w3 ⟨rfl,dt⟩;have bi:=zh (ba.out.trans (dt.mono (by have:=ba.out.size;omega)));have vp:=zh (gw.out.next dt);clear dt HC2 ij gw ba;have ij:=zh (vp.out.rangeL);have gj:=zh (HBL.out A t.l.length cp w3);rw[show cE t.h A t.l.length cp=.agg Cn.toArray by rw[ai.out]]at gj;by_cases vw:32<t.depth
 ·have h2:(32:Int)<(t.depth:Int):=by omega
  go_wp2_with fail
  go_ret
  have hpq:pc=8:=by rw[HPC.out,if_neg v9,if_pos vw]
  exact⟨by rw[hpq];rfl,by first|exact bi.out |(rw[hQ];exact bi.out)⟩
 have h2:¬ (32:Int)<(t.depth:Int):=by omega
 go_wp2_with (first |(refine yr rfl 34 (.tmp 1) rfl q 0 rfl Cn _ ij.out Tryz.underlying34 rfl HI.out ?_))
 refine gj.out.mono ?_;rintro e w4 ⟨rfl,ki⟩;have bt:=zh (bi.out.trans (ki.mono (by have:=bi.out.size;omega)));have o6:=zh (vp.out.next ki);clear ki gj ij vp bi;have ij:=zh (o6.out.rangeL);cases bl with
 |true=>
  have hpq:pc=6:=by
   rw[HPC.out,if_neg v9,if_neg vw,if_neg];intro hr;exact pK hr (by decide) (nJ.1 HBF.out)
  go_wp2_with fail
  go_ret
  exact⟨by rw[hpq];rfl,by first|exact bt.out |(rw[hQ];exact bt.out)⟩
 |false=>
 have gu:=zh (xK 1000000 zr t 6 false Cn.toArray w4 ew.out HR.out (.inr HBF.out) rfl (HTI.out w4 bt.out))
 go_wp2_with (first |(refine aI (Eq.trans (aQ rfl rfl rfl rfl) rfl) 34 (.tmp 1) rfl q 0 rfl Cn _ ij.out Tryz.underlying34 rfl HI.out ?_))
 refine gu.out.mono ?_;rintro e w5 ⟨rfl,f8⟩;have bk:=zh (bt.out.trans (f8.mono (by have:=bt.out.size;omega)));have HPC2:Hid (pc=if t.right 6 then 0 else 6):=zh (by rw[HPC.out,if_neg v9,if_neg vw]);clear f8 HPC gu;generalize t.right 6=rr at *;cases rr
 all_goals go_wp2_with fail
 all_goals go_ret
 all_goals exact⟨by rw[HPC2.out];rfl,by first|exact bk.out |(rw[hQ];exact bk.out)⟩
end Go.Proofs.YtjfihpaeglpblaaGreatDoor
