/-
  Lemmas, part 20: RmH RmI RrO RrP RrQ RsA RsE RenderSaysW PlR4 PlR5.
-/
import Derived.Test.YtjfihpaeglpblaaGreatDoorRt19
set_option maxHeartbeats 100000000
set_option maxRecDepth 1000000
namespace Go.Proofs.YtjfihpaeglpblaaGreatDoor
open Go.RowKit
theorem wW:∀ (n:Nat),n<=1000000->∀ (t:Tree) (k:Int) (b:Bool) (cs:Array Value) (w:World),t.size<=n->t.fine->(k=8\/t.belowB=false)->b=decide (k=4)->TreeIn w t cs->Calls Tryz.prog 39 #[.agg cs,.bool b] w fun e w'=>e=.returned (.bool (t.right k))/\Below w.heap.size w w':=by
 intro n
 induction n with
 |zero=>intro _ t _ _ _ _ hs;cases t;simp[Tree.size]at hs
 |succ n ih=>
 intro ba;rintro⟨h,l⟩ k b cs w hs hf kv rfl ht;have IH:=zh (fun(i:Nat) (hi:i<l.length) cs W (hb:h.kind=8\/(l[i]'hi).belowB=false) h2=>ih (by omega) (l[i]'hi) h.kind (decide (h.kind=4)) cs W (by have h9:(l[i]'hi).size<(Tree.mk h l).size:=eK (t:=.mk h l) (i:=i) hi;omega) (nG i hi hf.2) hb rfl h2);have hR:(Tree.mk h l).right k=(uAF h l.length (l.map fun t=>t.h.kind)&&!(decide (h.kind=9)&&!decide (k=4))&&aQ l h.kind):=by
  rw[Tree.right,uAY (kv.elim .inl (fun h8=>.inr (fun h9=>by rw[(nD (t:=.mk h l)).2 h9]at h8;cases h8)))]
 obtain⟨rr,np⟩:∃ r,(Tree.mk h l).right k=r:=⟨_,rfl⟩
 rw[np]at hR ⊢;obtain⟨ow,how⟩:∃ x,uAF h l.length (l.map fun t=>t.h.kind)=x:=⟨_,rfl⟩
 rw[how]at hR;have HOWN:Hid (∀ W,Below w.heap.size w W->Calls Tryz.prog 87 #[.agg cs] W fun e w'=>e=.returned (.bool ow)/\Below W.heap.size W w'):=zh (fun W hb=>by rw[<- how];exact rOwn_any (.mk h l) cs W (by omega) hf.1 (ht.kp (Kp.of_below hb)));obtain⟨b9,fw⟩:∃ x,decide (h.kind=9)=x:=⟨_,rfl⟩
 have h9b:(h.kind==9)=b9:=by rw[<- fw];rfl
 rw[fw]at hR;generalize decide (k=4)=b at *;obtain⟨d0,o8⟩:∃ x,(!ow||(b9&&!b))=x:=⟨_,rfl⟩
 have HR:Hid (rr=(!d0&&aQ l h.kind)):=zh (by rw[hR,<- o8];cases ow <;> cases b9 <;> cases b <;> rfl);have HD0:=zh o8;clear hR np how fw o8 kv;obtain⟨A,cp,hc,hk⟩:=ht;obtain⟨Cn,rfl⟩:∃ C:List Value,cs=C.toArray:=⟨cs.toList,by simp⟩
 have er:Hid (l.length<=1000000):=zh (by have h1:=bU l;have h2:aL l+1<=n+1:=hs;omega);clear ih hs hf;dsimp only[Tree.h,Tree.l]at hk hc;have HK:=zh hk;have ah:Hid (Cn.toArray=aH h A l.length cp):=zh hc;clear hk hc;generalize gm:(w.alloc (.cells Cn.toArray 34))=W1;have HL:Hid (Lies W1 w.heap.size 34 Cn.toArray):=zh (by rw[<- gm];exact Lies.new _ _ _);have HB:Hid (Below w.heap.size w W1):=zh (by rw[<- gm];exact zp _);have al:=zh gm;clear gm;have HO:=zh (HOWN.out W1 HB.out);have HI:=zh (cB ah.out);have gc:=zh (HL.out.rangeL)
 go_in
 go_upto_region 1 with fail
 rw[al.out];clear al;generalize hQ:w.heap.size=q at *
 go_cut [17] (fun v wx=>v=.bool d0/\Hid (Below W1.heap.size W1 wx))
 case first=>
  go_wp2_with (first |(refine yr rfl 34 (.tmp 2) rfl q 0 rfl Cn _ gc.out Tryz.underlying34 rfl HI.out ?_))
  refine HO.out.mono ?_;rintro e w2 ⟨rfl,bd⟩;have x0:=(HL.out.next bd).cell 0;rw[ah.out]at x0;simp only[za,zb]at x0;cases ow <;> cases b9 <;> cases b
  all_goals go_wp2_with fail
  all_goals go_meet
  all_goals exact⟨by rw[<- HD0.out];rfl,zh bd⟩
 case rest=>
 obtain⟨rfl,hcut⟩:=hcut;have bm:=zh (HB.out.trans (hcut.out.mono (by have:=HB.out.size;omega)));have li:Hid (∀ W',Below wc.heap.size wc W'->W'.cell? ⟨q,0,none⟩=some (vI h.kind)/\W'.cell? ⟨q,21,none⟩=some (.slice A l.length cp)):=zh (fun W' hb=>by
  have h0:=((HL.out.next hcut.out).next hb).cell 0;have h1:=((HL.out.next hcut.out).next hb).cell 21;rw[ah.out]at h0 h1;exact⟨h0,h1⟩)
 clear hcut HO gc HOWN HL HB h9b HD0;cases d0 with
 |true=>
  go_wp2_with fail
  go_ret
  exact⟨aA (by rw[HR.out];rfl),by first|exact bm.out |(rw[hQ];exact bm.out)⟩
 |false=>
 have jk:Hid (rr=aQ l h.kind):=zh (by rw[HR.out];rfl);clear HR
 go_wp2_with fail
 go_loopw [5] (fun v wr=>∃ i:Nat,i<=l.length/\v=vI (i:Int)/\Hid (Below wc.heap.size wc wr)/\Hid (rr=aQ (l.drop i) h.kind)) (fun v _=>l.length-(intOf v).toNat)
 case atStart=>exact⟨0,zm _,rfl,zh zB,jk⟩
 case round=>
  obtain⟨i,hi,rfl,jr,zx⟩:=hrel;obtain⟨x0,hx⟩:=li.out wr jr.out;by_cases hlt:i<l.length
  ·obtain⟨g,og,ci,rfl,eh,dv⟩:=fR HK.out i hlt;have ue:=zh hlt;have hib:(i:Int)<=1000000:=by have:=er.out;omega
   have qr:(i:Int)<(l.length:Int):=by omega
   have zi:(Tryz.prog.info? 34).map (·.size)=some ci.length:=by rw[eh];exact cM
   obtain⟨b8,hb8⟩:∃ x,(h.kind==8)=x:=⟨_,rfl⟩
   obtain⟨b4,m8⟩:∃ x,(h.kind==4)=x:=⟨_,rfl⟩
   have hn8:(h.kind != 8)=!b8:=by rw[<- hb8];rfl
   obtain⟨kk,ll⟩:∃ kk,(l[i]'hlt).h.kind=kk:=⟨_,rfl⟩
   obtain⟨nk,hnk⟩:∃ x,(kk != 0)=x:=⟨_,rfl⟩
   obtain⟨bl,kv⟩:∃ x,(l[i]'hlt).belowB=x:=⟨_,rfl⟩
   obtain⟨rk,hrk⟩:∃ x,(l[i]'hlt).right h.kind=x:=⟨_,rfl⟩
   obtain⟨d1,hd1⟩:∃ x,x=(b8&&nk):=⟨_,rfl⟩
   obtain⟨d2,mo⟩:∃ x,x=(d1||(!b8&&bl)):=⟨_,rfl⟩
   obtain⟨d3,wl⟩:∃ x,x=(d2||!rk):=⟨_,rfl⟩
   have ir:Hid (aQ (l.drop i) h.kind=(!d3&&aQ (l.drop (i+1)) h.kind)):=zh (by
    rw[xC hlt,wl,mo,hd1]
    congr 1
    have e1:decide (h.kind≠8)=!b8:=by rw[<- hb8];by_cases h8:h.kind=8 <;> simp[h8]
    have e2:decide ((l[i]'hlt).h.kind=0)=!nk:=by rw[ll,<- hnk];by_cases h8:kk=0 <;> simp[h8]
    rw[e1,e2,hrk];have e3:b8=false->bl=true->rk=false:=fun h1 h2=>by
     cases j4:rk with
     |false=>rfl
     |true=>
      rw[j4]at hrk;rw[h1]at hb8;exact absurd (nD.1 (by rw[kv,h2])) (pA hrk (by simpa using hb8))
    cases b8 <;> cases nk <;> cases bl <;> cases rk <;> simp_all)
   have HD:=zh (And.intro hd1 (And.intro mo wl));have qu:Hid (∀ W',Below wr.heap.size wr W'->W'.rangeAt g (og+i*22) ci/\W'.cell? ⟨g,og+i*22,none⟩=some (vI kk)/\(d2=false->Calls Tryz.prog 39 #[.agg ci.toArray,.bool b4] W' (fun e w'=>e=.returned (.bool rk)/\Below W'.heap.size W' w'))/\Calls Tryz.prog 38 #[.agg ci.toArray] W' (fun e w'=>e=.returned (.bool bl)/\Below W'.heap.size W' w')):=zh (fun W' hb=>by
    obtain⟨c1,c2⟩:=dv W' (Kp.of_below (by rw[hQ];exact bm.out.trans ((zU jr.out hb).mono (by have:=bm.out.size;omega))));refine⟨c1,?_,?_,?_⟩
    ·obtain⟨A',j7,c3,_⟩:=c2;have h0:ci[0]?=some (vI kk):=by
      have e1:ci.toArray[0]?=_:=congrArg (fun a:Array Value=>a[0]?) c3;rw[za]at e1;rw[<- ll,e1];rfl
     have:=c1 0 _ h0;simpa using this
    ·intro e2;have h4:decide (h.kind=4)=b4:=by rw[<- m8];rfl
     have h2:=IH.out i hlt ci.toArray W' (by
      by_cases h8:h.kind=8
      ·exact .inl h8
      right
      rw[kv];rw[mo]at e2;have e8:b8=false:=by rw[<- hb8];simpa using h8
      rw[e8]at e2;cases hq:bl with
      |false=>rfl
      |true=>rw[hq]at e2;simp at e2) c2
     rwa [h4,hrk]at h2
    obtain⟨A',j7,c3,_⟩:=c2;rw[c3,<- kv];exact rL _ _ _ _ _)
   have HS:=zh (And.intro hn8 (And.intro m8 (And.intro hb8 hnk)));clear dv ll hn8 hnk kv hrk hd1 mo wl
   go_upto_region 6 with fail
   clear x0 hx
   go_cut [61] (fun v wx=>v=.bool d3/\Hid (Below wr.heap.size wr wx))
   case first=>
    obtain⟨TT,ae⟩:∃ TT:List (Nat×Nat×Value),TT=((0,25,vP q 0)::(1,26,vI h.kind)::(2,27,.bool b8)::(3,28,.bool b8)::(4,29,(bif b8 then vP q 21 else undef))::(5,30,(bif b8 then .slice (some ⟨g,og,none⟩) l.length cp else undef))::(6,31,(bif b8 then vI (i:Int) else undef))::(7,32,(bif b8 then vP g (og+i*22) else undef))::(8,33,(bif b8 then vP g (og+i*22) else undef))::(9,34,(bif b8 then vI kk else undef))::(10,35,(bif b8 then .bool nk else undef))::(11,36,.bool d1)::(12,37,.bool d1)::(13,38,(bif d1 then undef else vP q 0))::(14,39,(bif d1 then undef else vI h.kind))::(15,40,(bif d1 then undef else .bool (!b8)))::(16,41,(bif d1 then undef else .bool (!b8)))::(17,42,(bif d1 then undef else (bif b8 then undef else vP q 21)))::(18,43,(bif d1 then undef else (bif b8 then undef else .slice (some ⟨g,og,none⟩) l.length cp)))::(19,44,(bif d1 then undef else (bif b8 then undef else vI (i:Int))))::(20,45,(bif d1 then undef else (bif b8 then undef else vP g (og+i*22))))::(21,46,(bif d1 then undef else (bif b8 then undef else .agg ci.toArray)))::(22,47,(bif d1 then undef else (bif b8 then undef else .bool bl)))::(23,48,(bif d1 then undef else .bool (!b8&&bl)))::(24,49,.bool d2)::(25,50,.bool d2)::(26,51,(bif d2 then undef else vP q 21))::(27,52,(bif d2 then undef else .slice (some ⟨g,og,none⟩) l.length cp))::(28,53,(bif d2 then undef else vI (i:Int)))::(29,54,(bif d2 then undef else vP g (og+i*22)))::(30,55,(bif d2 then undef else .agg ci.toArray))::(31,56,(bif d2 then undef else vP q 0))::(32,57,(bif d2 then undef else vI h.kind))::(33,58,(bif d2 then undef else .bool b4))::(34,59,(bif d2 then undef else .bool rk))::(35,60,(bif d2 then undef else .bool (!rk)))::(36,61,.bool d3)::[]):=⟨_,rfl⟩
    have aq:=zh ae;clear ae;refine bM (fun a0=>62<=a0.tmps.size/\a0.eval (.tmp 2)=vP q 0/\a0.eval (.tmp 5)=vI (i:Int)) (25::26::27::28::29::30::31::32::33::34::35::36::37::38::39::40::41::42::43::44::45::46::47::48::49::50::51::52::53::54::55::56::57::58::59::60::61::[]) TT [] (fun w'=>Below wr.heap.size wr w') (by kernel_rfl) (by kernel_rfl) ⟨by simp,rfl,rfl⟩ (zB.drew) ?_ ?_
    ·rintro a0 ⟨hs,qi,oe⟩ zl a1 w1 zj o ap hI ag ho zd;have hb1:Below wr.heap.size wr w1:=hI.st;have ae:=aq.out
     subst ae;have e2x:=hI.off.q qi;have e5x:=hI.off.q oe;have hj:=Up.of_false ag;have hj12:zj<37:=by rw[ap]at hj;exact hj
     have G:RG _ _ _ _ _ _ _ _ _ _ _:=⟨by rfl,hI,hs,ag,ho,zd⟩
     (iterate 36 rcases zq hj12 with hj12|rfl);obtain rfl:=cz hj12;all_goals obtain rfl:=oi ho
     ·exact G.nl 0 rfl (by simp[execOp,go_sem,e2x])
     ·have xq:w1.cell? ⟨q,0,none⟩=some (vI h.kind):=(li.out _ (zU jr.out hb1)).1;exact G.nl 1 rfl (by simp[execOp,go_sem,G.t 0,xq])
     ·exact G.nl 2 rfl (by simp[execOp,go_sem,G.t 1,HS.out.2.2.1])
     ·exact G.nl 3 rfl (by simp[execOp,go_sem,G.t 2])
     ·refine G.gv 3 4 ?_;rintro rfl;simp[execOp,go_sem,e2x]
     ·refine G.gv 3 5 ?_;rintro rfl;have xq:w1.cell? ⟨q,21,none⟩=some (.slice (some ⟨g,og,none⟩) l.length cp):=(li.out _ (zU jr.out hb1)).2;simp[execOp,go_sem,G.t 4,xq]
     ·refine G.gv 3 6 ?_;rintro rfl;simp[execOp,go_sem,e5x]
     ·refine G.gv 3 7 ?_;rintro rfl;simp[execOp,go_sem,G.t 5,G.t 6,qr]
     ·refine G.gv 3 8 ?_;rintro rfl;simp[execOp,go_sem,G.t 7]
     ·refine G.gv 3 9 ?_;rintro rfl;have xq:=(qu.out _ hb1).2.1;simp[execOp,go_sem,G.t 8,xq]
     ·refine G.gv 3 10 ?_;rintro rfl;simp[execOp,go_sem,G.t 9,HS.out.2.2.2]
     ·cases b8
      all_goals exact G.nl 11 rfl (by simp[execOp,go_sem,G.t 3,G.t 10,HD.out.1])
     ·exact G.nl 12 rfl (by simp[execOp,go_sem,G.t 11])
     ·refine G.gn 12 13 ?_;rintro rfl;simp[execOp,go_sem,e2x]
     ·refine G.gn 12 14 ?_;rintro rfl;have xq:w1.cell? ⟨q,0,none⟩=some (vI h.kind):=(li.out _ (zU jr.out hb1)).1;simp[execOp,go_sem,G.t 13,xq]
     ·refine G.gn 12 15 ?_;rintro rfl;simp[execOp,go_sem,G.t 14,HS.out.1]
     ·refine G.gn 12 16 ?_;rintro rfl;simp[execOp,go_sem,G.t 15]
     ·have pg:=G.g 16;cases d1
      ·cases b8
       ·exact G.vl 17 rfl pg (by simp[execOp,go_sem,e2x])
       exact G.sk 17 pg
      exact G.su 17 pg
     ·have pg:=G.g 16;cases d1
      ·cases b8
       ·have xq:w1.cell? ⟨q,21,none⟩=some (.slice (some ⟨g,og,none⟩) l.length cp):=(li.out _ (zU jr.out hb1)).2;exact G.vl 18 rfl pg (by simp[execOp,go_sem,G.t 17,xq])
       exact G.sk 18 pg
      exact G.su 18 pg
     ·have pg:=G.g 16;cases d1
      ·cases b8
       ·exact G.vl 19 rfl pg (by simp[execOp,go_sem,e5x])
       exact G.sk 19 pg
      exact G.su 19 pg
     ·have pg:=G.g 16;cases d1
      ·cases b8
       ·exact G.vl 20 rfl pg (by simp[execOp,go_sem,G.t 18,G.t 19,qr])
       exact G.sk 20 pg
      exact G.su 20 pg
     ·have pg:=G.g 16;cases d1
      ·cases b8
       ·have p20:=G.d 20;exact G.vl 21 rfl pg (aM 34 (.tmp 45) rfl _ _ p20 _ _ (qu.out _ hb1).1 Tryz.underlying34 rfl zi)
       exact G.sk 21 pg
      exact G.su 21 pg
     ·have pg:=G.g 16;cases d1
      ·cases b8
       ·refine G.cw 22 rfl pg 38 #[.agg ci.toArray] (by simp[go_sem,G.t 21]) ?_;refine((qu.out _ hb1).2.2.2).mono ?_;rintro e w2 ⟨rfl,hb⟩;exact⟨rfl,zU hb1 hb⟩
       exact G.sk 22 pg
      exact G.su 22 pg
     ·have pg:=G.g 12;cases d1
      ·cases b8
       all_goals exact G.vl 23 rfl pg (by simp[execOp,go_sem,G.t 16,G.t 22])
      exact G.sk 23 pg
     ·cases d1
      all_goals exact G.nl 24 rfl (by simp[execOp,go_sem,G.t 12,G.t 23,HD.out.2.1])
     ·exact G.nl 25 rfl (by simp[execOp,go_sem,G.t 24])
     ·refine G.gn 25 26 ?_;rintro rfl;simp[execOp,go_sem,e2x]
     ·refine G.gn 25 27 ?_;rintro rfl;have xq:w1.cell? ⟨q,21,none⟩=some (.slice (some ⟨g,og,none⟩) l.length cp):=(li.out _ (zU jr.out hb1)).2;simp[execOp,go_sem,G.t 26,xq]
     ·refine G.gn 25 28 ?_;rintro rfl;simp[execOp,go_sem,e5x]
     ·refine G.gn 25 29 ?_;rintro rfl;simp[execOp,go_sem,G.t 27,G.t 28,qr]
     ·refine G.gn 25 30 ?_;rintro rfl;have p29:=G.d 29;exact aM 34 (.tmp 54) rfl _ _ p29 _ _ (qu.out _ hb1).1 Tryz.underlying34 rfl zi
     ·refine G.gn 25 31 ?_;rintro rfl;simp[execOp,go_sem,e2x]
     ·refine G.gn 25 32 ?_;rintro rfl;have xq:w1.cell? ⟨q,0,none⟩=some (vI h.kind):=(li.out _ (zU jr.out hb1)).1;simp[execOp,go_sem,G.t 31,xq]
     ·refine G.gn 25 33 ?_;rintro rfl;simp[execOp,go_sem,G.t 32,HS.out.2.1]
     ·have pg:=G.g 25;cases d2
      ·refine G.cw 34 rfl pg 39 #[.agg ci.toArray,.bool b4] (by simp[go_sem,G.t 30,G.t 33]) ?_;refine((qu.out _ hb1).2.2.1 rfl).mono ?_;rintro e w2 ⟨rfl,hb⟩;exact⟨rfl,zU hb1 hb⟩
      exact G.sk 34 pg
     ·refine G.gn 25 35 ?_;rintro rfl;simp[execOp,go_sem,G.t 34]
     cases d2
     all_goals exact G.nl 36 rfl (by simp[execOp,go_sem,G.t 25,G.t 35,HD.out.2.2])
    intro zl a1 w1 hI az;have hb1:Below wr.heap.size wr w1:=hI.st;have ae:=aq.out;subst ae;have z61:=hI.ptk 36 rfl (az 36 (by decide));obtain⟨ff,rfl,hf⟩:=hI.off.forms;rw[<- hf 61]at z61;clear hI;simp only[List.foldl,Act.put,yz,List.set];rw[z61];simp only[Exit.then]
    go_step
    go_meet
    exact⟨rfl,zh hb1⟩
   case rest=>
    obtain⟨rfl,hcut⟩:=hcut;have pu:=zh (zU jr.out hcut.out);clear hcut qu HS HD;cases d3 with
    |true=>
     have h2:Below q w wc:=bm.out.trans (pu.out.mono (by have:=bm.out.size;omega))
     go_wp2_with fail
     go_ret
     exact⟨aA (by rw[zx.out,ir.out];rfl),by first|exact h2 |(rw[hQ];exact h2)⟩
    |false=>
    have HRn:Hid (rr=aQ (l.drop (i+1)) h.kind):=zh (by rw[zx.out,ir.out];rfl);clear ir zx
    go_wp2_with fail
    go_roundw
    case rel=>exact⟨i+1,by have:=ue.out;omega,by go_num,pu,HRn⟩
    case measure=>have:=ue.out;simp[intOf];omega
  have qy:¬ ((i:Int)<(l.length:Int)):=by omega
  have HRe:Hid (rr=true):=zh (by rw[zx.out,List.drop_eq_nil_of_le (by omega),aQ])
  go_wp2_with fail
  go_ret
  have h2:Below q w wr:=bm.out.trans (jr.out.mono (by have:=bm.out.size;omega));exact⟨aA (by rw[HRe.out]),by first|exact h2 |(rw[hQ];exact h2)⟩
theorem uAT(t:Tree)(cs:Array Value)(w:World)(hf:t.fine)(hs:t.size<=1000000)(ht:TreeIn w t cs) :
  Calls Tryz.prog 16 #[.agg cs] w fun e w'=>e=.returned (vI (cI t:Nat))/\Below w.heap.size w w':=by
 have HTI:=zh (fun W (hb:Below w.heap.size w W)=>ht.kp (Kp.of_below hb));have ej:=zh hs;have HR:=zh hf;have HDB:=zh (lL t);obtain⟨bl,kv⟩:∃ x,t.belowB=x:=⟨_,rfl⟩
 have HBL:Hid (∀ A n c W,Calls Tryz.prog 38 #[cH t.h A n c] W fun e w'=>e=.returned (.bool bl)/\Below W.heap.size W w'):=zh (fun A n c W=>by rw[<- kv];exact rL _ _ _ _ _);have HBF:=zh kv;obtain⟨pc,hpc⟩:∃ x,cI t=x:=⟨_,rfl⟩
 have vp:Hid (pc=if 256<t.size then 5 else if 32<t.depth then 8 else if t.right 6 then 0 else 6):=zh hpc.symm;rw[hpc];clear kv hpc;obtain⟨A,cp,hc,hk⟩:=ht;obtain⟨Cn,rfl⟩:∃ C:List Value,cs=C.toArray:=⟨cs.toList,by simp⟩
 have ah:Hid (Cn.toArray=aH t.h A t.l.length cp):=zh hc;clear hk hc hs hf;generalize gm:(w.alloc (.cells Cn.toArray 34))=W1;have HL:Hid (Lies W1 w.heap.size 34 Cn.toArray):=zh (by rw[<- gm];exact Lies.new _ _ _);have HB:Hid (Below w.heap.size w W1):=zh (by rw[<- gm];exact zp _);have al:=zh gm;clear gm;have HI:=zh (cB ah.out);have gc:=zh (HL.out.rangeL);have zu:=zh (lR 1000000 zr t Cn.toArray W1 ej.out (HTI.out W1 HB.out));have HSB:Hid ((t.size:Int)<=1000000):=zh (by have:=ej.out;omega)
 go_in
 go_upto_region 1 with fail
 rw[al.out];clear al;generalize hQ:w.heap.size=q at *
 go_wp2_with (first |(refine yr rfl 34 (.tmp 1) rfl q 0 rfl Cn _ gc.out Tryz.underlying34 rfl HI.out ?_))
 refine zu.out.mono ?_;rintro e w2 ⟨A2,c2,xs,rfl,ho2,hp2,bd⟩;have bm:=zh (HB.out.trans (bd.mono (by have:=HB.out.size;omega)));have ie:=zh (HL.out.next bd);clear bd zu gc HL HB ho2 hp2;have gc:=zh (ie.out.rangeL);have HC2:=zh (uAU 1000000 zr t Cn.toArray w2 ej.out (HTI.out w2 bm.out));by_cases ui:256<t.size
 ·have h1:(256:Int)<(t.size:Int):=by omega
  go_wp2_with fail
  go_ret
  have hpq:pc=5:=by rw[vp.out,if_pos ui]
  exact⟨by rw[hpq];rfl,by first|exact bm.out |(rw[hQ];exact bm.out)⟩
 have h1:¬ (256:Int)<(t.size:Int):=by omega
 go_wp2_with (first |(refine yr rfl 34 (.tmp 1) rfl q 0 rfl Cn _ gc.out Tryz.underlying34 rfl HI.out ?_))
 refine HC2.out.mono ?_;rintro e w3 ⟨rfl,dt⟩;have bj:=zh (bm.out.trans (dt.mono (by have:=bm.out.size;omega)));have tu:=zh (ie.out.next dt);clear dt HC2 gc ie bm;have gc:=zh (tu.out.rangeL);have HC3:=zh (HBL.out A t.l.length cp w3);rw[show cH t.h A t.l.length cp=.agg Cn.toArray by rw[ah.out]]at HC3;by_cases t9:32<t.depth
 ·have h2:(32:Int)<(t.depth:Int):=by omega
  go_wp2_with fail
  go_ret
  have hpq:pc=8:=by rw[vp.out,if_neg ui,if_pos t9]
  exact⟨by rw[hpq];rfl,by first|exact bj.out |(rw[hQ];exact bj.out)⟩
 have h2:¬ (32:Int)<(t.depth:Int):=by omega
 go_wp2_with (first |(refine yr rfl 34 (.tmp 1) rfl q 0 rfl Cn _ gc.out Tryz.underlying34 rfl HI.out ?_))
 refine HC3.out.mono ?_;rintro e w4 ⟨rfl,m8⟩;have bq:=zh (bj.out.trans (m8.mono (by have:=bj.out.size;omega)));have qj:=zh (tu.out.next m8);clear m8 HC3 gc tu bj;have gc:=zh (qj.out.rangeL);cases bl with
 |true=>
  have hpq:pc=6:=by
   rw[vp.out,if_neg ui,if_neg t9,if_neg];intro hr;exact pA hr (by decide) (nD.1 HBF.out)
  go_wp2_with fail
  go_ret
  exact⟨by rw[hpq];rfl,by first|exact bq.out |(rw[hQ];exact bq.out)⟩
 |false=>
 have HC4:=zh (wW 1000000 zr t 6 false Cn.toArray w4 ej.out HR.out (.inr HBF.out) rfl (HTI.out w4 bq.out))
 go_wp2_with (first |(refine aG (Eq.trans (aP rfl rfl rfl rfl) rfl) 34 (.tmp 1) rfl q 0 rfl Cn _ gc.out Tryz.underlying34 rfl HI.out ?_))
 refine HC4.out.mono ?_;rintro e w5 ⟨rfl,fm⟩;have bg:=zh (bq.out.trans (fm.mono (by have:=bq.out.size;omega)));have HPC2:Hid (pc=if t.right 6 then 0 else 6):=zh (by rw[vp.out,if_neg ui,if_neg t9]);clear fm vp HC4;generalize t.right 6=rr at *;cases rr
 all_goals go_wp2_with fail
 all_goals go_ret
 all_goals exact⟨by rw[HPC2.out];rfl,by first|exact bg.out |(rw[hQ];exact bg.out)⟩
theorem TreeP.nextIn{W W':World}{t:Tree}{cs:Array Value}(h:TreeP nB W t cs)(hb:Below W.heap.size W W'):TreeIn W' t cs:=(h.nextA hb).all
def eO:Nat->Tree->Bool
 |0,_=>true
 |d+1,t=>decide (400<t.l.length)||decide (300<t.h.name.length)||decide (300<t.h.v.text.length)||t.l.any (eO d)
theorem pW{f:Tree->Bool}{l:List Tree}(h:∀ j (hj:j<l.length),f (l[j]'hj)=false):l.any f=false:=by
 rw[List.any_eq_false];intro x hx;obtain⟨j,hj,rfl⟩:=List.getElem_of_mem hx;rw[h j hj]
 decide
theorem vQ{f:Tree->Bool}{l:List Tree}(j:Nat)(hj:j<l.length)(h:f (l[j]'hj)=true):l.any f=true:=by
 rw[List.any_eq_true];exact⟨_,List.getElem_mem hj,h⟩
theorem uEX:∀ (d:Nat),d<=40->∀ (t:Tree) (Cn:List Value) (w:World),TreeP nB w t Cn.toArray ->
  Calls Tryz.prog 68 #[.agg Cn.toArray,vI (d:Int)] w fun e w'=>e=.returned (.bool (eO d t))/\Below w.heap.size w w':=by
 intro d
 induction d with
 |zero=>
  intro _ t Cn w hP;obtain⟨W0,ak⟩:=zD (w.alloc (.cells Cn.toArray 34))
  have ai:=zh ak;have au:=zA ak;clear ak hP;have e:((0:Nat):Int)=0:=rfl;rw[e];clear e
  go_in
  go_upto_region 1 with fail
  rw[<- ai.out];clear ai
  go_wp2_with fail
  go_ret
  exact⟨rfl,au.out⟩
 |succ d ih=>
  intro hd t Cn w hP;have IH:=zh (ih (by omega));clear ih;obtain⟨⟨kind,vv,s,a,b,r⟩,l⟩:=t;obtain⟨A,ca,ah,kw,o5⟩:=hP;replace ah:Cn.toArray=aH ⟨kind,vv,s,a,b,r⟩ A l.length ca:=ah;replace kw:l.length<=ca:=kw;replace o5:KidsPO nB w A l:=o5;obtain⟨W0,ak⟩:=zD (w.alloc (.cells Cn.toArray 34))
  have ai:=zh ak;have au:=zA ak;have HL:=zL ak;have HC:Hid (∀ W,Below W0.heap.size W0 W->W.cell? ⟨w.heap.size,4,none⟩=some (vT vv.text)/\W.cell? ⟨w.heap.size,7,none⟩=some (vT s)/\W.cell? ⟨w.heap.size,21,none⟩=some (.slice A l.length ca)):=zh (fun W hb=>by
   have e4:=(HL.out.next hb).cell 4;have e7:=(HL.out.next hb).cell 7;have e21:=(HL.out.next hb).cell 21;rw[ah]at e4 e7 e21;exact⟨e4,e7,e21⟩)
  have o8:(((d+1:Nat):Int)==0)=false:=by rw[beq_eq_false_iff_ne];omega
  have HD:Hid (eO (d+1) (.mk ⟨kind,vv,s,a,b,r⟩ l)=(decide (400<l.length)||decide (300<s.length)||decide (300<vv.text.length)||l.any (eO d))):=zh rfl;obtain⟨res,ls⟩:∃ x,x=eO (d+1) (.mk ⟨kind,vv,s,a,b,r⟩ l):=⟨_,rfl⟩
  rw[<- ls]at HD ⊢;have HK:=zh (fun i (hi:i<l.length)=>kid_ref o5 i hi);have hdi:(d:Int)<=40:=by omega
  obtain⟨c4,c7,iz⟩:=HC.out _ zB;clear ak ah kw o5 ls HL;generalize vv.text=tx at *;by_cases h1:400<l.length
  ·have HR:Hid (res=true):=zh (by rw[HD.out,decide_eq_true h1];rfl);have h1i:(400:Int)<(l.length:Int):=by omega
   clear HD HK
   go_in
   go_upto_region 1 with fail
   rw[<- ai.out];clear ai
   go_wp2_with fail
   go_ret
   exact⟨by(rw[HR.out]) <;> rfl,au.out⟩
  have h1i:¬ (400:Int)<(l.length:Int):=by omega
  by_cases h2:300<s.length
  ·have HR:Hid (res=true):=zh (by rw[HD.out,decide_eq_true h2];simp);have h2i:(300:Int)<(s.length:Int):=by omega
   clear HD HK
   go_in
   go_upto_region 1 with fail
   rw[<- ai.out];clear ai
   go_wp2_with fail
   go_ret
   exact⟨by(rw[HR.out]) <;> rfl,au.out⟩
  have h2i:¬ (300:Int)<(s.length:Int):=by omega
  by_cases h3:300<tx.length
  ·have HR:Hid (res=true):=zh (by rw[HD.out,decide_eq_true h3];simp);have h3i:(300:Int)<(tx.length:Int):=by omega
   clear HD HK
   go_in
   go_upto_region 1 with fail
   rw[<- ai.out];clear ai
   go_wp2_with fail
   go_ret
   exact⟨by(rw[HR.out]) <;> rfl,au.out⟩
  have h3i:¬ (300:Int)<(tx.length:Int):=by omega
  have HR:Hid (res=l.any (eO d)):=zh (by rw[HD.out,decide_eq_false h1,decide_eq_false h2,decide_eq_false h3];simp);obtain⟨n,hn⟩:=zD l.length
  have HN:=zh hn;have hni:(n:Int)<=400:=by omega
  rw[<- hn]at HC iz h1i;clear HD h1 h2 h3 hn
  go_in
  go_upto_region 1 with fail
  rw[<- ai.out];clear ai
  go_wp2_with fail
  clear c4 c7 iz
  go_loopw [5] (fun v5 wr=>∃ i:Nat,i<=n/\v5=vI (i:Int)/\Hid (∀ j (hj:j<l.length),j<i->eO d (l[j]'hj)=false)/\Hid (Below W0.heap.size W0 wr)) (fun v5 _=>n-(intOf v5).toNat)
  case atStart=>exact⟨0,zm _,rfl,zh (fun j _ h=>absurd h (Nat.not_lt_zero _)),zh zB⟩
  case round=>
   obtain⟨i,hi,rfl,rv,HB⟩:=hrel;obtain⟨c4,c7,iz⟩:=HC.out _ HB.out;by_cases hlt:i<n
   ·have hlti:(i:Int)<(n:Int):=by omega
    have j6:i<l.length:=by rw[<- HN.out];exact hlt
    obtain⟨g,og,ci,hA,iw,dv⟩:=HK.out i j6;subst hA;have bk:=zh (dE iw);have hbw:=zU au.out HB.out;obtain⟨k1,k2⟩:=dv wr hbw;have jv:=zh k1;have CN:Hid (Calls Tryz.prog 68 #[.agg ci.toArray,vI (d:Int)] wr fun e w'=>e=.returned (.bool (eO d (l[i]'j6)))/\Below wr.heap.size wr w'):=zh (IH.out _ ci wr k2);obtain⟨bo,wb⟩:∃ x,x=eO d (l[i]'j6):=⟨_,rfl⟩
    rw[<- wb]at CN;have HBo:=zh wb;have hw1:IntKind.i64.wrap (((d+1:Nat):Int)-1)=(d:Int):=by rw[IntWalk.i64_in _ (by omega)];omega
    have hw2:IntKind.i64.wrap ((d:Int)+1-1)=(d:Int):=by rw[IntWalk.i64_in _ (by omega)];omega
    clear k1 k2 dv iw wb HK hbw;cases bo
    ·go_wp2_with (first
      |(refine yr rfl 34 (.tmp 37) rfl g (og+i*22) rfl ci _ jv.out Tryz.underlying34 rfl bk.out ?_)
      |((with_reducible refine CN.out.mono ?_);rintro e wx ⟨rfl,hb⟩;have bm:=zT HB hb;clear hb c4 c7 iz))
     go_roundw
     case rel=>exact⟨i+1,by omega,by go_num,zh (fun j hj hji=>by
      rcases Nat.lt_or_ge j i with h|h
      ·exact rv.out j hj h
      obtain rfl:j=i:=by omega
      exact HBo.out.symm),bm⟩
     case measure=>first |(simp[intOf];done) |(simp[intOf];omega)
    go_wp2_with (first
     |(refine yr rfl 34 (.tmp 37) rfl g (og+i*22) rfl ci _ jv.out Tryz.underlying34 rfl bk.out ?_)
     |((with_reducible refine CN.out.mono ?_);rintro e wx ⟨rfl,hb⟩;have bm:=zT HB hb;clear hb c4 c7 iz))
    go_ret
    exact⟨by(rw[HR.out,vQ (f:=eO d) i j6 HBo.out.symm]) <;> rfl,zU au.out bm.out⟩
   obtain rfl:i=n:=by omega
   go_wp2_with fail
   go_ret
   exact⟨by(rw[HR.out,pW (f:=eO d) (fun j hj=>rv.out j hj (by rw[HN.out];exact hj))]) <;> rfl,zU au.out HB.out⟩
def iP(t:Tree):Bool:=eO 40 t||decide (400<t.size)
theorem uAV(t:Tree)(Cn:List Value)(w:World)(hP:TreeP nB w t Cn.toArray)(ap:t.size<=1000000) :
  Calls Tryz.prog 31 #[.agg Cn.toArray] w fun e w'=>e=.returned (.bool (iP t))/\Below w.heap.size w w':=by
 obtain⟨W0,ak⟩:=zD (w.alloc (.cells Cn.toArray 34))
 have ai:=zh ak;have au:=zA ak;have HL:=zL ak;have iw:Cn.length=22:=by
  obtain⟨A,j7,e,_⟩:=hP;exact oP e
 have bk:=zh (dE iw);have CO:Hid (Calls Tryz.prog 68 #[.agg Cn.toArray,vI 40] W0 fun e w'=>e=.returned (.bool (eO 40 t))/\Below W0.heap.size W0 w'):=zh (uEX 40 zr t Cn W0 (hP.nextA au.out));have CN:Hid (∀ W,Below w.heap.size w W->Calls Tryz.prog 15 #[.agg Cn.toArray] W fun e w'=>∃ A c,e=.returned (.slice A t.size c)/\Below W.heap.size W w'):=zh (fun W hb=>(lR 1000000 zr t Cn.toArray W ap (hP.nextIn hb)).mono (by
  rintro e w' ⟨A,c,xs,rfl,_,_,sh⟩;exact⟨A,c,rfl,sh⟩))
 have HD:Hid (iP t=(eO 40 t||decide (400<t.size))):=zh rfl;have hszi:(t.size:Int)<=1000000:=by omega
 generalize iP t=res at *;generalize eO 40 t=ov at *;generalize t.size=n at *;clear ak hP ap iw;cases ov
 ·obtain⟨bn,hbn⟩:∃ b,b=decide (400<n):=⟨_,rfl⟩
  have HR:Hid (res=bn):=zh (by rw[HD.out,<- hbn];rfl);have hdec:decide ((400:Int)<(n:Int))=bn:=by rw[hbn,decide_eq_decide];omega
  clear HD hbn
  go_in
  go_upto_region 1 with fail
  rw[<- ai.out];clear ai
  go_wp2_with (first
   |(refine yr rfl 34 (.tmp 1) rfl w.heap.size 0 rfl Cn _ HL.out.rangeM Tryz.underlying34 rfl bk.out ?_)
   |(refine aG (Eq.trans (aP rfl rfl rfl rfl) rfl) 34 (.tmp 1) rfl w.heap.size 0 rfl Cn _ HL.out.rangeM Tryz.underlying34 rfl bk.out ?_)
   |((with_reducible refine CO.out.mono ?_);rintro e wx ⟨rfl,hb⟩;have b6:=zT au hb;replace HL:=zh (HL.out.next hb);clear hb)
   |((with_reducible refine(CN.out _ b6.out).mono ?_);rintro e wx ⟨A2,c2,rfl,hb⟩;have bm:=zT b6 hb;clear hb))
  go_ret
  exact⟨by(rw[HR.out]) <;> rfl,bm.out⟩
 have HR:Hid (res=true):=zh (by rw[HD.out];rfl);clear HD CN
 go_in
 go_upto_region 1 with fail
 rw[<- ai.out];clear ai
 go_wp2_with (first
  |(refine yr rfl 34 (.tmp 1) rfl w.heap.size 0 rfl Cn _ HL.out.rangeM Tryz.underlying34 rfl bk.out ?_)
  |((with_reducible refine CO.out.mono ?_);rintro e wx ⟨rfl,hb⟩;have b6:=zT au hb;clear hb))
 go_ret
 exact⟨by(rw[HR.out]) <;> rfl,b6.out⟩
abbrev axesV(A B D:Option Addr)(n1 n2 n3 c1 c2 c3:Nat):Value:=.agg #[.slice A n1 c1,.slice B n2 c2,.slice D n3 c3]
theorem zO(t:Tree)(Cn:List Value)(A B D:Option Addr)(n1 n2 n3 c1 c2 c3:Nat)(w:World)(hP:TreeP nB w t Cn.toArray)(ap:t.size<=1000000) :
  Calls Tryz.prog 11 #[.agg Cn.toArray,axesV A B D n1 n2 n3 c1 c2 c3] w fun e w'=>e=.returned (.bool (iP t||decide (60<n1)||decide (60<n2)||decide (60<n3)))/\Below w.heap.size w w':=by
 obtain⟨W0,ak⟩:∃ W0,W0=(w.alloc (.cells Cn.toArray 34)).alloc (.cells #[.slice A n1 c1,.slice B n2 c2,.slice D n3 c3] 37):=⟨_,rfl⟩
 have ai:=zh ak;have au:Hid (Below w.heap.size w W0):=zh (by rw[ak];exact((Below.refl _ w).alloc zr _).alloc (by rw[World.size_alloc];omega) _);have HL:Hid (Lies W0 w.heap.size 34 Cn.toArray):=zh (by rw[ak];exact(Lies.new w _ _).alloc _);have i9:Hid (Lies W0 (w.heap.size+1) 37 #[.slice A n1 c1,.slice B n2 c2,.slice D n3 c3]):=zh (by
  rw[ak];have h:=Lies.new (w.alloc (.cells Cn.toArray 34)) 37 #[.slice A n1 c1,.slice B n2 c2,.slice D n3 c3];rw[World.size_alloc]at h;exact h)
 have iw:Cn.length=22:=by
  obtain⟨A,j7,e,_⟩:=hP;exact oP e
 have bk:=zh (dE iw);have CO:=zh (uAV t Cn W0 (hP.nextA au.out) ap);obtain⟨res,ls⟩:∃ x,x=(iP t||decide (60<n1)||decide (60<n2)||decide (60<n3)):=⟨_,rfl⟩
 have HR:=zh ls;rw[<- ls];generalize iP t=ov at *;have HC:Hid (∀ W,Below W0.heap.size W0 W->W.cell? ⟨w.heap.size+1,0,none⟩=some (.slice A n1 c1)/\W.cell? ⟨w.heap.size+1,1,none⟩=some (.slice B n2 c2)/\W.cell? ⟨w.heap.size+1,2,none⟩=some (.slice D n3 c3)):=zh (fun W hb=>⟨(i9.out.next hb).cell 0,(i9.out.next hb).cell 1,(i9.out.next hb).cell 2⟩);clear ak hP ap iw ls i9;cases ov
 case' true=>
  have HV:Hid (res=true):=zh (by rw[HR.out];rfl);have HD:=zh trivial
 case' false=>
  rcases Nat.lt_or_ge 60 n1 with g1|g1
  case' inl=>
   have k1:(60:Int)<(n1:Int):=by omega
   have HV:Hid (res=true):=zh (by rw[HR.out,decide_eq_true g1];rfl);have HD:=zh (decide_eq_true k1)
  case' inr=>
   have k1:¬ (60:Int)<(n1:Int):=by omega
   rcases Nat.lt_or_ge 60 n2 with g2|g2
   case' inl=>
    have k2:(60:Int)<(n2:Int):=by omega
    have HV:Hid (res=true):=zh (by rw[HR.out,decide_eq_true g2,Bool.or_true,Bool.true_or]);have HD:=zh (And.intro (decide_eq_false k1) (decide_eq_true k2))
   case' inr=>
    have k2:¬ (60:Int)<(n2:Int):=by omega
    rcases Nat.lt_or_ge 60 n3 with g3|g3
    case' inl=>
     have k3:(60:Int)<(n3:Int):=by omega
     have HV:Hid (res=true):=zh (by rw[HR.out,decide_eq_true g3,Bool.or_true]);have HD:=zh (And.intro (decide_eq_false k1) (And.intro (decide_eq_false k2) (decide_eq_true k3)))
    case' inr=>
     have k3:¬ (60:Int)<(n3:Int):=by omega
     have HV:Hid (res=false):=zh (by rw[HR.out,decide_eq_false (Nat.not_lt.mpr g1),decide_eq_false (Nat.not_lt.mpr g2),decide_eq_false (Nat.not_lt.mpr g3)];rfl);have HD:=zh (And.intro (decide_eq_false k1) (And.intro (decide_eq_false k2) (decide_eq_false k3)))
 all_goals
  clear HR
  go_in
  go_upto_region 1 with fail
  rw[<- ai.out];clear ai
  go_wp2_with (first
   |(refine yr rfl 34 (.tmp 2) rfl w.heap.size 0 rfl Cn _ HL.out.rangeM Tryz.underlying34 rfl bk.out ?_)
   |((with_reducible refine CO.out.mono ?_);rintro e wx ⟨rfl,hb⟩;have b6:=zT au hb;obtain⟨x0,x1,x2⟩:=HC.out _ hb;clear hb))
  go_ret
  refine⟨?_,b6.out⟩;rw[HV.out]
  first
   |rfl
   |(simp only[HD.out];rfl)
   |(simp only[HD.out.1,HD.out.2];rfl)
   |(simp only[HD.out.1,HD.out.2.1,HD.out.2.2];rfl)
def AxsB(W:World)(Y:List Nat):Prop:=∀ y∈Y,∃ cs,Lies W y 152 cs
theorem AxsB.lies{W:World}{Y:List Nat}{b:Nat}{t:TypeId}{cs:Array Value}(hY:AxsB W Y)(h:Lies W b t cs)(ht:t≠152):b∉Y:=fun hm=>by
 obtain⟨lm,h1⟩:=hY b hm;exact fG h h1 (fun e=>ht e.symm) rfl
theorem AxsB.own{W:World}{Y:List Nat}{b n sz:Nat}{te:TypeId}{v:Value}{xs:List Value}(hY:AxsB W Y)(h:W.ownsRow b te sz v n xs)(ht:te≠152):∀ g,v.ownBlock=some g->g∉Y:=fun g hg=>by
 rcases h.2 with⟨rfl,_⟩|⟨g1,cap,cur,rfl,_,hh,_⟩
 ·simp[Value.ownBlock]at hg
 simp[Value.ownBlock]at hg;subst hg;have h0:Lies W g1 te cur:=hh;exact hY.lies h0 ht
theorem AxF.lies{W:World}{b:Nat}{A:AxV}(h:AxF W (some b) A):∃ cs,Lies W b 152 cs:=by
 match A,h with
 |some (ids,fl),⟨_,_,_,_,.inl ⟨_,_,_,g⟩⟩=>exact⟨_,g.ax⟩
 |some (ids,fl),⟨_,_,_,_,.inr ⟨_,g⟩⟩=>
  obtain⟨_,_,_,_,_,_,h1,_⟩:=g.ex;exact⟨_,h1⟩
theorem axsB_two{W:World}{rp cp:Option Nat}{R C:AxV}(h:AxF W rp R)(k:AxF W cp C):AxsB W (rp.toList++cp.toList):=fun y hy=>by
 rcases List.mem_append.1 hy with hy|hy
 ·obtain rfl:rp=some y:=by simpa using hy
  exact h.lies
 obtain rfl:cp=some y:=by simpa using hy
 exact k.lies
theorem AxQ.kp{W W':World}{p:Option Nat}{A:AxV}{Y:List Nat}(h:AxQ W p A)(hk:Kp Y W W')(hY:AxsB W Y):AxQ W' p A:=by
 match p,A,h with
 |none,none,_=>trivial
 |some b,some (ids,fl),⟨h1,h2,h3,h4,base,v1,v2,h5⟩=>
  exact⟨h1,h2,h3,h4,base,v1,v2,h5.kp hk (hY.lies h5.ax (by decide)) (hY.own h5.r1 (by decide)) (hY.own h5.r2 (by decide))⟩
structure Made(w:World)(R C:AxV)(rp cp p q:Option Nat)(W:World):Prop where
 r:AxF W rp R
 c:AxF W cp C
 p:AxQ W p R
 q:AxQ W q C
 ne:∀ b,rp=some b->cp≠some b
 lo:∀ b∈rp.toList++cp.toList,w.heap.size<=b/\b<W.heap.size
 b:Below w.heap.size w W
abbrev dQ(ids dead:List IdR):AxV:=some (bD ids,dH (bD ids) dead)
theorem made_of{w w1 w2:World}{ids jds dead:List IdR}{m1 c1 b1 m2 c2 b2:Nat}{v1 v2 u1 u2 x1 x2 z1 z2:Value}(hn:ids.length<=300)(hm:jds.length<=300)(hf:∀ y∈ids,y.fits)(hg:∀ y∈jds,y.fits)
  (hW:∃ W0,W0.heap.size=w.heap.size+1/\Below w.heap.size w W0/\TwoAx W0 W0.heap.size m1 c1 b1 (bD ids) (dH (bD ids) dead) v1 v2 u1 u2 w1) (h2:TwoAx w1 w1.heap.size m2 c2 b2 (bD jds) (dH (bD jds) dead) x1 x2 z1 z2 w2) :
  Made w (dQ ids dead) (dQ jds dead) (some (w.heap.size+1)) (some w1.heap.size) (some m1) (some m2) w2:=by
 obtain⟨W0,hs,ei,h1⟩:=hW;rw[hs]at h1;have hle:∀ l:List IdR,l.length=(dH l dead).length:=fun l=>by
  have h:=qD l dead dead.length zr;rw[List.take_length]at h;exact h.symm
 obtain⟨p1,-,p3,p4⟩:=nO ids;obtain⟨q1,-,q3,q4⟩:=nO jds;have hb1:=h1.b;have bd:=h2.b;have s0:=ei.size;have s1:=hb1.size;have s2:=bd.size;have lt1:=h1.a.ax.lt;have lt2:=h2.a.ax.lt;have e1:AxF w1 (some (w.heap.size+1)) (dQ ids dead):=⟨hle _,by omega,fun y hy=>hf y (p4 y hy),p1,.inl ⟨_,_,_,h1.a⟩⟩
 have e2:AxF w2 (some w1.heap.size) (dQ jds dead):=⟨hle _,by omega,fun y hy=>hg y (q4 y hy),q1,.inl ⟨_,_,_,h2.a⟩⟩
 have g1:AxQ w1 (some m1) (dQ ids dead):=⟨hle _,by omega,fun y hy=>hf y (p4 y hy),p1,_,_,_,h1.r⟩
 have g2:AxQ w2 (some m2) (dQ jds dead):=⟨hle _,by omega,fun y hy=>hg y (q4 y hy),q1,_,_,_,h2.r⟩
 refine⟨e1.next bd,e2,g1.next bd,g2,fun b hb hc=>?_,fun b hb=>?_,(ei.trans (hb1.mono s0)).trans (bd.mono (by omega))⟩
 ·injection hb with hb;injection hc with hc;omega
 simp at hb;omega
theorem made_any(A B D:Option Addr)(ca cb cd:Nat)(ids jds dead:List IdR)(w:World)(hA:eA w A ids)(hB:eA w B jds)(hD:eA w D dead)(hn:ids.length<=300)(hm:jds.length<=300)(hd:dead.length<=300)(hf:∀ y∈ids,y.fits)(hg:∀ y∈jds,y.fits) :
  Calls Tryz.prog 12 #[axesV A B D ids.length jds.length dead.length ca cb cd] w fun e w'=>∃ r c m1 m2,e=.returned (.tuple #[vP r 0,vP c 0,vP m1 0,vP m2 0])/\Made w (dQ ids dead) (dQ jds dead) (some r) (some c) (some m1) (some m2) w':=by
 obtain⟨W0,ak⟩:=zD (w.alloc (.cells #[.slice A ids.length ca,.slice B jds.length cb,.slice D dead.length cd] 37))
 have ai:=zh ak;have re:Hid (W0.heap.size=w.heap.size+1):=zh (by rw[ak,World.size_alloc]);have au:=zA ak;have HL:Lies W0 w.heap.size 37 #[.slice A ids.length ca,.slice B jds.length cb,.slice D dead.length cd]:=by rw[ak];exact Lies.new w _ _
 have HC:Hid (∀ W,Below W0.heap.size W0 W->W.cell? ⟨w.heap.size,0,none⟩=some (.slice A ids.length ca)/\W.cell? ⟨w.heap.size,1,none⟩=some (.slice B jds.length cb)/\W.cell? ⟨w.heap.size,2,none⟩=some (.slice D dead.length cd)):=zh (fun W hb=>⟨(HL.next hb).cell 0,(HL.next hb).cell 1,(HL.next hb).cell 2⟩);have C1:=zh (sU A D ca cd ids dead W0 (dX hA au.out) (dX hD au.out) hn hd hf);have C2:Hid (∀ w1,Below W0.heap.size W0 w1->_):=zh (fun w1 (hb:Below W0.heap.size W0 w1)=>sU B D cb cd jds dead w1 (dX hB (zU au.out hb)) (dX hD (zU au.out hb)) hm hd hg)
 have HM:Hid (∀ (w1 w2:World) (m1 c1 b1 m2 c2 b2:Nat) (v1 v2 u1 u2 x1 x2 z1 z2:Value),TwoAx W0 W0.heap.size m1 c1 b1 (bD ids) (dH (bD ids) dead) v1 v2 u1 u2 w1->TwoAx w1 w1.heap.size m2 c2 b2 (bD jds) (dH (bD jds) dead) x1 x2 z1 z2 w2->Made w (dQ ids dead) (dQ jds dead) (some (w.heap.size+1)) (some w1.heap.size) (some m1) (some m2) w2) :=
  zh (fun _ _ _ _ _ _ _ _ _ _ _ _ _ _ _ _ h1 h2=>made_of hn hm hf hg ⟨W0,re.out,au.out,h1⟩ h2)
 have X0:=HC.out W0 zB;obtain⟨x0,x1,x2⟩:=X0;clear ak hA hB hD hn hm hd hf hg HL;generalize dQ ids dead=R at *;generalize dQ jds dead=C at *
 go_in
 go_upto_region 1 with fail
 rw[<- ai.out];clear ai
 go_wp2_with (first
  |((with_reducible refine C1.out.mono ?_);rintro e w1 ⟨m1,c1,b1,v1,v2,u1,u2,rfl,h1⟩;have H1:=zh h1;obtain⟨y0,y1,y2⟩:=HC.out _ h1.b;clear x0 x1 x2 h1)
  |((with_reducible refine(C2.out _ H1.out.b).mono ?_);rintro e w2 ⟨m2,c2,b2,z1,z2,z3,z4,rfl,h2⟩;have H2:=zh (HM.out _ _ _ _ _ _ _ _ _ _ _ _ _ _ _ _ H1.out h2);clear h2))
 (try simp only[Exit.inBlock,Exit.then])
 refine yt (v:=.tuple #[vP W0.heap.size 0,vP w1.heap.size 0,vP m1 0,vP m2 0]) (by simp[results,Tryz.results12,go_sem]) rfl ?_;exact⟨_,_,_,_,by first|rfl |(rw[re.out]),H2.out⟩
mutual
theorem uCY{N:Nat}:∀ {d:Nat} {t:Tree},t.ok N->eO d t=false->t.ok 300
 |0,_,_,h=>by cases h
 |d+1,.mk h l,ho,hv=>by
  rw[Tree.ok]at ho ⊢;unfold eO at hv;simp only[Tree.h,Tree.l,Bool.or_eq_false_iff]at hv;obtain⟨⟨a1,a2,a3,a4,a5,a6⟩,hl⟩:=ho;exact⟨⟨a1,a2,a3,a4,Nat.le_of_not_lt (of_decide_eq_false hv.1.2),Nat.le_of_not_lt (of_decide_eq_false hv.1.1.2)⟩,wP hl hv.2⟩
theorem wP{N:Nat}:∀ {d:Nat} {l:List Tree},okL N l->l.any (eO d)=false->okL 300 l
 |_,[],_,_=>trivial
 |d,t::r,ho,hv=>by
  rw[okL]at ho ⊢;rw[List.any_cons,Bool.or_eq_false_iff]at hv;exact⟨uCY ho.1 hv.1,wP ho.2 hv.2⟩
end
mutual
theorem Tree.ok.fine:∀ {t:Tree},t.ok 300->t.fine
 | .mk h l,ho=>by
  rw[Tree.ok]at ho;rw[Tree.fine];obtain⟨⟨a1,a2,a3,a4,a5,a6⟩,hl⟩:=ho;exact⟨⟨a1,a2,by omega,by omega⟩,wO hl⟩
theorem wO:∀ {l:List Tree},okL 300 l->uCP l
 | [],_=>trivial
 |t::r,ho=>by
  rw[okL]at ho;exact⟨Tree.ok.fine ho.1,wO ho.2⟩
end
theorem great_no{t:Tree}{N:Nat}(ho:t.ok N)(h:iP t=false):t.ok 300/\t.fine/\t.size<=400:=by
 unfold iP at h;rw[Bool.or_eq_false_iff,decide_eq_false_iff_not,Nat.not_lt]at h;have h1:=uCY ho h.1;exact⟨h1,h1.fine,h.2⟩
structure LawW(w:World)(b:Nat)(t:Tree)(Cn:List Value)(R C:AxV)(rp cp p q:Option Nat)(W:World):Prop where
 box:∃ cs,Lies W b 34 cs
 row:W.rangeAt b 0 Cn
 tree:TreeP (fun g=>g∉rp.toList++cp.toList) W t Cn.toArray
 r:AxF W rp R
 c:AxF W cp C
 p:AxQ W p R
 q:AxQ W q C
 ne:∀ b,rp=some b->cp≠some b
 lo:∀ b∈rp.toList++cp.toList,w.heap.size<=b/\b<W.heap.size/\kW b
 gl:Gl W
 bel:Below w.heap.size w W
theorem gU{W W':World}{b o:Nat}{cs:List Value}(h:W.rangeAt b o cs)(hk:W'.heap[b]?=W.heap[b]?):W'.rangeAt b o cs:=fun j v hv=>(World.cell?_of_block (w:=W) (a:=⟨b,o+j,none⟩) hk).trans (h j v hv)
theorem LawW.next{w:World}{b:Nat}{t:Tree}{Cn:List Value}{R C:AxV}{rp cp p q:Option Nat}{W W':World}(h:LawW w b t Cn R C rp cp p q W)(hb:Below W.heap.size W W'):LawW w b t Cn R C rp cp p q W':=by
 obtain⟨cs,hc⟩:=h.box;have hs:=hb.size;exact⟨⟨cs,hc.next hb⟩,gU h.row (hb.block _ hc.lt),h.tree.box hb,h.r.next hb,h.c.next hb,h.p.next hb,h.q.next hb,h.ne,fun x hx=>⟨(h.lo x hx).1,by have:=(h.lo x hx).2.1;omega,(h.lo x hx).2.2⟩,h.gl.next hb,h.bel.trans (hb.mono h.bel.size)⟩
theorem LawW.kp{w:World}{b:Nat}{t:Tree}{Cn:List Value}{R C:AxV}{rp cp p q:Option Nat}{W W':World}(h:LawW w b t Cn R C rp cp p q W)(hk:Kp (rp.toList++cp.toList) W W')(hr:AxF W' rp R)(hc:AxF W' cp C)(hg:Gl W'):LawW w b t Cn R C rp cp p q W':=by
 obtain⟨cs,hl⟩:=h.box;have hA:=axsB_two h.r h.c;have hs:=hk.size;have hb:b∉rp.toList++cp.toList:=hA.lies hl (by decide);refine⟨⟨cs,hk.lies hl hb⟩,gU h.row (hk.block _ hl.lt hb),?_,hr,hc,h.p.kp hk hA,h.q.kp hk hA,h.ne,fun x hx=>⟨(h.lo x hx).1,by have:=(h.lo x hx).2.1;omega,(h.lo x hx).2.2⟩,hg,h.bel.trans (hk.below (fun k iy=>(h.lo k iy).1) h.bel.size)⟩;have h1:TreeP (fun g=>g<W.heap.size/\g∉rp.toList++cp.toList) W t Cn.toArray:=h.tree.imp (fun g h1 h2=>⟨h2,h1⟩);exact(h1.keep ⟨hs,fun g hg=>hk.block g hg.1 hg.2⟩).imp (fun g h1 _=>h1.2)
theorem LawW.of_made{w w1 W:World}{b:Nat}{t:Tree}{Cn:List Value}{R C:AxV}{rp cp p q:Option Nat}(hM:Made w1 R C rp cp p q W)(hb:Below w.heap.size w w1)(hg:Gl w1)(hl:∃ cs,Lies w1 b 34 cs)(hr:w1.rangeAt b 0 Cn)(hP:TreeP nB w1 t Cn.toArray):LawW w b t Cn R C rp cp p q W:=by
 obtain⟨cs,hc⟩:=hl;have hs:=hb.size;refine⟨⟨cs,hc.next hM.b⟩,gU hr (hM.b.block _ hc.lt),?_,hM.r,hM.c,hM.p,hM.q,hM.ne,fun x hx=>⟨by have:=(hM.lo x hx).1;omega,(hM.lo x hx).2,hg.low (hM.lo x hx).1⟩,hg.next hM.b,hb.trans (hM.b.mono hs)⟩;have h1:TreeP (fun g=>g<w1.heap.size) w1 t Cn.toArray:=hP.imp (fun g _ h2=>h2);exact(h1.keep ⟨hM.b.size,fun g hg=>hM.b.block g hg⟩).imp (fun g h1 _ hm=>by have:=(hM.lo g hm).1;omega)
theorem LawW.any{w:World}{b:Nat}{t:Tree}{Cn:List Value}{R C:AxV}{rp cp p q:Option Nat}{W:World}(h:LawW w b t Cn R C rp cp p q W):TreeP nB W t Cn.toArray:=h.tree.imp (fun _ _ _=>trivial)
abbrev strV(s:Bs):Value:=vT s
theorem LawW.says{w:World}{b:Nat}{t:Tree}{Cn:List Value}{R C:AxV}{rp cp p q:Option Nat}{W:World}(h:LawW w b t Cn R C rp cp p q W)(ho:t.ok 300)(ap:t.size<=400) :
  Calls Tryz.prog 13 #[.agg Cn.toArray,.pointer (ptr rp),.pointer (ptr cp)] W fun e w'=>e=.returned (strV (cZ .plain R C t))/\LawW w b t Cn R C rp cp p q w' :=
 (nA t 300 rp cp R C Cn W h.tree ho.fine ho (by omega) h.r h.c h.ne h.gl (fun x hx=>(h.lo x hx).2)).mono (fun _ _ ⟨e1,e2,e3,e4,e5⟩=>⟨e1,h.kp e5 e2 e3 e4⟩)
abbrev uP(t:Tree)(n1 n2 n3:Nat):Bool:=iP t||decide (60<n1)||decide (60<n2)||decide (60<n3)
theorem uDW{t:Tree}{N n1 n2 n3:Nat}(ho:t.ok N)(h:uP t n1 n2 n3=false):t.ok 300/\t.fine/\t.size<=400/\n1<=60/\n2<=60/\n3<=60:=by
 simp only[uP,Bool.or_eq_false_iff]at h;obtain⟨⟨⟨h0,h1⟩,h2⟩,h3⟩:=h;obtain⟨a,b,c⟩:=great_no ho h0;exact⟨a,b,c,Nat.le_of_not_lt (of_decide_eq_false h1),Nat.le_of_not_lt (of_decide_eq_false h2),Nat.le_of_not_lt (of_decide_eq_false h3)⟩
def bY:Option RTok->List RTok->Bool
 |_,[]=>true
 |p,t::r=>!wL p t&&bY (some t) r
theorem cC:∀ (a b:List RTok) (p:Option RTok),bY p (a++b)=(bY p a&&bY (aU p a) b)
 | [],b,p=>by simp[bY,aU]
 |t::a,b,p=>by rw[yp,bY,cC a b (some t),bY,aU,Bool.and_assoc]
theorem cE:∀ (a b:List RTok) (p:Option RTok),aU p (a++b)=aU (aU p a) b
 | [],b,p=>rfl
 |t::a,b,p=>by rw[yp,aU,cE a b (some t),aU]
def Fst(t:RTok):Bool:=eQ t.kind||t.kind==6||(t.kind==5&&(t.text==[45]||t.text==[43]||t.text==[40]||t.text==[123]))
def Lst(t:RTok):Bool:=eQ t.kind||t.kind==6||(t.kind==5&&(t.text==[41]||t.text==[125]||t.text==[37]||t.text==[35]))
def lW(t:RTok):Bool:=t.kind==5&&!(t.text==[35])
theorem iG:eQ 5=false:=by decide
theorem sgn_fst{a b:RTok}(ha:lW a=true)(hb:Fst b=true):bT a b=false:=by
 unfold lW at ha;simp only[yh,beq_iff_eq,Bool.not_eq_true',beq_eq_false_iff_ne]at ha;unfold bT lY;rw[ha.1,iG];have h35:(a.text==[35])=false:=beq_eq_false_iff_ne.2 ha.2;have ou:∀ set:Bs,set.contains 45=false->set.contains 43=false->set.contains 40=false->set.contains 123=false->(b.kind==5&&!b.text.isEmpty&&set.contains (b.text.headD 0))=false:=by
  intro set e1 e2 e3 e4;unfold Fst at hb;simp only[Bool.or_eq_true,yh,beq_iff_eq]at hb;rcases hb with(h|h)|⟨h,((h'|h')|h')|h'⟩
  ·have:b.kind≠5:=fun e=>by rw[e,iG]at h;cases h
   simp[this]
  ·simp[h]
  ·rw[h',show (([45]:Bs).headD 0)=45 from rfl,e1,Bool.and_false]
  ·rw[h',show (([43]:Bs).headD 0)=43 from rfl,e2,Bool.and_false]
  ·rw[h',show (([40]:Bs).headD 0)=40 from rfl,e3,Bool.and_false]
  rw[h',show (([123]:Bs).headD 0)=123 from rfl,e4,Bool.and_false]
 rw[ou [61,62] (by decide) (by decide) (by decide) (by decide),ou [61] (by decide) (by decide) (by decide) (by decide),h35];simp
theorem iR{a b:RTok}(ha:Lst a=true)(hb:b.kind=5\/b.kind=0):bT a b=false:=by
 unfold Lst at ha;simp only[Bool.or_eq_true,yh,beq_iff_eq]at ha;have hw:eQ b.kind=false:=by rcases hb with h|h <;> rw[h] <;> decide
 have h3:(b.kind==3)=false:=by rcases hb with h|h <;> rw[h] <;> decide
 unfold bT;rcases ha with(h|h)|⟨h,h'⟩
 ·rw[h,hw];rfl
 ·rw[h];simp[eQ]
 rw[h,iG,h3];rcases h' with((h'|h')|h')|h' <;> rw[h'] <;> simp
def Good(ts:List RTok):Prop:=∃ f r l,ts=f::r/\Fst f=true/\aU none ts=some l/\Lst l=true/\bY none ts=true
theorem Good.one{t:RTok}(h1:Fst t=true)(h2:Lst t=true):Good [t]:=⟨t,[],t,rfl,h1,rfl,h2,rfl⟩
theorem Good.behind{ts:List RTok}(h:Good ts){s:RTok}(hs:lW s=true):bY (some s) ts=true/\∃ l,aU (some s) ts=some l/\Lst l=true:=by
 obtain⟨f,r,l,rfl,h1,h2,h3,h4⟩:=h;refine⟨?_,l,by rw[<- h2];rfl,h3⟩;rw[bY]at h4 ⊢;simp only[yh]at h4 ⊢;refine⟨?_,h4.2⟩;show (!(bT s f))=true;rw[sgn_fst hs h1];rfl
def MidT(ts:List RTok):Prop:=ts=[]\/Good ts
theorem Good.wrap{ts:List RTok}(h:Good ts):Good (tk 5 [40]::(ts++[tk 5 [41]])):=by
 obtain⟨h1,l,h2,h3⟩:=h.behind (s:=tk 5 [40]) (by decide);refine⟨_,_,tk 5 [41],rfl,by decide,?_,by decide,?_⟩
 ·rw[aU,cE,aU,aU]
 rw[bY,cC,h1,h2,bY,bY];show (true&&(true&&(!(bT l (tk 5 [41]))&&true)))=true;rw[iR h3 (.inl rfl)];rfl
theorem Good.wrapT{ts:List RTok}(h:Good ts)(a b:Int):Good (wrapT a b ts):=by
 unfold Go.Proofs.YtjfihpaeglpblaaGreatDoor.wrapT
 split
 ·exact h
 exact h.wrap
theorem Good.ahead{ts:List RTok}(h:Good ts){s:RTok}(hs:lW s=true)(hf:Fst s=true):Good (s::ts):=by
 obtain⟨h1,l,h2,h3⟩:=h.behind hs;refine⟨s,ts,l,rfl,hf,?_,h3,?_⟩
 ·rw[aU];exact h2
 rw[bY,h1];rfl
theorem Good.sign{ts:List RTok}(h:Good ts){s:RTok}(hs:s.kind=5)(hl:Lst s=true):Good (ts++[s]):=by
 obtain⟨f,r,l,e,h1,h2,h3,h4⟩:=h;refine⟨f,r++[s],s,by rw[e];rfl,h1,?_,hl,?_⟩
 ·rw[cE,aU,aU]
 rw[cC,h4,h2,bY,bY];show (true&&(!(bT l s)&&true))=true;rw[iR h3 (.inl hs)];rfl
theorem Good.two{a b:List RTok}(ha:Good a)(hb:Good b){s:RTok}(hs:lW s=true):Good (a++s::b):=by
 obtain⟨f,r,l,e,h1,h2,h3,h4⟩:=ha;obtain⟨g1,l',g2,g3⟩:=hb.behind hs;have h5:s.kind=5:=by
  unfold lW at hs;simp only[yh,beq_iff_eq]at hs;exact hs.1
 refine⟨f,r++s::b,l',by rw[e];rfl,h1,?_,g3,?_⟩
 ·rw[cE,aU,g2]
 rw[cC,h4,h2,bY,g1];show (true&&(!(bT l s)&&true))=true;rw[iR h3 (.inl h5)];rfl
theorem gQ:∀ (l:List (List RTok)) (s:RTok),lW s=true->(∀ a∈l,MidT a)->bY (some s) (bO l)=true/\∃ z,aU (some s) (bO l)=some z/\(Lst z=true\/lW z=true)
 | [],s,hs,_=>⟨rfl,s,rfl,.inr hs⟩
 | [a],s,hs,h=>by
  rw[bO];rcases h a List.mem_cons_self with rfl|g
  ·exact⟨rfl,s,rfl,.inr hs⟩
  obtain⟨h1,z,h2,h3⟩:=g.behind hs;exact⟨h1,z,h2,.inl h3⟩
 |a::b::r,s,hs,h=>by
  obtain⟨i1,z,i2,i3⟩:=gQ (b::r) (tk 5 [44]) (by decide) (fun x hx=>h x (zg _ hx));rw[bO,cC,cE,bY,aU];rcases h a List.mem_cons_self with rfl|g
  ·refine⟨?_,z,i2,i3⟩;rw[aU,bY,i1];show (true&&(!(bT s (tk 5 [44]))&&true))=true;have:bT s (tk 5 [44])=false:=by
    unfold lW at hs;simp only[yh,beq_iff_eq,Bool.not_eq_true',beq_eq_false_iff_ne]at hs;unfold bT lY;rw[hs.1,iG];simp
   rw[this];rfl
  obtain⟨h1,l,h2,h3⟩:=g.behind hs;refine⟨?_,z,i2,i3⟩;rw[h1,h2,i1];show (true&&(!(bT l (tk 5 [44]))&&true))=true;rw[iR h3 (.inl rfl)];rfl
theorem jK{z:RTok}(h:Lst z=true\/lW z=true){c:UInt8}(h1:c≠61)(h2:c≠62):bT z (tk 5 [c])=false:=by
 rcases h with h|h
 ·exact iR h (.inl rfl)
 unfold lW at h;simp only[yh,beq_iff_eq,Bool.not_eq_true',beq_eq_false_iff_ne]at h;unfold bT lY;rw[h.1,iG];simp[h1,h2]
theorem oN:∀ (l:List RTok) (p:Option RTok),bY p l=true->dK p l=(l.map lO).flatten
 | [],p,_=>rfl
 |t::r,p,h=>by
  rw[bY]at h;simp only[yh,Bool.not_eq_true']at h;rw[dK,kL,h.1,oN r (some t) h.2];rfl
theorem kA(k:Int)(s:Bs)(h:eQ k=true):Good [tk k s]:=Good.one (by unfold Fst;simp[h]) (by unfold Lst;simp[h])
theorem jZ:Good dS:=Good.one rfl rfl
theorem uEE{x:Val}(h2:x.kind≠2):Good (kR x):=by
 unfold kR;by_cases h1:x.kind=1
 ·rw[if_pos h1]
  split
  ·exact(kA 1 _ rfl).ahead (s:=tk 5 [45]) rfl rfl
  exact kA 1 _ rfl
 rw[if_neg h1,if_neg h2]
 split
 ·exact Good.one rfl rfl
 exact kA 3 _ rfl
theorem kO(v:Say)(r c:Nat)(a b:Bool):eQ (eJ v r c a b).kind=true:=by cases v <;> rfl
theorem yB(v:Say)(r:Nat)(a:Bool):eQ (gI v r a).kind=true:=by cases v <;> cases a <;> rfl
theorem yA(v:Say)(r:Nat)(a:Bool):eQ (gH v r a).kind=true:=by cases v <;> cases a <;> rfl
theorem Good.word{t:RTok}(h:eQ t.kind=true):Good [t]:=Good.one (by unfold Fst;simp[h]) (by unfold Lst;simp[h])
theorem yO(v:Say)(R C:AxV)(h:NodeH):Good (gZ v R C h):=by
 unfold gZ
 split
 ·exact jZ
 split
 ·exact(Good.word (kO v _ _ _ _)).sign (s:=tk 5 [35]) rfl rfl
 exact Good.word (kO v _ _ _ _)
theorem nI{a b:RTok}(ha:eQ a.kind=true)(hb:eQ b.kind=true):Good [a,tk 5 [58],b]:=(Good.word ha).two (Good.word hb) (s:=tk 5 [58]) rfl
theorem uBF(v:Say)(R C:AxV)(a b:Cor):Good (jD v R C a b):=by
 unfold jD
 split
 ·split
  ·exact jZ
  exact nI (yA v _ _) (yA v _ _)
 split
 ·split
  ·exact jZ
  exact nI (yB v _ _) (yB v _ _)
 split
 ·exact nI (kO v _ _ _ _) (kO v _ _ _ _)
 exact jZ
theorem binB_sgn{s:Bs}(h:iM s=true):lW (tk 5 s)=true:=by
 unfold iM at h;simp only[Bool.or_eq_true,beq_iff_eq]at h;rcases h with((((((((((h|h)|h)|h)|h)|h)|h)|h)|h)|h)|h)|h <;> subst h <;> rfl
theorem uDH{s:Bs}(h:unB s=true)(hn:s≠[37]):lW (tk 5 s)=true/\Fst (tk 5 s)=true:=by
 unfold unB at h;simp only[Bool.or_eq_true,beq_iff_eq]at h;rcases h with(h|h)|h
 ·subst h;exact⟨rfl,rfl⟩
 ·subst h;exact⟨rfl,rfl⟩
 exact absurd h hn
theorem rN(wide:Nat)(ts:List (List RTok))(hk:∀ a∈ts,MidT a):∀ k,0<k->∃ r z,cA wide ts k=tk 5 [123]::r/\bY none (cA wide ts k)=true/\aU none (cA wide ts k)=some z/\(Lst z=true\/lW z=true)
 |0,h=>absurd h (by omega)
 |k+1,_=>by
  have hc:∀ a∈(ts.drop (k*wide)).take wide,MidT a:=fun a ha=>hk a (List.mem_of_mem_drop (List.mem_of_mem_take ha))
  rw[cA];by_cases h0:k=0
  ·subst h0;obtain⟨h1,z,h2,h3⟩:=gQ _ (tk 5 [123]) rfl hc;refine⟨_,z,by rw[cA,if_pos rfl];rfl,?_,?_,h3⟩
   ·rw[cA,if_pos rfl,List.nil_append,bY,h1];rfl
   rw[cA,if_pos rfl,List.nil_append,aU,h2]
  obtain⟨r,z,e1,e2,e3,e4⟩:=rN wide ts hk k (by omega);obtain⟨h1,z',h2,h3⟩:=gQ _ (tk 5 [59]) rfl hc;refine⟨r++tk 5 [59]::bO ((ts.drop (k*wide)).take wide),z',by rw[if_neg h0,e1];rfl,?_,?_,h3⟩
  ·rw[if_neg h0,cC,e2,e3,bY,h1];show (true&&(!(bT z (tk 5 [59]))&&true))=true;rw[jK e4 (by decide) (by decide)];rfl
  rw[if_neg h0,cE,aU,h2]
theorem uAA(v:Say)(R C:AxV)(h:NodeH)(lv:List Int)(ts:List (List RTok))(k:Int)(ks:List Int)(hr:aV h ts.length ks k=true)(ht:h.kind=0->h.v.kind≠2)(h9:h.kind≠9)(hk:h.kind≠4->∀ a∈ts,Good a)(hm:∀ a∈ts,MidT a):Good (dT v R C h lv ts):=by
 unfold dT;by_cases h0:h.kind=0
 ·rw[if_pos h0];exact uEE (ht h0)
 rw[if_neg h0];by_cases h1:h.kind=1\/h.kind=3
 ·rw[if_pos h1];exact yO v R C h
 rw[if_neg h1];by_cases h2:h.kind=2
 ·rw[if_pos h2];exact uBF v R C _ _
 rw[if_neg h2];by_cases h4:h.kind=4
 ·rw[if_pos h4];obtain⟨g1,z,g2,g3⟩:=gQ ts (tk 5 [40]) rfl hm;refine⟨_,_,tk 5 [41],rfl,rfl,?_,rfl,?_⟩
  ·rw[aU,aU,cE,aU,aU]
  rw[bY,bY,cC,g1,g2,bY,bY];show (true&&(!(bT (tk 3 h.name) (tk 5 [40]))&&(true&&(!(bT z (tk 5 [41]))&&true))))=true;rw[jK g3 (by decide) (by decide),iR (a:=tk 3 h.name) rfl (.inl rfl)];rfl
 rw[if_neg h4];by_cases h5:h.kind=5
 ·rw[if_pos h5];obtain⟨hu,hn⟩:=kH hr h5
  match ts,hn,hk h4 with
  | [a],_,hk=>
   have ha:=hk a List.mem_cons_self
   split
   ·rename_i e
    rw[e];exact(ha.wrapT _ _).sign (s:=tk 5 [37]) rfl rfl
   rename_i e
   exact(ha.wrapT _ _).ahead (uDH hu e).1 (uDH hu e).2
 rw[if_neg h5];by_cases h6:h.kind=6
 ·rw[if_pos h6];obtain⟨hu,hn⟩:=eX hr h6
  match ts,hn,hk h4 with
  | [a,b],_,hk=>
   exact((hk a List.mem_cons_self).wrapT _ _).two ((hk b (zg _ List.mem_cons_self)).wrapT _ _) (binB_sgn hu)
 rw[if_neg h6];by_cases h7:h.kind=7
 ·rw[if_pos h7];exact kA 3 _ rfl
 rw[if_neg h7];have h8:h.kind=8:=by
  rcases oZ hr with q|q|q|q|q|q|q|q|q
  ·exact absurd q h0
  ·exact absurd q h1
  ·exact absurd q h2
  ·exact absurd q h4
  ·exact absurd q h5
  ·exact absurd q h6
  ·exact absurd q h7
  ·exact q
  exact absurd q h9
 rw[if_pos h8];obtain⟨r,c,np,gw,dj,hn⟩:=lT hr h8;obtain⟨q,z,e1,e2,e3,e4⟩:=rN (ts.length / h.rows.toNat) ts hm h.rows.toNat (by omega);refine⟨tk 5 [123],q++[tk 5 [125]],tk 5 [125],by rw[e1];rfl,rfl,?_,rfl,?_⟩
 ·rw[cE,aU,aU]
 rw[cC,e2,e3,bY,bY];show (true&&(!(bT z (tk 5 [125]))&&true))=true;rw[jK e4 (by decide) (by decide)];rfl
mutual
def Tree.plainT:Tree->Prop
 | .mk h l=>(h.kind=0->h.v.kind≠2)/\fO l
def fO:List Tree->Prop
 | []=>True
 |t::r=>t.plainT/\fO r
end
theorem pB{t:Tree}{k:Int}(h:t.right k=true)(hk:k≠4):t.h.kind≠9:=by
 obtain⟨th,l⟩:=t;obtain⟨h1,_⟩:=cX h;intro e;have e:th.kind=9:=e;unfold aV at h1;rw[if_neg (by omega),if_neg (by omega),if_neg (by omega),if_neg (by omega),if_neg (by omega),if_neg (by omega),if_neg (by omega),if_neg (by omega),if_pos e]at h1;simp only[yh,decide_eq_true_eq]at h1;exact hk h1.1.1
mutual
theorem nZ(v:Say)(R C:AxV):∀ (t:Tree) (k:Int),t.right k=true->t.plainT->t.h.kind≠9->Good (t.toks v R C)
 | .mk h l,k,hr,hp,h9=>by
  obtain⟨h1,h2⟩:=cX hr;rw[Tree.plainT]at hp;obtain⟨g1,g2⟩:=rV v R C l h.kind h2 hp.2;rw[Tree.toks];exact uAA v R C h (l.map eI) (bE v R C l) k (l.map fun t=>t.h.kind) (by rw[cL];exact h1) hp.1 h9 g1 g2
theorem rV(v:Say)(R C:AxV):∀ (l:List Tree) (k:Int),aQ l k=true->fO l->(k≠4->∀ a∈bE v R C l,Good a)/\∀ a∈bE v R C l,MidT a
 | [],_,_,_=>⟨(fun _ a ha=>by cases ha),(fun a ha=>by cases ha)⟩
 |t::r,k,hr,hp=>by
  simp only[aQ,yh]at hr;rw[fO]at hp;obtain⟨g1,g2⟩:=rV v R C r k hr.2 hp.2;refine⟨fun hk a ha=>?_,fun a ha=>?_⟩
  ·rw[bE]at ha;rcases ym.1 ha with rfl|ha
   ·exact nZ v R C t k hr.1.2 hp.1 (pB hr.1.2 hk)
   exact g1 hk a ha
  rw[bE]at ha;rcases ym.1 ha with rfl|ha
  ·by_cases h9:t.h.kind=9
   ·left
    obtain⟨th,tl⟩:=t;have e:th.kind=9:=h9;rw[Tree.toks];unfold dT;rw[if_neg (by omega),if_neg (by omega),if_neg (by omega),if_neg (by omega),if_neg (by omega),if_neg (by omega),if_neg (by omega),if_neg (by omega)]
   exact .inr (nZ v R C t k hr.1.2 hp.1 h9)
  exact g2 a ha
end
end Go.Proofs.YtjfihpaeglpblaaGreatDoor
