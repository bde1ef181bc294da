/-
  Lemmas, part 26: PaG RkD RkG PaY PaZ.
-/
import Derived.Test.YtmgjidnalpgegaaGreatDoorPk24
set_option maxHeartbeats 100000000
namespace Go.Proofs.YtmgjidnalpgegaaGreatDoor
open Go.RowKit
set_option maxRecDepth 1000000 in
theorem dI:∀ (n:Nat),n<=1000000->∀ (t t':Tree) (cs ry:Array Value) (w:World),t.size<=n->TreeIn w t cs->TreeIn w t' ry->Calls Tryz.prog 12 #[.agg cs,.agg ry] w fun e w'=>e=.returned (.bool (t.same t'))/\Below w.heap.size w w':=by
 intro n
 induction n with
 |zero=>intro _ t _ _ _ _ hs;cases t;simp[Tree.size]at hs
 |succ n ih=>
 intro av;rintro⟨h,l⟩ ⟨h',l'⟩ cs ry w hs ⟨A,cp,rfl,hk⟩ ⟨A',qy,rfl,hk'⟩;have IH:=zh (fun(i:Nat) (hi:i<l.length) t' cs ry W h1 h2=>ih (by omega) (l[i]'hi) t' cs ry W (by have h9:(l[i]'hi).size<(Tree.mk h l).size:=iN (t:=.mk h l) (i:=i) hi;omega) h1 h2);have ir:Hid (l.length<=1000000):=zh (by have h1:=dK l;have h2:bH l+1<=n+1:=hs;omega);clear ih;dsimp only[Tree.h,Tree.l]at hk hk' ⊢;have HK:=zh hk;have HK':=zh hk';clear hk hk' hs;have hS:Tree.same (.mk h l) (.mk h' l')=(NodeH.same h h'&&jL l l'):=rfl;rw[hS];clear hS;generalize b9:(w.alloc (.cells (bC h A l.length cp) 41))=W1;have HLa:Hid (Lies W1 w.heap.size 41 (bC h A l.length cp)):=zh (by rw[<- b9];exact Lies.new _ _ _);have HBa:Hid (Below w.heap.size w W1):=zh (by rw[<- b9];exact zp _);have ui:W1.heap.size=w.heap.size+1:=by rw[<- b9];simp
 generalize hL2:(W1.alloc (.cells (bC h' A' l'.length qy) 41))=W2;have HLb:Hid (Lies W2 (w.heap.size+1) 41 (bC h' A' l'.length qy)):=zh (by rw[<- hL2,<- ui];exact Lies.new _ _ _);have tc:Hid (Below W1.heap.size W1 W2):=zh (by rw[<- hL2];exact zp _);have ju:=zh (HLa.out.next tc.out);have co:Hid (Below w.heap.size w W2):=zh (HBa.out.trans (tc.out.mono HBa.out.size));have oq:=zh neq_area;have HEV:=zh neq_val;clear HLa HBa tc;have cy:=zh b9;have HW2:=zh hL2;have cr:=zh ui;clear b9 hL2 ui
 go_enter Tryz.func12,Tryz.ntmps12
 go_upto_region 1 with fail
 rw[cy.out,HW2.out];clear cy HW2;generalize hQ:w.heap.size=q at *;obtain⟨bb,je⟩:∃ bb,(NodeH.same h h'&&decide (l.length=l'.length))=bb:=⟨_,rfl⟩
 have rf:=zh je;clear je
 go_cut [47] (fun v wx=>v=.bool (!bb)/\Hid (wx=W2))
 case first=>
  have hea:=oq.out h.a h.b h'.a h'.b;have hev:=HEV.out h.v h'.v;dsimp only[arV]at hea;obtain⟨d0,hd0⟩:∃ x,(h.kind != h'.kind)=x:=⟨_,rfl⟩
  obtain⟨d1,hd1⟩:∃ x,(!cS h.v h'.v)=x:=⟨_,rfl⟩
  obtain⟨d2,ow⟩:∃ x,decide (h.name≠h'.name)=x:=⟨_,rfl⟩
  obtain⟨d3,hd3⟩:∃ x,(!(decide (h.a=h'.a)&&decide (h.b=h'.b)))=x:=⟨_,rfl⟩
  obtain⟨d4,hd4⟩:∃ x,(h.rows != h'.rows)=x:=⟨_,rfl⟩
  obtain⟨d5,hd5⟩:∃ x,((l.length:Int) != (l'.length:Int))=x:=⟨_,rfl⟩
  rw[hd1]at hev;rw[hd3]at hea;have hd2':(h.name==h'.name)=!d2:=by rw[<- ow,ze];simp
  obtain⟨c1,eu⟩:∃ x,x=(d0||d1):=⟨_,rfl⟩
  obtain⟨c2,fi⟩:∃ x,x=(c1||d2):=⟨_,rfl⟩
  obtain⟨c3,s9⟩:∃ x,x=(c2||d3):=⟨_,rfl⟩
  obtain⟨c4,hc4⟩:∃ x,x=(c3||d4):=⟨_,rfl⟩
  obtain⟨c5,hc5⟩:∃ x,x=(c4||d5):=⟨_,rfl⟩
  have HD:Hid (bb=!c5):=zh (by
   rw[hc5,hc4,s9,fi,eu,<- hd0,<- hd1,<- ow,<- hd3,<- hd4,<- hd5,<- rf.out];unfold NodeH.same;rw[show (h.kind != h'.kind)=!decide (h.kind=h'.kind) from by rw[ze];simp,show decide (h.name≠h'.name)=!(h.name==h'.name) from by rw[ze];simp,show (h.rows != h'.rows)=!decide (h.rows=h'.rows) from by rw[ze];simp,show ((l.length:Int) != (l'.length:Int))=!decide (l.length=l'.length) from by rw[ze];simp;omega];cases decide (h.kind=h'.kind) <;> cases cS h.v h'.v <;> cases (h.name==h'.name) <;> cases decide (h.a=h'.a) <;> cases decide (h.b=h'.b) <;> cases decide (h.rows=h'.rows) <;> cases decide (l.length=l'.length) <;> rfl)
  obtain⟨TT,ae⟩:∃ TT:List (Nat×Nat×Value),TT=((0,6,.pointer (some ⟨q,0,none⟩))::(1,7,.int .i64 h.kind)::(2,8,.pointer (some ⟨(q+1),0,none⟩))::(3,9,.int .i64 h'.kind)::(4,10,.bool d0)::(5,11,.bool d0)::(6,12,(bif d0 then undef else .pointer (some ⟨q,1,none⟩)))::(7,13,(bif d0 then undef else .agg ([.int .i64 h.v.kind,.int .i64 h.v.mant,.int .i64 h.v.exp,.string ⟨h.v.text.toArray⟩,.bool h.v.truth,.int .i64 h.v.fault]:List Value).toArray))::(8,14,(bif d0 then undef else .pointer (some ⟨(q+1),1,none⟩)))::(9,15,(bif d0 then undef else .agg ([.int .i64 h'.v.kind,.int .i64 h'.v.mant,.int .i64 h'.v.exp,.string ⟨h'.v.text.toArray⟩,.bool h'.v.truth,.int .i64 h'.v.fault]:List Value).toArray))::(10,16,(bif d0 then undef else .bool d1))::(11,17,.bool c1)::(12,18,.bool c1)::(13,19,(bif c1 then undef else .pointer (some ⟨q,7,none⟩)))::(14,20,(bif c1 then undef else .string ⟨h.name.toArray⟩))::(15,21,(bif c1 then undef else .pointer (some ⟨(q+1),7,none⟩)))::(16,22,(bif c1 then undef else .string ⟨h'.name.toArray⟩))::(17,23,(bif c1 then undef else .bool d2))::(18,24,.bool c2)::(19,25,.bool c2)::(20,26,(bif c2 then undef else .pointer (some ⟨q,8,none⟩)))::(21,27,(bif c2 then undef else .agg ([.int .i64 h.a.row.a,.int .i64 h.a.row.n,.int .i64 h.a.col.a,.int .i64 h.a.col.n,.bool h.a.fr,.bool h.a.fc,.int .i64 h.b.row.a,.int .i64 h.b.row.n,.int .i64 h.b.col.a,.int .i64 h.b.col.n,.bool h.b.fr,.bool h.b.fc]:List Value).toArray))::(22,28,(bif c2 then undef else .pointer (some ⟨(q+1),8,none⟩)))::(23,29,(bif c2 then undef else .agg ([.int .i64 h'.a.row.a,.int .i64 h'.a.row.n,.int .i64 h'.a.col.a,.int .i64 h'.a.col.n,.bool h'.a.fr,.bool h'.a.fc,.int .i64 h'.b.row.a,.int .i64 h'.b.row.n,.int .i64 h'.b.col.a,.int .i64 h'.b.col.n,.bool h'.b.fr,.bool h'.b.fc]:List Value).toArray))::(24,30,(bif c2 then undef else .bool d3))::(25,31,.bool c3)::(26,32,.bool c3)::(27,33,(bif c3 then undef else .pointer (some ⟨q,20,none⟩)))::(28,34,(bif c3 then undef else .int .i64 h.rows))::(29,35,(bif c3 then undef else .pointer (some ⟨(q+1),20,none⟩)))::(30,36,(bif c3 then undef else .int .i64 h'.rows))::(31,37,(bif c3 then undef else .bool d4))::(32,38,.bool c4)::(33,39,.bool c4)::(34,40,(bif c4 then undef else .pointer (some ⟨q,21,none⟩)))::(35,41,(bif c4 then undef else .slice A l.length cp))::(36,42,(bif c4 then undef else .int .i64 (l.length:Nat)))::(37,43,(bif c4 then undef else .pointer (some ⟨(q+1),21,none⟩)))::(38,44,(bif c4 then undef else .slice A' l'.length qy))::(39,45,(bif c4 then undef else .int .i64 (l'.length:Nat)))::(40,46,(bif c4 then undef else .bool d5))::(41,47,.bool c5)::[]):=⟨_,rfl⟩
  have aq:=zh ae;clear ae;refine bI (fun a0=>67<=a0.tmps.size/\a0.eval (.tmp 2)=.pointer (some ⟨q,0,none⟩)/\a0.eval (.tmp 3)=.pointer (some ⟨q+1,0,none⟩)) (6::7::8::9::10::11::12::13::14::15::16::17::18::19::20::21::22::23::24::25::26::27::28::29::30::31::32::33::34::35::36::37::38::39::40::41::42::43::44::45::46::47::[]) TT [] (fun w'=>w'=W2) (by kernel_rfl) ⟨by simp,rfl,rfl⟩ rfl ?_ ?_
  ·rintro a0 ⟨hs,ma,mu⟩ zl a1 w1 zj o bg hI aa ho zd;obtain rfl:w1=W2:=hI.st;have ae:=aq.out;have hk:okU (TT.map fun e=>(e.1,e.2.1)) (6::7::8::9::10::11::12::13::14::15::16::17::18::19::20::21::22::23::24::25::26::27::28::29::30::31::32::33::34::35::36::37::38::39::40::41::42::43::44::45::46::47::[]) 67=true:=by rw[ae];rfl
   subst ae;have e2x:=aF ((hI.off.eval (by decide)).trans ma);have e3x:=aF ((hI.off.eval (by decide)).trans mu);have hj:=Up.of_false aa;have hj12:zj<42:=by rw[bg]at hj;exact hj
   have G:RG _ _ _ _ _ _ _ _ _ _ _:=⟨hk,hI,hs,aa,ho,zd⟩
   (iterate 41 rcases zq hj12 with hj12|rfl);obtain rfl:=cz hj12;all_goals obtain rfl:=oi ho
   ·exact G.nl 0 rfl (by simp[execOp,go_sem,e2x])
   ·have xq:w1.cell? ⟨q,0,none⟩=some (.int .i64 h.kind):=ju.out.cell 0;exact G.nl 1 rfl (by simp[execOp,go_sem,G.t 0 rfl,xq])
   ·exact G.nl 2 rfl (by simp[execOp,go_sem,e3x])
   ·have xq:w1.cell? ⟨(q+1),0,none⟩=some (.int .i64 h'.kind):=HLb.out.cell 0;exact G.nl 3 rfl (by simp[execOp,go_sem,G.t 2 rfl,xq])
   ·exact G.nl 4 rfl (by simp[execOp,go_sem,G.t 1 rfl,G.t 3 rfl,hd0])
   ·exact G.nl 5 rfl (by simp[execOp,go_sem,G.t 4 rfl])
   ·refine G.gn 5 6 rfl rfl rfl ?_;rintro rfl;simp[execOp,go_sem,e2x]
   ·refine G.gn 5 7 rfl rfl rfl ?_;rintro rfl;have p6:=G.d 6 rfl;exact aW 32 (.tmp 12) rfl q 1 p6 _ _ (ju.out.sub 1 [.int .i64 h.v.kind,.int .i64 h.v.mant,.int .i64 h.v.exp,.string ⟨h.v.text.toArray⟩,.bool h.v.truth,.int .i64 h.v.fault] rfl) Tryz.underlying32 rfl jX
   ·refine G.gn 5 8 rfl rfl rfl ?_;rintro rfl;simp[execOp,go_sem,e3x]
   ·refine G.gn 5 9 rfl rfl rfl ?_;rintro rfl;have p8:=G.d 8 rfl;exact aW 32 (.tmp 14) rfl (q+1) 1 p8 _ _ (HLb.out.sub 1 [.int .i64 h'.v.kind,.int .i64 h'.v.mant,.int .i64 h'.v.exp,.string ⟨h'.v.text.toArray⟩,.bool h'.v.truth,.int .i64 h'.v.fault] rfl) Tryz.underlying32 rfl jX
   ·refine G.gn 5 10 rfl rfl rfl ?_;rintro rfl;simp[execOp,go_sem,G.t 7 rfl,G.t 9 rfl,hev]
   ·cases d0
    all_goals have p5:=G.d 5 rfl
    all_goals have p10:=G.d 10 rfl
    all_goals exact G.nl 11 rfl (by simp[execOp,go_sem,aF p5,aF p10,eu])
   ·exact G.nl 12 rfl (by simp[execOp,go_sem,G.t 11 rfl])
   ·refine G.gn 12 13 rfl rfl rfl ?_;rintro rfl;simp[execOp,go_sem,e2x]
   ·refine G.gn 12 14 rfl rfl rfl ?_;rintro rfl;have xq:w1.cell? ⟨q,7,none⟩=some (.string ⟨h.name.toArray⟩):=ju.out.cell 7;simp[execOp,go_sem,G.t 13 rfl,xq]
   ·refine G.gn 12 15 rfl rfl rfl ?_;rintro rfl;simp[execOp,go_sem,e3x]
   ·refine G.gn 12 16 rfl rfl rfl ?_;rintro rfl;have xq:w1.cell? ⟨(q+1),7,none⟩=some (.string ⟨h'.name.toArray⟩):=HLb.out.cell 7;simp[execOp,go_sem,G.t 15 rfl,xq]
   ·refine G.gn 12 17 rfl rfl rfl ?_;rintro rfl;simp[execOp,go_sem,G.t 14 rfl,G.t 16 rfl,hd2']
   ·cases c1
    all_goals have p12:=G.d 12 rfl
    all_goals have p17:=G.d 17 rfl
    all_goals exact G.nl 18 rfl (by simp[execOp,go_sem,aF p12,aF p17,fi])
   ·exact G.nl 19 rfl (by simp[execOp,go_sem,G.t 18 rfl])
   ·refine G.gn 19 20 rfl rfl rfl ?_;rintro rfl;simp[execOp,go_sem,e2x]
   ·refine G.gn 19 21 rfl rfl rfl ?_;rintro rfl;have p20:=G.d 20 rfl;exact aW 38 (.tmp 26) rfl q 8 p20 _ _ (ju.out.sub 8 [.int .i64 h.a.row.a,.int .i64 h.a.row.n,.int .i64 h.a.col.a,.int .i64 h.a.col.n,.bool h.a.fr,.bool h.a.fc,.int .i64 h.b.row.a,.int .i64 h.b.row.n,.int .i64 h.b.col.a,.int .i64 h.b.col.n,.bool h.b.fr,.bool h.b.fc] rfl) Tryz.underlying38 rfl jW
   ·refine G.gn 19 22 rfl rfl rfl ?_;rintro rfl;simp[execOp,go_sem,e3x]
   ·refine G.gn 19 23 rfl rfl rfl ?_;rintro rfl;have p22:=G.d 22 rfl;exact aW 38 (.tmp 28) rfl (q+1) 8 p22 _ _ (HLb.out.sub 8 [.int .i64 h'.a.row.a,.int .i64 h'.a.row.n,.int .i64 h'.a.col.a,.int .i64 h'.a.col.n,.bool h'.a.fr,.bool h'.a.fc,.int .i64 h'.b.row.a,.int .i64 h'.b.row.n,.int .i64 h'.b.col.a,.int .i64 h'.b.col.n,.bool h'.b.fr,.bool h'.b.fc] rfl) Tryz.underlying38 rfl jW
   ·refine G.gn 19 24 rfl rfl rfl ?_;rintro rfl;simp[execOp,go_sem,G.t 21 rfl,G.t 23 rfl,hea]
   ·cases c2
    all_goals have p19:=G.d 19 rfl
    all_goals have p24:=G.d 24 rfl
    all_goals exact G.nl 25 rfl (by simp[execOp,go_sem,aF p19,aF p24,s9])
   ·exact G.nl 26 rfl (by simp[execOp,go_sem,G.t 25 rfl])
   ·refine G.gn 26 27 rfl rfl rfl ?_;rintro rfl;simp[execOp,go_sem,e2x]
   ·refine G.gn 26 28 rfl rfl rfl ?_;rintro rfl;have xq:w1.cell? ⟨q,20,none⟩=some (.int .i64 h.rows):=ju.out.cell 20;simp[execOp,go_sem,G.t 27 rfl,xq]
   ·refine G.gn 26 29 rfl rfl rfl ?_;rintro rfl;simp[execOp,go_sem,e3x]
   ·refine G.gn 26 30 rfl rfl rfl ?_;rintro rfl;have xq:w1.cell? ⟨(q+1),20,none⟩=some (.int .i64 h'.rows):=HLb.out.cell 20;simp[execOp,go_sem,G.t 29 rfl,xq]
   ·refine G.gn 26 31 rfl rfl rfl ?_;rintro rfl;simp[execOp,go_sem,G.t 28 rfl,G.t 30 rfl,hd4]
   ·cases c3
    all_goals have p26:=G.d 26 rfl
    all_goals have p31:=G.d 31 rfl
    all_goals exact G.nl 32 rfl (by simp[execOp,go_sem,aF p26,aF p31,hc4])
   ·exact G.nl 33 rfl (by simp[execOp,go_sem,G.t 32 rfl])
   ·refine G.gn 33 34 rfl rfl rfl ?_;rintro rfl;simp[execOp,go_sem,e2x]
   ·refine G.gn 33 35 rfl rfl rfl ?_;rintro rfl;have xq:w1.cell? ⟨q,21,none⟩=some (.slice A l.length cp):=ju.out.cell 21;simp[execOp,go_sem,G.t 34 rfl,xq]
   ·refine G.gn 33 36 rfl rfl rfl ?_;rintro rfl;simp[go_sem,G.t 35 rfl]
   ·refine G.gn 33 37 rfl rfl rfl ?_;rintro rfl;simp[execOp,go_sem,e3x]
   ·refine G.gn 33 38 rfl rfl rfl ?_;rintro rfl;have xq:w1.cell? ⟨(q+1),21,none⟩=some (.slice A' l'.length qy):=HLb.out.cell 21;simp[execOp,go_sem,G.t 37 rfl,xq]
   ·refine G.gn 33 39 rfl rfl rfl ?_;rintro rfl;simp[go_sem,G.t 38 rfl]
   ·refine G.gn 33 40 rfl rfl rfl ?_;rintro rfl;simp[execOp,go_sem,G.t 36 rfl,G.t 39 rfl,hd5]
   cases c4
   all_goals have p33:=G.d 33 rfl
   all_goals have p40:=G.d 40 rfl
   all_goals exact G.nl 41 rfl (by simp[execOp,go_sem,aF p33,aF p40,hc5])
  intro zl a1 w1 hI aw;obtain rfl:w1=W2:=hI.st;have ae:=aq.out;subst ae;have z47:=hI.ptk 41 rfl (aw 41 (by decide));obtain⟨ff,rfl,hf⟩:=hI.off.forms;rw[<- hf 47]at z47;clear hI;simp only[List.foldl,Act.put,yz,List.set];rw[z47];simp only[Exit.then]
  go_step
  go_meet
  exact⟨by rw[HD.out,Bool.not_not],zh rfl⟩
 case rest=>
  obtain⟨rfl,hcut⟩:=hcut;have qd:=hcut.out;subst qd;have au:Hid (Below w.heap.size w wc):=zh (by rw[hQ];exact co.out);cases bb
  ·have HR:Hid ((NodeH.same h h'&&jL l l')=false):=zh (by have h1:=rf.out;rw[Bool.and_eq_false_iff]at h1;exact h1.elim (fun h1=>by rw[h1];rfl) (fun h1=>by rw[yA (of_decide_eq_false h1),Bool.and_false]))
   go_wp2_with fail
   go_ret
   exact⟨by first|exact aI HR.out.symm|exact aI rfl,co.out⟩
  have HH:=rf.out;rw[yh]at HH;have HLL:=zh (of_decide_eq_true HH.2);have HR:Hid ((NodeH.same h h'&&jL l l')=jL l l'):=zh (by rw[HH.1,Bool.true_and]);clear HH rf oq HEV
  go_wp2_with fail
  go_loopw [5] (fun v wr=>∃ i:Nat,i<=l.length/\v=.int .i64 (i:Int)/\Hid (Below wc.heap.size wc wr/\∀ j (hj:j<i) (h1:j<l.length) (h2:j<l'.length),l[j].same l'[j]=true)) (fun v _=>l.length-(intOf v).toNat)
  case atStart=>exact⟨0,zm _,rfl,zh ⟨Below.refl _ _,fun j hj=>absurd hj (by omega)⟩⟩
  case round=>
   obtain⟨i,hi,rfl,hrel⟩:=hrel;have i7:=zh hrel.out.1;have HPr:=zh hrel.out.2;clear hrel;have hx:=(ju.out.next i7.out).cell 21;have hy:=(HLb.out.next i7.out).cell 21;simp only[za,zb,zf]at hx hy;by_cases hlt:i<l.length
   ·have hlt':i<l'.length:=by have:=HLL.out;omega
    obtain⟨g,ci,rfl,sh,my⟩:=jR HK.out i hlt;obtain⟨g',ci',rfl,hc22',hci'⟩:=jR HK'.out i hlt';have HLT:=zh hlt;have vg:Hid (∀ W',Below wc.heap.size wc W'->W'.rangeAt g (i*22) ci/\W'.rangeAt g' (i*22) ci'/\TreeIn W' l[i] ci.toArray/\TreeIn W' l'[i] ci'.toArray):=zh (fun W' hb=>by have jn:Kp [] w W':=(Kp.of_below au.out).trans (Kp.of_below hb);exact⟨(my W' jn).1,(hci' W' jn).1,(my W' jn).2,(hci' W' jn).2⟩);clear my hci';have zi:(Tryz.prog.info? 41).map (·.size)=some ci.length:=by rw[sh];exact aE
    have hinf':(Tryz.prog.info? 41).map (·.size)=some ci'.length:=by rw[hc22'];exact aE
    have hib:(i:Int)<=1000000:=by have:=ir.out;omega
    have ux:(i:Int)<(l.length:Int):=by omega
    have hli':(i:Int)<(l'.length:Int):=by omega
    have CI:=zh (fun W' (hb:Below wc.heap.size wc W')=>IH.out i hlt (l'[i]'hlt') ci.toArray ci'.toArray W' (vg.out W' hb).2.2.1 (vg.out W' hb).2.2.2);obtain⟨b,hb⟩:∃ b,(l[i]'hlt).same (l'[i]'hlt')=b:=⟨_,rfl⟩
    rw[hb]at CI;have HBv:=zh hb;clear hb
    go_upto_region 6 with fail
    clear hx hy
    go_cut [66] (fun v wx=>v=.bool (!b)/\Hid (Below wc.heap.size wc wx))
    case first=>
     obtain⟨P0,kh⟩:∃ R:World->Prop,∀ w',R w'↔(Below wc.heap.size wc w'):=⟨_,fun _=>Iff.rfl⟩
     have fs:=zh kh;clear kh;obtain⟨P1,qc⟩:∃ R:World->Prop,∀ w',R w'↔(Below wc.heap.size wc w'):=⟨_,fun _=>Iff.rfl⟩
     have ki:=zh qc;clear qc;obtain⟨TT,ae⟩:∃ TT:List (Nat×Nat×Value),TT=[(0,55,.pointer (some ⟨q,21,none⟩)),(1,56,.slice (some ⟨g,0,none⟩) l.length cp),(2,57,.int .i64 (i:Int)),(3,58,.pointer (some ⟨g,i*22,none⟩)),(4,59,.agg ci.toArray),(5,60,.pointer (some ⟨q+1,21,none⟩)),(6,61,.slice (some ⟨g',0,none⟩) l'.length qy),(7,62,.int .i64 (i:Int)),(8,63,.pointer (some ⟨g',i*22,none⟩)),(9,64,.agg ci'.toArray),(10,65,.bool b),(11,66,.bool (!b))]:=⟨_,rfl⟩
     have aq:=zh ae;clear ae;refine bO (fun a0=>67<=a0.tmps.size/\a0.eval (.tmp 2)=.pointer (some ⟨q,0,none⟩)/\a0.eval (.tmp 3)=.pointer (some ⟨q+1,0,none⟩)/\a0.eval (.tmp 5)=.int .i64 (i:Int)) [55,56,57,58,59,60,61,62,63,64,65,66] TT [(10,P1)] P0 (by kernel_rfl) (by kernel_rfl) ⟨by simp,rfl,rfl,rfl⟩ ((fs.out _).2 (i7.out.trans ((Below.refl _ _).drew.mono i7.out.size))) ?_ ?_
     ·rintro a0 ⟨hs,ma,mu,ub⟩ zl a1 w1 zj o bg hI aa ho zd;have ae:=aq.out;subst ae;have hk:okU (([(0,55,.pointer (some ⟨q,21,none⟩)),(1,56,.slice (some ⟨g,0,none⟩) l.length cp),(2,57,.int .i64 (i:Int)),(3,58,.pointer (some ⟨g,i*22,none⟩)),(4,59,.agg ci.toArray),(5,60,.pointer (some ⟨q+1,21,none⟩)),(6,61,.slice (some ⟨g',0,none⟩) l'.length qy),(7,62,.int .i64 (i:Int)),(8,63,.pointer (some ⟨g',i*22,none⟩)),(9,64,.agg ci'.toArray),(10,65,.bool b),(11,66,.bool (!b))]:List (Nat×Nat×Value)).map fun e=>(e.1,e.2.1)) [55,56,57,58,59,60,61,62,63,64,65,66] 67=true:=by rfl
      have hj:=Up.of_false aa;have hj12:zj<12:=by rw[bg]at hj;exact hj
      have e2x:a1.eval (.tmp 2)=.pointer (some ⟨q,0,none⟩):=(hI.off.eval (by decide)).trans ma;have e3x:a1.eval (.tmp 3)=.pointer (some ⟨q+1,0,none⟩):=(hI.off.eval (by decide)).trans mu;have e5x:a1.eval (.tmp 5)=.int .i64 (i:Int):=(hI.off.eval (by decide)).trans ub;(iterate 11 rcases zq hj12 with hj12|rfl);obtain rfl:=cz hj12;all_goals obtain rfl:=oi ho
      ·exact aX hk hI hs (.head _) (by simp) aa ho zd (aD rfl) rfl (by simp[execOp,go_sem,aF e2x])
      ·have d0:=ud zd 0;have p0:=pk hI.pt 0 rfl d0;have hq:w1.cell? ⟨q,21,none⟩=some (.slice (some ⟨g,0,none⟩) l.length cp):=by
        obtain⟨jj,re,hP⟩:=hI.low 0 (by simp) (fun m hm=>by obtain rfl:=Option.some.inj hm;kernel_rfl) aa;rcases(by omega:jj=0) with rfl;have hP:P0 w1:=hP;have hW:=(fs.out _).1 hP;exact(ju.out.next hW).cell 21
       exact aX hk hI hs (.tail _ (.head _)) (by simp) aa ho zd (aD rfl) rfl (by simp[execOp,go_sem,aF p0,hq])
      ·exact aX hk hI hs (mm 2 rfl) (by simp) aa ho zd (aD rfl) rfl (by simp[execOp,go_sem,aF e5x])
      ·have d1:=ud zd 1;have p1:=pk hI.pt 1 rfl d1;have d2:=ud zd 2;have p2:=pk hI.pt 2 rfl d2;exact aX hk hI hs (mm 3 rfl) (by simp) aa ho zd (aD rfl) rfl (by simp[execOp,go_sem,aF p1,aF p2,ux])
      ·have d3:=ud zd 3;have p3:=pk hI.pt 3 rfl d3;have hq:w1.rangeAt g (i*22) ci:=by
        obtain⟨jj,re,hP⟩:=hI.low 0 (by simp) (fun m hm=>by obtain rfl:=Option.some.inj hm;kernel_rfl) aa;rcases(by omega:jj=0) with rfl;have hP:P0 w1:=hP;exact(vg.out _ ((fs.out _).1 hP)).1
       exact aX hk hI hs (mm 4 rfl) (by simp) aa ho zd (aD rfl) rfl (aW 41 (.tmp 58) rfl _ _ p3 _ _ hq Tryz.underlying41 rfl zi)
      ·exact aX hk hI hs (mm 5 rfl) (by simp) aa ho zd (aD rfl) rfl (by simp[execOp,go_sem,aF e3x])
      ·have d5:=ud zd 5;have p5:=pk hI.pt 5 rfl d5;have hq:w1.cell? ⟨(q+1),21,none⟩=some (.slice (some ⟨g',0,none⟩) l'.length qy):=by
        obtain⟨jj,re,hP⟩:=hI.low 0 (by simp) (fun m hm=>by obtain rfl:=Option.some.inj hm;kernel_rfl) aa;rcases(by omega:jj=0) with rfl;have hP:P0 w1:=hP;have hW:=(fs.out _).1 hP;exact(HLb.out.next hW).cell 21
       exact aX hk hI hs (mm 6 rfl) (by simp) aa ho zd (aD rfl) rfl (by simp[execOp,go_sem,aF p5,hq])
      ·exact aX hk hI hs (mm 7 rfl) (by simp) aa ho zd (aD rfl) rfl (by simp[execOp,go_sem,aF e5x])
      ·have d6:=ud zd 6;have p6:=pk hI.pt 6 rfl d6;have d7:=ud zd 7;have p7:=pk hI.pt 7 rfl d7;exact aX hk hI hs (mm 8 rfl) (by simp) aa ho zd (aD rfl) rfl (by simp[execOp,go_sem,aF p6,aF p7,hli'])
      ·have d8:=ud zd 8;have p8:=pk hI.pt 8 rfl d8;have hq:w1.rangeAt g' (i*22) ci':=by
        obtain⟨jj,re,hP⟩:=hI.low 0 (by simp) (fun m hm=>by obtain rfl:=Option.some.inj hm;kernel_rfl) aa;rcases(by omega:jj=0) with rfl;have hP:P0 w1:=hP;exact(vg.out _ ((fs.out _).1 hP)).2.1
       exact aX hk hI hs (mm 9 rfl) (by simp) aa ho zd (aD rfl) rfl (aW 41 (.tmp 63) rfl _ _ p8 _ _ hq Tryz.underlying41 rfl hinf')
      ·have d4:=ud zd 4;have p4:=pk hI.pt 4 rfl d4;have d9:=ud zd 9;have p9:=pk hI.pt 9 rfl d9;refine kR hk hI hs (mm 10 rfl) (by kernel_rfl) [] [] P1 rfl aa ho zd (aD rfl) rfl (fun hP=>?_);have hP:P0 w1:=hP;refine jG (v:=.bool b) 12 #[.agg ci.toArray,.agg ci'.toArray] (by simp[go_sem,aF p4,aF p9]) ?_;have hW:=(fs.out _).1 hP;refine(CI.out w1 hW).mono ?_;rintro e w2 ⟨rfl,hb⟩;exact⟨rfl,rfl,(ki.out _).2 (hW.trans (hb.mono hW.size))⟩
      have d10:=ud zd 10;have p10:=pk hI.pt 10 rfl d10;exact aX hk hI hs (mm 11 rfl) (by simp) aa ho zd (aD rfl) rfl (by simp[execOp,go_sem,aF p10])
     intro zl a1 w1 hI aw;have ae:=aq.out;subst ae;have hF:P1 w1:=hI.st.last (fun m hm=>aw m.1 (by simp only[ym,List.not_mem_nil,or_false]at hm;rcases hm with rfl;all_goals simp));have z66:a1.eval (.tmp 66)=.bool (!b):=hI.pt (11,66,.bool (!b)) (mm 11 rfl) (aw 11 (by decide));obtain⟨ff,rfl,hf⟩:=hI.off.forms;rw[<- hf 66]at z66;clear hI;simp only[List.foldl,Act.put,yz,List.set];rw[z66];have m4:=(ki.out _).1 hF;simp only[Exit.then]
     go_step
     go_meet
     exact⟨rfl,zh m4⟩
    case rest=>
     obtain⟨rfl,hcut⟩:=hcut;have HBn:=zh hcut.out;clear hcut CI vg;cases b
     ·have oc:Hid ((NodeH.same h h'&&jL l l')=false):=zh (by rw[HR.out];cases hs:jL l l' with|false=>rfl|true=>have:=(oA HLL.out).1 hs i hlt hlt';rw[HBv.out]at this;cases this)
      go_wp2_with fail
      go_ret
      exact⟨by first|exact aI oc.out.symm|exact aI rfl,au.out.trans (HBn.out.mono au.out.size)⟩
     go_wp2_with fail
     go_roundw
     case rel=>exact⟨i+1,by have:=HLT.out;omega,by go_num,zh ⟨HBn.out,fun j hj h1 h2=>(Nat.lt_or_ge j i).elim (fun hji=>HPr.out j hji h1 h2) (fun hji=>by have e:j=i:=(by omega);subst e;exact HBv.out)⟩⟩
     case measure=>have:=HLT.out;simp[intOf];omega
   have hie:i=l.length:=by omega
   have hnl:¬ ((i:Int)<(l.length:Int)):=by omega
   have oc:Hid ((NodeH.same h h'&&jL l l')=true):=zh (by rw[HR.out];exact(oA HLL.out).2 (fun j h1 h2=>HPr.out j (by omega) h1 h2))
   go_wp2_with fail
   go_ret
   exact⟨by first|exact aI oc.out.symm|exact aI rfl,by first|exact au.out.trans (i7.out.mono au.out.size) |(rw[<- hQ];exact au.out.trans (i7.out.mono au.out.size))⟩
theorem rR:∀ (l:List Tree) (x:Tree),dQ (l++[x])=max (dQ l) x.depth
 | [],x=>by simp[dQ]
 |t::l,x=>by rw[yp,dQ,dQ,rR l x];omega
theorem uAI(l:List Tree)(k:Nat)(h:k<l.length):dQ (l.take (k+1))=max (dQ (l.take k)) l[k].depth:=by rw[yw h,rR]
mutual
theorem oT:∀ t:Tree,t.depth<=t.size
 | .mk _ l=>by rw[Tree.depth,Tree.size];have:=mZ l;omega
theorem mZ:∀ l:List Tree,dQ l<=bH l
 | []=>zr
 |t::l=>by rw[dQ,bH];have:=oT t;have:=mZ l;omega
end
theorem uAJ(l:List Tree)(k:Nat):dQ (l.take k)<=bH l:=by
 have h:∀ (l:List Tree) k,bH (l.take k)<=bH l:=fun l=>by
  induction l with
  |nil=>intro k;simp
  |cons t l ih=>intro k;cases k with
   |zero=>simp[bH]
   |succ k=>rw[List.take_succ_cons,bH,bH];have:=ih k;omega
 exact yv (mZ _) (h l k)
set_option maxRecDepth 1000000 in
theorem uGC:∀ (n:Nat),n<=1000000->∀ (t:Tree) (cs:Array Value) (w:World),t.size<=n->TreeIn w t cs->Calls Tryz.prog 28 #[.agg cs] w fun e w'=>e=.returned (.int .i64 (t.depth:Nat))/\Below w.heap.size w w':=by
 intro n
 induction n with
 |zero=>intro _ t _ _ hs;cases t;simp[Tree.size]at hs
 |succ n ih=>
 intro av;rintro⟨h,l⟩ cs w hs ⟨A,cp,rfl,hk⟩;have IH:=zh (fun(i:Nat) (hi:i<l.length) cs W h1=>ih (by omega) (l[i]'hi) cs W (by have h9:(l[i]'hi).size<(Tree.mk h l).size:=iN (t:=.mk h l) (i:=i) hi;omega) h1);have ir:Hid (l.length<=1000000/\bH l<=1000000):=zh (by have h1:=dK l;have h2:bH l+1<=n+1:=hs;omega);clear ih;dsimp only[Tree.h,Tree.l]at hk ⊢;have HK:=zh hk;clear hk hs;have hS:(Tree.mk h l).depth=dQ l+1:=by rw[Tree.depth]
 rw[hS];clear hS;generalize b9:(w.alloc (.cells (bC h A l.length cp) 41))=W1;have HL:Hid (Lies W1 w.heap.size 41 (bC h A l.length cp)):=zh (by rw[<- b9];exact Lies.new _ _ _);have HB:Hid (Below w.heap.size w W1):=zh (by rw[<- b9];exact zp _);have cy:=zh b9;clear b9
 go_enter Tryz.func28,Tryz.ntmps28
 go_upto_region 1 with fail
 rw[cy.out];clear cy;generalize hQ:w.heap.size=q at *
 go_wp2_with fail
 go_loopw [3,4] (fun d v wr=>∃ i:Nat,i<=l.length/\v=.int .i64 (i:Int)/\d=.int .i64 (dQ (l.take i):Nat)/\Hid (Below W1.heap.size W1 wr)) (fun _ v _=>l.length-(intOf v).toNat)
 case atStart=>exact⟨0,zm _,rfl,rfl,zh (Below.refl _ _)⟩
 case round=>
  obtain⟨i,hi,rfl,rfl,i7⟩:=hrel;have hx:=(HL.out.next i7.out).cell 21;simp only[za,zb,zf]at hx;by_cases hlt:i<l.length
  ·obtain⟨g,ci,rfl,sh,my⟩:=jR HK.out i hlt;have au:Hid (Below w.heap.size w wr):=zh (by rw[hQ];exact HB.out.trans (i7.out.mono (by rw[<- hQ];exact HB.out.size)));obtain⟨hra,hti⟩:=my wr (Kp.of_below au.out);have HRA:=zh hra;have HC:=zh (IH.out i hlt ci.toArray wr hti);have HDS:=zh (uAI l i hlt);have hdb:((l[i]'hlt).depth:Int)<=1000000:=by
    have h1:=oT (l[i]'hlt);have h2:(l[i]'hlt).size<(Tree.mk h l).size:=iN (t:=.mk h l) (i:=i) hlt;have h3:(Tree.mk h l).size=bH l+1:=by rw[Tree.size]
    have:=ir.out.2;omega
   generalize (l[i]'hlt).depth=dk at *;have zi:(Tryz.prog.info? 41).map (·.size)=some ci.length:=by rw[sh];exact aE
   clear my hra hti;have ux:(i:Int)<(l.length:Int):=by omega
   have hib:(i:Int)<=1000000:=by have:=ir.out.1;omega
   go_wp2_with (first |(refine yr rfl 41 (.tmp 16) rfl g (i*22) rfl ci _ HRA.out Tryz.underlying41 rfl zi ?_))
   refine HC.out.mono ?_;rintro e w2 ⟨rfl,hb⟩;have cg:Hid (Below W1.heap.size W1 w2):=zh (i7.out.trans (hb.mono i7.out.size));clear hb HC
   go_wp2_with fail
   go_roundw
   case rel=>exact⟨i+1,by omega,by go_num,by rw[HDS.out];exact congrArg _ (by omega),cg⟩
   case measure=>simp[intOf];omega
  have hnl:¬ ((i:Int)<(l.length:Int)):=by omega
  have HDE:Hid (dQ (l.take i)=dQ l):=zh (by rw[List.take_of_length_le (by omega)]);have hdb:(dQ (l.take i):Int)<=1000000:=by have h1:=uAJ l i;have:=ir.out.2;omega
  generalize dQ (l.take i)=dd at *
  go_wp2_with fail
  go_ret
  refine⟨?_,?_⟩
  ·rw[<- HDE.out];rfl
  have h2:Below q w wr:=by have h3:=HB.out;exact h3.trans (i7.out.mono (by have:=h3.size;omega))
  first|exact h2 |(rw[hQ];exact h2)
theorem xU(h:NodeH)(A:Option Addr)(n c:Nat)(w:World)(hb:¬ (h.kind=0/\h.v.kind=1/\h.v.mant<0)) :
  Calls Tryz.prog 29 #[dO h A n c] w fun e w'=>e=.returned (.bool false)/\Below w.heap.size w w':=by
 obtain⟨W1,dv⟩:∃ W1,W1=w.alloc (.cells (bC h A n c) 41):=⟨_,rfl⟩
 have cy:=zh dv;have HL:Hid (Lies W1 w.heap.size 41 (bC h A n c)):=zh (by rw[dv];exact Lies.new _ _ _);have HB:Hid (Below w.heap.size w W1):=zh (by rw[dv];exact zp _);clear dv;have x0:=HL.out.cell 0;have x1:=HL.out.cell 1;have x2:=HL.out.cell 2;simp only[za,zb,zf]at x0 x1 x2;by_cases h0:h.kind=0
 ·by_cases h1:h.v.kind=1
  ·have h2:¬ h.v.mant<0:=fun h2=>hb ⟨h0,h1,h2⟩
   rw[h0]at x0;rw[h1]at x1;clear hb
   go_enter Tryz.func29,Tryz.ntmps29
   go_upto_region 1 with fail
   rw[<- cy.out];generalize hq:w.heap.size=q at *
   go_wp2_with fail
   go_ret
   exact⟨rfl,by first|exact HB.out |(rw[hq];exact HB.out)⟩
  rw[h0]at x0;clear hb
  go_enter Tryz.func29,Tryz.ntmps29
  go_upto_region 1 with fail
  rw[<- cy.out];generalize hq:w.heap.size=q at *
  go_wp2_with fail
  go_ret
  exact⟨rfl,by first|exact HB.out |(rw[hq];exact HB.out)⟩
 clear hb
 go_enter Tryz.func29,Tryz.ntmps29
 go_upto_region 1 with fail
 rw[<- cy.out];generalize hq:w.heap.size=q at *
 go_wp2_with fail
 go_ret
 exact⟨rfl,by first|exact HB.out |(rw[hq];exact HB.out)⟩
mutual
def Tree.pre:Tree->List Tree
 | .mk h l=>.mk h l::vJ l
def vJ:List Tree->List Tree
 | []=>[]
 |t::r=>t.pre++vJ r
end
theorem xS:∀ (l:List Tree) (x:Tree),vJ (l++[x])=vJ l++x.pre
 | [],x=>by simp[vJ]
 |t::l,x=>by rw[yp,vJ,vJ,xS l x,List.append_assoc]
theorem uGQ(l:List Tree)(k:Nat)(h:k<l.length):bH (l.take (k+1))=bH (l.take k)+l[k].size:=by rw[yw h,vU]
theorem uKI(l:List Tree)(k:Nat)(h:k<l.length):vJ (l.take (k+1))=vJ (l.take k)++l[k].pre:=by rw[yw h,xS]
theorem uGR(l:List Tree)(k:Nat):bH (l.take k)<=bH l:=by
 have h:∀ (l:List Tree) k,bH (l.take k)<=bH l:=fun l=>by
  induction l with
  |nil=>intro k;simp
  |cons t l ih=>intro k;cases k with
   |zero=>simp[bH]
   |succ k=>rw[List.take_succ_cons,bH,bH];have:=ih k;omega
 exact h l k
def PCells:List Value->List Tree->Prop
 |xs,[]=>xs=[]
 |xs,t::l=>∃ c r,xs=c++r/\c.length=22/\(∃ A cp,c.toArray=bC t.h A t.l.length cp)/\PCells r l
theorem PCells.app:∀ {xs ys:List Value} {l m:List Tree},PCells xs l->PCells ys m->PCells (xs++ys) (l++m)
 |xs,ys,[],m,h,h2=>by
  have h0:xs=[]:=h;subst h0;exact h2
 |xs,ys,t::l,m,⟨c,r,h1,h3,h4,h5⟩,h2=>⟨c,r++ys,by rw[h1,List.append_assoc],h3,h4,PCells.app h5 h2⟩
theorem uFO(h:NodeH)(A:Option Addr)(n c:Nat):(bC h A n c).all (·.oneCell')=true:=by simp[bC,Value.oneCell']
theorem PCells.one':∀ {xs:List Value} {l:List Tree},PCells xs l->∀ u∈xs,u.oneCell'=true
 |xs,[],h,u,hu=>by
  have h0:xs=[]:=h;subst h0;cases hu
 |xs,t::l,⟨c,r,h1,h3,⟨A,cp,h4⟩,h5⟩,u,hu=>by
  subst h1;rcases List.mem_append.1 hu with hu|hu
  ·have:=uFO t.h A t.l.length cp;rw[<- h4]at this;exact(Array.all_eq_true_iff_forall_mem.1 this) u (by simpa using hu)
  exact PCells.one' h5 u hu
theorem PCells.head{h:NodeH}{A:Option Addr}{n cp:Nat}(l:List Tree)(hl:l.length=n):PCells (bC h A n cp).toList [.mk h l]:=by
 refine⟨(bC h A n cp).toList,[],by simp,rfl,⟨A,cp,?_⟩,rfl⟩;rw[<- hl];rfl
theorem oE{ops:Array Oper}{rest:List Oper}{o:Oper}{a:Act}{w:World}{Q:Exit->Act->World->Prop}(hgd:o.guard=none)(s x:Operand)(ho:o.op=.call { callee:=.builtin .append,args:=#[s,x],argTypes:=#[39,39] })
  (base n m:Nat) (v:Value) (xs:List Value) (hs:a.eval s=v) (al:w.ownsRow base 41 22 v n xs) (hn:n+m<=3000000) (dq:base<=w.heap.size)
  (v2:Value) (b2:Nat) (news:List Value) (hx:a.eval x=v2) (hown2:w.ownsRow b2 41 22 v2 m news) (hm:0<m) (h1:∀ u∈news,u.oneCell'=true)
  (h:∀ A' c' w',w'.ownsRow base 41 22 (.slice A' (n+m) c') (n+m) (xs++news)->w.grownBy w' v.ownBlock->wpList Tryz.prog ops Q rest (a.put o.dst (.slice A' (n+m) c')) w'):wpList Tryz.prog ops Q (o::rest) a w:=by
 have hB:=xD;obtain⟨i,z,hi,bg,hz,hzc⟩:=jQ;rw[hi]at hB;simp at hB;obtain⟨g,cap,hv2,_,_,v8⟩:=zD hown2 hm;have kg:∀ j u,news[j]?=some u->w.cell? ((⟨g,0,none⟩:Addr).add j)=some u:=fun j u hj=>by
  have e:(⟨g,0,none⟩:Addr).add j=⟨g,j,none⟩:=by cases j <;> simp[Addr.add]
  rw[e];exact v8 j u hj
 refine wpList_append_own (P:=Tryz.prog) w hgd s x 39 ho base 41 i z 22 192 nU hi hz bg hB.2 hzc (by decide) v n xs hs al ⟨g,0,none⟩ m cap news (by rw[hx,hv2]) hown2.1 kg h1 (by unfold maxLen;omega) (by omega) dq (fun v' w' k1 k2 _=>?_);obtain⟨A',c',rfl⟩:=fE k1;exact h A' c' w' k1 k2
set_option maxRecDepth 1000000 in
theorem uGD:∀ (n:Nat),n<=1000000->∀ (t:Tree) (cs:Array Value) (w:World),t.size<=n->TreeIn w t cs->Calls Tryz.prog 14 #[.agg cs] w fun e w'=>∃ A c xs,e=.returned (.slice A t.size c)/\w'.ownsRow w.heap.size 41 22 (.slice A t.size c) t.size xs/\PCells xs t.pre/\Below w.heap.size w w':=by
 intro n
 induction n with
 |zero=>intro _ t _ _ hs;cases t;simp[Tree.size]at hs
 |succ n ih=>
 intro av;rintro⟨h,l⟩ cs w hs ⟨A,cp,rfl,hk⟩;have IH:=zh (fun(i:Nat) (hi:i<l.length) cs W h1=>ih (by omega) (l[i]'hi) cs W (by have h9:(l[i]'hi).size<(Tree.mk h l).size:=iN (t:=.mk h l) (i:=i) hi;omega) h1);have ir:Hid (l.length<=1000000/\bH l<=1000000):=zh (by have h1:=dK l;have h2:bH l+1<=n+1:=hs;omega);clear ih;dsimp only[Tree.h,Tree.l]at hk ⊢;have HK:=zh hk;clear hk hs;have hS:(Tree.mk h l).size=bH l+1:=by rw[Tree.size]
 have hP:(Tree.mk h l).pre=.mk h l::vJ l:=by rw[Tree.pre]
 rw[hS,hP];clear hS hP;generalize b9:(w.alloc (.cells (bC h A l.length cp) 41))=W1;have HL:Hid (Lies W1 w.heap.size 41 (bC h A l.length cp)):=zh (by rw[<- b9];exact Lies.new _ _ _);have HB:Hid (Below w.heap.size w W1):=zh (by rw[<- b9];exact zp _);have cy:=zh b9;clear b9;have cr:Hid (W1.heap.size=w.heap.size+1):=zh (by rw[<- cy.out];simp);have HHD:=zh (PCells.head (h:=h) (A:=A) (cp:=cp) l rfl);have r9:Hid ((W1.alloc (.cells (bC h A l.length cp) 41)).ownsRow W1.heap.size 41 22 (.slice (some ⟨W1.heap.size,0,none⟩) 1 1) 1 (bC h A l.length cp).toList):=zh ⟨rfl,.inr ⟨_,1,_,rfl,zr,heap_alloc_new _ _,zr,by unfold maxLen;omega,rfl,rfl⟩⟩;have vh:Hid (Below W1.heap.size W1 (W1.alloc (.cells (bC h A l.length cp) 41))):=zh (zp _)
 go_enter Tryz.func14,Tryz.ntmps14
 go_upto_region 1 with fail
 rw[cy.out];clear cy;generalize hQ:w.heap.size=q at *;have fm:=zh (HL.out.range);obtain⟨C,hC⟩:∃ C:List Value,C=(bC h A l.length cp).toList:=⟨_,rfl⟩
 have hCa:bC h A l.length cp=C.toArray:=by rw[hC]
 have ai:C.length=22:=by rw[hC];rfl
 rw[<- hC]at fm r9 HHD;rw[hCa]at r9 vh;have hinf0:(Tryz.prog.info? 41).map (·.size)=some C.length:=by rw[ai];exact aE
 generalize kq:W1.alloc (.cells C.toArray 41)=W2 at *
 go_wp2_with (first |(refine yr rfl 41 (.tmp 1) rfl q 0 rfl C _ fm.out Tryz.underlying41 rfl hinf0 ?_) |(refine mP rfl (.tmp 5) rfl C rfl ai W1.heap.size rfl (some 6) rfl ?_;rw[kq]))
 have HBQ:Hid (q+1=W1.heap.size):=zh cr.out.symm;clear hC hCa hinf0 fm
 go_loopw [3,4] (fun d v wr=>∃ (i:Nat) (A':Option Addr) (c':Nat) (xs:List Value),i<=l.length/\v=.int .i64 (i:Int)/\d=.slice A' (bH (l.take i)+1) c'/\Hid (wr.ownsRow W1.heap.size 41 22 (.slice A' (bH (l.take i)+1) c') (bH (l.take i)+1) xs)/\Hid (PCells xs (.mk h l::vJ (l.take i)))/\Hid (Below W1.heap.size W1 wr)) (fun _ v _=>l.length-(intOf v).toNat)
 case atStart=>exact⟨0,_,_,_,zm _,rfl,rfl,r9,HHD,vh⟩
 case round=>
  obtain⟨i,A',c',xs,hi,rfl,rfl,HO,HP,i7⟩:=hrel;have hx:=(HL.out.next i7.out).cell 21;simp only[za,zb,zf]at hx;by_cases hlt:i<l.length
  ·obtain⟨g,ci,rfl,sh,my⟩:=jR HK.out i hlt;have au:Hid (Below w.heap.size w wr):=zh (by rw[hQ];exact HB.out.trans (i7.out.mono (by rw[<- hQ];exact HB.out.size)));obtain⟨hra,hti⟩:=my wr (Kp.of_below au.out);have HRA:=zh hra;have HC:=zh (IH.out i hlt ci.toArray wr hti);have HSS:=zh (uGQ l i hlt);have HPS:=zh (uKI l i hlt);have HDB:Hid ((l[i]'hlt).size<=1000000/\0<(l[i]'hlt).size/\bH (l.take i)<=1000000):=zh (by
    have h2:(l[i]'hlt).size<(Tree.mk h l).size:=iN (t:=.mk h l) (i:=i) hlt;have h3:(Tree.mk h l).size=bH l+1:=by rw[Tree.size]
    have h4:=uGR l i;have:=ir.out.2;refine⟨by omega,?_,by omega⟩;cases l[i]'hlt;exact Nat.succ_pos _)
   generalize (l[i]'hlt).size=dk at *;generalize (l[i]'hlt).pre=dp at *;generalize bH (l.take i)=sk at *;have zi:(Tryz.prog.info? 41).map (·.size)=some ci.length:=by rw[sh];exact aE
   clear my hra hti;have ux:(i:Int)<(l.length:Int):=by omega
   have hib:(i:Int)<=1000000:=by have:=ir.out.1;omega
   go_wp2_with (first |(refine yr rfl 41 (.tmp 18) rfl g (i*22) rfl ci _ HRA.out Tryz.underlying41 rfl zi ?_))
   refine HC.out.mono ?_;rintro e w2 ⟨A2,c2,ys,rfl,ho2,sy,hb⟩;have gy:=zh ho2;have xr:=zh sy;have HOa:=zh (HO.out.kept (oJ hb none) (Classical.em _));have cg:Hid (Below W1.heap.size W1 w2):=zh (i7.out.trans (hb.mono i7.out.size));have HON:=zh (xr.out.one');have HSB:Hid (W1.heap.size<=w2.heap.size):=zh cg.out.size;clear hb HC ho2 sy
   go_wp2_with (first |(refine oE rfl (.tmp 14) (.tmp 20) rfl W1.heap.size (sk+1) dk _ xs rfl HOa.out (by have:=HDB.out;omega) HSB.out _ _ ys rfl gy.out HDB.out.2.1 HON.out ?_;intro A3 c3 w3 k1 k2;have K1:=zh k1;have K2:=zh k2;clear k1 k2))
   have di:Hid (Below W1.heap.size W1 w3):=zh (cg.out.grown K2.out HSB.out (fun k hk=>(HOa.out.lt k hk).1))
   go_roundw
   case rel=>exact⟨i+1,A3,c3,xs++ys,by omega,by go_num,by rw[HSS.out,show sk+dk+1=sk+1+dk by omega],zh (by rw[HSS.out,show sk+dk+1=sk+1+dk by omega];exact K1.out),zh (by rw[HPS.out];exact PCells.app HP.out xr.out),di⟩
   case measure=>simp[intOf];omega
  have hnl:¬ ((i:Int)<(l.length:Int)):=by omega
  have e:l.take i=l:=List.take_of_length_le (by omega);rw[e]at HO HP ⊢;clear e
  go_wp2_with fail
  go_ret
  have h2:Below q w wr:=by have h3:=HB.out;exact h3.trans (i7.out.mono (by have:=h3.size;omega))
  have h4:=own_le HO.out (show q<=W1.heap.size by have:=HBQ.out;omega);exact⟨A',c',rfl,xs,h4,HP.out,h2⟩
def awakeB:Bool:=match aR ⟨[],[]⟩ [45,50,94,50] with
 | .ok t=>decide (t.h.kind=6)&&decide (t.h.name=[94])&&decide (t.l.length=2)&&(match t.l with
  |x::_=>decide (x.h.kind=5)
  | []=>false)
 | .error _=>false
theorem zX:awakeB=true:=by decide +kernel
theorem uDR:∃ t x y,aR ⟨[],[]⟩ [45,50,94,50]=.ok t/\t.h.kind=6/\t.h.name=[94]/\t.l=[x,y]/\x.h.kind=5:=by
 have h:=zX;unfold awakeB at h;cases hp:aR ⟨[],[]⟩ [45,50,94,50] with
 |error e=>rw[hp]at h;cases h
 |ok t=>
  rw[hp]at h;simp only[yh,decide_eq_true_eq]at h;obtain⟨⟨⟨h1,h2⟩,h3⟩,h4⟩:=h
  match hl:t.l,h3,h4 with
  | [x,y],_,h4=>exact⟨t,x,y,rfl,h1,h2,hl,of_decide_eq_true h4⟩
theorem eB:∀ (t:Tree),t.same t=true:=by
 have key:∀ n (t:Tree),t.size<=n->t.same t=true:=by
  intro n
  induction n with
  |zero=>intro t h;have:=vV t;omega
  |succ n ih=>
   rintro⟨h,l⟩ hs;unfold Tree.same;rw[fV,Bool.true_and];refine(oA rfl).2 (fun i h1 _=>ih _ ?_);have:=iN (t:=.mk h l) (i:=i) h1;show l[i].size<=n;have h9:(l[i]'h1).size<(Tree.mk h l).size:=this;omega
 exact fun t=>key _ t zr
theorem tab_lo{w:World}(h:Tab w):0+1<=w.heap.size:=h.lt
theorem dG(h:NodeH)(A:Option Addr)(n c:Nat):(bC h A n c).all (·.oneCell')=true:=by simp[bC,Value.oneCell']
set_option maxRecDepth 100000 in
theorem tH(w:World)(hT:Tab w) :
  Calls Tryz.prog 8 #[] w fun e w'=>e=.returned (.bool true)/\Below w.heap.size w w':=by
 obtain⟨t,x,y,hp,hk,hn,hl,hx⟩:=uDR;have CF:=rV ⟨[],[]⟩ (yI [] []) none none (0+1) [45,50,94,50] w (by decide) hT rfl rfl (tab_lo hT) ⟨Nat.lt_succ_self _,fun b e=>(by cases e),fun b e=>(by cases e),fun b e=>(by cases e)⟩;rw[hp]at CF;have HCF:=zh CF;have HH:=zh (And.intro hk (And.intro hn (And.intro hl hx)));clear CF hp hk hn hl hx hT
 go_enter Tryz.func8,Tryz.ntmps8
 go_wp2_with fail
 refine HCF.out.mono ?_;rintro e W1 ⟨-,-,jn,-,A,cp,rfl,uc⟩;have hks2:KidsOk W1 (List.range w.heap.size) A t.l:=uc;rw[show (nO (.ok t:Except (Nat×Nat) Tree))=t from rfl]at *;rw[HH.out.2.2.1]at hks2 ⊢;obtain⟨g',hA,hgx,o5,hka⟩:∃ g',A=some ⟨g',0,none⟩/\g'∉List.range w.heap.size/\g'<W1.heap.size/\KidsAt W1 (List.range w.heap.size) g' 0 [x,y]:=by
  rcases hks2 with h|h
  ·cases h
  exact h
 subst hA;have hkid:W1.cell? ⟨g',0,none⟩=some (.int .i64 5):=by
  have h1:=hka.1;obtain⟨xh,xl⟩:=x;obtain⟨A2,c2,h2,_⟩:=h1;have:=h2 0 (by decide);rw[Nat.zero_mul]at this;rw[this];show some (Value.int .i64 xh.kind)=_;rw[show xh.kind=5 from HH.out.2.2.2]
 have HK:=zh hkid;have eo:Hid (Below w.heap.size w W1):=zh (cU jn);obtain⟨C,hC⟩:∃ C:List Value,C=(bC t.h (some ⟨g',0,none⟩) 2 cp).toList:=⟨_,rfl⟩
 have hCa:dO t.h (some ⟨g',0,none⟩) [x,y].length cp=.agg C.toArray:=by rw[hC];rfl
 rw[hCa];have HC:Hid (C.length=22/\C.toArray.all (·.oneCell')=true/\C.toArray=bC t.h (some ⟨g',0,none⟩) 2 cp):=zh (by rw[hC];exact⟨rfl,dG _ _ _ _,rfl⟩);have zi:(Tryz.prog.info? 41).map (·.size)=some C.toArray.size:=by rw[yd,HC.out.1];exact aE
 have HT:Hid (World.there (W1.alloc (.cells aA.toArray 41)) W1.heap.size 0 C.toArray.size):=zh (by have:=(Lies.new W1 41 aA.toArray).thereA;have h0:C.toArray.size=22:=(by rw[yd,HC.out.1]);rw[h0];exact this);have HZ:Hid (Below W1.heap.size W1 (World.setCells (W1.alloc (.cells aA.toArray 41)) W1.heap.size 0 C)/\Lies (World.setCells (W1.alloc (.cells aA.toArray 41)) W1.heap.size 0 C) W1.heap.size 41 C.toArray):=zh ⟨cU (aQ (.inr zr) C 0 ((Kp.refl _ _).alloc _)),(Lies.new W1 41 aA.toArray).putAll (by rw[HC.out.1];rfl)⟩;simp only[aA]at HZ;clear hC hCa uc hks2 hka hgx jn hkid HCF
 go_upto_region 2 with(first |(refine yq rfl 41 (.tmp 1) (.tmp 6) rfl W1.heap.size 0 C.toArray rfl rfl HT.out zi HC.out.2.1 ?_;change wpList _ _ _ _ _ (World.setCells _ W1.heap.size 0 C);generalize World.setCells _ _ _ _=wz at HZ ⊢))
 have hl2:=HZ.out.2;rw[HC.out.2.2]at hl2;have k0:wz.cell? ⟨W1.heap.size,0,none⟩=some (.int .i64 6):=by rw[hl2.cell 0,<- HH.out.1];rfl
 have k7:wz.cell? ⟨W1.heap.size,7,none⟩=some (.string ⟨#[94]⟩):=by rw[hl2.cell 7];show some (Value.string ⟨t.h.name.toArray⟩)=_;rw[HH.out.2.1]
 have k21:wz.cell? ⟨W1.heap.size,21,none⟩=some (.slice (some ⟨g',0,none⟩) 2 cp):=by rw[hl2.cell 21];rfl
 have kk:wz.cell? ⟨g',0,none⟩=some (.int .i64 5):=(HZ.out.1.cell (p:=⟨g',0,none⟩) o5).trans HK.out;clear hl2
 go_wp2_with fail
 go_ret
 exact⟨rfl,eo.out.trans (HZ.out.1.mono eo.out.size)⟩
set_option maxRecDepth 100000 in
theorem uEU(s:Bs)(A B C:Option Addr)(n1 n2 n3 c1 c2 c3:Nat)(w:World) :
  Calls Tryz.prog 9 #[.string ⟨s.toArray⟩,.slice A n1 c1,.slice B n2 c2,.slice C n3 c3] w fun e w'=>e=.returned (.bool (decide (1500<s.length)||decide (200<n1)||decide (200<n2)||decide (200<n3)))/\w'=w:=by
 by_cases h0:1500<s.length
 all_goals by_cases h1:200<n1
 all_goals by_cases h2:200<n2
 all_goals by_cases h3:200<n3
 all_goals have i0:(decide ((1500:Int)<(s.length:Int)))=decide (1500<s.length):=by rw[decide_eq_decide];omega
 all_goals have i1:(decide ((200:Int)<(n1:Int)))=decide (200<n1):=by rw[decide_eq_decide];omega
 all_goals have i2:(decide ((200:Int)<(n2:Int)))=decide (200<n2):=by rw[decide_eq_decide];omega
 all_goals have i3:(decide ((200:Int)<(n3:Int)))=decide (200<n3):=by rw[decide_eq_decide];omega
 all_goals simp only[h0,h1,h2,h3,decide_true,decide_false]at i0 i1 i2 i3 ⊢
 all_goals go_enter Tryz.func9,Tryz.ntmps9
 all_goals go_wp2_with fail
 all_goals go_ret
 all_goals exact⟨rfl,rfl⟩
structure LSt(ax:Ax)(qa qb:Nat)(w W:World):Prop where
 a:AxIn W (some qa) ax.rows
 b:AxIn W (some qb) ax.cols
 tb:Tab W
 tl:0<w.heap.size
 ba:w.heap.size<=qa
 lt:qa<qb
 qs:qb<W.heap.size
 bel:Below w.heap.size w W
theorem LSt.next{ax:Ax}{qa qb:Nat}{w W W':World}(h:LSt ax qa qb w W)(hb:Below W.heap.size W W'):LSt ax qa qb w W' :=
 ⟨dM h.a hb,dM h.b hb,h.tb.next hb,h.tl,h.ba,h.lt,yu h.qs hb.size,h.bel.trans (hb.mono h.bel.size)⟩
def NSt(qb:Nat)(q:Nat)(t:Tree)(x:Nat)(W:World):Prop:=qb<x/\x<=q/\∃ C:List Value,C.length=22/\Lies W q 41 C.toArray/\∃ A cp,C.toArray=bC t.h A t.l.length cp/\KidsOk W (List.range x) A t.l
theorem NSt.next{qb q x:Nat}{t:Tree}{W W':World}(h:NSt qb q t x W)(hb:Below W.heap.size W W'):NSt qb q t x W':=by
 obtain⟨h1,h2,C,h3,h4,A,cp,h5,h6⟩:=h;exact⟨h1,h2,C,h3,h4.next hb,A,cp,h5,h6.kp (Kp.of_below hb)⟩
theorem NSt.kp{qa qb q x:Nat}{t:Tree}{W W':World}(h:NSt qb q t x W)(hk:Kp [qa,qb] W W')(hlt:qa<qb):NSt qb q t x W':=by
 obtain⟨h1,h2,C,h3,h4,A,cp,h5,h6⟩:=h;refine⟨h1,h2,C,h3,hk.lies h4 (by simp;omega),A,cp,h5,h6.kp (hk.mono (fun k hk _=>?_))⟩;simp at hk;exact yg.2 (by omega)
def FRes(qa qb:Nat)(ax:Ax)(w W:World)(r:Except (Nat×Nat) Tree)(e:Ending)(W':World):Prop :=
 LSt ax qa qb w W'/\(∀ q t x,NSt qb q t x W->NSt qb q t x W')/\W.heap.size<=W'.heap.size/\(nO r).size<=256 /\
  ∃ C:List Value,e=.returned (.tuple #[.agg C.toArray,.int .i64 (uCT r:Nat),.int .i64 (uCS r:Nat)])/\C.length=22/\C.toArray.all (·.oneCell')=true /\
   (∃ A cp,C.toArray=bC (nO r).h A (nO r).l.length cp/\KidsOk W' (List.range W.heap.size) A (nO r).l)
theorem uBG(ax:Ax)(ha:lU ax)(qa qb:Nat)(w W:World)(s:Bs)(h:LSt ax qa qb w W)(hs:s.length<=50000) :
  Calls Tryz.prog 11 #[.string ⟨s.toArray⟩,.pointer (some ⟨qa,0,none⟩),.pointer (some ⟨qb,0,none⟩)] W (FRes qa qb ax w W (aR ax s)):=by
 have hlo:w.heap.size<=W.heap.size:=h.bel.size;have hB:AxB (some qa) (some qb) w.heap.size:=⟨h.tl,fun b e=>(by cases e;exact h.ba),fun b e=>(by cases e;have:=h.ba;have:=h.lt;omega),fun b e e2=>(by cases e;cases e2;exact absurd h.lt (Nat.lt_irrefl _))⟩
 refine(rV ax ha (some qa) (some qb) w.heap.size s W hs h.tb h.a h.b hlo hB).mono ?_;rintro e W' ⟨f1,f2,f3,f5,A,cp,rfl,f4⟩;have f6:(nO (aR ax s)).size<=256:=by
  cases hr:aR ax s with
  |ok t=>exact(f5 t hr).2
  |error x=>show tree0.size<=256;decide
 have hk:Kp [qa,qb] W W':=f3;have ti:Below w.heap.size W W':=hk.below (fun k hm=>by simp at hm;have:=h.ba;have:=h.lt;omega) hlo;refine⟨⟨f1,f2,h.tb.below ti h.tl,h.tl,h.ba,h.lt,yu h.qs hk.size,h.bel.trans ti⟩,fun q t x hn=>hn.kp hk h.lt,hk.size,f6,(bC (nO (aR ax s)).h A (nO (aR ax s)).l.length cp).toList,rfl,rfl,dG _ _ _ _,A,cp,rfl,f4⟩
theorem nX{qa qb:Nat}{ax:Ax}{w W W':World}{t:Tree}{C:List Value}(h:LSt ax qa qb w W')(hq:qb<W.heap.size)(hs:W.heap.size<=W'.heap.size)(hC:C.length=22)(hk:∃ A cp,C.toArray=bC t.h A t.l.length cp/\KidsOk W' (List.range W.heap.size) A t.l) :
  Below W'.heap.size W' (World.setCells (W'.alloc (.cells aA.toArray 41)) W'.heap.size 0 C)/\NSt qb W'.heap.size t W.heap.size (World.setCells (W'.alloc (.cells aA.toArray 41)) W'.heap.size 0 C)/\LSt ax qa qb w (World.setCells (W'.alloc (.cells aA.toArray 41)) W'.heap.size 0 C)/\(∀ q t x,NSt qb q t x W'->NSt qb q t x (World.setCells (W'.alloc (.cells aA.toArray 41)) W'.heap.size 0 C)):=by
 have hb:Below W'.heap.size W' (World.setCells (W'.alloc (.cells aA.toArray 41)) W'.heap.size 0 C):=cU (aQ (.inr zr) C 0 ((Kp.refl _ _).alloc _));obtain⟨A,cp,h5,h6⟩:=hk;exact⟨hb,⟨hq,hs,C,hC,(Lies.new W' 41 aA.toArray).putAll (by rw[hC];rfl),A,cp,h5,h6.kp (Kp.of_below hb)⟩,h.next hb,fun q t x hn=>hn.next hb⟩
theorem cH{W':World}{C:List Value}(hC:C.length=22):World.there (W'.alloc (.cells aA.toArray 41)) W'.heap.size 0 C.toArray.size:=by
 have:=(Lies.new W' 41 aA.toArray).thereA;have h0:C.toArray.size=22:=by rw[yd,hC]
 rw[h0];exact this
theorem mH{w w':World}{A:Option Addr}{ids:List IdR}(h:mR w A ids)(hb:Below w.heap.size w w'):mR w' A ids:=fun h0=>by
 obtain⟨g,o,e,hr⟩:=h h0;exact⟨g,o,e,hr.at hb.size (hb.block g hr.1)⟩
theorem kQ(s:Bs)(A B C:Option Addr)(n1 n2 n3 c1 c2 c3:Nat)(w:World)(b:Bool)(hb:(decide (1500<s.length)||decide (200<n1)||decide (200<n2)||decide (200<n3))=b) :
  Calls Tryz.prog 9 #[.string ⟨s.toArray⟩,.slice A n1 c1,.slice B n2 c2,.slice C n3 c3] w fun e w'=>e=.returned (.bool b)/\w'=w:=by
 subst hb;exact uEU s A B C n1 n2 n3 c1 c2 c3 w
end Go.Proofs.YtmgjidnalpgegaaGreatDoor
