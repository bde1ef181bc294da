/-
  Lemmas, part 25: PaG PaY PaZ PlLv RkD RkG RkA.
-/
import Derived.Test.YtmgjidnalpgegaaGreatDoorPr24
set_option maxHeartbeats 100000000
namespace Go.Proofs.YtmgjidnalpgegaaGreatDoor
open Go.RowKit
set_option maxRecDepth 1000000 in
theorem dF:∀ (n:Nat),n<=1000000->∀ (t t':Tree) (cs r7:Array Value) (w:World),t.size<=n->TreeIn w t cs->TreeIn w t' r7->Calls Tryz.prog 12 #[.agg cs,.agg r7] w fun e w'=>e=.returned (.bool (t.same t'))/\Below w.heap.size w w':=by
 intro n
 induction n with
 |zero=>intro _ t _ _ _ _ hs;cases t;simp[Tree.size]at hs
 |succ n ih=>
 intro au;rintro⟨h,l⟩ ⟨h',l'⟩ cs r7 w hs ⟨A,cp,rfl,hk⟩ ⟨A',rg,rfl,mg⟩;have IH:=zh (fun(i:Nat) (hi:i<l.length) t' cs r7 W h1 h2=>ih (by omega) (l[i]'hi) t' cs r7 W (by have h9:(l[i]'hi).size<(Tree.mk h l).size:=gN (t:=.mk h l) (i:=i) hi;omega) h1 h2);have iq:Hid (l.length<=1000000):=zh (by have h1:=cV l;have h2:bB l+1<=n+1:=hs;omega);clear ih;dsimp only[Tree.h,Tree.l]at hk mg ⊢;have HK:=zh hk;have HK':=zh mg;clear hk mg hs;have hS:Tree.same (.mk h l) (.mk h' l')=(NodeH.same h h'&&iN l l'):=rfl;rw[hS];clear hS;generalize cf:(w.alloc (.cells (aY h A l.length cp) 41))=W1;have HLa:Hid (Lies W1 w.heap.size 41 (aY h A l.length cp)):=zh (by rw[<- cf];exact Lies.new _ _ _);have HBa:Hid (Below w.heap.size w W1):=zh (by rw[<- cf];exact zp _);have t8:W1.heap.size=w.heap.size+1:=by rw[<- cf];simp
 generalize hL2:(W1.alloc (.cells (aY h' A' l'.length rg) 41))=W2;have HLb:Hid (Lies W2 (w.heap.size+1) 41 (aY h' A' l'.length rg)):=zh (by rw[<- hL2,<- t8];exact Lies.new _ _ _);have mn:Hid (Below W1.heap.size W1 W2):=zh (by rw[<- hL2];exact zp _);have jt:=zh (HLa.out.next mn.out);have cq:Hid (Below w.heap.size w W2):=zh (HBa.out.trans (mn.out.mono HBa.out.size));have ot:=zh neq_area;have HEV:=zh neq_val;clear HLa HBa mn;have bu:=zh cf;have HW2:=zh hL2;have c8:=zh t8;clear cf hL2 t8
 go_enter Tryz.func12,Tryz.ntmps12
 go_upto_region 1 with fail
 rw[bu.out,HW2.out];clear bu HW2;generalize hQ:w.heap.size=q at *;obtain⟨bb,kb⟩:∃ bb,(NodeH.same h h'&&decide (l.length=l'.length))=bb:=⟨_,rfl⟩
 have rh:=zh kb;clear kb
 go_cut [47] (fun v wx=>v=.bool (!bb)/\Hid (wx=W2))
 case first=>
  have hea:=ot.out h.a h.b h'.a h'.b;have hev:=HEV.out h.v h'.v;dsimp only[arV]at hea;obtain⟨d0,hd0⟩:∃ x,(h.kind != h'.kind)=x:=⟨_,rfl⟩
  obtain⟨d1,hd1⟩:∃ x,(!cG h.v h'.v)=x:=⟨_,rfl⟩
  obtain⟨d2,qy⟩:∃ x,decide (h.name≠h'.name)=x:=⟨_,rfl⟩
  obtain⟨d3,hd3⟩:∃ x,(!(decide (h.a=h'.a)&&decide (h.b=h'.b)))=x:=⟨_,rfl⟩
  obtain⟨d4,hd4⟩:∃ x,(h.rows != h'.rows)=x:=⟨_,rfl⟩
  obtain⟨d5,hd5⟩:∃ x,((l.length:Int) != (l'.length:Int))=x:=⟨_,rfl⟩
  rw[hd1]at hev;rw[hd3]at hea;have hd2':(h.name==h'.name)=!d2:=by rw[<- qy,ze];simp
  obtain⟨c1,fg⟩:∃ x,x=(d0||d1):=⟨_,rfl⟩
  obtain⟨c2,gw⟩:∃ x,x=(c1||d2):=⟨_,rfl⟩
  obtain⟨c3,s7⟩:∃ x,x=(c2||d3):=⟨_,rfl⟩
  obtain⟨c4,hc4⟩:∃ x,x=(c3||d4):=⟨_,rfl⟩
  obtain⟨c5,hc5⟩:∃ x,x=(c4||d5):=⟨_,rfl⟩
  have HD:Hid (bb=!c5):=zh (by
   rw[hc5,hc4,s7,gw,fg,<- hd0,<- hd1,<- qy,<- hd3,<- hd4,<- hd5,<- rh.out];unfold NodeH.same;rw[show (h.kind != h'.kind)=!decide (h.kind=h'.kind) from by rw[ze];simp,show decide (h.name≠h'.name)=!(h.name==h'.name) from by rw[ze];simp,show (h.rows != h'.rows)=!decide (h.rows=h'.rows) from by rw[ze];simp,show ((l.length:Int) != (l'.length:Int))=!decide (l.length=l'.length) from by rw[ze];simp;omega];cases decide (h.kind=h'.kind) <;> cases cG h.v h'.v <;> cases (h.name==h'.name) <;> cases decide (h.a=h'.a) <;> cases decide (h.b=h'.b) <;> cases decide (h.rows=h'.rows) <;> cases decide (l.length=l'.length) <;> rfl)
  obtain⟨TT,ae⟩:∃ TT:List (Nat×Nat×Value),TT=((0,6,.pointer (some ⟨q,0,none⟩))::(1,7,.int .i64 h.kind)::(2,8,.pointer (some ⟨(q+1),0,none⟩))::(3,9,.int .i64 h'.kind)::(4,10,.bool d0)::(5,11,.bool d0)::(6,12,(bif d0 then undef else .pointer (some ⟨q,1,none⟩)))::(7,13,(bif d0 then undef else .agg ([.int .i64 h.v.kind,.int .i64 h.v.mant,.int .i64 h.v.exp,.string ⟨h.v.text.toArray⟩,.bool h.v.truth,.int .i64 h.v.fault]:List Value).toArray))::(8,14,(bif d0 then undef else .pointer (some ⟨(q+1),1,none⟩)))::(9,15,(bif d0 then undef else .agg ([.int .i64 h'.v.kind,.int .i64 h'.v.mant,.int .i64 h'.v.exp,.string ⟨h'.v.text.toArray⟩,.bool h'.v.truth,.int .i64 h'.v.fault]:List Value).toArray))::(10,16,(bif d0 then undef else .bool d1))::(11,17,.bool c1)::(12,18,.bool c1)::(13,19,(bif c1 then undef else .pointer (some ⟨q,7,none⟩)))::(14,20,(bif c1 then undef else .string ⟨h.name.toArray⟩))::(15,21,(bif c1 then undef else .pointer (some ⟨(q+1),7,none⟩)))::(16,22,(bif c1 then undef else .string ⟨h'.name.toArray⟩))::(17,23,(bif c1 then undef else .bool d2))::(18,24,.bool c2)::(19,25,.bool c2)::(20,26,(bif c2 then undef else .pointer (some ⟨q,8,none⟩)))::(21,27,(bif c2 then undef else .agg ([.int .i64 h.a.row.a,.int .i64 h.a.row.n,.int .i64 h.a.col.a,.int .i64 h.a.col.n,.bool h.a.fr,.bool h.a.fc,.int .i64 h.b.row.a,.int .i64 h.b.row.n,.int .i64 h.b.col.a,.int .i64 h.b.col.n,.bool h.b.fr,.bool h.b.fc]:List Value).toArray))::(22,28,(bif c2 then undef else .pointer (some ⟨(q+1),8,none⟩)))::(23,29,(bif c2 then undef else .agg ([.int .i64 h'.a.row.a,.int .i64 h'.a.row.n,.int .i64 h'.a.col.a,.int .i64 h'.a.col.n,.bool h'.a.fr,.bool h'.a.fc,.int .i64 h'.b.row.a,.int .i64 h'.b.row.n,.int .i64 h'.b.col.a,.int .i64 h'.b.col.n,.bool h'.b.fr,.bool h'.b.fc]:List Value).toArray))::(24,30,(bif c2 then undef else .bool d3))::(25,31,.bool c3)::(26,32,.bool c3)::(27,33,(bif c3 then undef else .pointer (some ⟨q,20,none⟩)))::(28,34,(bif c3 then undef else .int .i64 h.rows))::(29,35,(bif c3 then undef else .pointer (some ⟨(q+1),20,none⟩)))::(30,36,(bif c3 then undef else .int .i64 h'.rows))::(31,37,(bif c3 then undef else .bool d4))::(32,38,.bool c4)::(33,39,.bool c4)::(34,40,(bif c4 then undef else .pointer (some ⟨q,21,none⟩)))::(35,41,(bif c4 then undef else .slice A l.length cp))::(36,42,(bif c4 then undef else .int .i64 (l.length:Nat)))::(37,43,(bif c4 then undef else .pointer (some ⟨(q+1),21,none⟩)))::(38,44,(bif c4 then undef else .slice A' l'.length rg))::(39,45,(bif c4 then undef else .int .i64 (l'.length:Nat)))::(40,46,(bif c4 then undef else .bool d5))::(41,47,.bool c5)::[]):=⟨_,rfl⟩
  have am:=zh ae;clear ae;refine bD (fun a0=>67<=a0.tmps.size/\a0.eval (.tmp 2)=.pointer (some ⟨q,0,none⟩)/\a0.eval (.tmp 3)=.pointer (some ⟨q+1,0,none⟩)) (6::7::8::9::10::11::12::13::14::15::16::17::18::19::20::21::22::23::24::25::26::27::28::29::30::31::32::33::34::35::36::37::38::39::40::41::42::43::44::45::46::47::[]) TT [] (fun w'=>w'=W2) (by kernel_rfl) ⟨by simp,rfl,rfl⟩ rfl ?_ ?_
  ·rintro a0 ⟨hs,ls,j0⟩ zl a1 w1 zj o bg hI aa ho zd;obtain rfl:w1=W2:=hI.st;have ae:=am.out;have hk:okU (TT.map fun e=>(e.1,e.2.1)) (6::7::8::9::10::11::12::13::14::15::16::17::18::19::20::21::22::23::24::25::26::27::28::29::30::31::32::33::34::35::36::37::38::39::40::41::42::43::44::45::46::47::[]) 67=true:=by rw[ae];rfl
   subst ae;have e2x:=aE ((hI.off.eval (by decide)).trans ls);have e3x:=aE ((hI.off.eval (by decide)).trans j0);have hj:=Up.of_false aa;have hj12:zj<42:=by rw[bg]at hj;exact hj
   have G:RG _ _ _ _ _ _ _ _ _ _ _:=⟨hk,hI,hs,aa,ho,zd⟩
   (iterate 41 rcases zq hj12 with hj12|rfl);obtain rfl:=cz hj12;all_goals obtain rfl:=oi ho
   ·exact G.nl 0 rfl (by simp[execOp,go_sem,e2x])
   ·have xq:w1.cell? ⟨q,0,none⟩=some (.int .i64 h.kind):=jt.out.cell 0;exact G.nl 1 rfl (by simp[execOp,go_sem,G.t 0 rfl,xq])
   ·exact G.nl 2 rfl (by simp[execOp,go_sem,e3x])
   ·have xq:w1.cell? ⟨(q+1),0,none⟩=some (.int .i64 h'.kind):=HLb.out.cell 0;exact G.nl 3 rfl (by simp[execOp,go_sem,G.t 2 rfl,xq])
   ·exact G.nl 4 rfl (by simp[execOp,go_sem,G.t 1 rfl,G.t 3 rfl,hd0])
   ·exact G.nl 5 rfl (by simp[execOp,go_sem,G.t 4 rfl])
   ·refine G.gn 5 6 rfl rfl rfl ?_;rintro rfl;simp[execOp,go_sem,e2x]
   ·refine G.gn 5 7 rfl rfl rfl ?_;rintro rfl;have p6:=G.d 6 rfl;exact aL 32 (.tmp 12) rfl q 1 p6 _ _ (jt.out.sub 1 [.int .i64 h.v.kind,.int .i64 h.v.mant,.int .i64 h.v.exp,.string ⟨h.v.text.toArray⟩,.bool h.v.truth,.int .i64 h.v.fault] rfl) Tryz.underlying32 rfl jB
   ·refine G.gn 5 8 rfl rfl rfl ?_;rintro rfl;simp[execOp,go_sem,e3x]
   ·refine G.gn 5 9 rfl rfl rfl ?_;rintro rfl;have p8:=G.d 8 rfl;exact aL 32 (.tmp 14) rfl (q+1) 1 p8 _ _ (HLb.out.sub 1 [.int .i64 h'.v.kind,.int .i64 h'.v.mant,.int .i64 h'.v.exp,.string ⟨h'.v.text.toArray⟩,.bool h'.v.truth,.int .i64 h'.v.fault] rfl) Tryz.underlying32 rfl jB
   ·refine G.gn 5 10 rfl rfl rfl ?_;rintro rfl;simp[execOp,go_sem,G.t 7 rfl,G.t 9 rfl,hev]
   ·cases d0
    all_goals have p5:=G.d 5 rfl
    all_goals have p10:=G.d 10 rfl
    all_goals exact G.nl 11 rfl (by simp[execOp,go_sem,aE p5,aE p10,fg])
   ·exact G.nl 12 rfl (by simp[execOp,go_sem,G.t 11 rfl])
   ·refine G.gn 12 13 rfl rfl rfl ?_;rintro rfl;simp[execOp,go_sem,e2x]
   ·refine G.gn 12 14 rfl rfl rfl ?_;rintro rfl;have xq:w1.cell? ⟨q,7,none⟩=some (.string ⟨h.name.toArray⟩):=jt.out.cell 7;simp[execOp,go_sem,G.t 13 rfl,xq]
   ·refine G.gn 12 15 rfl rfl rfl ?_;rintro rfl;simp[execOp,go_sem,e3x]
   ·refine G.gn 12 16 rfl rfl rfl ?_;rintro rfl;have xq:w1.cell? ⟨(q+1),7,none⟩=some (.string ⟨h'.name.toArray⟩):=HLb.out.cell 7;simp[execOp,go_sem,G.t 15 rfl,xq]
   ·refine G.gn 12 17 rfl rfl rfl ?_;rintro rfl;simp[execOp,go_sem,G.t 14 rfl,G.t 16 rfl,hd2']
   ·cases c1
    all_goals have p12:=G.d 12 rfl
    all_goals have p17:=G.d 17 rfl
    all_goals exact G.nl 18 rfl (by simp[execOp,go_sem,aE p12,aE p17,gw])
   ·exact G.nl 19 rfl (by simp[execOp,go_sem,G.t 18 rfl])
   ·refine G.gn 19 20 rfl rfl rfl ?_;rintro rfl;simp[execOp,go_sem,e2x]
   ·refine G.gn 19 21 rfl rfl rfl ?_;rintro rfl;have p20:=G.d 20 rfl;exact aL 38 (.tmp 26) rfl q 8 p20 _ _ (jt.out.sub 8 [.int .i64 h.a.row.a,.int .i64 h.a.row.n,.int .i64 h.a.col.a,.int .i64 h.a.col.n,.bool h.a.fr,.bool h.a.fc,.int .i64 h.b.row.a,.int .i64 h.b.row.n,.int .i64 h.b.col.a,.int .i64 h.b.col.n,.bool h.b.fr,.bool h.b.fc] rfl) Tryz.underlying38 rfl jA
   ·refine G.gn 19 22 rfl rfl rfl ?_;rintro rfl;simp[execOp,go_sem,e3x]
   ·refine G.gn 19 23 rfl rfl rfl ?_;rintro rfl;have p22:=G.d 22 rfl;exact aL 38 (.tmp 28) rfl (q+1) 8 p22 _ _ (HLb.out.sub 8 [.int .i64 h'.a.row.a,.int .i64 h'.a.row.n,.int .i64 h'.a.col.a,.int .i64 h'.a.col.n,.bool h'.a.fr,.bool h'.a.fc,.int .i64 h'.b.row.a,.int .i64 h'.b.row.n,.int .i64 h'.b.col.a,.int .i64 h'.b.col.n,.bool h'.b.fr,.bool h'.b.fc] rfl) Tryz.underlying38 rfl jA
   ·refine G.gn 19 24 rfl rfl rfl ?_;rintro rfl;simp[execOp,go_sem,G.t 21 rfl,G.t 23 rfl,hea]
   ·cases c2
    all_goals have p19:=G.d 19 rfl
    all_goals have p24:=G.d 24 rfl
    all_goals exact G.nl 25 rfl (by simp[execOp,go_sem,aE p19,aE p24,s7])
   ·exact G.nl 26 rfl (by simp[execOp,go_sem,G.t 25 rfl])
   ·refine G.gn 26 27 rfl rfl rfl ?_;rintro rfl;simp[execOp,go_sem,e2x]
   ·refine G.gn 26 28 rfl rfl rfl ?_;rintro rfl;have xq:w1.cell? ⟨q,20,none⟩=some (.int .i64 h.rows):=jt.out.cell 20;simp[execOp,go_sem,G.t 27 rfl,xq]
   ·refine G.gn 26 29 rfl rfl rfl ?_;rintro rfl;simp[execOp,go_sem,e3x]
   ·refine G.gn 26 30 rfl rfl rfl ?_;rintro rfl;have xq:w1.cell? ⟨(q+1),20,none⟩=some (.int .i64 h'.rows):=HLb.out.cell 20;simp[execOp,go_sem,G.t 29 rfl,xq]
   ·refine G.gn 26 31 rfl rfl rfl ?_;rintro rfl;simp[execOp,go_sem,G.t 28 rfl,G.t 30 rfl,hd4]
   ·cases c3
    all_goals have p26:=G.d 26 rfl
    all_goals have p31:=G.d 31 rfl
    all_goals exact G.nl 32 rfl (by simp[execOp,go_sem,aE p26,aE p31,hc4])
   ·exact G.nl 33 rfl (by simp[execOp,go_sem,G.t 32 rfl])
   ·refine G.gn 33 34 rfl rfl rfl ?_;rintro rfl;simp[execOp,go_sem,e2x]
   ·refine G.gn 33 35 rfl rfl rfl ?_;rintro rfl;have xq:w1.cell? ⟨q,21,none⟩=some (.slice A l.length cp):=jt.out.cell 21;simp[execOp,go_sem,G.t 34 rfl,xq]
   ·refine G.gn 33 36 rfl rfl rfl ?_;rintro rfl;simp[go_sem,G.t 35 rfl]
   ·refine G.gn 33 37 rfl rfl rfl ?_;rintro rfl;simp[execOp,go_sem,e3x]
   ·refine G.gn 33 38 rfl rfl rfl ?_;rintro rfl;have xq:w1.cell? ⟨(q+1),21,none⟩=some (.slice A' l'.length rg):=HLb.out.cell 21;simp[execOp,go_sem,G.t 37 rfl,xq]
   ·refine G.gn 33 39 rfl rfl rfl ?_;rintro rfl;simp[go_sem,G.t 38 rfl]
   ·refine G.gn 33 40 rfl rfl rfl ?_;rintro rfl;simp[execOp,go_sem,G.t 36 rfl,G.t 39 rfl,hd5]
   cases c4
   all_goals have p33:=G.d 33 rfl
   all_goals have p40:=G.d 40 rfl
   all_goals exact G.nl 41 rfl (by simp[execOp,go_sem,aE p33,aE p40,hc5])
  intro zl a1 w1 hI ap;obtain rfl:w1=W2:=hI.st;have ae:=am.out;subst ae;have z47:=hI.ptk 41 rfl (ap 41 (by decide));obtain⟨ff,rfl,hf⟩:=hI.off.forms;rw[<- hf 47]at z47;clear hI;simp only[List.foldl,Act.put,yz,List.set];rw[z47];simp only[Exit.then]
  go_step
  go_meet
  exact⟨by rw[HD.out,Bool.not_not],zh rfl⟩
 case rest=>
  obtain⟨rfl,hcut⟩:=hcut;have ql:=hcut.out;subst ql;have aq:Hid (Below w.heap.size w wc):=zh (by rw[hQ];exact cq.out);cases bb
  ·have HR:Hid ((NodeH.same h h'&&iN l l')=false):=zh (by have h1:=rh.out;rw[Bool.and_eq_false_iff]at h1;exact h1.elim (fun h1=>by rw[h1];rfl) (fun h1=>by rw[wN (of_decide_eq_false h1),Bool.and_false]))
   go_wp2_with fail
   go_ret
   exact⟨by first|exact aI HR.out.symm|exact aI rfl,cq.out⟩
  have HH:=rh.out;rw[yh]at HH;have HLL:=zh (of_decide_eq_true HH.2);have HR:Hid ((NodeH.same h h'&&iN l l')=iN l l'):=zh (by rw[HH.1,Bool.true_and]);clear HH rh ot HEV
  go_wp2_with fail
  go_loopw [5] (fun v wr=>∃ i:Nat,i<=l.length/\v=.int .i64 (i:Int)/\Hid (Below wc.heap.size wc wr/\∀ j (hj:j<i) (h1:j<l.length) (h2:j<l'.length),l[j].same l'[j]=true)) (fun v _=>l.length-(intOf v).toNat)
  case atStart=>exact⟨0,zm _,rfl,zh ⟨Below.refl _ _,fun j hj=>absurd hj (by omega)⟩⟩
  case round=>
   obtain⟨i,hi,rfl,hrel⟩:=hrel;have i6:=zh hrel.out.1;have HPr:=zh hrel.out.2;clear hrel;have hx:=(jt.out.next i6.out).cell 21;have hy:=(HLb.out.next i6.out).cell 21;simp only[za,zb,zf]at hx hy;by_cases hlt:i<l.length
   ·have lg:i<l'.length:=by have:=HLL.out;omega
    obtain⟨g,ci,rfl,si,m9⟩:=iT HK.out i hlt;obtain⟨g',ci',rfl,hc22',hci'⟩:=iT HK'.out i lg;have uo:=zh hlt;have ux:Hid (∀ W',Below wc.heap.size wc W'->W'.rangeAt g (i*22) ci/\W'.rangeAt g' (i*22) ci'/\TreeIn W' l[i] ci.toArray/\TreeIn W' l'[i] ci'.toArray):=zh (fun W' hb=>by have gy:Kp [] w W':=(Kp.of_below aq.out).trans (Kp.of_below hb);exact⟨(m9 W' gy).1,(hci' W' gy).1,(m9 W' gy).2,(hci' W' gy).2⟩);clear m9 hci';have zi:(Tryz.prog.info? 41).map (·.size)=some ci.length:=by rw[si];exact aF
    have hinf':(Tryz.prog.info? 41).map (·.size)=some ci'.length:=by rw[hc22'];exact aF
    have hib:(i:Int)<=1000000:=by have:=iq.out;omega
    have rt:(i:Int)<(l.length:Int):=by omega
    have hli':(i:Int)<(l'.length:Int):=by omega
    have CI:=zh (fun W' (hb:Below wc.heap.size wc W')=>IH.out i hlt (l'[i]'lg) ci.toArray ci'.toArray W' (ux.out W' hb).2.2.1 (ux.out W' hb).2.2.2);obtain⟨b,hb⟩:∃ b,(l[i]'hlt).same (l'[i]'lg)=b:=⟨_,rfl⟩
    rw[hb]at CI;have HBv:=zh hb;clear hb
    go_upto_region 6 with fail
    clear hx hy
    go_cut [66] (fun v wx=>v=.bool (!b)/\Hid (Below wc.heap.size wc wx))
    case first=>
     obtain⟨P0,j4⟩:∃ R:World->Prop,∀ w',R w'↔(Below wc.heap.size wc w'):=⟨_,fun _=>Iff.rfl⟩
     have ev:=zh j4;clear j4;obtain⟨P1,nh⟩:∃ R:World->Prop,∀ w',R w'↔(Below wc.heap.size wc w'):=⟨_,fun _=>Iff.rfl⟩
     have j5:=zh nh;clear nh;obtain⟨TT,ae⟩:∃ TT:List (Nat×Nat×Value),TT=[(0,55,.pointer (some ⟨q,21,none⟩)),(1,56,.slice (some ⟨g,0,none⟩) l.length cp),(2,57,.int .i64 (i:Int)),(3,58,.pointer (some ⟨g,i*22,none⟩)),(4,59,.agg ci.toArray),(5,60,.pointer (some ⟨q+1,21,none⟩)),(6,61,.slice (some ⟨g',0,none⟩) l'.length rg),(7,62,.int .i64 (i:Int)),(8,63,.pointer (some ⟨g',i*22,none⟩)),(9,64,.agg ci'.toArray),(10,65,.bool b),(11,66,.bool (!b))]:=⟨_,rfl⟩
     have am:=zh ae;clear ae;refine bC (fun a0=>67<=a0.tmps.size/\a0.eval (.tmp 2)=.pointer (some ⟨q,0,none⟩)/\a0.eval (.tmp 3)=.pointer (some ⟨q+1,0,none⟩)/\a0.eval (.tmp 5)=.int .i64 (i:Int)) [55,56,57,58,59,60,61,62,63,64,65,66] TT [(10,P1)] P0 (by kernel_rfl) (by kernel_rfl) ⟨by simp,rfl,rfl,rfl⟩ ((ev.out _).2 (i6.out.trans ((Below.refl _ _).drew.mono i6.out.size))) ?_ ?_
     ·rintro a0 ⟨hs,ls,j0,qo⟩ zl a1 w1 zj o bg hI aa ho zd;have ae:=am.out;subst ae;have hk:okU (([(0,55,.pointer (some ⟨q,21,none⟩)),(1,56,.slice (some ⟨g,0,none⟩) l.length cp),(2,57,.int .i64 (i:Int)),(3,58,.pointer (some ⟨g,i*22,none⟩)),(4,59,.agg ci.toArray),(5,60,.pointer (some ⟨q+1,21,none⟩)),(6,61,.slice (some ⟨g',0,none⟩) l'.length rg),(7,62,.int .i64 (i:Int)),(8,63,.pointer (some ⟨g',i*22,none⟩)),(9,64,.agg ci'.toArray),(10,65,.bool b),(11,66,.bool (!b))]:List (Nat×Nat×Value)).map fun e=>(e.1,e.2.1)) [55,56,57,58,59,60,61,62,63,64,65,66] 67=true:=by rfl
      have hj:=Up.of_false aa;have hj12:zj<12:=by rw[bg]at hj;exact hj
      have e2x:a1.eval (.tmp 2)=.pointer (some ⟨q,0,none⟩):=(hI.off.eval (by decide)).trans ls;have e3x:a1.eval (.tmp 3)=.pointer (some ⟨q+1,0,none⟩):=(hI.off.eval (by decide)).trans j0;have e5x:a1.eval (.tmp 5)=.int .i64 (i:Int):=(hI.off.eval (by decide)).trans qo;(iterate 11 rcases zq hj12 with hj12|rfl);obtain rfl:=cz hj12;all_goals obtain rfl:=oi ho
      ·exact aQ hk hI hs (.head _) (by simp) aa ho zd (aC rfl) rfl (by simp[execOp,go_sem,aE e2x])
      ·have d0:=ud zd 0;have p0:=pk hI.pt 0 rfl d0;have hq:w1.cell? ⟨q,21,none⟩=some (.slice (some ⟨g,0,none⟩) l.length cp):=by
        obtain⟨jj,oo,hP⟩:=hI.low 0 (by simp) (fun m hm=>by obtain rfl:=Option.some.inj hm;kernel_rfl) aa;rcases(by omega:jj=0) with rfl;have hP:P0 w1:=hP;have hW:=(ev.out _).1 hP;exact(jt.out.next hW).cell 21
       exact aQ hk hI hs (.tail _ (.head _)) (by simp) aa ho zd (aC rfl) rfl (by simp[execOp,go_sem,aE p0,hq])
      ·exact aQ hk hI hs (mm 2 rfl) (by simp) aa ho zd (aC rfl) rfl (by simp[execOp,go_sem,aE e5x])
      ·have d1:=ud zd 1;have p1:=pk hI.pt 1 rfl d1;have d2:=ud zd 2;have p2:=pk hI.pt 2 rfl d2;exact aQ hk hI hs (mm 3 rfl) (by simp) aa ho zd (aC rfl) rfl (by simp[execOp,go_sem,aE p1,aE p2,rt])
      ·have d3:=ud zd 3;have p3:=pk hI.pt 3 rfl d3;have hq:w1.rangeAt g (i*22) ci:=by
        obtain⟨jj,oo,hP⟩:=hI.low 0 (by simp) (fun m hm=>by obtain rfl:=Option.some.inj hm;kernel_rfl) aa;rcases(by omega:jj=0) with rfl;have hP:P0 w1:=hP;exact(ux.out _ ((ev.out _).1 hP)).1
       exact aQ hk hI hs (mm 4 rfl) (by simp) aa ho zd (aC rfl) rfl (aL 41 (.tmp 58) rfl _ _ p3 _ _ hq Tryz.underlying41 rfl zi)
      ·exact aQ hk hI hs (mm 5 rfl) (by simp) aa ho zd (aC rfl) rfl (by simp[execOp,go_sem,aE e3x])
      ·have d5:=ud zd 5;have p5:=pk hI.pt 5 rfl d5;have hq:w1.cell? ⟨(q+1),21,none⟩=some (.slice (some ⟨g',0,none⟩) l'.length rg):=by
        obtain⟨jj,oo,hP⟩:=hI.low 0 (by simp) (fun m hm=>by obtain rfl:=Option.some.inj hm;kernel_rfl) aa;rcases(by omega:jj=0) with rfl;have hP:P0 w1:=hP;have hW:=(ev.out _).1 hP;exact(HLb.out.next hW).cell 21
       exact aQ hk hI hs (mm 6 rfl) (by simp) aa ho zd (aC rfl) rfl (by simp[execOp,go_sem,aE p5,hq])
      ·exact aQ hk hI hs (mm 7 rfl) (by simp) aa ho zd (aC rfl) rfl (by simp[execOp,go_sem,aE e5x])
      ·have d6:=ud zd 6;have p6:=pk hI.pt 6 rfl d6;have d7:=ud zd 7;have p7:=pk hI.pt 7 rfl d7;exact aQ hk hI hs (mm 8 rfl) (by simp) aa ho zd (aC rfl) rfl (by simp[execOp,go_sem,aE p6,aE p7,hli'])
      ·have d8:=ud zd 8;have p8:=pk hI.pt 8 rfl d8;have hq:w1.rangeAt g' (i*22) ci':=by
        obtain⟨jj,oo,hP⟩:=hI.low 0 (by simp) (fun m hm=>by obtain rfl:=Option.some.inj hm;kernel_rfl) aa;rcases(by omega:jj=0) with rfl;have hP:P0 w1:=hP;exact(ux.out _ ((ev.out _).1 hP)).2.1
       exact aQ hk hI hs (mm 9 rfl) (by simp) aa ho zd (aC rfl) rfl (aL 41 (.tmp 63) rfl _ _ p8 _ _ hq Tryz.underlying41 rfl hinf')
      ·have d4:=ud zd 4;have p4:=pk hI.pt 4 rfl d4;have d9:=ud zd 9;have p9:=pk hI.pt 9 rfl d9;refine iQ hk hI hs (mm 10 rfl) (by kernel_rfl) [] [] P1 rfl aa ho zd (aC rfl) rfl (fun hP=>?_);have hP:P0 w1:=hP;refine iG (v:=.bool b) 12 #[.agg ci.toArray,.agg ci'.toArray] (by simp[go_sem,aE p4,aE p9]) ?_;have hW:=(ev.out _).1 hP;refine(CI.out w1 hW).mono ?_;rintro e w2 ⟨rfl,hb⟩;exact⟨rfl,rfl,(j5.out _).2 (hW.trans (hb.mono hW.size))⟩
      have d10:=ud zd 10;have p10:=pk hI.pt 10 rfl d10;exact aQ hk hI hs (mm 11 rfl) (by simp) aa ho zd (aC rfl) rfl (by simp[execOp,go_sem,aE p10])
     intro zl a1 w1 hI ap;have ae:=am.out;subst ae;have hF:P1 w1:=hI.st.last (fun m hm=>ap m.1 (by simp only[ym,List.not_mem_nil,or_false]at hm;rcases hm with rfl;all_goals simp));have z66:a1.eval (.tmp 66)=.bool (!b):=hI.pt (11,66,.bool (!b)) (mm 11 rfl) (ap 11 (by decide));obtain⟨ff,rfl,hf⟩:=hI.off.forms;rw[<- hf 66]at z66;clear hI;simp only[List.foldl,Act.put,yz,List.set];rw[z66];have ml:=(j5.out _).1 hF;simp only[Exit.then]
     go_step
     go_meet
     exact⟨rfl,zh ml⟩
    case rest=>
     obtain⟨rfl,hcut⟩:=hcut;have ri:=zh hcut.out;clear hcut CI ux;cases b
     ·have oh:Hid ((NodeH.same h h'&&iN l l')=false):=zh (by rw[HR.out];cases hs:iN l l' with|false=>rfl|true=>have:=(mT HLL.out).1 hs i hlt lg;rw[HBv.out]at this;cases this)
      go_wp2_with fail
      go_ret
      exact⟨by first|exact aI oh.out.symm|exact aI rfl,aq.out.trans (ri.out.mono aq.out.size)⟩
     go_wp2_with fail
     go_roundw
     case rel=>exact⟨i+1,by have:=uo.out;omega,by go_num,zh ⟨ri.out,fun j hj h1 h2=>(Nat.lt_or_ge j i).elim (fun hji=>HPr.out j hji h1 h2) (fun hji=>by have e:j=i:=(by omega);subst e;exact HBv.out)⟩⟩
     case measure=>have:=uo.out;simp[intOf];omega
   have uw:i=l.length:=by omega
   have zz:¬ ((i:Int)<(l.length:Int)):=by omega
   have oh:Hid ((NodeH.same h h'&&iN l l')=true):=zh (by rw[HR.out];exact(mT HLL.out).2 (fun j h1 h2=>HPr.out j (by omega) h1 h2))
   go_wp2_with fail
   go_ret
   exact⟨by first|exact aI oh.out.symm|exact aI rfl,by first|exact aq.out.trans (i6.out.mono aq.out.size) |(rw[<- hQ];exact aq.out.trans (i6.out.mono aq.out.size))⟩
def awakeB:Bool:=match bI ⟨[],[]⟩ [45,50,94,50] with
 | .ok t=>decide (t.h.kind=6)&&decide (t.h.name=[94])&&decide (t.l.length=2)&&(match t.l with
  |x::_=>decide (x.h.kind=5)
  | []=>false)
 | .error _=>false
theorem yH:awakeB=true:=by decide +kernel
theorem uBY:∃ t x y,bI ⟨[],[]⟩ [45,50,94,50]=.ok t/\t.h.kind=6/\t.h.name=[94]/\t.l=[x,y]/\x.h.kind=5:=by
 have h:=yH;unfold awakeB at h;cases hp:bI ⟨[],[]⟩ [45,50,94,50] with
 |error e=>rw[hp]at h;cases h
 |ok t=>
  rw[hp]at h;simp only[yh,decide_eq_true_eq]at h;obtain⟨⟨⟨h1,h2⟩,h3⟩,h4⟩:=h
  match hl:t.l,h3,h4 with
  | [x,y],_,h4=>exact⟨t,x,y,rfl,h1,h2,hl,of_decide_eq_true h4⟩
theorem dS:∀ (t:Tree),t.same t=true:=by
 have key:∀ n (t:Tree),t.size<=n->t.same t=true:=by
  intro n
  induction n with
  |zero=>intro t h;have:=uD t;omega
  |succ n ih=>
   rintro⟨h,l⟩ hs;unfold Tree.same;rw[fC,Bool.true_and];refine(mT rfl).2 (fun i h1 _=>ih _ ?_);have:=gN (t:=.mk h l) (i:=i) h1;show l[i].size<=n;have h9:(l[i]'h1).size<(Tree.mk h l).size:=this;omega
 exact fun t=>key _ t zr
theorem tab_lo{w:World}(h:Tab w):0+1<=w.heap.size:=h.lt
theorem cZ(h:NodeH)(A:Option Addr)(n c:Nat):(aY h A n c).all (·.oneCell')=true:=by simp[aY,Value.oneCell']
set_option maxRecDepth 100000 in
theorem uBX(w:World)(hT:Tab w) :
  Calls Tryz.prog 8 #[] w fun e w'=>e=.returned (.bool true)/\Below w.heap.size w w':=by
 obtain⟨t,x,y,hp,hk,hn,hl,hx⟩:=uBY;have CF:=mA ⟨[],[]⟩ (axOk_of [] []) none none (0+1) [45,50,94,50] w (by decide) hT rfl rfl (tab_lo hT) ⟨Nat.lt_succ_self _,fun b e=>(by cases e),fun b e=>(by cases e),fun b e=>(by cases e)⟩;rw[hp]at CF;have HCF:=zh CF;have HH:=zh (And.intro hk (And.intro hn (And.intro hl hx)));clear CF hp hk hn hl hx hT
 go_enter Tryz.func8,Tryz.ntmps8
 go_wp2_with fail
 refine HCF.out.mono ?_;rintro e W1 ⟨-,-,gy,-,A,cp,rfl,zo⟩;have hks2:KidsOk W1 (List.range w.heap.size) A t.l:=zo;rw[show (oA (.ok t:Except (Nat×Nat) Tree))=t from rfl]at *;rw[HH.out.2.2.1]at hks2 ⊢;obtain⟨g',hA,hgx,o6,hka⟩:∃ g',A=some ⟨g',0,none⟩/\g'∉List.range w.heap.size/\g'<W1.heap.size/\KidsAt W1 (List.range w.heap.size) g' 0 [x,y]:=by
  rcases hks2 with h|h
  ·cases h
  exact h
 subst hA;have hkid:W1.cell? ⟨g',0,none⟩=some (.int .i64 5):=by
  have h1:=hka.1;obtain⟨xh,xl⟩:=x;obtain⟨A2,c2,h2,_⟩:=h1;have:=h2 0 (by decide);rw[Nat.zero_mul]at this;rw[this];show some (Value.int .i64 xh.kind)=_;rw[show xh.kind=5 from HH.out.2.2.2]
 have HK:=zh hkid;have dy:Hid (Below w.heap.size w W1):=zh (dI gy);obtain⟨C,hC⟩:∃ C:List Value,C=(aY t.h (some ⟨g',0,none⟩) 2 cp).toList:=⟨_,rfl⟩
 have hCa:dA t.h (some ⟨g',0,none⟩) [x,y].length cp=.agg C.toArray:=by rw[hC];rfl
 rw[hCa];have HC:Hid (C.length=22/\C.toArray.all (·.oneCell')=true/\C.toArray=aY t.h (some ⟨g',0,none⟩) 2 cp):=zh (by rw[hC];exact⟨rfl,cZ _ _ _ _,rfl⟩);have zi:(Tryz.prog.info? 41).map (·.size)=some C.toArray.size:=by rw[yd,HC.out.1];exact aF
 have HT:Hid (World.there (W1.alloc (.cells aA.toArray 41)) W1.heap.size 0 C.toArray.size):=zh (by have:=(Lies.new W1 41 aA.toArray).thereA;have h0:C.toArray.size=22:=(by rw[yd,HC.out.1]);rw[h0];exact this);have HZ:Hid (Below W1.heap.size W1 (World.setCells (W1.alloc (.cells aA.toArray 41)) W1.heap.size 0 C)/\Lies (World.setCells (W1.alloc (.cells aA.toArray 41)) W1.heap.size 0 C) W1.heap.size 41 C.toArray):=zh ⟨dI (aT (.inr zr) C 0 ((Kp.refl _ _).alloc _)),(Lies.new W1 41 aA.toArray).putAll (by rw[HC.out.1];rfl)⟩;simp only[aA]at HZ;clear hC hCa zo hks2 hka hgx gy hkid HCF
 go_upto_region 2 with(first |(refine yq rfl 41 (.tmp 1) (.tmp 6) rfl W1.heap.size 0 C.toArray rfl rfl HT.out zi HC.out.2.1 ?_;change wpList _ _ _ _ _ (World.setCells _ W1.heap.size 0 C);generalize World.setCells _ _ _ _=wz at HZ ⊢))
 have hl2:=HZ.out.2;rw[HC.out.2.2]at hl2;have k0:wz.cell? ⟨W1.heap.size,0,none⟩=some (.int .i64 6):=by rw[hl2.cell 0,<- HH.out.1];rfl
 have k7:wz.cell? ⟨W1.heap.size,7,none⟩=some (.string ⟨#[94]⟩):=by rw[hl2.cell 7];show some (Value.string ⟨t.h.name.toArray⟩)=_;rw[HH.out.2.1]
 have k21:wz.cell? ⟨W1.heap.size,21,none⟩=some (.slice (some ⟨g',0,none⟩) 2 cp):=by rw[hl2.cell 21];rfl
 have kk:wz.cell? ⟨g',0,none⟩=some (.int .i64 5):=(HZ.out.1.cell (p:=⟨g',0,none⟩) o6).trans HK.out;clear hl2
 go_wp2_with fail
 go_ret
 exact⟨rfl,dy.out.trans (HZ.out.1.mono dy.out.size)⟩
set_option maxRecDepth 100000 in
theorem uDA(s:Bs)(A B C:Option Addr)(n1 n2 n3 c1 c2 c3:Nat)(w:World) :
  Calls Tryz.prog 9 #[.string ⟨s.toArray⟩,.slice A n1 c1,.slice B n2 c2,.slice C n3 c3] w fun e w'=>e=.returned (.bool (decide (1500<s.length)||decide (200<n1)||decide (200<n2)||decide (200<n3)))/\w'=w:=by
 by_cases h0:1500<s.length
 all_goals by_cases h1:200<n1
 all_goals by_cases h2:200<n2
 all_goals by_cases h3:200<n3
 all_goals have i0:(decide ((1500:Int)<(s.length:Int)))=decide (1500<s.length):=by rw[decide_eq_decide];omega
 all_goals have i1:(decide ((200:Int)<(n1:Int)))=decide (200<n1):=by rw[decide_eq_decide];omega
 all_goals have i2:(decide ((200:Int)<(n2:Int)))=decide (200<n2):=by rw[decide_eq_decide];omega
 all_goals have i3:(decide ((200:Int)<(n3:Int)))=decide (200<n3):=by rw[decide_eq_decide];omega
 all_goals simp only[h0,h1,h2,h3,decide_true,decide_false]at i0 i1 i2 i3 ⊢
 all_goals go_enter Tryz.func9,Tryz.ntmps9
 all_goals go_wp2_with fail
 all_goals go_ret
 all_goals exact⟨rfl,rfl⟩
structure LSt(ax:Ax)(qa qb:Nat)(w W:World):Prop where
 a:AxIn W (some qa) ax.rows
 b:AxIn W (some qb) ax.cols
 tb:Tab W
 tl:0<w.heap.size
 ba:w.heap.size<=qa
 lt:qa<qb
 qs:qb<W.heap.size
 bel:Below w.heap.size w W
theorem LSt.next{ax:Ax}{qa qb:Nat}{w W W':World}(h:LSt ax qa qb w W)(hb:Below W.heap.size W W'):LSt ax qa qb w W' :=
 ⟨dM h.a hb,dM h.b hb,h.tb.next hb,h.tl,h.ba,h.lt,yu h.qs hb.size,h.bel.trans (hb.mono h.bel.size)⟩
def NSt(qb:Nat)(q:Nat)(t:Tree)(x:Nat)(W:World):Prop:=qb<x/\x<=q/\∃ C:List Value,C.length=22/\Lies W q 41 C.toArray/\∃ A cp,C.toArray=aY t.h A t.l.length cp/\KidsOk W (List.range x) A t.l
theorem NSt.next{qb q x:Nat}{t:Tree}{W W':World}(h:NSt qb q t x W)(hb:Below W.heap.size W W'):NSt qb q t x W':=by
 obtain⟨h1,h2,C,h3,h4,A,cp,h5,h6⟩:=h;exact⟨h1,h2,C,h3,h4.next hb,A,cp,h5,h6.kp (Kp.of_below hb)⟩
theorem NSt.kp{qa qb q x:Nat}{t:Tree}{W W':World}(h:NSt qb q t x W)(hk:Kp [qa,qb] W W')(hlt:qa<qb):NSt qb q t x W':=by
 obtain⟨h1,h2,C,h3,h4,A,cp,h5,h6⟩:=h;refine⟨h1,h2,C,h3,hk.lies h4 (by simp;omega),A,cp,h5,h6.kp (hk.mono (fun k hk _=>?_))⟩;simp at hk;exact yg.2 (by omega)
theorem NSt.tree{qb q x:Nat}{t:Tree}{W:World}(h:NSt qb q t x W):∃ C:List Value,C.length=22/\Lies W q 41 C.toArray/\∀ W',Below W.heap.size W W'->TreeIn W' t C.toArray:=by
 obtain⟨h1,h2,C,h3,h4,A,cp,h5,h6⟩:=h;exact⟨C,h3,h4,fun W' hb=>⟨A,cp,h5,KidsOk.anti (fun y hy _=>by cases hy) (h6.kp (Kp.of_below hb))⟩⟩
def FRes(qa qb:Nat)(ax:Ax)(w W:World)(r:Except (Nat×Nat) Tree)(e:Ending)(W':World):Prop :=
 LSt ax qa qb w W'/\(∀ q t x,NSt qb q t x W->NSt qb q t x W')/\W.heap.size<=W'.heap.size/\(oA r).size<=256 /\
  ∃ C:List Value,e=.returned (.tuple #[.agg C.toArray,.int .i64 (resP r:Nat),.int .i64 (resE r:Nat)])/\C.length=22/\C.toArray.all (·.oneCell')=true /\
   (∃ A cp,C.toArray=aY (oA r).h A (oA r).l.length cp/\KidsOk W' (List.range W.heap.size) A (oA r).l)
theorem law_form(ax:Ax)(ha:lO ax)(qa qb:Nat)(w W:World)(s:Bs)(h:LSt ax qa qb w W)(hs:s.length<=50000) :
  Calls Tryz.prog 11 #[.string ⟨s.toArray⟩,.pointer (some ⟨qa,0,none⟩),.pointer (some ⟨qb,0,none⟩)] W (FRes qa qb ax w W (bI ax s)):=by
 have hlo:w.heap.size<=W.heap.size:=h.bel.size;have hB:AxB (some qa) (some qb) w.heap.size:=⟨h.tl,fun b e=>(by cases e;exact h.ba),fun b e=>(by cases e;have:=h.ba;have:=h.lt;omega),fun b e e2=>(by cases e;cases e2;exact absurd h.lt (Nat.lt_irrefl _))⟩
 refine(mA ax ha (some qa) (some qb) w.heap.size s W hs h.tb h.a h.b hlo hB).mono ?_;rintro e W' ⟨f1,f2,f3,f5,A,cp,rfl,f4⟩;have f6:(oA (bI ax s)).size<=256:=by
  cases hr:bI ax s with
  |ok t=>exact(f5 t hr).2
  |error x=>show uH.size<=256;decide
 have hk:Kp [qa,qb] W W':=f3;have m4:Below w.heap.size W W':=hk.below (fun k hm=>by simp at hm;have:=h.ba;have:=h.lt;omega) hlo;refine⟨⟨f1,f2,h.tb.below m4 h.tl,h.tl,h.ba,h.lt,yu h.qs hk.size,h.bel.trans m4⟩,fun q t x hn=>hn.kp hk h.lt,hk.size,f6,(aY (oA (bI ax s)).h A (oA (bI ax s)).l.length cp).toList,rfl,rfl,cZ _ _ _ _,A,cp,rfl,f4⟩
theorem uR(ax:Ax)(ha:lO ax)(s:Bs)(e p:Nat)(h:bI ax s=.error (e,p)):p<=s.length:=by
 unfold bI at h;cases hl:mX s with
 |error k=>
  rw[hl]at h;cases h;exact Nat.le_of_lt (pLex_err s _ hl)
 |ok ts=>
  rw[hl]at h;obtain⟨f1,f2,_⟩:=oQ s ts hl;have hE:=oL (ρ:=fun x y=>x.place<=s.length/\y.place<=s.length) (e:=cJ s.length) (e':=cJ s.length) id rfl (xD _ _ rfl rfl rfl ⟨zr,zr⟩) ts (fun t ht=>by
   have hp:t.place<=s.length:=by have:=(f1 t ht).hi;omega
   exact⟨(f1 t ht).k0,yB (f1 t ht) _ rfl rfl ⟨hp,hp⟩,hp⟩) f2
  have h:eR ax (ts++[cJ s.length])=.error (e,p):=h;rcases uG ha hE with⟨t,h1,_⟩|⟨k,_,h1,_⟩|⟨k,x,y,h1,_,h3,_⟩
  ·rw[h]at h1;cases h1
  ·rw[h]at h1;cases h1;exact zm _
  rw[h]at h1;cases h1;exact h3.1
theorem law_box{qa qb:Nat}{ax:Ax}{w W W':World}{t:Tree}{C:List Value}(h:LSt ax qa qb w W')(hq:qb<W.heap.size)(hs:W.heap.size<=W'.heap.size)(hC:C.length=22)(hk:∃ A cp,C.toArray=aY t.h A t.l.length cp/\KidsOk W' (List.range W.heap.size) A t.l) :
  Below W'.heap.size W' (World.setCells (W'.alloc (.cells aA.toArray 41)) W'.heap.size 0 C)/\NSt qb W'.heap.size t W.heap.size (World.setCells (W'.alloc (.cells aA.toArray 41)) W'.heap.size 0 C)/\LSt ax qa qb w (World.setCells (W'.alloc (.cells aA.toArray 41)) W'.heap.size 0 C)/\(∀ q t x,NSt qb q t x W'->NSt qb q t x (World.setCells (W'.alloc (.cells aA.toArray 41)) W'.heap.size 0 C)):=by
 have hb:Below W'.heap.size W' (World.setCells (W'.alloc (.cells aA.toArray 41)) W'.heap.size 0 C):=dI (aT (.inr zr) C 0 ((Kp.refl _ _).alloc _));obtain⟨A,cp,h5,h6⟩:=hk;exact⟨hb,⟨hq,hs,C,hC,(Lies.new W' 41 aA.toArray).putAll (by rw[hC];rfl),A,cp,h5,h6.kp (Kp.of_below hb)⟩,h.next hb,fun q t x hn=>hn.next hb⟩
theorem dR{W':World}{C:List Value}(hC:C.length=22):World.there (W'.alloc (.cells aA.toArray 41)) W'.heap.size 0 C.toArray.size:=by
 have:=(Lies.new W' 41 aA.toArray).thereA;have h0:C.toArray.size=22:=by rw[yd,hC]
 rw[h0];exact this
theorem iZ{w w':World}{A:Option Addr}{ids:List IdR}(h:kF w A ids)(hb:Below w.heap.size w w'):kF w' A ids:=fun h0=>by
 obtain⟨g,o,e,hr⟩:=h h0;exact⟨g,o,e,hr.at hb.size (hb.block g hr.1)⟩
theorem qK(s:Bs)(A B C:Option Addr)(n1 n2 n3 c1 c2 c3:Nat)(w:World)(b:Bool)(hb:(decide (1500<s.length)||decide (200<n1)||decide (200<n2)||decide (200<n3))=b) :
  Calls Tryz.prog 9 #[.string ⟨s.toArray⟩,.slice A n1 c1,.slice B n2 c2,.slice C n3 c3] w fun e w'=>e=.returned (.bool b)/\w'=w:=by
 subst hb;exact uDA s A B C n1 n2 n3 c1 c2 c3 w
def Cor.live(ax:Ax)(c:Cor):Prop:=(c.row=id0\/c.row∈ax.rows)/\(c.col=id0\/c.col∈ax.cols)
mutual
def Tree.live(ax:Ax):Tree->Prop
 | .mk h l=>(h.a.live ax/\h.b.live ax)/\kL ax l
def kL(ax:Ax):List Tree->Prop
 | []=>True
 |t::r=>t.live ax/\kL ax r
end
section
variable {ax:Ax}
theorem vX:Cor.live ax aG:=⟨.inl rfl,.inl rfl⟩
theorem mP(k:Int)(v:Val)(s:Bs)(r:Int):Tree.live ax (.mk ⟨k,v,s,aG,aG,r⟩ []):=⟨⟨vX,vX⟩,trivial⟩
theorem kM(k:Int)(v:Val)(s:Bs)(r:Int){l:List Tree}(h:kL ax l):Tree.live ax (.mk ⟨k,v,s,aG,aG,r⟩ l):=⟨⟨vX,vX⟩,h⟩
theorem zW:kL ax []:=trivial
theorem zX{t:Tree}(h:t.live ax):kL ax [t]:=⟨h,trivial⟩
theorem live_two{t x:Tree}(h:t.live ax)(h2:x.live ax):kL ax [t,x]:=⟨h,h2,trivial⟩
theorem nT:∀ {l:List Tree} {x:Tree},kL ax l->x.live ax->kL ax (l++[x])
 | [],_,_,h=>⟨h,trivial⟩
 |_::_,_,⟨h1,h2⟩,h=>⟨h1,nT h2 h⟩
def PV(ax:Ax)(P:List Tok->Nat->Out):Prop:=∀ ts c t av c1,P ts c=.ok t av c1->t.live ax
theorem oR:PV ax cX:=by
 intro ts c t av c1 h;unfold cX at h
 split at h
 ·cases h
 injection h with h _ _;subst h;exact mP _ _ _ _
theorem vF{ts:List Tok}{a:Cor}(h:fS ax ts=.ok a):a.live ax:=by
 unfold fS at h
 split at h
 ·cases h
 split at h
 ·cases h
 split at h
 ·cases h
 rename_i r hr
 split at h
 ·cases h
 rename_i k hk
 injection h with h;subst h;exact⟨.inr (List.mem_of_getElem? hr),.inr (List.mem_of_getElem? hk)⟩
theorem uCF:PV ax (kD ax):=by
 intro ts c t av c1 h;unfold kD at h
 split at h
 ·cases h
 rename_i a ha
 have h1:=vF ha
 split at h
 ·injection h with h _ _;subst h;exact⟨⟨h1,vX⟩,trivial⟩
 split at h
 ·split at h
  ·cases h
  rename_i b hb
  injection h with h _ _;subst h;exact⟨⟨h1,vF hb⟩,trivial⟩
 injection h with h _ _;subst h;exact⟨⟨h1,vX⟩,trivial⟩
theorem vW{row col:Bool}{ts:List Tok}{a:Cor}(h:eK ax row col ts=.ok a):a.live ax:=by
 unfold eK at h
 split at h
 ·cases h
 dsimp only at h
 split at h
 ·split at h
  ·cases h
  rename_i k hk
  injection h with h;subst h;exact⟨.inl rfl,.inr (List.mem_of_getElem? hk)⟩
 split at h
 ·split at h
  ·cases h
  rename_i r hr
  injection h with h;subst h;exact⟨.inr (List.mem_of_getElem? hr),.inl rfl⟩
 cases h
theorem nS:PV ax (gK ax):=by
 intro ts c t av c1 h;unfold gK at h
 split at h
 ·cases h
 rename_i a ha
 split at h
 ·split at h
  ·cases h
  rename_i b hb
  injection h with h _ _;subst h;exact⟨⟨vW ha,vW hb⟩,trivial⟩
 cases h
theorem xC:PV ax eJ:=by
 intro ts c t av c1 h;unfold eJ at h
 split at h
 ·split at h
  ·cases h
  split at h
  ·cases h
  injection h with h _ _;subst h;exact mP _ _ _ _
 exact oR ts c t av c1 h
theorem mat_live:∀ (f rows cols wide:Nat) (l:List Tree) (ts:List Tok) (c:Nat) (t:Tree) (av:List Tok) (c1:Nat),kL ax l->eP f rows cols wide l ts c=.ok t av c1->t.live ax:=by
 intro f
 induction f with
 |zero=>intro rows cols wide l ts c t av c1 _ h;cases h
 |succ f ih=>
  intro rows cols wide l ts c t av c1 hl h;unfold eP at h
  split at h
  ·cases h
  rename_i x ts2 c2 hx
  have hlx:=nT hl (xC _ _ _ _ _ hx)
  split at h
  ·exact ih _ _ _ _ _ _ _ _ _ hlx h
  split at h
  ·exact ih _ _ _ _ _ _ _ _ _ hlx h
  split at h
  ·injection h with h _ _;subst h;exact kM _ _ _ _ hlx
  cases h
theorem arg_live{W:List Tok->Nat->Out}(hW:PV ax W):PV ax (rK W):=by
 intro ts c t av c1 h;unfold rK at h
 split at h
 ·injection h with h _ _;subst h;exact mP _ _ _ _
 exact hW _ _ _ _ _ h
theorem uGO{W:List Tok->Nat->Out}(hW:PV ax W):∀ (f:Nat) (l:List Tree) (ts:List Tok) (c:Nat) (l1:List Tree) (av:List Tok) (c1:Nat),kL ax l->dX W f l ts c=.ok l1 av c1->kL ax l1:=by
 intro f
 induction f with
 |zero=>intro l ts c l1 av c1 _ h;cases h
 |succ f ih=>
  intro l ts c l1 av c1 hl h;unfold dX at h
  split at h
  ·cases h
  rename_i x ts2 c2 hx
  have hlx:=nT hl (arg_live hW _ _ _ _ _ hx)
  split at h
  ·injection h with h _ _;subst h;exact hlx
  split at h
  ·split at h
   ·cases h
   exact ih _ _ _ _ _ _ hlx h
  cases h
theorem uGY{W:Nat->List Tok->Nat->Out}(hW:∀ op,PV ax (W op))(op:Nat):PV ax (nG W op):=by
 intro ts c t av c1 h;unfold nG at h
 split at h
 ·cases h
 split at h
 ·cases h
 split at h
 ·cases h
 rename_i l ts2 c2 hl
 injection h with h _ _;subst h;refine kM _ _ _ _ ?_
 split at hl
 ·injection hl with hl _ _;subst hl;trivial
 exact uGO (hW _) _ _ _ _ _ _ _ zW hl
theorem uII{W:Nat->List Tok->Nat->Out}(hW:∀ op,PV ax (W op))(op:Nat):PV ax (lN W ax op):=by
 intro ts c t av c1 h;have hn:∀ ts c t av c1,nH W op ts c=.ok t av c1->t.live ax:=fun ts c t av c1 h=>by
  unfold nH at h
  split at h
  ·exact uGY hW op _ _ _ _ _ h
  split at h
  ·exact oR _ _ _ _ _ h
  split at h
  ·injection h with h _ _;subst h;exact mP _ _ _ _
  cases h
 unfold lN at h
 split at h
 ·split at h
  ·exact nS _ _ _ _ _ h
  exact oR _ _ _ _ _ h
 split at h
 ·exact oR _ _ _ _ _ h
 split at h
 ·split at h
  ·exact nS _ _ _ _ _ h
  exact hn _ _ _ _ _ h
 split at h
 ·split at h
  ·exact uCF _ _ _ _ _ h
  exact nS _ _ _ _ _ h
 split at h
 ·split at h
  ·cases h
  split at h
  ·cases h
  rename_i x ts2 c2 hx
  split at h
  ·injection h with h _ _;subst h;exact hW _ _ _ _ _ _ hx
  cases h
 split at h
 ·exact mat_live _ _ _ _ _ _ _ _ _ _ zW h
 cases h
theorem pct_live:∀ (f:Nat) (t:Tree) (ts:List Tok) (c:Nat) (t1:Tree) (av:List Tok) (c1:Nat),t.live ax->iJ f t ts c=.ok t1 av c1->t1.live ax:=by
 intro f
 induction f with
 |zero=>intro t ts c t1 av c1 ht h;injection h with h _ _;subst h;exact ht
 |succ f ih=>
  intro t ts c t1 av c1 ht h;unfold iJ at h
  split at h
  ·exact ih _ _ _ _ _ _ (kM _ _ _ _ (zX ht)) h
  injection h with h _ _;subst h;exact ht
theorem uBH{P:List Tok->Nat->Out}(hP:PV ax P):PV ax (iS (cN P)):=by
 intro ts c t av c1 h;have hp:PV ax (cN P):=fun ts c t av c1 h=>by
  unfold cN at h
  split at h
  ·cases h
  rename_i x ts2 c2 hx
  exact pct_live _ _ _ _ _ _ _ (hP _ _ _ _ _ hx) h
 unfold iS at h
 split at h
 ·cases h
 rename_i x ts2 c2 hx
 injection h with h _ _;subst h;have hx:=hp _ _ _ _ _ hx
 induction ts.take (bF ts) with
 |nil=>exact hx
 |cons a l ih=>exact kM _ _ _ _ (zX ih)
theorem lev_live{P:List Tok->Nat->Out}(hP:PV ax P)(sg:List Bs):∀ (f:Nat) (t:Tree) (ts:List Tok) (c:Nat) (t1:Tree) (av:List Tok) (c1:Nat),t.live ax->gW P sg f t ts c=.ok t1 av c1->t1.live ax:=by
 intro f
 induction f with
 |zero=>intro t ts c t1 av c1 ht h;injection h with h _ _;subst h;exact ht
 |succ f ih=>
  intro t ts c t1 av c1 ht h;unfold gW at h
  split at h
  ·split at h
   ·cases h
   rename_i x ts2 c2 hx
   exact ih _ _ _ _ _ _ (kM _ _ _ _ (live_two ht (hP _ _ _ _ _ hx))) h
  injection h with h _ _;subst h;exact ht
theorem jE{P:List Tok->Nat->Out}(hP:PV ax P)(sg:List Bs):PV ax (cH P sg):=by
 intro ts c t av c1 h;unfold cH at h
 split at h
 ·cases h
 rename_i x ts2 c2 hx
 exact lev_live hP sg _ _ _ _ _ _ _ (hP _ _ _ _ _ hx) h
end
theorem uFH{ax:Ax}:∀ (f op:Nat),PV ax (gB f ax op):=by
 intro f
 induction f with
 |zero=>intro op ts c t av c1 h;cases h
 |succ f ih=>
  intro op ts c t av c1 h;have h:kO (lN (gB f ax) ax op) ts c=.ok t av c1:=h;unfold kO at h;exact jE (jE (jE (jE (jE (uBH (uII ih op)) _) _) _) _) _ _ _ _ _ _ h
theorem xH{ax:Ax}{s:Bs}{t:Tree}(h:bI ax s=.ok t):t.live ax:=by
 unfold bI at h;cases hl:mX s with
 |error k=>rw[hl]at h;cases h
 |ok ts=>
  rw[hl]at h;have h:eR ax (ts++[cJ s.length])=.ok t:=h;unfold eR at h
  split at h
  ·cases h
  rename_i t1 r c hw
  have h1:=uFH _ _ _ _ _ _ _ hw
  split at h
  ·cases h
  split at h
  ·cases h
  split at h
  ·cases h
  injection h with h;subst h;exact h1
theorem qH:∀ (l:List Tree) (x:Tree),dC (l++[x])=max (dC l) x.depth
 | [],x=>by simp[dC]
 |t::l,x=>by rw[yp,dC,dC,qH l x];omega
theorem yR(l:List Tree)(k:Nat)(h:k<l.length):dC (l.take (k+1))=max (dC (l.take k)) l[k].depth:=by rw[yw h,qH]
mutual
theorem nP:∀ t:Tree,t.depth<=t.size
 | .mk _ l=>by rw[Tree.depth,Tree.size];have:=lV l;omega
theorem lV:∀ l:List Tree,dC l<=bB l
 | []=>zr
 |t::l=>by rw[dC,bB];have:=nP t;have:=lV l;omega
end
theorem yS(l:List Tree)(k:Nat):dC (l.take k)<=bB l:=by
 have h:∀ (l:List Tree) k,bB (l.take k)<=bB l:=fun l=>by
  induction l with
  |nil=>intro k;simp
  |cons t l ih=>intro k;cases k with
   |zero=>simp[bB]
   |succ k=>rw[List.take_succ_cons,bB,bB];have:=ih k;omega
 exact yv (lV _) (h l k)
set_option maxRecDepth 1000000 in
theorem uEG:∀ (n:Nat),n<=1000000->∀ (t:Tree) (cs:Array Value) (w:World),t.size<=n->TreeIn w t cs->Calls Tryz.prog 28 #[.agg cs] w fun e w'=>e=.returned (.int .i64 (t.depth:Nat))/\Below w.heap.size w w':=by
 intro n
 induction n with
 |zero=>intro _ t _ _ hs;cases t;simp[Tree.size]at hs
 |succ n ih=>
 intro au;rintro⟨h,l⟩ cs w hs ⟨A,cp,rfl,hk⟩;have IH:=zh (fun(i:Nat) (hi:i<l.length) cs W h1=>ih (by omega) (l[i]'hi) cs W (by have h9:(l[i]'hi).size<(Tree.mk h l).size:=gN (t:=.mk h l) (i:=i) hi;omega) h1);have iq:Hid (l.length<=1000000/\bB l<=1000000):=zh (by have h1:=cV l;have h2:bB l+1<=n+1:=hs;omega);clear ih;dsimp only[Tree.h,Tree.l]at hk ⊢;have HK:=zh hk;clear hk hs;have hS:(Tree.mk h l).depth=dC l+1:=by rw[Tree.depth]
 rw[hS];clear hS;generalize cf:(w.alloc (.cells (aY h A l.length cp) 41))=W1;have HL:Hid (Lies W1 w.heap.size 41 (aY h A l.length cp)):=zh (by rw[<- cf];exact Lies.new _ _ _);have HB:Hid (Below w.heap.size w W1):=zh (by rw[<- cf];exact zp _);have bu:=zh cf;clear cf
 go_enter Tryz.func28,Tryz.ntmps28
 go_upto_region 1 with fail
 rw[bu.out];clear bu;generalize hQ:w.heap.size=q at *
 go_wp2_with fail
 go_loopw [3,4] (fun d v wr=>∃ i:Nat,i<=l.length/\v=.int .i64 (i:Int)/\d=.int .i64 (dC (l.take i):Nat)/\Hid (Below W1.heap.size W1 wr)) (fun _ v _=>l.length-(intOf v).toNat)
 case atStart=>exact⟨0,zm _,rfl,rfl,zh (Below.refl _ _)⟩
 case round=>
  obtain⟨i,hi,rfl,rfl,i6⟩:=hrel;have hx:=(HL.out.next i6.out).cell 21;simp only[za,zb,zf]at hx;by_cases hlt:i<l.length
  ·obtain⟨g,ci,rfl,si,m9⟩:=iT HK.out i hlt;have aq:Hid (Below w.heap.size w wr):=zh (by rw[hQ];exact HB.out.trans (i6.out.mono (by rw[<- hQ];exact HB.out.size)));obtain⟨hra,zt⟩:=m9 wr (Kp.of_below aq.out);have HRA:=zh hra;have HC:=zh (IH.out i hlt ci.toArray wr zt);have HDS:=zh (yR l i hlt);have hdb:((l[i]'hlt).depth:Int)<=1000000:=by
    have h1:=nP (l[i]'hlt);have h2:(l[i]'hlt).size<(Tree.mk h l).size:=gN (t:=.mk h l) (i:=i) hlt;have h3:(Tree.mk h l).size=bB l+1:=by rw[Tree.size]
    have:=iq.out.2;omega
   generalize (l[i]'hlt).depth=dk at *;have zi:(Tryz.prog.info? 41).map (·.size)=some ci.length:=by rw[si];exact aF
   clear m9 hra zt;have rt:(i:Int)<(l.length:Int):=by omega
   have hib:(i:Int)<=1000000:=by have:=iq.out.1;omega
   go_wp2_with (first |(refine yr rfl 41 (.tmp 16) rfl g (i*22) rfl ci _ HRA.out Tryz.underlying41 rfl zi ?_))
   refine HC.out.mono ?_;rintro e w2 ⟨rfl,hb⟩;have cn:Hid (Below W1.heap.size W1 w2):=zh (i6.out.trans (hb.mono i6.out.size));clear hb HC
   go_wp2_with fail
   go_roundw
   case rel=>exact⟨i+1,by omega,by go_num,by rw[HDS.out];exact congrArg _ (by omega),cn⟩
   case measure=>simp[intOf];omega
  have zz:¬ ((i:Int)<(l.length:Int)):=by omega
  have HDE:Hid (dC (l.take i)=dC l):=zh (by rw[List.take_of_length_le (by omega)]);have hdb:(dC (l.take i):Int)<=1000000:=by have h1:=yS l i;have:=iq.out.2;omega
  generalize dC (l.take i)=dd at *
  go_wp2_with fail
  go_ret
  refine⟨?_,?_⟩
  ·rw[<- HDE.out];rfl
  have h2:Below q w wr:=by have h3:=HB.out;exact h3.trans (i6.out.mono (by have:=h3.size;omega))
  first|exact h2 |(rw[hQ];exact h2)
theorem wI(h:NodeH)(A:Option Addr)(n c:Nat)(w:World)(hb:¬ (h.kind=0/\h.v.kind=1/\h.v.mant<0)) :
  Calls Tryz.prog 29 #[dA h A n c] w fun e w'=>e=.returned (.bool false)/\Below w.heap.size w w':=by
 obtain⟨W1,bt⟩:∃ W1,W1=w.alloc (.cells (aY h A n c) 41):=⟨_,rfl⟩
 have bu:=zh bt;have HL:Hid (Lies W1 w.heap.size 41 (aY h A n c)):=zh (by rw[bt];exact Lies.new _ _ _);have HB:Hid (Below w.heap.size w W1):=zh (by rw[bt];exact zp _);clear bt;have x0:=HL.out.cell 0;have x1:=HL.out.cell 1;have x2:=HL.out.cell 2;simp only[za,zb,zf]at x0 x1 x2;by_cases h0:h.kind=0
 ·by_cases h1:h.v.kind=1
  ·have h2:¬ h.v.mant<0:=fun h2=>hb ⟨h0,h1,h2⟩
   rw[h0]at x0;rw[h1]at x1;clear hb
   go_enter Tryz.func29,Tryz.ntmps29
   go_upto_region 1 with fail
   rw[<- bu.out];generalize hq:w.heap.size=q at *
   go_wp2_with fail
   go_ret
   exact⟨rfl,by first|exact HB.out |(rw[hq];exact HB.out)⟩
  rw[h0]at x0;clear hb
  go_enter Tryz.func29,Tryz.ntmps29
  go_upto_region 1 with fail
  rw[<- bu.out];generalize hq:w.heap.size=q at *
  go_wp2_with fail
  go_ret
  exact⟨rfl,by first|exact HB.out |(rw[hq];exact HB.out)⟩
 clear hb
 go_enter Tryz.func29,Tryz.ntmps29
 go_upto_region 1 with fail
 rw[<- bu.out];generalize hq:w.heap.size=q at *
 go_wp2_with fail
 go_ret
 exact⟨rfl,by first|exact HB.out |(rw[hq];exact HB.out)⟩
mutual
def Tree.pre:Tree->List Tree
 | .mk h l=>.mk h l::mH l
def mH:List Tree->List Tree
 | []=>[]
 |t::r=>t.pre++mH r
end
theorem wG:∀ (l:List Tree) (x:Tree),mH (l++[x])=mH l++x.pre
 | [],x=>by simp[mH]
 |t::l,x=>by rw[yp,mH,mH,wG l x,List.append_assoc]
theorem uFA(l:List Tree)(k:Nat)(h:k<l.length):bB (l.take (k+1))=bB (l.take k)+l[k].size:=by rw[yw h,uC]
theorem uIJ(l:List Tree)(k:Nat)(h:k<l.length):mH (l.take (k+1))=mH (l.take k)++l[k].pre:=by rw[yw h,wG]
theorem uFB(l:List Tree)(k:Nat):bB (l.take k)<=bB l:=by
 have h:∀ (l:List Tree) k,bB (l.take k)<=bB l:=fun l=>by
  induction l with
  |nil=>intro k;simp
  |cons t l ih=>intro k;cases k with
   |zero=>simp[bB]
   |succ k=>rw[List.take_succ_cons,bB,bB];have:=ih k;omega
 exact h l k
def PCells:List Value->List Tree->Prop
 |xs,[]=>xs=[]
 |xs,t::l=>∃ c r,xs=c++r/\c.length=22/\(∃ A cp,c.toArray=aY t.h A t.l.length cp)/\PCells r l
theorem PCells.app:∀ {xs ys:List Value} {l m:List Tree},PCells xs l->PCells ys m->PCells (xs++ys) (l++m)
 |xs,ys,[],m,h,h2=>by
  have h0:xs=[]:=h;subst h0;exact h2
 |xs,ys,t::l,m,⟨c,r,h1,h3,h4,h5⟩,h2=>⟨c,r++ys,by rw[h1,List.append_assoc],h3,h4,PCells.app h5 h2⟩
theorem uDT(h:NodeH)(A:Option Addr)(n c:Nat):(aY h A n c).all (·.oneCell')=true:=by simp[aY,Value.oneCell']
theorem PCells.one':∀ {xs:List Value} {l:List Tree},PCells xs l->∀ u∈xs,u.oneCell'=true
 |xs,[],h,u,hu=>by
  have h0:xs=[]:=h;subst h0;cases hu
 |xs,t::l,⟨c,r,h1,h3,⟨A,cp,h4⟩,h5⟩,u,hu=>by
  subst h1;rcases List.mem_append.1 hu with hu|hu
  ·have:=uDT t.h A t.l.length cp;rw[<- h4]at this;exact(Array.all_eq_true_iff_forall_mem.1 this) u (by simpa using hu)
  exact PCells.one' h5 u hu
theorem PCells.head{h:NodeH}{A:Option Addr}{n cp:Nat}(l:List Tree)(hl:l.length=n):PCells (aY h A n cp).toList [.mk h l]:=by
 refine⟨(aY h A n cp).toList,[],by simp,rfl,⟨A,cp,?_⟩,rfl⟩;rw[<- hl];rfl
theorem nA{ops:Array Oper}{rest:List Oper}{o:Oper}{a:Act}{w:World}{Q:Exit->Act->World->Prop}(s5:o.guard=none)(s x:Operand)(ho:o.op=.call { callee:=.builtin .append,args:=#[s,x],argTypes:=#[39,39] })
  (base n m:Nat) (v:Value) (xs:List Value) (hs:a.eval s=v) (aj:w.ownsRow base 41 22 v n xs) (hn:n+m<=3000000) (cv:base<=w.heap.size)
  (v2:Value) (b2:Nat) (news:List Value) (hx:a.eval x=v2) (qp:w.ownsRow b2 41 22 v2 m news) (hm:0<m) (h1:∀ u∈news,u.oneCell'=true)
  (h:∀ A' c' w',w'.ownsRow base 41 22 (.slice A' (n+m) c') (n+m) (xs++news)->w.grownBy w' v.ownBlock->wpList Tryz.prog ops Q rest (a.put o.dst (.slice A' (n+m) c')) w'):wpList Tryz.prog ops Q (o::rest) a w:=by
 have hB:=vQ;obtain⟨i,z,hi,bg,hz,hzc⟩:=mN;rw[hi]at hB;simp at hB;obtain⟨g,cap,hv2,_,_,pr⟩:=rN qp hm;have jn:∀ j u,news[j]?=some u->w.cell? ((⟨g,0,none⟩:Addr).add j)=some u:=fun j u hj=>by
  have e:(⟨g,0,none⟩:Addr).add j=⟨g,j,none⟩:=by cases j <;> simp[Addr.add]
  rw[e];exact pr j u hj
 refine wpList_append_own (P:=Tryz.prog) w s5 s x 39 ho base 41 i z 22 192 qD hi hz bg hB.2 hzc (by decide) v n xs hs aj ⟨g,0,none⟩ m cap news (by rw[hx,hv2]) qp.1 jn h1 (by unfold maxLen;omega) (by omega) cv (fun v' w' k1 k2 _=>?_);obtain⟨A',c',rfl⟩:=cS k1;exact h A' c' w' k1 k2
set_option maxRecDepth 1000000 in
theorem tV:∀ (n:Nat),n<=1000000->∀ (t:Tree) (cs:Array Value) (w:World),t.size<=n->TreeIn w t cs->Calls Tryz.prog 14 #[.agg cs] w fun e w'=>∃ A c xs,e=.returned (.slice A t.size c)/\w'.ownsRow w.heap.size 41 22 (.slice A t.size c) t.size xs/\PCells xs t.pre/\Below w.heap.size w w':=by
 intro n
 induction n with
 |zero=>intro _ t _ _ hs;cases t;simp[Tree.size]at hs
 |succ n ih=>
 intro au;rintro⟨h,l⟩ cs w hs ⟨A,cp,rfl,hk⟩;have IH:=zh (fun(i:Nat) (hi:i<l.length) cs W h1=>ih (by omega) (l[i]'hi) cs W (by have h9:(l[i]'hi).size<(Tree.mk h l).size:=gN (t:=.mk h l) (i:=i) hi;omega) h1);have iq:Hid (l.length<=1000000/\bB l<=1000000):=zh (by have h1:=cV l;have h2:bB l+1<=n+1:=hs;omega);clear ih;dsimp only[Tree.h,Tree.l]at hk ⊢;have HK:=zh hk;clear hk hs;have hS:(Tree.mk h l).size=bB l+1:=by rw[Tree.size]
 have hP:(Tree.mk h l).pre=.mk h l::mH l:=by rw[Tree.pre]
 rw[hS,hP];clear hS hP;generalize cf:(w.alloc (.cells (aY h A l.length cp) 41))=W1;have HL:Hid (Lies W1 w.heap.size 41 (aY h A l.length cp)):=zh (by rw[<- cf];exact Lies.new _ _ _);have HB:Hid (Below w.heap.size w W1):=zh (by rw[<- cf];exact zp _);have bu:=zh cf;clear cf;have c8:Hid (W1.heap.size=w.heap.size+1):=zh (by rw[<- bu.out];simp);have HHD:=zh (PCells.head (h:=h) (A:=A) (cp:=cp) l rfl);have sc:Hid ((W1.alloc (.cells (aY h A l.length cp) 41)).ownsRow W1.heap.size 41 22 (.slice (some ⟨W1.heap.size,0,none⟩) 1 1) 1 (aY h A l.length cp).toList):=zh ⟨rfl,.inr ⟨_,1,_,rfl,zr,heap_alloc_new _ _,zr,by unfold maxLen;omega,rfl,rfl⟩⟩;have HBW:Hid (Below W1.heap.size W1 (W1.alloc (.cells (aY h A l.length cp) 41))):=zh (zp _)
 go_enter Tryz.func14,Tryz.ntmps14
 go_upto_region 1 with fail
 rw[bu.out];clear bu;generalize hQ:w.heap.size=q at *;have ee:=zh (HL.out.range);obtain⟨C,hC⟩:∃ C:List Value,C=(aY h A l.length cp).toList:=⟨_,rfl⟩
 have hCa:aY h A l.length cp=C.toArray:=by rw[hC]
 have ah:C.length=22:=by rw[hC];rfl
 rw[<- hC]at ee sc HHD;rw[hCa]at sc HBW;have hinf0:(Tryz.prog.info? 41).map (·.size)=some C.length:=by rw[ah];exact aF
 generalize jp:W1.alloc (.cells C.toArray 41)=W2 at *
 go_wp2_with (first |(refine yr rfl 41 (.tmp 1) rfl q 0 rfl C _ ee.out Tryz.underlying41 rfl hinf0 ?_) |(refine lM rfl (.tmp 5) rfl C rfl ah W1.heap.size rfl (some 6) rfl ?_;rw[jp]))
 have HBQ:Hid (q+1=W1.heap.size):=zh c8.out.symm;clear hC hCa hinf0 ee
 go_loopw [3,4] (fun d v wr=>∃ (i:Nat) (A':Option Addr) (c':Nat) (xs:List Value),i<=l.length/\v=.int .i64 (i:Int)/\d=.slice A' (bB (l.take i)+1) c'/\Hid (wr.ownsRow W1.heap.size 41 22 (.slice A' (bB (l.take i)+1) c') (bB (l.take i)+1) xs)/\Hid (PCells xs (.mk h l::mH (l.take i)))/\Hid (Below W1.heap.size W1 wr)) (fun _ v _=>l.length-(intOf v).toNat)
 case atStart=>exact⟨0,_,_,_,zm _,rfl,rfl,sc,HHD,HBW⟩
 case round=>
  obtain⟨i,A',c',xs,hi,rfl,rfl,HO,HP,i6⟩:=hrel;have hx:=(HL.out.next i6.out).cell 21;simp only[za,zb,zf]at hx;by_cases hlt:i<l.length
  ·obtain⟨g,ci,rfl,si,m9⟩:=iT HK.out i hlt;have aq:Hid (Below w.heap.size w wr):=zh (by rw[hQ];exact HB.out.trans (i6.out.mono (by rw[<- hQ];exact HB.out.size)));obtain⟨hra,zt⟩:=m9 wr (Kp.of_below aq.out);have HRA:=zh hra;have HC:=zh (IH.out i hlt ci.toArray wr zt);have HSS:=zh (uFA l i hlt);have HPS:=zh (uIJ l i hlt);have HDB:Hid ((l[i]'hlt).size<=1000000/\0<(l[i]'hlt).size/\bB (l.take i)<=1000000):=zh (by
    have h2:(l[i]'hlt).size<(Tree.mk h l).size:=gN (t:=.mk h l) (i:=i) hlt;have h3:(Tree.mk h l).size=bB l+1:=by rw[Tree.size]
    have h4:=uFB l i;have:=iq.out.2;refine⟨by omega,?_,by omega⟩;cases l[i]'hlt;exact Nat.succ_pos _)
   generalize (l[i]'hlt).size=dk at *;generalize (l[i]'hlt).pre=dp at *;generalize bB (l.take i)=sk at *;have zi:(Tryz.prog.info? 41).map (·.size)=some ci.length:=by rw[si];exact aF
   clear m9 hra zt;have rt:(i:Int)<(l.length:Int):=by omega
   have hib:(i:Int)<=1000000:=by have:=iq.out.1;omega
   go_wp2_with (first |(refine yr rfl 41 (.tmp 18) rfl g (i*22) rfl ci _ HRA.out Tryz.underlying41 rfl zi ?_))
   refine HC.out.mono ?_;rintro e w2 ⟨A2,c2,ys,rfl,ho2,sy,hb⟩;have gm:=zh ho2;have wk:=zh sy;have HOa:=zh (HO.out.kept (nF hb none) (Classical.em _));have cn:Hid (Below W1.heap.size W1 w2):=zh (i6.out.trans (hb.mono i6.out.size));have HON:=zh (wk.out.one');have HSB:Hid (W1.heap.size<=w2.heap.size):=zh cn.out.size;clear hb HC ho2 sy
   go_wp2_with (first |(refine nA rfl (.tmp 14) (.tmp 20) rfl W1.heap.size (sk+1) dk _ xs rfl HOa.out (by have:=HDB.out;omega) HSB.out _ _ ys rfl gm.out HDB.out.2.1 HON.out ?_;intro A3 c3 w3 k1 k2;have K1:=zh k1;have K2:=zh k2;clear k1 k2))
   have de:Hid (Below W1.heap.size W1 w3):=zh (cn.out.grown K2.out HSB.out (fun k hk=>(HOa.out.lt k hk).1))
   go_roundw
   case rel=>exact⟨i+1,A3,c3,xs++ys,by omega,by go_num,by rw[HSS.out,show sk+dk+1=sk+1+dk by omega],zh (by rw[HSS.out,show sk+dk+1=sk+1+dk by omega];exact K1.out),zh (by rw[HPS.out];exact PCells.app HP.out wk.out),de⟩
   case measure=>simp[intOf];omega
  have zz:¬ ((i:Int)<(l.length:Int)):=by omega
  have e:l.take i=l:=List.take_of_length_le (by omega);rw[e]at HO HP ⊢;clear e
  go_wp2_with fail
  go_ret
  have h2:Below q w wr:=by have h3:=HB.out;exact h3.trans (i6.out.mono (by have:=h3.size;omega))
  have h4:=uDX HO.out (show q<=W1.heap.size by have:=HBQ.out;omega);exact⟨A',c',rfl,xs,h4,HP.out,h2⟩
theorem dY(c:UInt8)(w:World) :
  Calls Tryz.prog 84 #[.int .u8 (c.toNat:Int)] w fun e w'=>e=.returned (.bool (bW c))/\w=w':=by
 go_enter Tryz.func84,Tryz.ntmps84
 go_wp2
 all_goals go_ret
 all_goals exact⟨aI (by unfold bW;rw[ze];simp;try omega),rfl⟩
theorem eL(c:UInt8)(w:World) :
  Calls Tryz.prog 85 #[.int .u8 (c.toNat:Int)] w fun e w'=>e=.returned (.bool (aB c))/\w=w':=by
 go_enter Tryz.func85,Tryz.ntmps85
 go_wp2
 all_goals go_ret
 all_goals exact⟨aI (by unfold aB;rw[ze];simp;try omega),rfl⟩
theorem qU(l:Bs)(w:World)(hs:l.length<=maxLen) :
  Calls Tryz.prog 102 #[.string ⟨l.toArray⟩] w fun e w'=>e=.returned (.bool (l.all aB))/\w=w':=by
 unfold maxLen at hs
 go_enter Tryz.func102,Tryz.ntmps102
 go_wp2
 go_loop [3] (fun i=>∃ k:Nat,k<=l.length/\i=.int .i64 k/\(l.take k).all aB=true) (fun i=>l.length-(intOf i).toNat)
 case atStart=>exact⟨0,zm _,rfl,by simp⟩
 case round=>
  obtain⟨k,hk,rfl,hr⟩:=hrel;have HR:=zh hr;clear hr;by_cases hlt:k<l.length
  ·cases hd:aB l[k]
   ·have HQ:=zh (nM hlt hd)
    go_wp2_with (go_at_call 85;refine(eL _ _).mono ?_;rintro e w' ⟨rfl,rfl⟩)
    go_ret
    exact⟨aI (by rw[HQ.out]),rfl⟩
   have HQ:=zh (jZ HR.out hlt hd)
   go_wp2_with (go_at_call 85;refine(eL _ _).mono ?_;rintro e w' ⟨rfl,rfl⟩)
   go_round
   case rel=>exact⟨k+1,by omega,by go_num,HQ.out⟩
   case measure=>simp[intOf];omega
  have HQ:Hid (l.all aB=true):=zh (by have h:=HR.out;rw[List.take_of_length_le (by omega)]at h;exact h)
  go_wp2
  go_ret
  exact⟨aI (by rw[HQ.out]),rfl⟩
def tK(l:Bs):Bool:=decide (aP l<=3)&&(decide (aP l<l.length)&&(decide (l.length<=7+aP l)&&(!aX l (aP l) 48&&(l.drop (aP l)).all aB)))
theorem uIM(l:Bs)(w:World)(hs:l.length<=100000) :
  Calls Tryz.prog 86 #[.string ⟨l.toArray⟩] w fun e w'=>e=.returned (.bool (tK l))/\w=w':=by
 have HD:=zh (fun k W=>qU (l.drop k) W (by rw[yk];unfold maxLen;omega));unfold tK aP
 go_enter Tryz.func86,Tryz.ntmps86
 go_wp2
 go_loop [3] (fun i=>∃ k:Nat,k<=l.length/\i=.int .i64 k/\k<=aN bW l) (fun i=>l.length-(intOf i).toNat)
 case atStart=>exact⟨0,zm _,rfl,zm _⟩
 case round=>
  obtain⟨k,hk,rfl,hr⟩:=hrel;have HK:=zh hr;clear hr;by_cases j9:∃ h:k<l.length,bW l[k]=true
  ·obtain⟨hlt,hd⟩:=j9;have HQ:=zh (fM _ _ _ HK.out hlt hd)
   go_wp2_with (go_at_call 84;refine(dY _ _).mono ?_;rintro e w' ⟨rfl,rfl⟩)
   go_round
   case rel=>exact⟨k+1,by omega,by go_num,HQ.out⟩
   case measure=>simp[intOf];omega
  have el:¬ k<l.length\/∃ h:k<l.length,bW l[k]=false:=by
   by_cases hlt:k<l.length
   ·exact .inr ⟨hlt,by cases h:bW l[k];rfl;exact absurd ⟨hlt,h⟩ j9⟩
   exact .inl hlt
  have HQ:Hid (aN bW l=k):=zh (by
   rcases el with h|⟨h,hd⟩
   ·have:=bS bW l;have:=HK.out;omega
   exact jY _ _ _ HK.out h hd)
  clear j9;rcases el with hlt|⟨hlt,hd⟩
  all_goals go_upto_region 4 with(go_at_call 84;refine(dY _ _).mono ?_;rintro e w' ⟨rfl,rfl⟩)
  ·by_cases e1:k<=3
   all_goals
    go_wp2_with fail
    go_ret
    exact⟨aI (by rw[HQ.out];simp[e1,hlt]),rfl⟩
  clear hd;by_cases e1:k<=3
  ·by_cases e3:l.length<=7+k
   ·have e4:(l.length:Int)-(k:Int)<=7:=by omega
    have hq:=lQ l k 48 48 rfl hlt;cases h48:aX l k 48 with
    |true=>
     rw[h48]at hq
     go_wp2_with fail
     go_ret
     exact⟨aI (by rw[HQ.out];simp[h48]),rfl⟩
    |false=>
     rw[h48]at hq;have oq:=zh (HD.out k w)
     go_wp2_with fail
     refine oq.out.mono ?_;rintro e w' ⟨rfl,rfl⟩
     go_wp2_with fail
     go_ret
     exact⟨aI (by rw[HQ.out,decide_eq_true e3];simp[e1,hlt,h48]),rfl⟩
   have e4:¬ (l.length:Int)-(k:Int)<=7:=by omega
   go_wp2_with fail
   go_ret
   exact⟨aI (by rw[HQ.out,decide_eq_false e3];simp),rfl⟩
  go_wp2_with fail
  go_ret
  exact⟨aI (by rw[HQ.out];simp[e1]),rfl⟩
end Go.Proofs.YtmgjidnalpgegaaGreatDoor
