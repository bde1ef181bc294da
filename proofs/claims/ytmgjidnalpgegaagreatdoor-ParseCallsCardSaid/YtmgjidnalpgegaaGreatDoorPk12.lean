/-
  Lemmas, part 12: ParN ParP.
-/
import Derived.Test.YtmgjidnalpgegaaGreatDoorPk11
set_option maxHeartbeats 100000000
namespace Go.Proofs.YtmgjidnalpgegaaGreatDoor
open Go.RowKit
theorem uIU(l:Bs):∃ (pc:Int) (isc:Bool),tO l=.tuple #[.int .i64 pc,.bool isc]/\(isc=true->∃ p:Nat,bX l=some p/\pc=p/\p<=1000000)/\(isc=false->bX l=none):=by
 unfold tO;cases h:bX l with
 |none=>exact⟨_,_,rfl,fun h=>(by cases h),fun _=>rfl⟩
 |some c=>exact⟨_,_,rfl,fun _=>⟨c,rfl,rfl,uU h⟩,fun h=>(by cases h)⟩
theorem uBQ(l:Bs):∃ (mr mc:Int) (f1 f2 ism:Bool),jK l=.tuple #[kC mr mc f1 f2,.bool ism]/\(ism=true->∃ m,bG l=some m/\mr=m.row/\m.row<=100000000)/\(ism=false->bG l=none):=by
 unfold jK;cases h:bG l with
 |none=>exact⟨_,_,_,_,_,rfl,fun h=>(by cases h),fun _=>rfl⟩
 |some m=>exact⟨_,_,_,_,_,rfl,fun _=>⟨m,rfl,rfl,(sC h).1⟩,fun h=>(by cases h)⟩
theorem uIH:bG [65]=none:=by decide
structure LineO(E:Env)(tk:Nat)(tx:Bs)(row col:Bool)(O:Except Nat Cor):Prop where
 bad:tk≠1->tk≠3->tk≠4->O=.error 6
 atC:(tk=1\/tk=3\/tk=4)->col=true->∀ p,bX (Lib.trimPrefix tx [36])=some p->O=match E.ax.cols[p]? with
  |none=>.error 18
  |some x=>.ok ⟨id0,x,false,Lib.hasPrefix tx [36]⟩
 atR:(tk=1\/tk=3\/tk=4)->(col=true->bX (Lib.trimPrefix tx [36])=none)->row=true->aB ((Lib.trimPrefix tx [36]).headD 0)=true->∀ m,bG (65::Lib.trimPrefix tx [36])=some m->O=match E.ax.rows[m.row]? with
  |none=>.error 18
  |some x=>.ok ⟨x,id0,Lib.hasPrefix tx [36],false⟩
 no:(tk=1\/tk=3\/tk=4)->(col=true->bX (Lib.trimPrefix tx [36])=none)->(row=true->aB ((Lib.trimPrefix tx [36]).headD 0)=true->bG (65::Lib.trimPrefix tx [36])=none)->O=.error 6
theorem lineO(E:Env)(row col:Bool)(ts:List Tok):LineO E (hd ts).kind (hd ts).text row col (dD E.ax row col ts):=by
 have good:∀ {n:Nat},(n=1\/n=3\/n=4)->¬ (n≠1/\n≠3/\n≠4):=fun h h2=>by omega
 refine⟨fun h1 h3 h4=>?_,fun hk hc p hp=>?_,fun hk hc hr hg m hm=>?_,fun hk hc hr=>?_⟩
 ·unfold dD;rw[if_pos ⟨h1,h3,h4⟩]
 ·unfold dD;rw[if_neg (good hk)];dsimp only;rw[if_pos hc,hp];rfl
 ·unfold dD;rw[if_neg (good hk)];dsimp only;have h1:(if col=true then bX (Lib.trimPrefix (hd ts).text [36]) else none)=none:=by
   split
   ·rename_i h;exact hc h
   rfl
  rw[h1,if_pos hr,if_pos hg,hm];rfl
 unfold dD;rw[if_neg (good hk)];dsimp only;have h1:(if col=true then bX (Lib.trimPrefix (hd ts).text [36]) else none)=none:=by
  split
  ·rename_i h;exact hc h
  rfl
 have h2:(if row=true then (if aB ((Lib.trimPrefix (hd ts).text [36]).headD 0)=true then bG (65::Lib.trimPrefix (hd ts).text [36]) else none) else none)=none:=by
  split
  ·rename_i h
   split
   ·rename_i h2;exact hr h h2
   rfl
  rfl
 rw[h1,h2]
set_option maxRecDepth 100000 in
theorem line_any(E:Env)(hE:E.ok)(hL:E.L.length<=1000000)(hT:E.short)(row col:Bool)(k op nd pl er:Nat)(w:World)(hI:InE E k op nd pl er w)(hk:k<E.L.length) :
  Calls Tryz.prog 124 #[.pointer (some ⟨E.r,0,none⟩),.bool row,.bool col] w (uAE E w k op nd pl er (dD E.ax row col (E.L.drop k))):=by
 have HO:=zh (lineO E row col (E.L.drop k));generalize dD E.ax row col (E.L.drop k)=O at HO ⊢;have CT:=zh (fun W h=>cE E k op nd pl er W h hk);have CW:=zh (fun W h=>fB E hE k op nd pl er 6 W h hk);have CLy:=zh (fun p l place x W h hp hl hx=>pX E hE k op nd pl er p l place x W h hp hl hx);have CLn:=zh (fun p l place W h hp hl hx=>yZ E hE k op nd pl er p l place W h hp hl hx hk);have ht:=hT k;have bo:=zh ((Fs.start hI).alloc 36 bW (by decide));have HX:=rP (E.at k).text [36];have C1:=zh (fun W=>jA (E.at k).text [36] W);have C2:=zh (fun W=>rQ (Lib.trimPrefix (E.at k).text [36]) W (by omega));have C3:=zh (fun W=>iW (65::Lib.trimPrefix (E.at k).text [36]) W (by simp only[yi];omega));obtain⟨pc,isc,e1,e2,e3⟩:=uIU (Lib.trimPrefix (E.at k).text [36])
 obtain⟨mr,mc,f1,f2,ism,e4,e5,e6⟩:=uBQ (65::Lib.trimPrefix (E.at k).text [36]);rw[e1]at C2;rw[e4]at C3;replace HO:Hid (LineO E (E.at k).kind (E.at k).text row col O):=HO;generalize ed:E.at k=t at *;obtain⟨tk,tx,tp⟩:=t;have u5:=zh ed;clear ed;dsimp only[tkV,kC]at CT CW C1 C2 C3 HO e2 e3 e5 e6 HX ht CLn;have HOb:=zh HO.out.bad;have HOc:=zh HO.out.atC;have HOr:=zh HO.out.atR;have HOn:=zh HO.out.no;generalize Lib.hasPrefix tx [36]=fx at *;generalize Lib.trimPrefix tx [36]=X at *;have HE2:=zh e2;have HE3:=zh e3;have HE5:=zh e5;have HE6:=zh e6;have hXl:X.length<=100000:=by omega
 clear hI e1 e2 e3 e4 e5 e6 HO HX
 go_enter Tryz.func124,Tryz.ntmps124
 go_upto_region 1 with fail
 generalize World.alloc _ _=W1 at bo ⊢;generalize hq:w.heap.size=q at bo ⊢
 go_wp2_with fail
 refine(CT.out W1 bo.out.ine).mono ?_;rintro e w1 ⟨rfl,hb⟩;have dy:=zh (bo.out.next hb);clear hb bo hq;have bt:=zh (dy.out.alloc 70 #[.int .i64 tk,.string ⟨tx.toArray⟩,.int .i64 (tp:Int)] (by decide));clear dy
 go_upto_region 2 with fail
 generalize World.alloc _ _=W3 at bt ⊢;generalize wi:w1.heap.size=q8 at bt ⊢;clear wi;by_cases km:tk≠1/\tk≠3/\tk≠4
 ·have b1:((tk:Int) != 1)=true:=by simp;omega
  have b3:((tk:Int) != 3)=true:=by simp;omega
  have b4:((tk:Int) != 4)=true:=by simp;omega
  have b1':((tk:Int)==1)=false:=by simp;omega
  have b3':((tk:Int)==3)=false:=by simp;omega
  have b4':((tk:Int)==4)=false:=by simp;omega
  have hO:=HOb.out km.1 km.2.1 km.2.2;subst hO;have x0:=(bt.out.li 0 rfl).cell 0;have xf0:=(bt.out.li 0 rfl).frozen 0;have x1:=(bt.out.li 0 rfl).cell 1;have xf1:=(bt.out.li 0 rfl).frozen 1;have x2:=(bt.out.li 0 rfl).cell 2;have xf2:=(bt.out.li 0 rfl).frozen 2;simp only[za,zb,zf]at x0 x1 x2;clear km
  go_wp2_with fail
  refine(CW.out _ bt.out.ine).mono ?_;rintro e w4 ⟨rfl,h1,h2⟩;have ak:=zh (bt.out.step h1 h2.X);clear h1 h2 bt;have a0:=(ak.out.li 1 rfl).cell 0;have af0:=(ak.out.li 1 rfl).frozen 0;have a1:=(ak.out.li 1 rfl).cell 1;have af1:=(ak.out.li 1 rfl).frozen 1;have a2:=(ak.out.li 1 rfl).cell 2;have af2:=(ak.out.li 1 rfl).frozen 2;have a3:=(ak.out.li 1 rfl).cell 3;have af3:=(ak.out.li 1 rfl).frozen 3;have a4:=(ak.out.li 1 rfl).cell 4;have af4:=(ak.out.li 1 rfl).frozen 4;have a5:=(ak.out.li 1 rfl).cell 5;have af5:=(ak.out.li 1 rfl).frozen 5;simp only[za,zb,zf]at a0 a1 a2 a3 a4 a5
  have ag:Hid (∀ W',W'=((((((w4.setCell ⟨q,0,none⟩ (.int .i64 0)).setCell ⟨q,1,none⟩ (.int .i64 0)).setCell ⟨q,2,none⟩ (.int .i64 0)).setCell ⟨q,3,none⟩ (.int .i64 0)).setCell ⟨q,4,none⟩ (.bool false)).setCell ⟨q,5,none⟩ (.bool false))->Fs E w k op nd tp 6 [(q8,70,#[.int .i64 tk,.string ⟨tx.toArray⟩,.int .i64 (tp:Int)]),(q,36,bW)] W'):=zh (fun W' e=>by rw[e];exact((((((ak.out.put hE 1 rfl 0 _).put hE 1 rfl 1 _).put hE 1 rfl 2 _).put hE 1 rfl 3 _).put hE 1 rfl 4 _).put hE 1 rfl 5 _));clear ak
  go_wp2_with fail
  refine yt (v:=.tuple #[.agg #[.int .i64 0,.int .i64 0,.int .i64 0,.int .i64 0,.bool false,.bool false],.bool false]) (by simp[results,Tryz.results124,go_sem,a0,a1,a2,a3,a4,a5]) rfl ?_;show StepX E w k op nd (E.at k).place _ _ _ _;rw[u5.out];exact⟨rfl,(ag.out _ rfl).ine,(ag.out _ rfl).kp⟩
 have ww:tk=1\/tk=3\/tk=4:=by omega
 have HG:=zh ww
 go_cut [31] (fun v wx=>v=.bool false/\Hid (Fs E w k op nd pl er [(q8,70,#[.int .i64 tk,.string ⟨tx.toArray⟩,.int .i64 (tp:Int)]),(q,36,bW)] wx))
 case first=>
  have x0:=(bt.out.li 0 rfl).cell 0;have xf0:=(bt.out.li 0 rfl).frozen 0;have x1:=(bt.out.li 0 rfl).cell 1;have xf1:=(bt.out.li 0 rfl).frozen 1;have x2:=(bt.out.li 0 rfl).cell 2;have xf2:=(bt.out.li 0 rfl).frozen 2;simp only[za,zb,zf]at x0 x1 x2;rcases ww with h|h|h
  ·subst h
   go_wp2_with fail
   all_goals go_meet
   all_goals exact⟨rfl,bt⟩
  ·subst h
   go_wp2_with fail
   all_goals go_meet
   all_goals exact⟨rfl,bt⟩
  subst h
  go_wp2_with fail
  all_goals go_meet
  all_goals exact⟨rfl,bt⟩
 case rest=>
  obtain⟨rfl,ak⟩:=hcut;clear bt ww km HOb;have x1:=(ak.out.li 0 rfl).cell 1;have xf1:=(ak.out.li 0 rfl).frozen 1;simp only[za,zb,zf]at x1
  go_wp2_with fail
  refine(C1.out wc).mono ?_;rintro e w5 ⟨rfl,hb⟩;subst hb;clear x1 xf1
  go_wp2_with fail
  refine(C2.out _).mono ?_;rintro e w6 ⟨rfl,hb⟩;have am:=zh (ak.out.next hb);clear hb ak C1 C2
  go_wp2_with fail
  refine(C3.out _).mono ?_;rintro e w7 ⟨rfl,hb⟩;have c8:=zh (am.out.next hb);clear hb am C3;have da:=zh (c8.out.alloc 150 #[.int .i64 mr,.int .i64 mc,.bool f1,.bool f2] (by decide));clear c8
  go_upto_region 7 with fail
  generalize World.alloc _ _=W8 at da ⊢;generalize hq13:w7.heap.size=q13 at da ⊢;clear hq13
  go_cut [14] (fun v wx=>v=.bool (ism&&aB (X.headD 0))/\Hid (Fs E w k op nd pl er [(q13,150,#[.int .i64 mr,.int .i64 mc,.bool f1,.bool f2]),(q8,70,#[.int .i64 tk,.string ⟨tx.toArray⟩,.int .i64 (tp:Int)]),(q,36,bW)] wx))
  case first=>
   cases ism
   ·go_wp2_with fail
    all_goals go_meet
    all_goals exact⟨rfl,da⟩
   obtain⟨m,hm,_,_⟩:=HE5.out rfl;cases X with
   |nil=>rw[uIH]at hm;cases hm
   |cons c r=>
    by_cases g1:48<=c.toNat
    ·have g1i:(48:Int)<=(c.toNat:Int):=by omega
     by_cases g2:c.toNat<=57
     ·have g2i:(c.toNat:Int)<=57:=by omega
      go_wp2_with fail
      all_goals go_meet
      all_goals exact⟨by unfold aB;simp[g1,g2],da⟩
     have g2i:¬ (c.toNat:Int)<=57:=by omega
     go_wp2_with fail
     all_goals go_meet
     all_goals exact⟨by unfold aB;simp[g1,g2],da⟩
    have g1i:¬ (48:Int)<=(c.toNat:Int):=by omega
    go_wp2_with fail
    all_goals go_meet
    all_goals exact⟨by unfold aB;simp[g1],da⟩
  case rest=>
   obtain⟨rfl,bl⟩:=hcut;have de:Hid ((ism&&aB (X.headD 0))=true->aB (X.headD 0)=true/\∃ m,bG (65::X)=some m/\mr=m.row/\m.row<=100000000):=zh (fun h=>by rw[yh]at h;exact⟨h.2,HE5.out h.1⟩);have tq:Hid ((ism&&aB (X.headD 0))=false->aB (X.headD 0)=true->bG (65::X)=none):=zh (fun h h2=>by rw[h2,Bool.and_true]at h;exact HE6.out h);generalize (ism&&aB (X.headD 0))=isr at *;clear da HE5 HE6;have cx:=zh (bl.out.alloc 36 bW (by decide));clear bl
   go_upto_block 0 with fail
   generalize World.alloc _ _=Wa at cx ⊢;generalize hq15:wc.heap.size=q15 at cx ⊢;clear hq15;have ol:(k:Int)<=1000000:=by omega
   by_cases u6:col=true/\isc=true
   ·obtain⟨rfl,rfl⟩:=u6;obtain⟨p,hp,hpp,hpb⟩:=HE2.out rfl;subst hpp;have hOr:=HOc.out HG.out rfl p hp;clear HOc HOr HOn HE2 HE3 de tq hp;cases hx:E.ax.cols[p]? with
    |none=>
     rw[hx]at hOr;have wy:=zh hOr;clear hOr;have x5:=(cx.out.li 0 rfl).cell 5;have xf5:=(cx.out.li 0 rfl).frozen 5;simp only[za,zb,zf]at x5;have bi:Hid (Fs E w k op nd pl er [(q15,36,#[.int .i64 0,.int .i64 0,.int .i64 0,.int .i64 0,.bool false,.bool fx]),(q13,150,#[.int .i64 mr,.int .i64 mc,.bool f1,.bool f2]),(q8,70,#[.int .i64 tk,.string ⟨tx.toArray⟩,.int .i64 (tp:Int)]),(q,36,bW)] (Wa.setCell ⟨q15,5,none⟩ (.bool fx))):=zh (cx.out.put hE 0 rfl 5 _);clear cx
     go_upto_region 13 with fail
     generalize World.setCell _ _ _=Wb at bi ⊢;clear x5 xf5;have r5:=bi.out.ine.rd.cell 5;simp only[za,zb,zf]at r5;have CL:=zh (CLn.out E.pb E.ax.cols p _ bi.out.ine (.inr ⟨rfl,rfl⟩) (by omega) hx)
     go_wp2_with fail
     refine CL.out.mono ?_;rintro e w6 ⟨rfl,h1,h2⟩;have i6:=zh (bi.out.step h1 h2);clear h1 h2 bi CL hx;clear r5;have x2:=(i6.out.li 0 rfl).cell 2;have xf2:=(i6.out.li 0 rfl).frozen 2;have x3:=(i6.out.li 0 rfl).cell 3;have xf3:=(i6.out.li 0 rfl).frozen 3;simp only[za,zb,zf]at x2 x3;have dg:Hid (Fs E w k op nd tp 18 [(q15,36,#[.int .i64 0,.int .i64 0,.int .i64 0,.int .i64 0,.bool false,.bool fx]),(q13,150,#[.int .i64 mr,.int .i64 mc,.bool f1,.bool f2]),(q8,70,#[.int .i64 tk,.string ⟨tx.toArray⟩,.int .i64 (tp:Int)]),(q,36,bW)] ((w6.setCell ⟨q15,2,none⟩ (.int .i64 0)).setCell ⟨q15,3,none⟩ (.int .i64 0))):=zh ((i6.out.put hE 0 rfl 2 _).put hE 0 rfl 3 _);clear i6
     go_upto_region 17 with fail
     generalize World.setCell _ _ _=Wd at dg ⊢;clear x2 x3 xf2 xf3;have a0:=(dg.out.li 3 rfl).cell 0;have af0:=(dg.out.li 3 rfl).frozen 0;have a1:=(dg.out.li 3 rfl).cell 1;have af1:=(dg.out.li 3 rfl).frozen 1;have a2:=(dg.out.li 3 rfl).cell 2;have af2:=(dg.out.li 3 rfl).frozen 2;have a3:=(dg.out.li 3 rfl).cell 3;have af3:=(dg.out.li 3 rfl).frozen 3;have a4:=(dg.out.li 3 rfl).cell 4;have af4:=(dg.out.li 3 rfl).frozen 4;have a5:=(dg.out.li 3 rfl).cell 5;have af5:=(dg.out.li 3 rfl).frozen 5;simp only[za,zb,zf]at a0 a1 a2 a3 a4 a5
     have ag:Hid (∀ W',W'=((((((Wd.setCell ⟨q,0,none⟩ (.int .i64 0)).setCell ⟨q,1,none⟩ (.int .i64 0)).setCell ⟨q,2,none⟩ (.int .i64 0)).setCell ⟨q,3,none⟩ (.int .i64 0)).setCell ⟨q,4,none⟩ (.bool false)).setCell ⟨q,5,none⟩ (.bool false))->Fs E w k op nd tp 18 [(q15,36,#[.int .i64 0,.int .i64 0,.int .i64 0,.int .i64 0,.bool false,.bool fx]),(q13,150,#[.int .i64 mr,.int .i64 mc,.bool f1,.bool f2]),(q8,70,#[.int .i64 tk,.string ⟨tx.toArray⟩,.int .i64 (tp:Int)]),(q,36,bW)] W'):=zh (fun W' e=>by rw[e];exact((((((dg.out.put hE 3 rfl 0 _).put hE 3 rfl 1 _).put hE 3 rfl 2 _).put hE 3 rfl 3 _).put hE 3 rfl 4 _).put hE 3 rfl 5 _));clear dg
     go_wp2_with fail
     refine yt (v:=.tuple #[.agg #[.int .i64 0,.int .i64 0,.int .i64 0,.int .i64 0,.bool false,.bool false],.bool false]) (by simp[results,Tryz.results124,go_sem,a0,a1,a2,a3,a4,a5]) rfl ?_;rw[wy.out];show StepX E w k op nd (E.at k).place _ _ _ _;rw[u5.out];exact⟨rfl,(ag.out _ rfl).ine,(ag.out _ rfl).kp⟩
    |some x=>
     obtain⟨xa,xn⟩:=x;rw[hx]at hOr;have wy:=zh hOr;clear hOr;have x5:=(cx.out.li 0 rfl).cell 5;have xf5:=(cx.out.li 0 rfl).frozen 5;simp only[za,zb,zf]at x5;have bi:Hid (Fs E w k op nd pl er [(q15,36,#[.int .i64 0,.int .i64 0,.int .i64 0,.int .i64 0,.bool false,.bool fx]),(q13,150,#[.int .i64 mr,.int .i64 mc,.bool f1,.bool f2]),(q8,70,#[.int .i64 tk,.string ⟨tx.toArray⟩,.int .i64 (tp:Int)]),(q,36,bW)] (Wa.setCell ⟨q15,5,none⟩ (.bool fx))):=zh (cx.out.put hE 0 rfl 5 _);clear cx
     go_upto_region 13 with fail
     generalize World.setCell _ _ _=Wb at bi ⊢;clear x5 xf5;have r5:=bi.out.ine.rd.cell 5;simp only[za,zb,zf]at r5;have CL:=zh (CLy.out E.pb E.ax.cols p ⟨xa,xn⟩ _ bi.out.ine (.inr ⟨rfl,rfl⟩) (by omega) hx)
     go_wp2_with fail
     refine CL.out.mono ?_;rintro e w6 ⟨rfl,h1,h2⟩;have i6:=zh (bi.out.step h1 h2);clear h1 h2 bi CL hx;clear r5;have x2:=(i6.out.li 0 rfl).cell 2;have xf2:=(i6.out.li 0 rfl).frozen 2;have x3:=(i6.out.li 0 rfl).cell 3;have xf3:=(i6.out.li 0 rfl).frozen 3;simp only[za,zb,zf]at x2 x3;have dg:Hid (Fs E w k op nd pl er [(q15,36,#[.int .i64 0,.int .i64 0,.int .i64 xa,.int .i64 xn,.bool false,.bool fx]),(q13,150,#[.int .i64 mr,.int .i64 mc,.bool f1,.bool f2]),(q8,70,#[.int .i64 tk,.string ⟨tx.toArray⟩,.int .i64 (tp:Int)]),(q,36,bW)] ((w6.setCell ⟨q15,2,none⟩ (.int .i64 xa)).setCell ⟨q15,3,none⟩ (.int .i64 xn))):=zh ((i6.out.put hE 0 rfl 2 _).put hE 0 rfl 3 _);clear i6
     go_upto_region 17 with fail
     generalize World.setCell _ _ _=Wd at dg ⊢;clear x2 x3 xf2 xf3;have r1:=dg.out.ine.rd.cell 1;have rf1:=dg.out.ine.rd.frozen 1;simp only[za,zb,zf]at r1;have dh:=zh (dg.out.rd hE 1 (.int .i64 ((k:Int)+1)) (k':=k+1) rfl);clear dg
     go_upto_region 20 with fail
     generalize World.setCell _ _ _=We at dh ⊢;clear r1 rf1;have y0:=(dh.out.li 0 rfl).cell 0;have y1:=(dh.out.li 0 rfl).cell 1;have y2:=(dh.out.li 0 rfl).cell 2;have y3:=(dh.out.li 0 rfl).cell 3;have y4:=(dh.out.li 0 rfl).cell 4;have y5:=(dh.out.li 0 rfl).cell 5;simp only[za,zb,zf]at y0 y1 y2 y3 y4 y5;have a0:=(dh.out.li 3 rfl).cell 0;have af0:=(dh.out.li 3 rfl).frozen 0;have a1:=(dh.out.li 3 rfl).cell 1;have af1:=(dh.out.li 3 rfl).frozen 1;have a2:=(dh.out.li 3 rfl).cell 2;have af2:=(dh.out.li 3 rfl).frozen 2;have a3:=(dh.out.li 3 rfl).cell 3;have af3:=(dh.out.li 3 rfl).frozen 3;have a4:=(dh.out.li 3 rfl).cell 4;have af4:=(dh.out.li 3 rfl).frozen 4;have a5:=(dh.out.li 3 rfl).cell 5;have af5:=(dh.out.li 3 rfl).frozen 5
     simp only[za,zb,zf]at a0 a1 a2 a3 a4 a5;have ag:Hid (∀ W',W'=((((((We.setCell ⟨q,0,none⟩ (.int .i64 0)).setCell ⟨q,1,none⟩ (.int .i64 0)).setCell ⟨q,2,none⟩ (.int .i64 xa)).setCell ⟨q,3,none⟩ (.int .i64 xn)).setCell ⟨q,4,none⟩ (.bool false)).setCell ⟨q,5,none⟩ (.bool fx))->Fs E w (k+1) op nd pl er [(q15,36,#[.int .i64 0,.int .i64 0,.int .i64 xa,.int .i64 xn,.bool false,.bool fx]),(q13,150,#[.int .i64 mr,.int .i64 mc,.bool f1,.bool f2]),(q8,70,#[.int .i64 tk,.string ⟨tx.toArray⟩,.int .i64 (tp:Int)]),(q,36,#[.int .i64 0,.int .i64 0,.int .i64 xa,.int .i64 xn,.bool false,.bool fx])] W'):=zh (fun W' e=>by rw[e];exact((((((dh.out.put hE 3 rfl 0 _).put hE 3 rfl 1 _).put hE 3 rfl 2 _).put hE 3 rfl 3 _).put hE 3 rfl 4 _).put hE 3 rfl 5 _));clear dh
     go_wp2_with fail
     refine yt (v:=.tuple #[.agg #[.int .i64 0,.int .i64 0,.int .i64 xa,.int .i64 xn,.bool false,.bool fx],.bool true]) (by simp[results,Tryz.results124,go_sem,a0,a1,a2,a3,a4,a5]) rfl ?_;rw[wy.out];exact⟨rfl,(ag.out _ rfl).ine,(ag.out _ rfl).kp⟩
   have ld:Hid (col=true->bX X=none):=zh (fun h=>HE3.out (by cases isc;rfl;exact absurd ⟨h,rfl⟩ u6));have HCC:Hid (¬ (col=true/\isc=true)):=zh u6;clear u6 HE2 HE3 HOc;by_cases hrr:row=true/\isr=true
   ·obtain⟨rfl,rfl⟩:=hrr;obtain⟨hdg,m,hm,hmm,v9⟩:=de.out rfl;have hOr:=HOr.out HG.out ld.out rfl hdg m hm;clear HOr HOn de tq hm ld hdg;obtain⟨mrow,mcol,mfr,mfc⟩:=m;dsimp only at hOr hmm v9;subst hmm;have my:col=false\/(col=true/\isc=false):=by have:=HCC.out;cases col <;> cases isc <;> simp_all
    clear HCC;rcases my with rfl|⟨rfl,rfl⟩
    ·cases hx:E.ax.rows[mrow]? with
     |none=>
      rw[hx]at hOr;have wy:=zh hOr;clear hOr
      go_cut [16] (fun v wx=>v=.bool false/\Hid (Fs E w k op nd tp 18 [(q15,36,#[.int .i64 0,.int .i64 0,.int .i64 0,.int .i64 0,.bool fx,.bool false]),(q13,150,#[.int .i64 (mrow:Int),.int .i64 mc,.bool f1,.bool f2]),(q8,70,#[.int .i64 tk,.string ⟨tx.toArray⟩,.int .i64 (tp:Int)]),(q,36,bW)] wx))
      case first=>
       have x4:=(cx.out.li 0 rfl).cell 4;have xf4:=(cx.out.li 0 rfl).frozen 4;simp only[za,zb,zf]at x4;have bi:Hid (Fs E w k op nd pl er [(q15,36,#[.int .i64 0,.int .i64 0,.int .i64 0,.int .i64 0,.bool fx,.bool false]),(q13,150,#[.int .i64 (mrow:Int),.int .i64 mc,.bool f1,.bool f2]),(q8,70,#[.int .i64 tk,.string ⟨tx.toArray⟩,.int .i64 (tp:Int)]),(q,36,bW)] (Wa.setCell ⟨q15,4,none⟩ (.bool fx))):=zh (cx.out.put hE 0 rfl 4 _);clear cx
       go_upto_region 16 with fail
       generalize World.setCell _ _ _=Wb at bi ⊢;clear x4 xf4;have r4:=bi.out.ine.rd.cell 4;simp only[za,zb,zf]at r4;have x0:=(bi.out.li 1 rfl).cell 0;simp only[za,zb]at x0
       go_region_with ((go_at_call 134;refine(CLn.out E.pa E.ax.rows mrow Wb.drew (bi.out.next (Below.refl _ _).drew).ine (.inl ⟨rfl,rfl⟩) v9 hx).mono ?_;rintro e w6 ⟨rfl,h1,h2⟩;have i6:=zh ((bi.out.next (Below.refl _ _).drew).step h1 h2);clear h1 h2;have z0:=(i6.out.li 0 rfl).cell 0;have zf0:=(i6.out.li 0 rfl).frozen 0;have z1:=(i6.out.li 0 rfl).cell 1;have zf1:=(i6.out.li 0 rfl).frozen 1;simp only[za,zb,zf]at z0 z1))
       all_goals go_wp2_with fail
       all_goals go_meet
       all_goals exact⟨rfl,zh ((i6.out.put hE 0 rfl 0 _).put hE 0 rfl 1 _)⟩
      case rest=>
       obtain⟨rfl,dg⟩:=hcut;clear cx hx
       go_upto_region 17 with fail
       have a0:=(dg.out.li 3 rfl).cell 0;have af0:=(dg.out.li 3 rfl).frozen 0;have a1:=(dg.out.li 3 rfl).cell 1;have af1:=(dg.out.li 3 rfl).frozen 1;have a2:=(dg.out.li 3 rfl).cell 2;have af2:=(dg.out.li 3 rfl).frozen 2;have a3:=(dg.out.li 3 rfl).cell 3;have af3:=(dg.out.li 3 rfl).frozen 3;have a4:=(dg.out.li 3 rfl).cell 4;have af4:=(dg.out.li 3 rfl).frozen 4;have a5:=(dg.out.li 3 rfl).cell 5;have af5:=(dg.out.li 3 rfl).frozen 5;simp only[za,zb,zf]at a0 a1 a2 a3 a4 a5
       have ag:Hid (∀ W',W'=((((((wc.setCell ⟨q,0,none⟩ (.int .i64 0)).setCell ⟨q,1,none⟩ (.int .i64 0)).setCell ⟨q,2,none⟩ (.int .i64 0)).setCell ⟨q,3,none⟩ (.int .i64 0)).setCell ⟨q,4,none⟩ (.bool false)).setCell ⟨q,5,none⟩ (.bool false))->Fs E w k op nd tp 18 [(q15,36,#[.int .i64 0,.int .i64 0,.int .i64 0,.int .i64 0,.bool fx,.bool false]),(q13,150,#[.int .i64 (mrow:Int),.int .i64 mc,.bool f1,.bool f2]),(q8,70,#[.int .i64 tk,.string ⟨tx.toArray⟩,.int .i64 (tp:Int)]),(q,36,bW)] W'):=zh (fun W' e=>by rw[e];exact((((((dg.out.put hE 3 rfl 0 _).put hE 3 rfl 1 _).put hE 3 rfl 2 _).put hE 3 rfl 3 _).put hE 3 rfl 4 _).put hE 3 rfl 5 _));clear dg
       go_wp2_with fail
       refine yt (v:=.tuple #[.agg #[.int .i64 0,.int .i64 0,.int .i64 0,.int .i64 0,.bool false,.bool false],.bool false]) (by simp[results,Tryz.results124,go_sem,a0,a1,a2,a3,a4,a5]) rfl ?_;rw[wy.out];show StepX E w k op nd (E.at k).place _ _ _ _;rw[u5.out];exact⟨rfl,(ag.out _ rfl).ine,(ag.out _ rfl).kp⟩
     |some x=>
      obtain⟨xa,xn⟩:=x;rw[hx]at hOr;have wy:=zh hOr;clear hOr
      go_cut [16] (fun v wx=>v=.bool true/\Hid (Fs E w k op nd pl er [(q15,36,#[.int .i64 xa,.int .i64 xn,.int .i64 0,.int .i64 0,.bool fx,.bool false]),(q13,150,#[.int .i64 (mrow:Int),.int .i64 mc,.bool f1,.bool f2]),(q8,70,#[.int .i64 tk,.string ⟨tx.toArray⟩,.int .i64 (tp:Int)]),(q,36,bW)] wx))
      case first=>
       have x4:=(cx.out.li 0 rfl).cell 4;have xf4:=(cx.out.li 0 rfl).frozen 4;simp only[za,zb,zf]at x4;have bi:Hid (Fs E w k op nd pl er [(q15,36,#[.int .i64 0,.int .i64 0,.int .i64 0,.int .i64 0,.bool fx,.bool false]),(q13,150,#[.int .i64 (mrow:Int),.int .i64 mc,.bool f1,.bool f2]),(q8,70,#[.int .i64 tk,.string ⟨tx.toArray⟩,.int .i64 (tp:Int)]),(q,36,bW)] (Wa.setCell ⟨q15,4,none⟩ (.bool fx))):=zh (cx.out.put hE 0 rfl 4 _);clear cx
       go_upto_region 16 with fail
       generalize World.setCell _ _ _=Wb at bi ⊢;clear x4 xf4;have r4:=bi.out.ine.rd.cell 4;simp only[za,zb,zf]at r4;have x0:=(bi.out.li 1 rfl).cell 0;simp only[za,zb]at x0
       go_region_with ((go_at_call 134;refine(CLy.out E.pa E.ax.rows mrow ⟨xa,xn⟩ Wb.drew (bi.out.next (Below.refl _ _).drew).ine (.inl ⟨rfl,rfl⟩) v9 hx).mono ?_;rintro e w6 ⟨rfl,h1,h2⟩;have i6:=zh ((bi.out.next (Below.refl _ _).drew).step h1 h2);clear h1 h2;have z0:=(i6.out.li 0 rfl).cell 0;have zf0:=(i6.out.li 0 rfl).frozen 0;have z1:=(i6.out.li 0 rfl).cell 1;have zf1:=(i6.out.li 0 rfl).frozen 1;simp only[za,zb,zf]at z0 z1))
       all_goals go_wp2_with fail
       all_goals go_meet
       all_goals exact⟨rfl,zh ((i6.out.put hE 0 rfl 0 _).put hE 0 rfl 1 _)⟩
      case rest=>
       obtain⟨rfl,dg⟩:=hcut;clear cx hx
       go_upto_region 17 with fail
       have r1:=dg.out.ine.rd.cell 1;have rf1:=dg.out.ine.rd.frozen 1;simp only[za,zb,zf]at r1;have dh:=zh (dg.out.rd hE 1 (.int .i64 ((k:Int)+1)) (k':=k+1) rfl);clear dg
       go_upto_region 20 with fail
       generalize World.setCell _ _ _=We at dh ⊢;clear r1 rf1;have y0:=(dh.out.li 0 rfl).cell 0;have y1:=(dh.out.li 0 rfl).cell 1;have y2:=(dh.out.li 0 rfl).cell 2;have y3:=(dh.out.li 0 rfl).cell 3;have y4:=(dh.out.li 0 rfl).cell 4;have y5:=(dh.out.li 0 rfl).cell 5;simp only[za,zb,zf]at y0 y1 y2 y3 y4 y5;have a0:=(dh.out.li 3 rfl).cell 0;have af0:=(dh.out.li 3 rfl).frozen 0;have a1:=(dh.out.li 3 rfl).cell 1;have af1:=(dh.out.li 3 rfl).frozen 1;have a2:=(dh.out.li 3 rfl).cell 2;have af2:=(dh.out.li 3 rfl).frozen 2;have a3:=(dh.out.li 3 rfl).cell 3;have af3:=(dh.out.li 3 rfl).frozen 3;have a4:=(dh.out.li 3 rfl).cell 4;have af4:=(dh.out.li 3 rfl).frozen 4;have a5:=(dh.out.li 3 rfl).cell 5;have af5:=(dh.out.li 3 rfl).frozen 5
       simp only[za,zb,zf]at a0 a1 a2 a3 a4 a5;have ag:Hid (∀ W',W'=((((((We.setCell ⟨q,0,none⟩ (.int .i64 xa)).setCell ⟨q,1,none⟩ (.int .i64 xn)).setCell ⟨q,2,none⟩ (.int .i64 0)).setCell ⟨q,3,none⟩ (.int .i64 0)).setCell ⟨q,4,none⟩ (.bool fx)).setCell ⟨q,5,none⟩ (.bool false))->Fs E w (k+1) op nd pl er [(q15,36,#[.int .i64 xa,.int .i64 xn,.int .i64 0,.int .i64 0,.bool fx,.bool false]),(q13,150,#[.int .i64 (mrow:Int),.int .i64 mc,.bool f1,.bool f2]),(q8,70,#[.int .i64 tk,.string ⟨tx.toArray⟩,.int .i64 (tp:Int)]),(q,36,#[.int .i64 xa,.int .i64 xn,.int .i64 0,.int .i64 0,.bool fx,.bool false])] W'):=zh (fun W' e=>by rw[e];exact((((((dh.out.put hE 3 rfl 0 _).put hE 3 rfl 1 _).put hE 3 rfl 2 _).put hE 3 rfl 3 _).put hE 3 rfl 4 _).put hE 3 rfl 5 _));clear dh
       go_wp2_with fail
       refine yt (v:=.tuple #[.agg #[.int .i64 xa,.int .i64 xn,.int .i64 0,.int .i64 0,.bool fx,.bool false],.bool true]) (by simp[results,Tryz.results124,go_sem,a0,a1,a2,a3,a4,a5]) rfl ?_;rw[wy.out];exact⟨rfl,(ag.out _ rfl).ine,(ag.out _ rfl).kp⟩
    cases hx:E.ax.rows[mrow]? with
    |none=>
     rw[hx]at hOr;have wy:=zh hOr;clear hOr
     go_cut [16] (fun v wx=>v=.bool false/\Hid (Fs E w k op nd tp 18 [(q15,36,#[.int .i64 0,.int .i64 0,.int .i64 0,.int .i64 0,.bool fx,.bool false]),(q13,150,#[.int .i64 (mrow:Int),.int .i64 mc,.bool f1,.bool f2]),(q8,70,#[.int .i64 tk,.string ⟨tx.toArray⟩,.int .i64 (tp:Int)]),(q,36,bW)] wx))
     case first=>
      have x4:=(cx.out.li 0 rfl).cell 4;have xf4:=(cx.out.li 0 rfl).frozen 4;simp only[za,zb,zf]at x4;have bi:Hid (Fs E w k op nd pl er [(q15,36,#[.int .i64 0,.int .i64 0,.int .i64 0,.int .i64 0,.bool fx,.bool false]),(q13,150,#[.int .i64 (mrow:Int),.int .i64 mc,.bool f1,.bool f2]),(q8,70,#[.int .i64 tk,.string ⟨tx.toArray⟩,.int .i64 (tp:Int)]),(q,36,bW)] (Wa.setCell ⟨q15,4,none⟩ (.bool fx))):=zh (cx.out.put hE 0 rfl 4 _);clear cx
      go_upto_region 16 with fail
      generalize World.setCell _ _ _=Wb at bi ⊢;clear x4 xf4;have r4:=bi.out.ine.rd.cell 4;simp only[za,zb,zf]at r4;have x0:=(bi.out.li 1 rfl).cell 0;simp only[za,zb]at x0
      go_region_with ((go_at_call 134;refine(CLn.out E.pa E.ax.rows mrow Wb.drew (bi.out.next (Below.refl _ _).drew).ine (.inl ⟨rfl,rfl⟩) v9 hx).mono ?_;rintro e w6 ⟨rfl,h1,h2⟩;have i6:=zh ((bi.out.next (Below.refl _ _).drew).step h1 h2);clear h1 h2;have z0:=(i6.out.li 0 rfl).cell 0;have zf0:=(i6.out.li 0 rfl).frozen 0;have z1:=(i6.out.li 0 rfl).cell 1;have zf1:=(i6.out.li 0 rfl).frozen 1;simp only[za,zb,zf]at z0 z1))
      all_goals go_wp2_with fail
      all_goals go_meet
      all_goals exact⟨rfl,zh ((i6.out.put hE 0 rfl 0 _).put hE 0 rfl 1 _)⟩
     case rest=>
      obtain⟨rfl,dg⟩:=hcut;clear cx hx
      go_upto_region 17 with fail
      have a0:=(dg.out.li 3 rfl).cell 0;have af0:=(dg.out.li 3 rfl).frozen 0;have a1:=(dg.out.li 3 rfl).cell 1;have af1:=(dg.out.li 3 rfl).frozen 1;have a2:=(dg.out.li 3 rfl).cell 2;have af2:=(dg.out.li 3 rfl).frozen 2;have a3:=(dg.out.li 3 rfl).cell 3;have af3:=(dg.out.li 3 rfl).frozen 3;have a4:=(dg.out.li 3 rfl).cell 4;have af4:=(dg.out.li 3 rfl).frozen 4;have a5:=(dg.out.li 3 rfl).cell 5;have af5:=(dg.out.li 3 rfl).frozen 5;simp only[za,zb,zf]at a0 a1 a2 a3 a4 a5
      have ag:Hid (∀ W',W'=((((((wc.setCell ⟨q,0,none⟩ (.int .i64 0)).setCell ⟨q,1,none⟩ (.int .i64 0)).setCell ⟨q,2,none⟩ (.int .i64 0)).setCell ⟨q,3,none⟩ (.int .i64 0)).setCell ⟨q,4,none⟩ (.bool false)).setCell ⟨q,5,none⟩ (.bool false))->Fs E w k op nd tp 18 [(q15,36,#[.int .i64 0,.int .i64 0,.int .i64 0,.int .i64 0,.bool fx,.bool false]),(q13,150,#[.int .i64 (mrow:Int),.int .i64 mc,.bool f1,.bool f2]),(q8,70,#[.int .i64 tk,.string ⟨tx.toArray⟩,.int .i64 (tp:Int)]),(q,36,bW)] W'):=zh (fun W' e=>by rw[e];exact((((((dg.out.put hE 3 rfl 0 _).put hE 3 rfl 1 _).put hE 3 rfl 2 _).put hE 3 rfl 3 _).put hE 3 rfl 4 _).put hE 3 rfl 5 _));clear dg
      go_wp2_with fail
      refine yt (v:=.tuple #[.agg #[.int .i64 0,.int .i64 0,.int .i64 0,.int .i64 0,.bool false,.bool false],.bool false]) (by simp[results,Tryz.results124,go_sem,a0,a1,a2,a3,a4,a5]) rfl ?_;rw[wy.out];show StepX E w k op nd (E.at k).place _ _ _ _;rw[u5.out];exact⟨rfl,(ag.out _ rfl).ine,(ag.out _ rfl).kp⟩
    |some x=>
     obtain⟨xa,xn⟩:=x;rw[hx]at hOr;have wy:=zh hOr;clear hOr
     go_cut [16] (fun v wx=>v=.bool true/\Hid (Fs E w k op nd pl er [(q15,36,#[.int .i64 xa,.int .i64 xn,.int .i64 0,.int .i64 0,.bool fx,.bool false]),(q13,150,#[.int .i64 (mrow:Int),.int .i64 mc,.bool f1,.bool f2]),(q8,70,#[.int .i64 tk,.string ⟨tx.toArray⟩,.int .i64 (tp:Int)]),(q,36,bW)] wx))
     case first=>
      have x4:=(cx.out.li 0 rfl).cell 4;have xf4:=(cx.out.li 0 rfl).frozen 4;simp only[za,zb,zf]at x4;have bi:Hid (Fs E w k op nd pl er [(q15,36,#[.int .i64 0,.int .i64 0,.int .i64 0,.int .i64 0,.bool fx,.bool false]),(q13,150,#[.int .i64 (mrow:Int),.int .i64 mc,.bool f1,.bool f2]),(q8,70,#[.int .i64 tk,.string ⟨tx.toArray⟩,.int .i64 (tp:Int)]),(q,36,bW)] (Wa.setCell ⟨q15,4,none⟩ (.bool fx))):=zh (cx.out.put hE 0 rfl 4 _);clear cx
      go_upto_region 16 with fail
      generalize World.setCell _ _ _=Wb at bi ⊢;clear x4 xf4;have r4:=bi.out.ine.rd.cell 4;simp only[za,zb,zf]at r4;have x0:=(bi.out.li 1 rfl).cell 0;simp only[za,zb]at x0
      go_region_with ((go_at_call 134;refine(CLy.out E.pa E.ax.rows mrow ⟨xa,xn⟩ Wb.drew (bi.out.next (Below.refl _ _).drew).ine (.inl ⟨rfl,rfl⟩) v9 hx).mono ?_;rintro e w6 ⟨rfl,h1,h2⟩;have i6:=zh ((bi.out.next (Below.refl _ _).drew).step h1 h2);clear h1 h2;have z0:=(i6.out.li 0 rfl).cell 0;have zf0:=(i6.out.li 0 rfl).frozen 0;have z1:=(i6.out.li 0 rfl).cell 1;have zf1:=(i6.out.li 0 rfl).frozen 1;simp only[za,zb,zf]at z0 z1))
      all_goals go_wp2_with fail
      all_goals go_meet
      all_goals exact⟨rfl,zh ((i6.out.put hE 0 rfl 0 _).put hE 0 rfl 1 _)⟩
     case rest=>
      obtain⟨rfl,dg⟩:=hcut;clear cx hx
      go_upto_region 17 with fail
      have r1:=dg.out.ine.rd.cell 1;have rf1:=dg.out.ine.rd.frozen 1;simp only[za,zb,zf]at r1;have dh:=zh (dg.out.rd hE 1 (.int .i64 ((k:Int)+1)) (k':=k+1) rfl);clear dg
      go_upto_region 20 with fail
      generalize World.setCell _ _ _=We at dh ⊢;clear r1 rf1;have y0:=(dh.out.li 0 rfl).cell 0;have y1:=(dh.out.li 0 rfl).cell 1;have y2:=(dh.out.li 0 rfl).cell 2;have y3:=(dh.out.li 0 rfl).cell 3;have y4:=(dh.out.li 0 rfl).cell 4;have y5:=(dh.out.li 0 rfl).cell 5;simp only[za,zb,zf]at y0 y1 y2 y3 y4 y5;have a0:=(dh.out.li 3 rfl).cell 0;have af0:=(dh.out.li 3 rfl).frozen 0;have a1:=(dh.out.li 3 rfl).cell 1;have af1:=(dh.out.li 3 rfl).frozen 1;have a2:=(dh.out.li 3 rfl).cell 2;have af2:=(dh.out.li 3 rfl).frozen 2;have a3:=(dh.out.li 3 rfl).cell 3;have af3:=(dh.out.li 3 rfl).frozen 3;have a4:=(dh.out.li 3 rfl).cell 4;have af4:=(dh.out.li 3 rfl).frozen 4;have a5:=(dh.out.li 3 rfl).cell 5;have af5:=(dh.out.li 3 rfl).frozen 5
      simp only[za,zb,zf]at a0 a1 a2 a3 a4 a5;have ag:Hid (∀ W',W'=((((((We.setCell ⟨q,0,none⟩ (.int .i64 xa)).setCell ⟨q,1,none⟩ (.int .i64 xn)).setCell ⟨q,2,none⟩ (.int .i64 0)).setCell ⟨q,3,none⟩ (.int .i64 0)).setCell ⟨q,4,none⟩ (.bool fx)).setCell ⟨q,5,none⟩ (.bool false))->Fs E w (k+1) op nd pl er [(q15,36,#[.int .i64 xa,.int .i64 xn,.int .i64 0,.int .i64 0,.bool fx,.bool false]),(q13,150,#[.int .i64 (mrow:Int),.int .i64 mc,.bool f1,.bool f2]),(q8,70,#[.int .i64 tk,.string ⟨tx.toArray⟩,.int .i64 (tp:Int)]),(q,36,#[.int .i64 xa,.int .i64 xn,.int .i64 0,.int .i64 0,.bool fx,.bool false])] W'):=zh (fun W' e=>by rw[e];exact((((((dh.out.put hE 3 rfl 0 _).put hE 3 rfl 1 _).put hE 3 rfl 2 _).put hE 3 rfl 3 _).put hE 3 rfl 4 _).put hE 3 rfl 5 _));clear dh
      go_wp2_with fail
      refine yt (v:=.tuple #[.agg #[.int .i64 xa,.int .i64 xn,.int .i64 0,.int .i64 0,.bool fx,.bool false],.bool true]) (by simp[results,Tryz.results124,go_sem,a0,a1,a2,a3,a4,a5]) rfl ?_;rw[wy.out];exact⟨rfl,(ag.out _ rfl).ine,(ag.out _ rfl).kp⟩
   have hO:=HOn.out HG.out ld.out (fun h1 h2=>tq.out (by cases isr;rfl;exact absurd ⟨h1,rfl⟩ hrr) h2);subst hO;clear HOr HOn de tq ld;have my:col=false\/(col=true/\isc=false):=by have:=HCC.out;cases col <;> cases isc <;> simp_all
   have hri:row=false\/(row=true/\isr=false):=by cases row <;> cases isr <;> simp_all
   clear HCC hrr;rcases my with rfl|⟨rfl,rfl⟩ <;> rcases hri with rfl|⟨rfl,rfl⟩
   ·go_wp2_with fail
    refine(CW.out _ cx.out.ine).mono ?_;rintro e w6 ⟨rfl,h1,h2⟩;have bi:=zh (cx.out.step h1 h2.X);clear h1 h2 cx;have a0:=(bi.out.li 3 rfl).cell 0;have af0:=(bi.out.li 3 rfl).frozen 0;have a1:=(bi.out.li 3 rfl).cell 1;have af1:=(bi.out.li 3 rfl).frozen 1;have a2:=(bi.out.li 3 rfl).cell 2;have af2:=(bi.out.li 3 rfl).frozen 2;have a3:=(bi.out.li 3 rfl).cell 3;have af3:=(bi.out.li 3 rfl).frozen 3;have a4:=(bi.out.li 3 rfl).cell 4;have af4:=(bi.out.li 3 rfl).frozen 4;have a5:=(bi.out.li 3 rfl).cell 5;have af5:=(bi.out.li 3 rfl).frozen 5;simp only[za,zb,zf]at a0 a1 a2 a3 a4 a5
    have ag:Hid (∀ W',W'=((((((w6.setCell ⟨q,0,none⟩ (.int .i64 0)).setCell ⟨q,1,none⟩ (.int .i64 0)).setCell ⟨q,2,none⟩ (.int .i64 0)).setCell ⟨q,3,none⟩ (.int .i64 0)).setCell ⟨q,4,none⟩ (.bool false)).setCell ⟨q,5,none⟩ (.bool false))->Fs E w k op nd tp 6 [(q15,36,bW),(q13,150,#[.int .i64 mr,.int .i64 mc,.bool f1,.bool f2]),(q8,70,#[.int .i64 tk,.string ⟨tx.toArray⟩,.int .i64 (tp:Int)]),(q,36,bW)] W'):=zh (fun W' e=>by rw[e];exact((((((bi.out.put hE 3 rfl 0 _).put hE 3 rfl 1 _).put hE 3 rfl 2 _).put hE 3 rfl 3 _).put hE 3 rfl 4 _).put hE 3 rfl 5 _));clear bi
    go_wp2_with fail
    refine yt (v:=.tuple #[.agg #[.int .i64 0,.int .i64 0,.int .i64 0,.int .i64 0,.bool false,.bool false],.bool false]) (by simp[results,Tryz.results124,go_sem,a0,a1,a2,a3,a4,a5]) rfl ?_;show StepX E w k op nd (E.at k).place _ _ _ _;rw[u5.out];exact⟨rfl,(ag.out _ rfl).ine,(ag.out _ rfl).kp⟩
   ·go_wp2_with fail
    refine(CW.out _ cx.out.ine).mono ?_;rintro e w6 ⟨rfl,h1,h2⟩;have bi:=zh (cx.out.step h1 h2.X);clear h1 h2 cx;have a0:=(bi.out.li 3 rfl).cell 0;have af0:=(bi.out.li 3 rfl).frozen 0;have a1:=(bi.out.li 3 rfl).cell 1;have af1:=(bi.out.li 3 rfl).frozen 1;have a2:=(bi.out.li 3 rfl).cell 2;have af2:=(bi.out.li 3 rfl).frozen 2;have a3:=(bi.out.li 3 rfl).cell 3;have af3:=(bi.out.li 3 rfl).frozen 3;have a4:=(bi.out.li 3 rfl).cell 4;have af4:=(bi.out.li 3 rfl).frozen 4;have a5:=(bi.out.li 3 rfl).cell 5;have af5:=(bi.out.li 3 rfl).frozen 5;simp only[za,zb,zf]at a0 a1 a2 a3 a4 a5
    have ag:Hid (∀ W',W'=((((((w6.setCell ⟨q,0,none⟩ (.int .i64 0)).setCell ⟨q,1,none⟩ (.int .i64 0)).setCell ⟨q,2,none⟩ (.int .i64 0)).setCell ⟨q,3,none⟩ (.int .i64 0)).setCell ⟨q,4,none⟩ (.bool false)).setCell ⟨q,5,none⟩ (.bool false))->Fs E w k op nd tp 6 [(q15,36,bW),(q13,150,#[.int .i64 mr,.int .i64 mc,.bool f1,.bool f2]),(q8,70,#[.int .i64 tk,.string ⟨tx.toArray⟩,.int .i64 (tp:Int)]),(q,36,bW)] W'):=zh (fun W' e=>by rw[e];exact((((((bi.out.put hE 3 rfl 0 _).put hE 3 rfl 1 _).put hE 3 rfl 2 _).put hE 3 rfl 3 _).put hE 3 rfl 4 _).put hE 3 rfl 5 _));clear bi
    go_wp2_with fail
    refine yt (v:=.tuple #[.agg #[.int .i64 0,.int .i64 0,.int .i64 0,.int .i64 0,.bool false,.bool false],.bool false]) (by simp[results,Tryz.results124,go_sem,a0,a1,a2,a3,a4,a5]) rfl ?_;show StepX E w k op nd (E.at k).place _ _ _ _;rw[u5.out];exact⟨rfl,(ag.out _ rfl).ine,(ag.out _ rfl).kp⟩
   ·go_wp2_with fail
    refine(CW.out _ cx.out.ine).mono ?_;rintro e w6 ⟨rfl,h1,h2⟩;have bi:=zh (cx.out.step h1 h2.X);clear h1 h2 cx;have a0:=(bi.out.li 3 rfl).cell 0;have af0:=(bi.out.li 3 rfl).frozen 0;have a1:=(bi.out.li 3 rfl).cell 1;have af1:=(bi.out.li 3 rfl).frozen 1;have a2:=(bi.out.li 3 rfl).cell 2;have af2:=(bi.out.li 3 rfl).frozen 2;have a3:=(bi.out.li 3 rfl).cell 3;have af3:=(bi.out.li 3 rfl).frozen 3;have a4:=(bi.out.li 3 rfl).cell 4;have af4:=(bi.out.li 3 rfl).frozen 4;have a5:=(bi.out.li 3 rfl).cell 5;have af5:=(bi.out.li 3 rfl).frozen 5;simp only[za,zb,zf]at a0 a1 a2 a3 a4 a5
    have ag:Hid (∀ W',W'=((((((w6.setCell ⟨q,0,none⟩ (.int .i64 0)).setCell ⟨q,1,none⟩ (.int .i64 0)).setCell ⟨q,2,none⟩ (.int .i64 0)).setCell ⟨q,3,none⟩ (.int .i64 0)).setCell ⟨q,4,none⟩ (.bool false)).setCell ⟨q,5,none⟩ (.bool false))->Fs E w k op nd tp 6 [(q15,36,bW),(q13,150,#[.int .i64 mr,.int .i64 mc,.bool f1,.bool f2]),(q8,70,#[.int .i64 tk,.string ⟨tx.toArray⟩,.int .i64 (tp:Int)]),(q,36,bW)] W'):=zh (fun W' e=>by rw[e];exact((((((bi.out.put hE 3 rfl 0 _).put hE 3 rfl 1 _).put hE 3 rfl 2 _).put hE 3 rfl 3 _).put hE 3 rfl 4 _).put hE 3 rfl 5 _));clear bi
    go_wp2_with fail
    refine yt (v:=.tuple #[.agg #[.int .i64 0,.int .i64 0,.int .i64 0,.int .i64 0,.bool false,.bool false],.bool false]) (by simp[results,Tryz.results124,go_sem,a0,a1,a2,a3,a4,a5]) rfl ?_;show StepX E w k op nd (E.at k).place _ _ _ _;rw[u5.out];exact⟨rfl,(ag.out _ rfl).ine,(ag.out _ rfl).kp⟩
   go_wp2_with fail
   refine(CW.out _ cx.out.ine).mono ?_;rintro e w6 ⟨rfl,h1,h2⟩;have bi:=zh (cx.out.step h1 h2.X);clear h1 h2 cx;have a0:=(bi.out.li 3 rfl).cell 0;have af0:=(bi.out.li 3 rfl).frozen 0;have a1:=(bi.out.li 3 rfl).cell 1;have af1:=(bi.out.li 3 rfl).frozen 1;have a2:=(bi.out.li 3 rfl).cell 2;have af2:=(bi.out.li 3 rfl).frozen 2;have a3:=(bi.out.li 3 rfl).cell 3;have af3:=(bi.out.li 3 rfl).frozen 3;have a4:=(bi.out.li 3 rfl).cell 4;have af4:=(bi.out.li 3 rfl).frozen 4;have a5:=(bi.out.li 3 rfl).cell 5;have af5:=(bi.out.li 3 rfl).frozen 5;simp only[za,zb,zf]at a0 a1 a2 a3 a4 a5
   have ag:Hid (∀ W',W'=((((((w6.setCell ⟨q,0,none⟩ (.int .i64 0)).setCell ⟨q,1,none⟩ (.int .i64 0)).setCell ⟨q,2,none⟩ (.int .i64 0)).setCell ⟨q,3,none⟩ (.int .i64 0)).setCell ⟨q,4,none⟩ (.bool false)).setCell ⟨q,5,none⟩ (.bool false))->Fs E w k op nd tp 6 [(q15,36,bW),(q13,150,#[.int .i64 mr,.int .i64 mc,.bool f1,.bool f2]),(q8,70,#[.int .i64 tk,.string ⟨tx.toArray⟩,.int .i64 (tp:Int)]),(q,36,bW)] W'):=zh (fun W' e=>by rw[e];exact((((((bi.out.put hE 3 rfl 0 _).put hE 3 rfl 1 _).put hE 3 rfl 2 _).put hE 3 rfl 3 _).put hE 3 rfl 4 _).put hE 3 rfl 5 _));clear bi
   go_wp2_with fail
   refine yt (v:=.tuple #[.agg #[.int .i64 0,.int .i64 0,.int .i64 0,.int .i64 0,.bool false,.bool false],.bool false]) (by simp[results,Tryz.results124,go_sem,a0,a1,a2,a3,a4,a5]) rfl ?_;show StepX E w k op nd (E.at k).place _ _ _ _;rw[u5.out];exact⟨rfl,(ag.out _ rfl).ine,(ag.out _ rfl).kp⟩
structure GC(ops:Array Oper)(S:List Nat)(T:List (Nat×Nat×Value))(X:World)(R F:World->Prop)(ic is:Nat)(a0:Act)(zl:Array Bool)(a:Act)(w:World):Prop where
 off:Off S a0 a
 pt:PT T zl a
 dn:∀ i o,ops[i]?=some o->Up zl i->∀ e∈o.after,Region.binds .any e=true->Up zl e.on
 w0:¬ Up zl ic->w=X
 w1:Up zl ic->¬ Up zl is->R w
 w2:Up zl is->Up zl ic/\F w
def okC(nums:List (Nat×Nat))(S:List Nat)(is N:Nat):Bool :=
 nums.all (fun e=>e.1 != is&&S.contains e.2&&decide (e.2<N))&&decide (nums.Pairwise (fun p q=>p.1≠q.1/\p.2≠q.2))
def kG(ops:Array Oper):Nat->Nat->Nat->Bool
 |0,a,b=>a==b
 |f+1,a,b=>a==b||((ops[a]?).map fun o=>o.after.any fun e=>Region.binds .any e&&kG ops f e.on b).getD false
section
variable {ops:Array Oper} {S:List Nat} {T:List (Nat×Nat×Value)} {X w:World} {R F:World->Prop} {ic is N:Nat} {a0 a:Act} {zl:Array Bool} {Q:Exit->Act->World->Prop} {o:Oper}
theorem zC(hk:okC (T.map fun e=>(e.1,e.2.1)) S is N=true){e:Nat×Nat×Value}(he:e∈T):e.1≠is/\e.2.1∈S/\e.2.1<N:=by
 simp only[okC,yh,List.all_eq_true,bne_iff_ne,decide_eq_true_eq,List.contains_iff_mem,yj,forall_exists_index,and_imp,forall_apply_eq_imp_iff₂]at hk;obtain⟨⟨g1,g2⟩,g3⟩:=hk.1 e he;exact⟨g1,g2,g3⟩
theorem qB(hk:okC (T.map fun e=>(e.1,e.2.1)) S is N=true){e e':Nat×Nat×Value}(he:e∈T)(gb:e'∈T)(hs:e.1=e'.1\/e.2.1=e'.2.1):e=e':=by
 by_cases heq:e=e'
 ·exact heq
 exfalso
 simp only[okC,yh,decide_eq_true_eq,List.pairwise_map]at hk;have h2:=hk.2;have key:∀ l:List (Nat×Nat×Value),l.Pairwise (fun p q=>p.1≠q.1/\p.2.1≠q.2.1)->∀ x∈l,∀ y∈l,x≠y->x.1≠y.1/\x.2.1≠y.2.1:=by
  intro l
  induction l with
  |nil=>intro _ x hx;cases hx
  |cons c l ih=>
   intro hp x hx y hy bp;rw[List.pairwise_cons]at hp;rcases ym.1 hx with ex|hx <;> rcases ym.1 hy with ey|hy
   ·exact absurd (ex.trans ey.symm) bp
   ·rw[ex];exact hp.1 y hy
   ·rw[ey];exact⟨fun e=>(hp.1 x hx).1 e.symm,fun e=>(hp.1 x hx).2 e.symm⟩
   exact ih hp.2 x hx y hy bp
 have:=key T h2 e he e' gb heq;rcases hs with hs|hs
 ·exact this.1 hs
 exact this.2 hs
theorem lO(hd:∀ i o,ops[i]?=some o->Up zl i->∀ e∈o.after,Region.binds .any e=true->Up zl e.on):∀ (f a b:Nat),kG ops f a b=true->Up zl a->Up zl b
 |0,a,b,h,hu=>by
  simp only[kG,beq_iff_eq]at h;rw[<- h];exact hu
 |f+1,a,b,h,hu=>by
  simp only[kG,Bool.or_eq_true,beq_iff_eq]at h;rcases h with h|h
  ·rw[<- h];exact hu
  cases ho:ops[a]? with
  |none=>rw[ho]at h;cases h
  |some o=>
   rw[ho]at h;simp only[Option.map_some,Option.getD_some,Array.any_eq_true',yh]at h;obtain⟨e,he,hb,hr⟩:=h;exact lO hd f e.on b hr (hd a o ho hu e he hb)
theorem GC.start(a:Act)(m:Nat)(hX:w=X):GC ops S T X R F ic is a (Array.replicate m false) a w :=
 ⟨Off.refl _ _,PT.start _ _ _,fun _ _ _ h=>absurd h (Up.none _ _),fun _=>hX,fun h=>absurd h (Up.none _ _),fun h=>absurd h (Up.none _ _)⟩
theorem GC.fresh(hI:GC ops S T X R F ic is a0 zl a w){i:Nat}(aa:zl.getD i true=false)(hr:kG ops 40 ic i=true):w=X :=
 hI.w0 (fun h=>iK aa (lO hI.dn 40 ic i hr h))
theorem GC.dn_set(hI:GC ops S T X R F ic is a0 zl a w){i:Nat}(aa:zl.getD i true=false)(ho:ops[i]?=some o)(zd:∀ e∈o.after,Region.binds .any e=true->Up zl e.on) :
  ∀ j o',ops[j]?=some o'->Up (zl.setIfInBounds i true) j->∀ e∈o'.after,Region.binds .any e=true->Up (zl.setIfInBounds i true) e.on:=by
 intro j o' hj hu e he hb;have hi:=Up.of_false aa;rcases(Up.set hi).1 hu with rfl|hu
 ·rw[ho]at hj;injection hj with hj;subst hj;exact eP hi (zd e he hb)
 exact eP hi (hI.dn j o' hj hu e he hb)
theorem bZ(hk:okC (T.map fun e=>(e.1,e.2.1)) S is N=true)(hI:GC ops S T X R F ic is a0 zl a w)(hN:N<=a0.tmps.size){i s:Nat}{v:Value}(he:(i,s,v)∈T)(bp:i≠ic)(aa:zl.getD i true=false)(ho:ops[i]?=some o)(zd:∀ e∈o.after,Region.binds .any e=true->Up zl e.on)(hg:o.guard=none)(hd:o.dst=some s)
  (hr:(execOp a.eval o).run Tryz.prog w=.ok (.value v) w):wpOp Tryz.prog ops Q i (GC ops S T X R F ic is a0 (zl.setIfInBounds i true)) a w:=by
 have hi:=Up.of_false aa;obtain⟨h1,h2,h3⟩:=zC hk he;refine gX ho hg (oC v hr ?_);rw[hd];have jz:∀ {k},k≠i->(Up (zl.setIfInBounds i true) k↔Up zl k):=fun bp=>⟨fun h=>kJ hi h bp,fun h=>eP hi h⟩
 refine⟨hI.off.put h2 v,hI.pt.step hi (by rw[hI.off.size];exact yu h3 hN) (fun e' gb hs=>by rw[qB hk gb he (.inr hs)]) (fun e' gb hs=>by rw[qB hk gb he (.inl hs)]),hI.dn_set aa ho zd,?_,?_,?_⟩
 ·rw[jz (Ne.symm bp)];exact hI.w0
 ·rw[jz (Ne.symm bp),jz (Ne.symm h1)];exact hI.w1
 rw[jz (Ne.symm bp),jz (Ne.symm h1)];exact hI.w2
theorem uHK(hk:okC (T.map fun e=>(e.1,e.2.1)) S is N=true)(hI:GC ops S T X R F ic is a0 zl a w)(hN:N<=a0.tmps.size){s:Nat}{v:Value}(he:(ic,s,v)∈T)(aa:zl.getD ic true=false)(ho:ops[ic]?=some o)(zd:∀ e∈o.after,Region.binds .any e=true->Up zl e.on)(hg:o.guard=none)(hd:o.dst=some s)(f:FuncId)(xs:Array Value)
  (hr:(execOp a.eval o).run Tryz.prog w=.ok (.enter f xs) w) (hc:Calls Tryz.prog f xs X fun e w1=>e=.returned v/\R w1):wpOp Tryz.prog ops Q ic (GC ops S T X R F ic is a0 (zl.setIfInBounds ic true)) a w:=by
 have hi:=Up.of_false aa;have hX:=hI.w0 (iK aa);have hns:¬ Up zl is:=fun h=>iK aa (hI.w2 h).1
 obtain⟨h1,h2,h3⟩:=zC hk he;refine gX ho hg ?_;unfold Oper.wp;rw[hr,hX];refine hc.mono ?_;rintro e w1 ⟨rfl,hR⟩;show GC ops S T X R F ic is a0 (zl.setIfInBounds ic true) (a.put o.dst v) w1;rw[hd];have jz:∀ {k},k≠ic->(Up (zl.setIfInBounds ic true) k↔Up zl k):=fun bp=>⟨fun h=>kJ hi h bp,fun h=>eP hi h⟩
 refine⟨hI.off.put h2 v,hI.pt.step hi (by rw[hI.off.size];exact yu h3 hN) (fun e' gb hs=>by rw[qB hk gb he (.inr hs)]) (fun e' gb hs=>by rw[qB hk gb he (.inl hs)]),hI.dn_set aa ho zd,?_,?_,?_⟩
 ·exact fun h=>absurd (oB hi) h
 ·exact fun _ _=>hR
 rw[jz (Ne.symm h1)];exact fun h=>absurd h hns
theorem uAV(hk:okC (T.map fun e=>(e.1,e.2.1)) S is N=true)(hI:GC ops S T X R F ic is a0 zl a w)(bp:is≠ic)(aa:zl.getD is true=false)(ho:ops[is]?=some o)(zd:∀ e∈o.after,Region.binds .any e=true->Up zl e.on)(hg:o.guard=none)(hd:o.dst=none)(hic:Up zl ic)(W':World)
  (hr:R w->(execOp a.eval o).run Tryz.prog w=.ok .skip W') (hF:R w->F W'):wpOp Tryz.prog ops Q is (GC ops S T X R F ic is a0 (zl.setIfInBounds is true)) a w:=by
 have hi:=Up.of_false aa;have hR:=hI.w1 hic (iK aa);refine gX ho hg (pH (hr hR) ?_);rw[hd];show GC ops S T X R F ic is a0 _ a _;have jz:∀ {k},k≠is->(Up (zl.setIfInBounds is true) k↔Up zl k):=fun bp=>⟨fun h=>kJ hi h bp,fun h=>eP hi h⟩
 refine⟨hI.off,hI.pt.skip hi (fun e' gb=>(zC hk gb).1),hI.dn_set aa ho zd,?_,?_,?_⟩
 ·rw[jz (Ne.symm bp)];exact fun h=>absurd hic h
 ·exact fun _ h=>absurd (oB hi) h
 exact fun _=>⟨eP hi hic,hF hR⟩
theorem qT{id:Nat}{w0:World}(F0:Act->Prop)(S:List Nat)(T:List (Nat×Nat×Value))(X:World)(R F:World->Prop)(ic is:Nat)(hm:Tryz.prog.follows .mixedOrders=true)(hb:gY ops=true)(vz:F0 a)(hX:w0.drew=X)
  (bw:∀ a0,F0 a0->∀ zl a w i o,zl.size=ops.size->GC ops S T X R F ic is a0 zl a w->zl.getD i true=false->ops[i]?=some o->(∀ e∈o.after,Region.binds .any e=true->Up zl e.on)->wpOp Tryz.prog ops Q i (GC ops S T X R F ic is a0 (zl.setIfInBounds i true)) a w)
  (c9:∀ zl a' w',GC ops S T X R F ic is a zl a' w'->(∀ i,i<ops.size->Up zl i)->Q .normal a' w'):(Code.region id ops true).wp Tryz.prog Q a w0 :=
 gC hm hb F0 (GC ops S T X R F ic is) vz (GC.start _ _ hX) bw c9
end
end Go.Proofs.YtmgjidnalpgegaaGreatDoor
