/-
  Lemmas, part 13: ParN ParP.
-/
import Derived.Test.YtmgjidnalpgegaaGreatDoorPg12
namespace Go.Proofs.YtmgjidnalpgegaaGreatDoor
open Go.RowKit
theorem uGN(l:Bs):∃ (pc:Int) (isc:Bool),sK l=.tuple #[.int .i64 pc,.bool isc]∧(isc=true→∃ p:Nat,bQ l=some p∧pc=p∧p≤1000000)∧(isc=false→bQ l=none):=by
 unfold sK;cases h:bQ l with
 | none=>exact⟨_,_,rfl,fun h=>(by cases h),fun _=>rfl⟩
 | some c=>exact⟨_,_,rfl,fun _=>⟨c,rfl,rfl,tQ h⟩,fun h=>(by cases h)⟩
theorem uAE(l:Bs):∃ (mr mc:Int) (f1 f2 ism:Bool),iI l=.tuple #[jE mr mc f1 f2,.bool ism]∧(ism=true→∃ m,bC l=some m∧mr=m.row∧m.row≤100000000)∧(ism=false→bC l=none):=by
 unfold iI;cases h:bC l with
 | none=>exact⟨_,_,_,_,_,rfl,fun h=>(by cases h),fun _=>rfl⟩
 | some m=>exact⟨_,_,_,_,_,rfl,fun _=>⟨m,rfl,rfl,(qZ h).1⟩,fun h=>(by cases h)⟩
theorem uFY:bC [65]=none:=by decide
structure LineO(E:Env)(tk:Nat)(tx:Bs)(row col:Bool)(O:Except Nat Cor):Prop where
 bad:tk≠1→tk≠3→tk≠4→O=.error 6
 atC:(tk=1∨tk=3∨tk=4)→col=true→∀ p,bQ (Lib.trimPrefix tx [36])=some p→O=match E.ax.cols[p]? with
  | none=>.error 18
  | some x=>.ok ⟨id0,x,false,Lib.hasPrefix tx [36]⟩
 atR:(tk=1∨tk=3∨tk=4)→(col=true→bQ (Lib.trimPrefix tx [36])=none)→row=true→aC ((Lib.trimPrefix tx [36]).headD 0)=true→∀ m,bC (65::Lib.trimPrefix tx [36])=some m→O=match E.ax.rows[m.row]? with
  | none=>.error 18
  | some x=>.ok ⟨x,id0,Lib.hasPrefix tx [36],false⟩
 no:(tk=1∨tk=3∨tk=4)→(col=true→bQ (Lib.trimPrefix tx [36])=none)→(row=true→aC ((Lib.trimPrefix tx [36]).headD 0)=true→bC (65::Lib.trimPrefix tx [36])=none)→O=.error 6
theorem lineO(E:Env)(row col:Bool)(ts:List Tok):LineO E (hd ts).kind (hd ts).text row col (cV E.ax row col ts):=by
 have good:∀ {n:Nat},(n=1∨n=3∨n=4)→¬ (n≠1∧n≠3∧n≠4):=fun h h2=>by omega
 refine⟨fun h1 h3 h4=>?_,fun hk hc p hp=>?_,fun hk hc hr hg m hm=>?_,fun hk hc hr=>?_⟩
 ·unfold cV;rw[if_pos ⟨h1,h3,h4⟩]
 ·unfold cV;rw[if_neg (good hk)];dsimp only;rw[if_pos hc,hp];rfl
 ·unfold cV;rw[if_neg (good hk)];dsimp only;have h1:(if col=true then bQ (Lib.trimPrefix (hd ts).text [36]) else none)=none:=by
   split
   ·rename_i h;exact hc h
   ·rfl
  rw[h1,if_pos hr,if_pos hg,hm];rfl
 ·unfold cV;rw[if_neg (good hk)];dsimp only;have h1:(if col=true then bQ (Lib.trimPrefix (hd ts).text [36]) else none)=none:=by
   split
   ·rename_i h;exact hc h
   ·rfl
  have h2:(if row=true then (if aC ((Lib.trimPrefix (hd ts).text [36]).headD 0)=true then bC (65::Lib.trimPrefix (hd ts).text [36]) else none) else none)=none:=by
   split
   ·rename_i h
    split
    ·rename_i h2;exact hr h h2
    ·rfl
   ·rfl
  rw[h1,h2]
set_option maxRecDepth 100000 in
set_option maxHeartbeats 3200000 in
theorem line_any(E:Env)(hE:E.ok)(hL:E.L.length≤1000000)(hT:E.short)(row col:Bool)(k op nd pl er:Nat)(w:World)(hI:InE E k op nd pl er w)(hk:k<E.L.length) :
  Calls Tryz.prog 124 #[.pointer (some ⟨E.r,0,none⟩),.bool row,.bool col] w (yV E w k op nd pl er (cV E.ax row col (E.L.drop k))):=by
 have HO:=zh (lineO E row col (E.L.drop k));generalize cV E.ax row col (E.L.drop k)=O at HO ⊢;have CT:=zh (fun W h=>bT E k op nd pl er W h hk);have CW:=zh (fun W h=>eQ E hE k op nd pl er 6 W h hk);have CLy:=zh (fun p l place x W h hp hl hx=>pA E hE k op nd pl er p l place x W h hp hl hx);have CLn:=zh (fun p l place W h hp hl hx=>xT E hE k op nd pl er p l place W h hp hl hx hk);have ht:=hT k;have HS1:=zh ((Fs.start hI).alloc 36 bP (by decide));have HX:=qM (E.at k).text [36];have C1:=zh (fun W=>gY (E.at k).text [36] W);have C2:=zh (fun W=>qN (Lib.trimPrefix (E.at k).text [36]) W (by omega));have C3:=zh (fun W=>gX (65::Lib.trimPrefix (E.at k).text [36]) W (by simp only[List.length_cons];omega));obtain⟨pc,isc,e1,e2,e3⟩:=uGN (Lib.trimPrefix (E.at k).text [36])
 obtain⟨mr,mc,f1,f2,ism,e4,e5,e6⟩:=uAE (65::Lib.trimPrefix (E.at k).text [36]);rw[e1]at C2;rw[e4]at C3;replace HO:Hid (LineO E (E.at k).kind (E.at k).text row col O):=HO;generalize hat:E.at k=t at *;obtain⟨tk,tx,tp⟩:=t;have HAT:=zh hat;clear hat;dsimp only[tkV,jE]at CT CW C1 C2 C3 HO e2 e3 e5 e6 HX ht CLn;have HOb:=zh HO.out.bad;have HOc:=zh HO.out.atC;have HOr:=zh HO.out.atR;have HOn:=zh HO.out.no;generalize Lib.hasPrefix tx [36]=fx at *;generalize Lib.trimPrefix tx [36]=X at *;have HE2:=zh e2;have HE3:=zh e3;have HE5:=zh e5;have HE6:=zh e6;have hXl:X.length≤100000:=by omega
 clear hI e1 e2 e3 e4 e5 e6 HO HX
 go_enter Tryz.func124,Tryz.ntmps124
 go_upto_region 1 with fail
 generalize World.alloc _ _=W1 at HS1 ⊢;generalize hq:w.heap.size=q at HS1 ⊢
 go_wp2_with fail
 refine(CT.out W1 HS1.out.ine).mono ?_;rintro e w1 ⟨rfl,hb⟩;have HS2:=zh (HS1.out.next hb);clear hb HS1 hq;have HS3:=zh (HS2.out.alloc 70 #[.int .i64 tk,.string ⟨tx.toArray⟩,.int .i64 (tp:Int)] (by decide));clear HS2
 go_upto_region 2 with fail
 generalize World.alloc _ _=W3 at HS3 ⊢;generalize hq8:w1.heap.size=q8 at HS3 ⊢;clear hq8;by_cases hbad:tk≠1∧tk≠3∧tk≠4
 ·have b1:((tk:Int) != 1)=true:=by simp;omega
  have b3:((tk:Int) != 3)=true:=by simp;omega
  have b4:((tk:Int) != 4)=true:=by simp;omega
  have b1':((tk:Int)==1)=false:=by simp;omega
  have b3':((tk:Int)==3)=false:=by simp;omega
  have b4':((tk:Int)==4)=false:=by simp;omega
  have hO:=HOb.out hbad.1 hbad.2.1 hbad.2.2;subst hO;have x0:=(HS3.out.li 0 rfl).cell 0;have xf0:=(HS3.out.li 0 rfl).frozen 0;have x1:=(HS3.out.li 0 rfl).cell 1;have xf1:=(HS3.out.li 0 rfl).frozen 1;have x2:=(HS3.out.li 0 rfl).cell 2;have xf2:=(HS3.out.li 0 rfl).frozen 2;simp only[List.getElem?_toArray,List.getElem?_cons_zero,List.getElem?_cons_succ]at x0 x1 x2;clear hbad
  go_wp2_with fail
  refine(CW.out _ HS3.out.ine).mono ?_;rintro e w4 ⟨rfl,h1,h2⟩;have HS4:=zh (HS3.out.step h1 h2.X);clear h1 h2 HS3;have a0:=(HS4.out.li 1 rfl).cell 0;have af0:=(HS4.out.li 1 rfl).frozen 0;have a1:=(HS4.out.li 1 rfl).cell 1;have af1:=(HS4.out.li 1 rfl).frozen 1;have a2:=(HS4.out.li 1 rfl).cell 2;have af2:=(HS4.out.li 1 rfl).frozen 2;have a3:=(HS4.out.li 1 rfl).cell 3;have af3:=(HS4.out.li 1 rfl).frozen 3;have a4:=(HS4.out.li 1 rfl).cell 4;have af4:=(HS4.out.li 1 rfl).frozen 4;have a5:=(HS4.out.li 1 rfl).cell 5;have af5:=(HS4.out.li 1 rfl).frozen 5;simp only[List.getElem?_toArray,List.getElem?_cons_zero,List.getElem?_cons_succ]at a0 a1 a2 a3 a4 a5
  have HSz:Hid (∀ W',W'=((((((w4.setCell ⟨q,0,none⟩ (.int .i64 0)).setCell ⟨q,1,none⟩ (.int .i64 0)).setCell ⟨q,2,none⟩ (.int .i64 0)).setCell ⟨q,3,none⟩ (.int .i64 0)).setCell ⟨q,4,none⟩ (.bool false)).setCell ⟨q,5,none⟩ (.bool false))→Fs E w k op nd tp 6 [(q8,70,#[.int .i64 tk,.string ⟨tx.toArray⟩,.int .i64 (tp:Int)]),(q,36,bP)] W'):=zh (fun W' e=>by rw[e];exact((((((HS4.out.put hE 1 rfl 0 _).put hE 1 rfl 1 _).put hE 1 rfl 2 _).put hE 1 rfl 3 _).put hE 1 rfl 4 _).put hE 1 rfl 5 _));clear HS4
  go_wp2_with fail
  refine bodyPost_ret (v:=.tuple #[.agg #[.int .i64 0,.int .i64 0,.int .i64 0,.int .i64 0,.bool false,.bool false],.bool false]) (by simp[results,Tryz.results124,go_sem,a0,a1,a2,a3,a4,a5]) rfl ?_;show StepX E w k op nd (E.at k).place _ _ _ _;rw[HAT.out];exact⟨rfl,(HSz.out _ rfl).ine,(HSz.out _ rfl).kp⟩
 ·have hgood:tk=1∨tk=3∨tk=4:=by omega
  have HG:=zh hgood
  go_cut [31] (fun v wx=>v=.bool false∧Hid (Fs E w k op nd pl er [(q8,70,#[.int .i64 tk,.string ⟨tx.toArray⟩,.int .i64 (tp:Int)]),(q,36,bP)] wx))
  case first=>
   have x0:=(HS3.out.li 0 rfl).cell 0;have xf0:=(HS3.out.li 0 rfl).frozen 0;have x1:=(HS3.out.li 0 rfl).cell 1;have xf1:=(HS3.out.li 0 rfl).frozen 1;have x2:=(HS3.out.li 0 rfl).cell 2;have xf2:=(HS3.out.li 0 rfl).frozen 2;simp only[List.getElem?_toArray,List.getElem?_cons_zero,List.getElem?_cons_succ]at x0 x1 x2;rcases hgood with h | h | h
   ·subst h
    go_wp2_with fail
    all_goals go_meet
    all_goals exact⟨rfl,HS3⟩
   ·subst h
    go_wp2_with fail
    all_goals go_meet
    all_goals exact⟨rfl,HS3⟩
   ·subst h
    go_wp2_with fail
    all_goals go_meet
    all_goals exact⟨rfl,HS3⟩
  case rest=>
   obtain⟨rfl,HS4⟩:=hcut;clear HS3 hgood hbad HOb;have x1:=(HS4.out.li 0 rfl).cell 1;have xf1:=(HS4.out.li 0 rfl).frozen 1;simp only[List.getElem?_toArray,List.getElem?_cons_zero,List.getElem?_cons_succ]at x1
   go_wp2_with fail
   refine(C1.out wc).mono ?_;rintro e w5 ⟨rfl,hb⟩;subst hb;clear x1 xf1
   go_wp2_with fail
   refine(C2.out _).mono ?_;rintro e w6 ⟨rfl,hb⟩;have HS6:=zh (HS4.out.next hb);clear hb HS4 C1 C2
   go_wp2_with fail
   refine(C3.out _).mono ?_;rintro e w7 ⟨rfl,hb⟩;have HS7:=zh (HS6.out.next hb);clear hb HS6 C3;have HS8:=zh (HS7.out.alloc 150 #[.int .i64 mr,.int .i64 mc,.bool f1,.bool f2] (by decide));clear HS7
   go_upto_region 7 with fail
   generalize World.alloc _ _=W8 at HS8 ⊢;generalize hq13:w7.heap.size=q13 at HS8 ⊢;clear hq13
   go_cut [14] (fun v wx=>v=.bool (ism&&aC (X.headD 0))∧Hid (Fs E w k op nd pl er [(q13,150,#[.int .i64 mr,.int .i64 mc,.bool f1,.bool f2]),(q8,70,#[.int .i64 tk,.string ⟨tx.toArray⟩,.int .i64 (tp:Int)]),(q,36,bP)] wx))
   case first=>
    cases ism with
    | false=>
     go_wp2_with fail
     all_goals go_meet
     all_goals exact⟨rfl,HS8⟩
    | true=>
     obtain⟨m,hm,_,_⟩:=HE5.out rfl;cases X with
     | nil=>rw[uFY]at hm;cases hm
     | cons c r=>
      by_cases g1:48≤c.toNat
      ·have g1i:(48:Int)≤(c.toNat:Int):=by omega
       by_cases g2:c.toNat≤57
       ·have g2i:(c.toNat:Int)≤57:=by omega
        go_wp2_with fail
        all_goals go_meet
        all_goals exact⟨by unfold aC;simp[g1,g2],HS8⟩
       ·have g2i:¬ (c.toNat:Int)≤57:=by omega
        go_wp2_with fail
        all_goals go_meet
        all_goals exact⟨by unfold aC;simp[g1,g2],HS8⟩
      ·have g1i:¬ (48:Int)≤(c.toNat:Int):=by omega
       go_wp2_with fail
       all_goals go_meet
       all_goals exact⟨by unfold aC;simp[g1],HS8⟩
   case rest=>
    obtain⟨rfl,HS9⟩:=hcut;have HR1:Hid ((ism&&aC (X.headD 0))=true→aC (X.headD 0)=true∧∃ m,bC (65::X)=some m∧mr=m.row∧m.row≤100000000):=zh (fun h=>by rw[Bool.and_eq_true]at h;exact⟨h.2,HE5.out h.1⟩);have HR0:Hid ((ism&&aC (X.headD 0))=false→aC (X.headD 0)=true→bC (65::X)=none):=zh (fun h h2=>by rw[h2,Bool.and_true]at h;exact HE6.out h);generalize (ism&&aC (X.headD 0))=isr at *;clear HS8 HE5 HE6;have HSa:=zh (HS9.out.alloc 36 bP (by decide));clear HS9
    go_upto_block 0 with fail
    generalize World.alloc _ _=Wa at HSa ⊢;generalize hq15:wc.heap.size=q15 at HSa ⊢;clear hq15;have hkb:(k:Int)≤1000000:=by omega
    by_cases hcc:col=true∧isc=true
    ·obtain⟨rfl,rfl⟩:=hcc;obtain⟨p,hp,hpp,hpb⟩:=HE2.out rfl;subst hpp;have hOr:=HOc.out HG.out rfl p hp;clear HOc HOr HOn HE2 HE3 HR1 HR0 hp;cases hx:E.ax.cols[p]? with
     | none=>
      rw[hx]at hOr;have HOO:=zh hOr;clear hOr;have x5:=(HSa.out.li 0 rfl).cell 5;have xf5:=(HSa.out.li 0 rfl).frozen 5;simp only[List.getElem?_toArray,List.getElem?_cons_zero,List.getElem?_cons_succ]at x5;have HSb:Hid (Fs E w k op nd pl er [(q15,36,#[.int .i64 0,.int .i64 0,.int .i64 0,.int .i64 0,.bool false,.bool fx]),(q13,150,#[.int .i64 mr,.int .i64 mc,.bool f1,.bool f2]),(q8,70,#[.int .i64 tk,.string ⟨tx.toArray⟩,.int .i64 (tp:Int)]),(q,36,bP)] (Wa.setCell ⟨q15,5,none⟩ (.bool fx))):=zh (HSa.out.put hE 0 rfl 5 _);clear HSa
      go_upto_region 13 with fail
      generalize World.setCell _ _ _=Wb at HSb ⊢;clear x5 xf5;have r5:=HSb.out.ine.rd.cell 5;simp only[List.getElem?_toArray,List.getElem?_cons_zero,List.getElem?_cons_succ]at r5;have CL:=zh (CLn.out E.pb E.ax.cols p _ HSb.out.ine (.inr ⟨rfl,rfl⟩) (by omega) hx)
      go_wp2_with fail
      refine CL.out.mono ?_;rintro e w6 ⟨rfl,h1,h2⟩;have HSc:=zh (HSb.out.step h1 h2);clear h1 h2 HSb CL hx;clear r5;have x2:=(HSc.out.li 0 rfl).cell 2;have xf2:=(HSc.out.li 0 rfl).frozen 2;have x3:=(HSc.out.li 0 rfl).cell 3;have xf3:=(HSc.out.li 0 rfl).frozen 3;simp only[List.getElem?_toArray,List.getElem?_cons_zero,List.getElem?_cons_succ]at x2 x3;have HSd:Hid (Fs E w k op nd tp 18 [(q15,36,#[.int .i64 0,.int .i64 0,.int .i64 0,.int .i64 0,.bool false,.bool fx]),(q13,150,#[.int .i64 mr,.int .i64 mc,.bool f1,.bool f2]),(q8,70,#[.int .i64 tk,.string ⟨tx.toArray⟩,.int .i64 (tp:Int)]),(q,36,bP)] ((w6.setCell ⟨q15,2,none⟩ (.int .i64 0)).setCell ⟨q15,3,none⟩ (.int .i64 0))):=zh ((HSc.out.put hE 0 rfl 2 _).put hE 0 rfl 3 _);clear HSc
      go_upto_region 17 with fail
      generalize World.setCell _ _ _=Wd at HSd ⊢;clear x2 x3 xf2 xf3;have a0:=(HSd.out.li 3 rfl).cell 0;have af0:=(HSd.out.li 3 rfl).frozen 0;have a1:=(HSd.out.li 3 rfl).cell 1;have af1:=(HSd.out.li 3 rfl).frozen 1;have a2:=(HSd.out.li 3 rfl).cell 2;have af2:=(HSd.out.li 3 rfl).frozen 2;have a3:=(HSd.out.li 3 rfl).cell 3;have af3:=(HSd.out.li 3 rfl).frozen 3;have a4:=(HSd.out.li 3 rfl).cell 4;have af4:=(HSd.out.li 3 rfl).frozen 4;have a5:=(HSd.out.li 3 rfl).cell 5;have af5:=(HSd.out.li 3 rfl).frozen 5;simp only[List.getElem?_toArray,List.getElem?_cons_zero,List.getElem?_cons_succ]at a0 a1 a2 a3 a4 a5
      have HSz:Hid (∀ W',W'=((((((Wd.setCell ⟨q,0,none⟩ (.int .i64 0)).setCell ⟨q,1,none⟩ (.int .i64 0)).setCell ⟨q,2,none⟩ (.int .i64 0)).setCell ⟨q,3,none⟩ (.int .i64 0)).setCell ⟨q,4,none⟩ (.bool false)).setCell ⟨q,5,none⟩ (.bool false))→Fs E w k op nd tp 18 [(q15,36,#[.int .i64 0,.int .i64 0,.int .i64 0,.int .i64 0,.bool false,.bool fx]),(q13,150,#[.int .i64 mr,.int .i64 mc,.bool f1,.bool f2]),(q8,70,#[.int .i64 tk,.string ⟨tx.toArray⟩,.int .i64 (tp:Int)]),(q,36,bP)] W'):=zh (fun W' e=>by rw[e];exact((((((HSd.out.put hE 3 rfl 0 _).put hE 3 rfl 1 _).put hE 3 rfl 2 _).put hE 3 rfl 3 _).put hE 3 rfl 4 _).put hE 3 rfl 5 _));clear HSd
      go_wp2_with fail
      refine bodyPost_ret (v:=.tuple #[.agg #[.int .i64 0,.int .i64 0,.int .i64 0,.int .i64 0,.bool false,.bool false],.bool false]) (by simp[results,Tryz.results124,go_sem,a0,a1,a2,a3,a4,a5]) rfl ?_;rw[HOO.out];show StepX E w k op nd (E.at k).place _ _ _ _;rw[HAT.out];exact⟨rfl,(HSz.out _ rfl).ine,(HSz.out _ rfl).kp⟩
     | some x=>
      obtain⟨xa,xn⟩:=x;rw[hx]at hOr;have HOO:=zh hOr;clear hOr;have x5:=(HSa.out.li 0 rfl).cell 5;have xf5:=(HSa.out.li 0 rfl).frozen 5;simp only[List.getElem?_toArray,List.getElem?_cons_zero,List.getElem?_cons_succ]at x5;have HSb:Hid (Fs E w k op nd pl er [(q15,36,#[.int .i64 0,.int .i64 0,.int .i64 0,.int .i64 0,.bool false,.bool fx]),(q13,150,#[.int .i64 mr,.int .i64 mc,.bool f1,.bool f2]),(q8,70,#[.int .i64 tk,.string ⟨tx.toArray⟩,.int .i64 (tp:Int)]),(q,36,bP)] (Wa.setCell ⟨q15,5,none⟩ (.bool fx))):=zh (HSa.out.put hE 0 rfl 5 _);clear HSa
      go_upto_region 13 with fail
      generalize World.setCell _ _ _=Wb at HSb ⊢;clear x5 xf5;have r5:=HSb.out.ine.rd.cell 5;simp only[List.getElem?_toArray,List.getElem?_cons_zero,List.getElem?_cons_succ]at r5;have CL:=zh (CLy.out E.pb E.ax.cols p ⟨xa,xn⟩ _ HSb.out.ine (.inr ⟨rfl,rfl⟩) (by omega) hx)
      go_wp2_with fail
      refine CL.out.mono ?_;rintro e w6 ⟨rfl,h1,h2⟩;have HSc:=zh (HSb.out.step h1 h2);clear h1 h2 HSb CL hx;clear r5;have x2:=(HSc.out.li 0 rfl).cell 2;have xf2:=(HSc.out.li 0 rfl).frozen 2;have x3:=(HSc.out.li 0 rfl).cell 3;have xf3:=(HSc.out.li 0 rfl).frozen 3;simp only[List.getElem?_toArray,List.getElem?_cons_zero,List.getElem?_cons_succ]at x2 x3;have HSd:Hid (Fs E w k op nd pl er [(q15,36,#[.int .i64 0,.int .i64 0,.int .i64 xa,.int .i64 xn,.bool false,.bool fx]),(q13,150,#[.int .i64 mr,.int .i64 mc,.bool f1,.bool f2]),(q8,70,#[.int .i64 tk,.string ⟨tx.toArray⟩,.int .i64 (tp:Int)]),(q,36,bP)] ((w6.setCell ⟨q15,2,none⟩ (.int .i64 xa)).setCell ⟨q15,3,none⟩ (.int .i64 xn))):=zh ((HSc.out.put hE 0 rfl 2 _).put hE 0 rfl 3 _);clear HSc
      go_upto_region 17 with fail
      generalize World.setCell _ _ _=Wd at HSd ⊢;clear x2 x3 xf2 xf3;have r1:=HSd.out.ine.rd.cell 1;have rf1:=HSd.out.ine.rd.frozen 1;simp only[List.getElem?_toArray,List.getElem?_cons_zero,List.getElem?_cons_succ]at r1;have HSe:=zh (HSd.out.rd hE 1 (.int .i64 ((k:Int)+1)) (k':=k+1) rfl);clear HSd
      go_upto_region 20 with fail
      generalize World.setCell _ _ _=We at HSe ⊢;clear r1 rf1;have y0:=(HSe.out.li 0 rfl).cell 0;have y1:=(HSe.out.li 0 rfl).cell 1;have y2:=(HSe.out.li 0 rfl).cell 2;have y3:=(HSe.out.li 0 rfl).cell 3;have y4:=(HSe.out.li 0 rfl).cell 4;have y5:=(HSe.out.li 0 rfl).cell 5;simp only[List.getElem?_toArray,List.getElem?_cons_zero,List.getElem?_cons_succ]at y0 y1 y2 y3 y4 y5;have a0:=(HSe.out.li 3 rfl).cell 0;have af0:=(HSe.out.li 3 rfl).frozen 0;have a1:=(HSe.out.li 3 rfl).cell 1;have af1:=(HSe.out.li 3 rfl).frozen 1;have a2:=(HSe.out.li 3 rfl).cell 2;have af2:=(HSe.out.li 3 rfl).frozen 2;have a3:=(HSe.out.li 3 rfl).cell 3;have af3:=(HSe.out.li 3 rfl).frozen 3;have a4:=(HSe.out.li 3 rfl).cell 4;have af4:=(HSe.out.li 3 rfl).frozen 4;have a5:=(HSe.out.li 3 rfl).cell 5;have af5:=(HSe.out.li 3 rfl).frozen 5
      simp only[List.getElem?_toArray,List.getElem?_cons_zero,List.getElem?_cons_succ]at a0 a1 a2 a3 a4 a5;have HSz:Hid (∀ W',W'=((((((We.setCell ⟨q,0,none⟩ (.int .i64 0)).setCell ⟨q,1,none⟩ (.int .i64 0)).setCell ⟨q,2,none⟩ (.int .i64 xa)).setCell ⟨q,3,none⟩ (.int .i64 xn)).setCell ⟨q,4,none⟩ (.bool false)).setCell ⟨q,5,none⟩ (.bool fx))→Fs E w (k+1) op nd pl er [(q15,36,#[.int .i64 0,.int .i64 0,.int .i64 xa,.int .i64 xn,.bool false,.bool fx]),(q13,150,#[.int .i64 mr,.int .i64 mc,.bool f1,.bool f2]),(q8,70,#[.int .i64 tk,.string ⟨tx.toArray⟩,.int .i64 (tp:Int)]),(q,36,#[.int .i64 0,.int .i64 0,.int .i64 xa,.int .i64 xn,.bool false,.bool fx])] W'):=zh (fun W' e=>by rw[e];exact((((((HSe.out.put hE 3 rfl 0 _).put hE 3 rfl 1 _).put hE 3 rfl 2 _).put hE 3 rfl 3 _).put hE 3 rfl 4 _).put hE 3 rfl 5 _));clear HSe
      go_wp2_with fail
      refine bodyPost_ret (v:=.tuple #[.agg #[.int .i64 0,.int .i64 0,.int .i64 xa,.int .i64 xn,.bool false,.bool fx],.bool true]) (by simp[results,Tryz.results124,go_sem,a0,a1,a2,a3,a4,a5]) rfl ?_;rw[HOO.out];exact⟨rfl,(HSz.out _ rfl).ine,(HSz.out _ rfl).kp⟩
    ·have hcn:Hid (col=true→bQ X=none):=zh (fun h=>HE3.out (by cases isc;rfl;exact absurd ⟨h,rfl⟩ hcc));have HCC:Hid (¬ (col=true∧isc=true)):=zh hcc;clear hcc HE2 HE3 HOc;by_cases hrr:row=true∧isr=true
     ·obtain⟨rfl,rfl⟩:=hrr;obtain⟨hdg,m,hm,hmm,hmb⟩:=HR1.out rfl;have hOr:=HOr.out HG.out hcn.out rfl hdg m hm;clear HOr HOn HR1 HR0 hm hcn hdg;obtain⟨mrow,mcol,mfr,mfc⟩:=m;dsimp only at hOr hmm hmb;subst hmm;have hci:col=false∨(col=true∧isc=false):=by have:=HCC.out;cases col <;> cases isc <;> simp_all
      clear HCC;rcases hci with rfl | ⟨rfl,rfl⟩
      ·cases hx:E.ax.rows[mrow]? with
       | none=>
        rw[hx]at hOr;have HOO:=zh hOr;clear hOr
        go_cut [16] (fun v wx=>v=.bool false∧Hid (Fs E w k op nd tp 18 [(q15,36,#[.int .i64 0,.int .i64 0,.int .i64 0,.int .i64 0,.bool fx,.bool false]),(q13,150,#[.int .i64 (mrow:Int),.int .i64 mc,.bool f1,.bool f2]),(q8,70,#[.int .i64 tk,.string ⟨tx.toArray⟩,.int .i64 (tp:Int)]),(q,36,bP)] wx))
        case first=>
         have x4:=(HSa.out.li 0 rfl).cell 4;have xf4:=(HSa.out.li 0 rfl).frozen 4;simp only[List.getElem?_toArray,List.getElem?_cons_zero,List.getElem?_cons_succ]at x4;have HSb:Hid (Fs E w k op nd pl er [(q15,36,#[.int .i64 0,.int .i64 0,.int .i64 0,.int .i64 0,.bool fx,.bool false]),(q13,150,#[.int .i64 (mrow:Int),.int .i64 mc,.bool f1,.bool f2]),(q8,70,#[.int .i64 tk,.string ⟨tx.toArray⟩,.int .i64 (tp:Int)]),(q,36,bP)] (Wa.setCell ⟨q15,4,none⟩ (.bool fx))):=zh (HSa.out.put hE 0 rfl 4 _);clear HSa
         go_upto_region 16 with fail
         generalize World.setCell _ _ _=Wb at HSb ⊢;clear x4 xf4;have r4:=HSb.out.ine.rd.cell 4;simp only[List.getElem?_toArray,List.getElem?_cons_zero,List.getElem?_cons_succ]at r4;have x0:=(HSb.out.li 1 rfl).cell 0;simp only[List.getElem?_toArray,List.getElem?_cons_zero]at x0
         go_region_with ((go_at_call 134;refine(CLn.out E.pa E.ax.rows mrow Wb.drew (HSb.out.next (Below.refl _ _).drew).ine (.inl ⟨rfl,rfl⟩) hmb hx).mono ?_;rintro e w6 ⟨rfl,h1,h2⟩;have HSc:=zh ((HSb.out.next (Below.refl _ _).drew).step h1 h2);clear h1 h2;have z0:=(HSc.out.li 0 rfl).cell 0;have zf0:=(HSc.out.li 0 rfl).frozen 0;have z1:=(HSc.out.li 0 rfl).cell 1;have zf1:=(HSc.out.li 0 rfl).frozen 1;simp only[List.getElem?_toArray,List.getElem?_cons_zero,List.getElem?_cons_succ]at z0 z1))
         all_goals go_wp2_with fail
         all_goals go_meet
         all_goals exact⟨rfl,zh ((HSc.out.put hE 0 rfl 0 _).put hE 0 rfl 1 _)⟩
        case rest=>
         obtain⟨rfl,HSd⟩:=hcut;clear HSa hx
         go_upto_region 17 with fail
         have a0:=(HSd.out.li 3 rfl).cell 0;have af0:=(HSd.out.li 3 rfl).frozen 0;have a1:=(HSd.out.li 3 rfl).cell 1;have af1:=(HSd.out.li 3 rfl).frozen 1;have a2:=(HSd.out.li 3 rfl).cell 2;have af2:=(HSd.out.li 3 rfl).frozen 2;have a3:=(HSd.out.li 3 rfl).cell 3;have af3:=(HSd.out.li 3 rfl).frozen 3;have a4:=(HSd.out.li 3 rfl).cell 4;have af4:=(HSd.out.li 3 rfl).frozen 4;have a5:=(HSd.out.li 3 rfl).cell 5;have af5:=(HSd.out.li 3 rfl).frozen 5;simp only[List.getElem?_toArray,List.getElem?_cons_zero,List.getElem?_cons_succ]at a0 a1 a2 a3 a4 a5
         have HSz:Hid (∀ W',W'=((((((wc.setCell ⟨q,0,none⟩ (.int .i64 0)).setCell ⟨q,1,none⟩ (.int .i64 0)).setCell ⟨q,2,none⟩ (.int .i64 0)).setCell ⟨q,3,none⟩ (.int .i64 0)).setCell ⟨q,4,none⟩ (.bool false)).setCell ⟨q,5,none⟩ (.bool false))→Fs E w k op nd tp 18 [(q15,36,#[.int .i64 0,.int .i64 0,.int .i64 0,.int .i64 0,.bool fx,.bool false]),(q13,150,#[.int .i64 (mrow:Int),.int .i64 mc,.bool f1,.bool f2]),(q8,70,#[.int .i64 tk,.string ⟨tx.toArray⟩,.int .i64 (tp:Int)]),(q,36,bP)] W'):=zh (fun W' e=>by rw[e];exact((((((HSd.out.put hE 3 rfl 0 _).put hE 3 rfl 1 _).put hE 3 rfl 2 _).put hE 3 rfl 3 _).put hE 3 rfl 4 _).put hE 3 rfl 5 _));clear HSd
         go_wp2_with fail
         refine bodyPost_ret (v:=.tuple #[.agg #[.int .i64 0,.int .i64 0,.int .i64 0,.int .i64 0,.bool false,.bool false],.bool false]) (by simp[results,Tryz.results124,go_sem,a0,a1,a2,a3,a4,a5]) rfl ?_;rw[HOO.out];show StepX E w k op nd (E.at k).place _ _ _ _;rw[HAT.out];exact⟨rfl,(HSz.out _ rfl).ine,(HSz.out _ rfl).kp⟩
       | some x=>
        obtain⟨xa,xn⟩:=x;rw[hx]at hOr;have HOO:=zh hOr;clear hOr
        go_cut [16] (fun v wx=>v=.bool true∧Hid (Fs E w k op nd pl er [(q15,36,#[.int .i64 xa,.int .i64 xn,.int .i64 0,.int .i64 0,.bool fx,.bool false]),(q13,150,#[.int .i64 (mrow:Int),.int .i64 mc,.bool f1,.bool f2]),(q8,70,#[.int .i64 tk,.string ⟨tx.toArray⟩,.int .i64 (tp:Int)]),(q,36,bP)] wx))
        case first=>
         have x4:=(HSa.out.li 0 rfl).cell 4;have xf4:=(HSa.out.li 0 rfl).frozen 4;simp only[List.getElem?_toArray,List.getElem?_cons_zero,List.getElem?_cons_succ]at x4;have HSb:Hid (Fs E w k op nd pl er [(q15,36,#[.int .i64 0,.int .i64 0,.int .i64 0,.int .i64 0,.bool fx,.bool false]),(q13,150,#[.int .i64 (mrow:Int),.int .i64 mc,.bool f1,.bool f2]),(q8,70,#[.int .i64 tk,.string ⟨tx.toArray⟩,.int .i64 (tp:Int)]),(q,36,bP)] (Wa.setCell ⟨q15,4,none⟩ (.bool fx))):=zh (HSa.out.put hE 0 rfl 4 _);clear HSa
         go_upto_region 16 with fail
         generalize World.setCell _ _ _=Wb at HSb ⊢;clear x4 xf4;have r4:=HSb.out.ine.rd.cell 4;simp only[List.getElem?_toArray,List.getElem?_cons_zero,List.getElem?_cons_succ]at r4;have x0:=(HSb.out.li 1 rfl).cell 0;simp only[List.getElem?_toArray,List.getElem?_cons_zero]at x0
         go_region_with ((go_at_call 134;refine(CLy.out E.pa E.ax.rows mrow ⟨xa,xn⟩ Wb.drew (HSb.out.next (Below.refl _ _).drew).ine (.inl ⟨rfl,rfl⟩) hmb hx).mono ?_;rintro e w6 ⟨rfl,h1,h2⟩;have HSc:=zh ((HSb.out.next (Below.refl _ _).drew).step h1 h2);clear h1 h2;have z0:=(HSc.out.li 0 rfl).cell 0;have zf0:=(HSc.out.li 0 rfl).frozen 0;have z1:=(HSc.out.li 0 rfl).cell 1;have zf1:=(HSc.out.li 0 rfl).frozen 1;simp only[List.getElem?_toArray,List.getElem?_cons_zero,List.getElem?_cons_succ]at z0 z1))
         all_goals go_wp2_with fail
         all_goals go_meet
         all_goals exact⟨rfl,zh ((HSc.out.put hE 0 rfl 0 _).put hE 0 rfl 1 _)⟩
        case rest=>
         obtain⟨rfl,HSd⟩:=hcut;clear HSa hx
         go_upto_region 17 with fail
         have r1:=HSd.out.ine.rd.cell 1;have rf1:=HSd.out.ine.rd.frozen 1;simp only[List.getElem?_toArray,List.getElem?_cons_zero,List.getElem?_cons_succ]at r1;have HSe:=zh (HSd.out.rd hE 1 (.int .i64 ((k:Int)+1)) (k':=k+1) rfl);clear HSd
         go_upto_region 20 with fail
         generalize World.setCell _ _ _=We at HSe ⊢;clear r1 rf1;have y0:=(HSe.out.li 0 rfl).cell 0;have y1:=(HSe.out.li 0 rfl).cell 1;have y2:=(HSe.out.li 0 rfl).cell 2;have y3:=(HSe.out.li 0 rfl).cell 3;have y4:=(HSe.out.li 0 rfl).cell 4;have y5:=(HSe.out.li 0 rfl).cell 5;simp only[List.getElem?_toArray,List.getElem?_cons_zero,List.getElem?_cons_succ]at y0 y1 y2 y3 y4 y5;have a0:=(HSe.out.li 3 rfl).cell 0;have af0:=(HSe.out.li 3 rfl).frozen 0;have a1:=(HSe.out.li 3 rfl).cell 1;have af1:=(HSe.out.li 3 rfl).frozen 1;have a2:=(HSe.out.li 3 rfl).cell 2;have af2:=(HSe.out.li 3 rfl).frozen 2;have a3:=(HSe.out.li 3 rfl).cell 3;have af3:=(HSe.out.li 3 rfl).frozen 3;have a4:=(HSe.out.li 3 rfl).cell 4;have af4:=(HSe.out.li 3 rfl).frozen 4;have a5:=(HSe.out.li 3 rfl).cell 5;have af5:=(HSe.out.li 3 rfl).frozen 5
         simp only[List.getElem?_toArray,List.getElem?_cons_zero,List.getElem?_cons_succ]at a0 a1 a2 a3 a4 a5;have HSz:Hid (∀ W',W'=((((((We.setCell ⟨q,0,none⟩ (.int .i64 xa)).setCell ⟨q,1,none⟩ (.int .i64 xn)).setCell ⟨q,2,none⟩ (.int .i64 0)).setCell ⟨q,3,none⟩ (.int .i64 0)).setCell ⟨q,4,none⟩ (.bool fx)).setCell ⟨q,5,none⟩ (.bool false))→Fs E w (k+1) op nd pl er [(q15,36,#[.int .i64 xa,.int .i64 xn,.int .i64 0,.int .i64 0,.bool fx,.bool false]),(q13,150,#[.int .i64 (mrow:Int),.int .i64 mc,.bool f1,.bool f2]),(q8,70,#[.int .i64 tk,.string ⟨tx.toArray⟩,.int .i64 (tp:Int)]),(q,36,#[.int .i64 xa,.int .i64 xn,.int .i64 0,.int .i64 0,.bool fx,.bool false])] W'):=zh (fun W' e=>by rw[e];exact((((((HSe.out.put hE 3 rfl 0 _).put hE 3 rfl 1 _).put hE 3 rfl 2 _).put hE 3 rfl 3 _).put hE 3 rfl 4 _).put hE 3 rfl 5 _));clear HSe
         go_wp2_with fail
         refine bodyPost_ret (v:=.tuple #[.agg #[.int .i64 xa,.int .i64 xn,.int .i64 0,.int .i64 0,.bool fx,.bool false],.bool true]) (by simp[results,Tryz.results124,go_sem,a0,a1,a2,a3,a4,a5]) rfl ?_;rw[HOO.out];exact⟨rfl,(HSz.out _ rfl).ine,(HSz.out _ rfl).kp⟩
      ·cases hx:E.ax.rows[mrow]? with
       | none=>
        rw[hx]at hOr;have HOO:=zh hOr;clear hOr
        go_cut [16] (fun v wx=>v=.bool false∧Hid (Fs E w k op nd tp 18 [(q15,36,#[.int .i64 0,.int .i64 0,.int .i64 0,.int .i64 0,.bool fx,.bool false]),(q13,150,#[.int .i64 (mrow:Int),.int .i64 mc,.bool f1,.bool f2]),(q8,70,#[.int .i64 tk,.string ⟨tx.toArray⟩,.int .i64 (tp:Int)]),(q,36,bP)] wx))
        case first=>
         have x4:=(HSa.out.li 0 rfl).cell 4;have xf4:=(HSa.out.li 0 rfl).frozen 4;simp only[List.getElem?_toArray,List.getElem?_cons_zero,List.getElem?_cons_succ]at x4;have HSb:Hid (Fs E w k op nd pl er [(q15,36,#[.int .i64 0,.int .i64 0,.int .i64 0,.int .i64 0,.bool fx,.bool false]),(q13,150,#[.int .i64 (mrow:Int),.int .i64 mc,.bool f1,.bool f2]),(q8,70,#[.int .i64 tk,.string ⟨tx.toArray⟩,.int .i64 (tp:Int)]),(q,36,bP)] (Wa.setCell ⟨q15,4,none⟩ (.bool fx))):=zh (HSa.out.put hE 0 rfl 4 _);clear HSa
         go_upto_region 16 with fail
         generalize World.setCell _ _ _=Wb at HSb ⊢;clear x4 xf4;have r4:=HSb.out.ine.rd.cell 4;simp only[List.getElem?_toArray,List.getElem?_cons_zero,List.getElem?_cons_succ]at r4;have x0:=(HSb.out.li 1 rfl).cell 0;simp only[List.getElem?_toArray,List.getElem?_cons_zero]at x0
         go_region_with ((go_at_call 134;refine(CLn.out E.pa E.ax.rows mrow Wb.drew (HSb.out.next (Below.refl _ _).drew).ine (.inl ⟨rfl,rfl⟩) hmb hx).mono ?_;rintro e w6 ⟨rfl,h1,h2⟩;have HSc:=zh ((HSb.out.next (Below.refl _ _).drew).step h1 h2);clear h1 h2;have z0:=(HSc.out.li 0 rfl).cell 0;have zf0:=(HSc.out.li 0 rfl).frozen 0;have z1:=(HSc.out.li 0 rfl).cell 1;have zf1:=(HSc.out.li 0 rfl).frozen 1;simp only[List.getElem?_toArray,List.getElem?_cons_zero,List.getElem?_cons_succ]at z0 z1))
         all_goals go_wp2_with fail
         all_goals go_meet
         all_goals exact⟨rfl,zh ((HSc.out.put hE 0 rfl 0 _).put hE 0 rfl 1 _)⟩
        case rest=>
         obtain⟨rfl,HSd⟩:=hcut;clear HSa hx
         go_upto_region 17 with fail
         have a0:=(HSd.out.li 3 rfl).cell 0;have af0:=(HSd.out.li 3 rfl).frozen 0;have a1:=(HSd.out.li 3 rfl).cell 1;have af1:=(HSd.out.li 3 rfl).frozen 1;have a2:=(HSd.out.li 3 rfl).cell 2;have af2:=(HSd.out.li 3 rfl).frozen 2;have a3:=(HSd.out.li 3 rfl).cell 3;have af3:=(HSd.out.li 3 rfl).frozen 3;have a4:=(HSd.out.li 3 rfl).cell 4;have af4:=(HSd.out.li 3 rfl).frozen 4;have a5:=(HSd.out.li 3 rfl).cell 5;have af5:=(HSd.out.li 3 rfl).frozen 5;simp only[List.getElem?_toArray,List.getElem?_cons_zero,List.getElem?_cons_succ]at a0 a1 a2 a3 a4 a5
         have HSz:Hid (∀ W',W'=((((((wc.setCell ⟨q,0,none⟩ (.int .i64 0)).setCell ⟨q,1,none⟩ (.int .i64 0)).setCell ⟨q,2,none⟩ (.int .i64 0)).setCell ⟨q,3,none⟩ (.int .i64 0)).setCell ⟨q,4,none⟩ (.bool false)).setCell ⟨q,5,none⟩ (.bool false))→Fs E w k op nd tp 18 [(q15,36,#[.int .i64 0,.int .i64 0,.int .i64 0,.int .i64 0,.bool fx,.bool false]),(q13,150,#[.int .i64 (mrow:Int),.int .i64 mc,.bool f1,.bool f2]),(q8,70,#[.int .i64 tk,.string ⟨tx.toArray⟩,.int .i64 (tp:Int)]),(q,36,bP)] W'):=zh (fun W' e=>by rw[e];exact((((((HSd.out.put hE 3 rfl 0 _).put hE 3 rfl 1 _).put hE 3 rfl 2 _).put hE 3 rfl 3 _).put hE 3 rfl 4 _).put hE 3 rfl 5 _));clear HSd
         go_wp2_with fail
         refine bodyPost_ret (v:=.tuple #[.agg #[.int .i64 0,.int .i64 0,.int .i64 0,.int .i64 0,.bool false,.bool false],.bool false]) (by simp[results,Tryz.results124,go_sem,a0,a1,a2,a3,a4,a5]) rfl ?_;rw[HOO.out];show StepX E w k op nd (E.at k).place _ _ _ _;rw[HAT.out];exact⟨rfl,(HSz.out _ rfl).ine,(HSz.out _ rfl).kp⟩
       | some x=>
        obtain⟨xa,xn⟩:=x;rw[hx]at hOr;have HOO:=zh hOr;clear hOr
        go_cut [16] (fun v wx=>v=.bool true∧Hid (Fs E w k op nd pl er [(q15,36,#[.int .i64 xa,.int .i64 xn,.int .i64 0,.int .i64 0,.bool fx,.bool false]),(q13,150,#[.int .i64 (mrow:Int),.int .i64 mc,.bool f1,.bool f2]),(q8,70,#[.int .i64 tk,.string ⟨tx.toArray⟩,.int .i64 (tp:Int)]),(q,36,bP)] wx))
        case first=>
         have x4:=(HSa.out.li 0 rfl).cell 4;have xf4:=(HSa.out.li 0 rfl).frozen 4;simp only[List.getElem?_toArray,List.getElem?_cons_zero,List.getElem?_cons_succ]at x4;have HSb:Hid (Fs E w k op nd pl er [(q15,36,#[.int .i64 0,.int .i64 0,.int .i64 0,.int .i64 0,.bool fx,.bool false]),(q13,150,#[.int .i64 (mrow:Int),.int .i64 mc,.bool f1,.bool f2]),(q8,70,#[.int .i64 tk,.string ⟨tx.toArray⟩,.int .i64 (tp:Int)]),(q,36,bP)] (Wa.setCell ⟨q15,4,none⟩ (.bool fx))):=zh (HSa.out.put hE 0 rfl 4 _);clear HSa
         go_upto_region 16 with fail
         generalize World.setCell _ _ _=Wb at HSb ⊢;clear x4 xf4;have r4:=HSb.out.ine.rd.cell 4;simp only[List.getElem?_toArray,List.getElem?_cons_zero,List.getElem?_cons_succ]at r4;have x0:=(HSb.out.li 1 rfl).cell 0;simp only[List.getElem?_toArray,List.getElem?_cons_zero]at x0
         go_region_with ((go_at_call 134;refine(CLy.out E.pa E.ax.rows mrow ⟨xa,xn⟩ Wb.drew (HSb.out.next (Below.refl _ _).drew).ine (.inl ⟨rfl,rfl⟩) hmb hx).mono ?_;rintro e w6 ⟨rfl,h1,h2⟩;have HSc:=zh ((HSb.out.next (Below.refl _ _).drew).step h1 h2);clear h1 h2;have z0:=(HSc.out.li 0 rfl).cell 0;have zf0:=(HSc.out.li 0 rfl).frozen 0;have z1:=(HSc.out.li 0 rfl).cell 1;have zf1:=(HSc.out.li 0 rfl).frozen 1;simp only[List.getElem?_toArray,List.getElem?_cons_zero,List.getElem?_cons_succ]at z0 z1))
         all_goals go_wp2_with fail
         all_goals go_meet
         all_goals exact⟨rfl,zh ((HSc.out.put hE 0 rfl 0 _).put hE 0 rfl 1 _)⟩
        case rest=>
         obtain⟨rfl,HSd⟩:=hcut;clear HSa hx
         go_upto_region 17 with fail
         have r1:=HSd.out.ine.rd.cell 1;have rf1:=HSd.out.ine.rd.frozen 1;simp only[List.getElem?_toArray,List.getElem?_cons_zero,List.getElem?_cons_succ]at r1;have HSe:=zh (HSd.out.rd hE 1 (.int .i64 ((k:Int)+1)) (k':=k+1) rfl);clear HSd
         go_upto_region 20 with fail
         generalize World.setCell _ _ _=We at HSe ⊢;clear r1 rf1;have y0:=(HSe.out.li 0 rfl).cell 0;have y1:=(HSe.out.li 0 rfl).cell 1;have y2:=(HSe.out.li 0 rfl).cell 2;have y3:=(HSe.out.li 0 rfl).cell 3;have y4:=(HSe.out.li 0 rfl).cell 4;have y5:=(HSe.out.li 0 rfl).cell 5;simp only[List.getElem?_toArray,List.getElem?_cons_zero,List.getElem?_cons_succ]at y0 y1 y2 y3 y4 y5;have a0:=(HSe.out.li 3 rfl).cell 0;have af0:=(HSe.out.li 3 rfl).frozen 0;have a1:=(HSe.out.li 3 rfl).cell 1;have af1:=(HSe.out.li 3 rfl).frozen 1;have a2:=(HSe.out.li 3 rfl).cell 2;have af2:=(HSe.out.li 3 rfl).frozen 2;have a3:=(HSe.out.li 3 rfl).cell 3;have af3:=(HSe.out.li 3 rfl).frozen 3;have a4:=(HSe.out.li 3 rfl).cell 4;have af4:=(HSe.out.li 3 rfl).frozen 4;have a5:=(HSe.out.li 3 rfl).cell 5;have af5:=(HSe.out.li 3 rfl).frozen 5
         simp only[List.getElem?_toArray,List.getElem?_cons_zero,List.getElem?_cons_succ]at a0 a1 a2 a3 a4 a5;have HSz:Hid (∀ W',W'=((((((We.setCell ⟨q,0,none⟩ (.int .i64 xa)).setCell ⟨q,1,none⟩ (.int .i64 xn)).setCell ⟨q,2,none⟩ (.int .i64 0)).setCell ⟨q,3,none⟩ (.int .i64 0)).setCell ⟨q,4,none⟩ (.bool fx)).setCell ⟨q,5,none⟩ (.bool false))→Fs E w (k+1) op nd pl er [(q15,36,#[.int .i64 xa,.int .i64 xn,.int .i64 0,.int .i64 0,.bool fx,.bool false]),(q13,150,#[.int .i64 (mrow:Int),.int .i64 mc,.bool f1,.bool f2]),(q8,70,#[.int .i64 tk,.string ⟨tx.toArray⟩,.int .i64 (tp:Int)]),(q,36,#[.int .i64 xa,.int .i64 xn,.int .i64 0,.int .i64 0,.bool fx,.bool false])] W'):=zh (fun W' e=>by rw[e];exact((((((HSe.out.put hE 3 rfl 0 _).put hE 3 rfl 1 _).put hE 3 rfl 2 _).put hE 3 rfl 3 _).put hE 3 rfl 4 _).put hE 3 rfl 5 _));clear HSe
         go_wp2_with fail
         refine bodyPost_ret (v:=.tuple #[.agg #[.int .i64 xa,.int .i64 xn,.int .i64 0,.int .i64 0,.bool fx,.bool false],.bool true]) (by simp[results,Tryz.results124,go_sem,a0,a1,a2,a3,a4,a5]) rfl ?_;rw[HOO.out];exact⟨rfl,(HSz.out _ rfl).ine,(HSz.out _ rfl).kp⟩
     ·have hO:=HOn.out HG.out hcn.out (fun h1 h2=>HR0.out (by cases isr;rfl;exact absurd ⟨h1,rfl⟩ hrr) h2);subst hO;clear HOr HOn HR1 HR0 hcn;have hci:col=false∨(col=true∧isc=false):=by have:=HCC.out;cases col <;> cases isc <;> simp_all
      have hri:row=false∨(row=true∧isr=false):=by cases row <;> cases isr <;> simp_all
      clear HCC hrr;rcases hci with rfl | ⟨rfl,rfl⟩ <;> rcases hri with rfl | ⟨rfl,rfl⟩
      ·go_wp2_with fail
       refine(CW.out _ HSa.out.ine).mono ?_;rintro e w6 ⟨rfl,h1,h2⟩;have HSb:=zh (HSa.out.step h1 h2.X);clear h1 h2 HSa;have a0:=(HSb.out.li 3 rfl).cell 0;have af0:=(HSb.out.li 3 rfl).frozen 0;have a1:=(HSb.out.li 3 rfl).cell 1;have af1:=(HSb.out.li 3 rfl).frozen 1;have a2:=(HSb.out.li 3 rfl).cell 2;have af2:=(HSb.out.li 3 rfl).frozen 2;have a3:=(HSb.out.li 3 rfl).cell 3;have af3:=(HSb.out.li 3 rfl).frozen 3;have a4:=(HSb.out.li 3 rfl).cell 4;have af4:=(HSb.out.li 3 rfl).frozen 4;have a5:=(HSb.out.li 3 rfl).cell 5;have af5:=(HSb.out.li 3 rfl).frozen 5;simp only[List.getElem?_toArray,List.getElem?_cons_zero,List.getElem?_cons_succ]at a0 a1 a2 a3 a4 a5
       have HSz:Hid (∀ W',W'=((((((w6.setCell ⟨q,0,none⟩ (.int .i64 0)).setCell ⟨q,1,none⟩ (.int .i64 0)).setCell ⟨q,2,none⟩ (.int .i64 0)).setCell ⟨q,3,none⟩ (.int .i64 0)).setCell ⟨q,4,none⟩ (.bool false)).setCell ⟨q,5,none⟩ (.bool false))→Fs E w k op nd tp 6 [(q15,36,bP),(q13,150,#[.int .i64 mr,.int .i64 mc,.bool f1,.bool f2]),(q8,70,#[.int .i64 tk,.string ⟨tx.toArray⟩,.int .i64 (tp:Int)]),(q,36,bP)] W'):=zh (fun W' e=>by rw[e];exact((((((HSb.out.put hE 3 rfl 0 _).put hE 3 rfl 1 _).put hE 3 rfl 2 _).put hE 3 rfl 3 _).put hE 3 rfl 4 _).put hE 3 rfl 5 _));clear HSb
       go_wp2_with fail
       refine bodyPost_ret (v:=.tuple #[.agg #[.int .i64 0,.int .i64 0,.int .i64 0,.int .i64 0,.bool false,.bool false],.bool false]) (by simp[results,Tryz.results124,go_sem,a0,a1,a2,a3,a4,a5]) rfl ?_;show StepX E w k op nd (E.at k).place _ _ _ _;rw[HAT.out];exact⟨rfl,(HSz.out _ rfl).ine,(HSz.out _ rfl).kp⟩
      ·go_wp2_with fail
       refine(CW.out _ HSa.out.ine).mono ?_;rintro e w6 ⟨rfl,h1,h2⟩;have HSb:=zh (HSa.out.step h1 h2.X);clear h1 h2 HSa;have a0:=(HSb.out.li 3 rfl).cell 0;have af0:=(HSb.out.li 3 rfl).frozen 0;have a1:=(HSb.out.li 3 rfl).cell 1;have af1:=(HSb.out.li 3 rfl).frozen 1;have a2:=(HSb.out.li 3 rfl).cell 2;have af2:=(HSb.out.li 3 rfl).frozen 2;have a3:=(HSb.out.li 3 rfl).cell 3;have af3:=(HSb.out.li 3 rfl).frozen 3;have a4:=(HSb.out.li 3 rfl).cell 4;have af4:=(HSb.out.li 3 rfl).frozen 4;have a5:=(HSb.out.li 3 rfl).cell 5;have af5:=(HSb.out.li 3 rfl).frozen 5;simp only[List.getElem?_toArray,List.getElem?_cons_zero,List.getElem?_cons_succ]at a0 a1 a2 a3 a4 a5
       have HSz:Hid (∀ W',W'=((((((w6.setCell ⟨q,0,none⟩ (.int .i64 0)).setCell ⟨q,1,none⟩ (.int .i64 0)).setCell ⟨q,2,none⟩ (.int .i64 0)).setCell ⟨q,3,none⟩ (.int .i64 0)).setCell ⟨q,4,none⟩ (.bool false)).setCell ⟨q,5,none⟩ (.bool false))→Fs E w k op nd tp 6 [(q15,36,bP),(q13,150,#[.int .i64 mr,.int .i64 mc,.bool f1,.bool f2]),(q8,70,#[.int .i64 tk,.string ⟨tx.toArray⟩,.int .i64 (tp:Int)]),(q,36,bP)] W'):=zh (fun W' e=>by rw[e];exact((((((HSb.out.put hE 3 rfl 0 _).put hE 3 rfl 1 _).put hE 3 rfl 2 _).put hE 3 rfl 3 _).put hE 3 rfl 4 _).put hE 3 rfl 5 _));clear HSb
       go_wp2_with fail
       refine bodyPost_ret (v:=.tuple #[.agg #[.int .i64 0,.int .i64 0,.int .i64 0,.int .i64 0,.bool false,.bool false],.bool false]) (by simp[results,Tryz.results124,go_sem,a0,a1,a2,a3,a4,a5]) rfl ?_;show StepX E w k op nd (E.at k).place _ _ _ _;rw[HAT.out];exact⟨rfl,(HSz.out _ rfl).ine,(HSz.out _ rfl).kp⟩
      ·go_wp2_with fail
       refine(CW.out _ HSa.out.ine).mono ?_;rintro e w6 ⟨rfl,h1,h2⟩;have HSb:=zh (HSa.out.step h1 h2.X);clear h1 h2 HSa;have a0:=(HSb.out.li 3 rfl).cell 0;have af0:=(HSb.out.li 3 rfl).frozen 0;have a1:=(HSb.out.li 3 rfl).cell 1;have af1:=(HSb.out.li 3 rfl).frozen 1;have a2:=(HSb.out.li 3 rfl).cell 2;have af2:=(HSb.out.li 3 rfl).frozen 2;have a3:=(HSb.out.li 3 rfl).cell 3;have af3:=(HSb.out.li 3 rfl).frozen 3;have a4:=(HSb.out.li 3 rfl).cell 4;have af4:=(HSb.out.li 3 rfl).frozen 4;have a5:=(HSb.out.li 3 rfl).cell 5;have af5:=(HSb.out.li 3 rfl).frozen 5;simp only[List.getElem?_toArray,List.getElem?_cons_zero,List.getElem?_cons_succ]at a0 a1 a2 a3 a4 a5
       have HSz:Hid (∀ W',W'=((((((w6.setCell ⟨q,0,none⟩ (.int .i64 0)).setCell ⟨q,1,none⟩ (.int .i64 0)).setCell ⟨q,2,none⟩ (.int .i64 0)).setCell ⟨q,3,none⟩ (.int .i64 0)).setCell ⟨q,4,none⟩ (.bool false)).setCell ⟨q,5,none⟩ (.bool false))→Fs E w k op nd tp 6 [(q15,36,bP),(q13,150,#[.int .i64 mr,.int .i64 mc,.bool f1,.bool f2]),(q8,70,#[.int .i64 tk,.string ⟨tx.toArray⟩,.int .i64 (tp:Int)]),(q,36,bP)] W'):=zh (fun W' e=>by rw[e];exact((((((HSb.out.put hE 3 rfl 0 _).put hE 3 rfl 1 _).put hE 3 rfl 2 _).put hE 3 rfl 3 _).put hE 3 rfl 4 _).put hE 3 rfl 5 _));clear HSb
       go_wp2_with fail
       refine bodyPost_ret (v:=.tuple #[.agg #[.int .i64 0,.int .i64 0,.int .i64 0,.int .i64 0,.bool false,.bool false],.bool false]) (by simp[results,Tryz.results124,go_sem,a0,a1,a2,a3,a4,a5]) rfl ?_;show StepX E w k op nd (E.at k).place _ _ _ _;rw[HAT.out];exact⟨rfl,(HSz.out _ rfl).ine,(HSz.out _ rfl).kp⟩
      ·go_wp2_with fail
       refine(CW.out _ HSa.out.ine).mono ?_;rintro e w6 ⟨rfl,h1,h2⟩;have HSb:=zh (HSa.out.step h1 h2.X);clear h1 h2 HSa;have a0:=(HSb.out.li 3 rfl).cell 0;have af0:=(HSb.out.li 3 rfl).frozen 0;have a1:=(HSb.out.li 3 rfl).cell 1;have af1:=(HSb.out.li 3 rfl).frozen 1;have a2:=(HSb.out.li 3 rfl).cell 2;have af2:=(HSb.out.li 3 rfl).frozen 2;have a3:=(HSb.out.li 3 rfl).cell 3;have af3:=(HSb.out.li 3 rfl).frozen 3;have a4:=(HSb.out.li 3 rfl).cell 4;have af4:=(HSb.out.li 3 rfl).frozen 4;have a5:=(HSb.out.li 3 rfl).cell 5;have af5:=(HSb.out.li 3 rfl).frozen 5;simp only[List.getElem?_toArray,List.getElem?_cons_zero,List.getElem?_cons_succ]at a0 a1 a2 a3 a4 a5
       have HSz:Hid (∀ W',W'=((((((w6.setCell ⟨q,0,none⟩ (.int .i64 0)).setCell ⟨q,1,none⟩ (.int .i64 0)).setCell ⟨q,2,none⟩ (.int .i64 0)).setCell ⟨q,3,none⟩ (.int .i64 0)).setCell ⟨q,4,none⟩ (.bool false)).setCell ⟨q,5,none⟩ (.bool false))→Fs E w k op nd tp 6 [(q15,36,bP),(q13,150,#[.int .i64 mr,.int .i64 mc,.bool f1,.bool f2]),(q8,70,#[.int .i64 tk,.string ⟨tx.toArray⟩,.int .i64 (tp:Int)]),(q,36,bP)] W'):=zh (fun W' e=>by rw[e];exact((((((HSb.out.put hE 3 rfl 0 _).put hE 3 rfl 1 _).put hE 3 rfl 2 _).put hE 3 rfl 3 _).put hE 3 rfl 4 _).put hE 3 rfl 5 _));clear HSb
       go_wp2_with fail
       refine bodyPost_ret (v:=.tuple #[.agg #[.int .i64 0,.int .i64 0,.int .i64 0,.int .i64 0,.bool false,.bool false],.bool false]) (by simp[results,Tryz.results124,go_sem,a0,a1,a2,a3,a4,a5]) rfl ?_;show StepX E w k op nd (E.at k).place _ _ _ _;rw[HAT.out];exact⟨rfl,(HSz.out _ rfl).ine,(HSz.out _ rfl).kp⟩
structure GC(ops:Array Oper)(S:List Nat)(T:List (Nat×Nat×Value))(X:World)(R F:World→Prop)(ic is:Nat)(a0:Act)(zl:Array Bool)(a:Act)(w:World):Prop where
 off:Off S a0 a
 pt:PT T zl a
 dn:∀ i o,ops[i]?=some o→Up zl i→∀ e∈o.after,Region.binds .any e=true→Up zl e.on
 w0:¬ Up zl ic→w=X
 w1:Up zl ic→¬ Up zl is→R w
 w2:Up zl is→Up zl ic∧F w
def okC(nums:List (Nat×Nat))(S:List Nat)(is N:Nat):Bool :=
 nums.all (fun e=>e.1 != is&&S.contains e.2&&decide (e.2<N))&&decide (nums.Pairwise (fun p q=>p.1≠q.1∧p.2≠q.2))
def jI(ops:Array Oper):Nat→Nat→Nat→Bool
 | 0,a,b=>a==b
 | f+1,a,b=>a==b||((ops[a]?).map fun o=>o.after.any fun e=>Region.binds .any e&&jI ops f e.on b).getD false
section
variable {ops:Array Oper} {S:List Nat} {T:List (Nat×Nat×Value)} {X w:World} {R F:World→Prop} {ic is N:Nat} {a0 a:Act} {zl:Array Bool} {Q:Exit→Act→World→Prop} {o:Oper}
theorem xX(hk:okC (T.map fun e=>(e.1,e.2.1)) S is N=true){e:Nat×Nat×Value}(he:e∈T):e.1≠is∧e.2.1∈S∧e.2.1<N:=by
 simp only[okC,Bool.and_eq_true,List.all_eq_true,bne_iff_ne,decide_eq_true_eq,List.contains_iff_mem,List.mem_map,forall_exists_index,and_imp,forall_apply_eq_imp_iff₂]at hk;obtain⟨⟨g1,g2⟩,g3⟩:=hk.1 e he;exact⟨g1,g2,g3⟩
theorem pE(hk:okC (T.map fun e=>(e.1,e.2.1)) S is N=true){e e':Nat×Nat×Value}(he:e∈T)(he':e'∈T)(hs:e.1=e'.1∨e.2.1=e'.2.1):e=e':=by
 by_cases heq:e=e'
 ·exact heq
 ·exfalso
  simp only[okC,Bool.and_eq_true,decide_eq_true_eq,List.pairwise_map]at hk;have h2:=hk.2;have key:∀ l:List (Nat×Nat×Value),l.Pairwise (fun p q=>p.1≠q.1∧p.2.1≠q.2.1)→∀ x∈l,∀ y∈l,x≠y→x.1≠y.1∧x.2.1≠y.2.1:=by
   intro l
   induction l with
   | nil=>intro _ x hx;cases hx
   | cons c l ih=>
    intro hp x hx y hy hne;rw[List.pairwise_cons]at hp;rcases List.mem_cons.1 hx with ex | hx <;> rcases List.mem_cons.1 hy with ey | hy
    ·exact absurd (ex.trans ey.symm) hne
    ·rw[ex];exact hp.1 y hy
    ·rw[ey];exact⟨fun e=>(hp.1 x hx).1 e.symm,fun e=>(hp.1 x hx).2 e.symm⟩
    ·exact ih hp.2 x hx y hy hne
  have:=key T h2 e he e' he' heq;rcases hs with hs | hs
  ·exact this.1 hs
  ·exact this.2 hs
theorem kU(hd:∀ i o,ops[i]?=some o→Up zl i→∀ e∈o.after,Region.binds .any e=true→Up zl e.on):∀ (f a b:Nat),jI ops f a b=true→Up zl a→Up zl b
 | 0,a,b,h,hu=>by
  simp only[jI,beq_iff_eq]at h;rw[← h];exact hu
 | f+1,a,b,h,hu=>by
  simp only[jI,Bool.or_eq_true,beq_iff_eq]at h;rcases h with h | h
  ·rw[← h];exact hu
  ·cases ho:ops[a]? with
   | none=>rw[ho]at h;cases h
   | some o=>
    rw[ho]at h;simp only[Option.map_some,Option.getD_some,Array.any_eq_true',Bool.and_eq_true]at h;obtain⟨e,he,hb,hr⟩:=h;exact kU hd f e.on b hr (hd a o ho hu e he hb)
theorem GC.start(a:Act)(m:Nat)(hX:w=X):GC ops S T X R F ic is a (Array.replicate m false) a w :=
 ⟨Off.refl _ _,PT.start _ _ _,fun _ _ _ h=>absurd h (Up.none _ _),fun _=>hX,fun h=>absurd h (Up.none _ _),fun h=>absurd h (Up.none _ _)⟩
theorem GC.fresh(hI:GC ops S T X R F ic is a0 zl a w){i:Nat}(hun:zl.getD i true=false)(hr:jI ops 40 ic i=true):w=X :=
 hI.w0 (fun h=>gO hun (kU hI.dn 40 ic i hr h))
theorem GC.dn_set(hI:GC ops S T X R F ic is a0 zl a w){i:Nat}(hun:zl.getD i true=false)(ho:ops[i]?=some o)(zd:∀ e∈o.after,Region.binds .any e=true→Up zl e.on) :
  ∀ j o',ops[j]?=some o'→Up (zl.setIfInBounds i true) j→∀ e∈o'.after,Region.binds .any e=true→Up (zl.setIfInBounds i true) e.on:=by
 intro j o' hj hu e he hb;have hi:=Up.of_false hun;rcases(Up.set hi).1 hu with rfl | hu
 ·rw[ho]at hj;injection hj with hj;subst hj;exact eF hi (zd e he hb)
 ·exact eF hi (hI.dn j o' hj hu e he hb)
theorem bR(hk:okC (T.map fun e=>(e.1,e.2.1)) S is N=true)(hI:GC ops S T X R F ic is a0 zl a w)(hN:N≤a0.tmps.size){i s:Nat}{v:Value}(he:(i,s,v)∈T)(hne:i≠ic)(hun:zl.getD i true=false)(ho:ops[i]?=some o)(zd:∀ e∈o.after,Region.binds .any e=true→Up zl e.on)(hg:o.guard=none)(hd:o.dst=some s)
  (hr:(execOp a.eval o).run Tryz.prog w=.ok (.value v) w):wpOp Tryz.prog ops Q i (GC ops S T X R F ic is a0 (zl.setIfInBounds i true)) a w:=by
 have hi:=Up.of_false hun;obtain⟨h1,h2,h3⟩:=xX hk he;refine gD ho hg (nF v hr ?_);rw[hd];have hia:∀ {k},k≠i→(Up (zl.setIfInBounds i true) k↔Up zl k):=fun hne=>⟨fun h=>jL hi h hne,fun h=>eF hi h⟩
 refine⟨hI.off.put h2 v,hI.pt.step hi (by rw[hI.off.size];exact Nat.lt_of_lt_of_le h3 hN) (fun e' he' hs=>by rw[pE hk he' he (.inr hs)]) (fun e' he' hs=>by rw[pE hk he' he (.inl hs)]),hI.dn_set hun ho zd,?_,?_,?_⟩
 ·rw[hia (Ne.symm hne)];exact hI.w0
 ·rw[hia (Ne.symm hne),hia (Ne.symm h1)];exact hI.w1
 ·rw[hia (Ne.symm hne),hia (Ne.symm h1)];exact hI.w2
theorem uFC(hk:okC (T.map fun e=>(e.1,e.2.1)) S is N=true)(hI:GC ops S T X R F ic is a0 zl a w)(hN:N≤a0.tmps.size){s:Nat}{v:Value}(he:(ic,s,v)∈T)(hun:zl.getD ic true=false)(ho:ops[ic]?=some o)(zd:∀ e∈o.after,Region.binds .any e=true→Up zl e.on)(hg:o.guard=none)(hd:o.dst=some s)(f:FuncId)(xs:Array Value)
  (hr:(execOp a.eval o).run Tryz.prog w=.ok (.enter f xs) w) (hc:Calls Tryz.prog f xs X fun e w1=>e=.returned v∧R w1):wpOp Tryz.prog ops Q ic (GC ops S T X R F ic is a0 (zl.setIfInBounds ic true)) a w:=by
 have hi:=Up.of_false hun;have hX:=hI.w0 (gO hun);have hns:¬ Up zl is:=fun h=>gO hun (hI.w2 h).1
 obtain⟨h1,h2,h3⟩:=xX hk he;refine gD ho hg ?_;unfold Oper.wp;rw[hr,hX];refine hc.mono ?_;rintro e w1 ⟨rfl,hR⟩;show GC ops S T X R F ic is a0 (zl.setIfInBounds ic true) (a.put o.dst v) w1;rw[hd];have hia:∀ {k},k≠ic→(Up (zl.setIfInBounds ic true) k↔Up zl k):=fun hne=>⟨fun h=>jL hi h hne,fun h=>eF hi h⟩
 refine⟨hI.off.put h2 v,hI.pt.step hi (by rw[hI.off.size];exact Nat.lt_of_lt_of_le h3 hN) (fun e' he' hs=>by rw[pE hk he' he (.inr hs)]) (fun e' he' hs=>by rw[pE hk he' he (.inl hs)]),hI.dn_set hun ho zd,?_,?_,?_⟩
 ·exact fun h=>absurd (nE hi) h
 ·exact fun _ _=>hR
 ·rw[hia (Ne.symm h1)];exact fun h=>absurd h hns
theorem zL(hk:okC (T.map fun e=>(e.1,e.2.1)) S is N=true)(hI:GC ops S T X R F ic is a0 zl a w)(hne:is≠ic)(hun:zl.getD is true=false)(ho:ops[is]?=some o)(zd:∀ e∈o.after,Region.binds .any e=true→Up zl e.on)(hg:o.guard=none)(hd:o.dst=none)(hic:Up zl ic)(W':World)
  (hr:R w→(execOp a.eval o).run Tryz.prog w=.ok .skip W') (hF:R w→F W'):wpOp Tryz.prog ops Q is (GC ops S T X R F ic is a0 (zl.setIfInBounds is true)) a w:=by
 have hi:=Up.of_false hun;have hR:=hI.w1 hic (gO hun);refine gD ho hg (oL (hr hR) ?_);rw[hd];show GC ops S T X R F ic is a0 _ a _;have hia:∀ {k},k≠is→(Up (zl.setIfInBounds is true) k↔Up zl k):=fun hne=>⟨fun h=>jL hi h hne,fun h=>eF hi h⟩
 refine⟨hI.off,hI.pt.skip hi (fun e' he'=>(xX hk he').1),hI.dn_set hun ho zd,?_,?_,?_⟩
 ·rw[hia (Ne.symm hne)];exact fun h=>absurd hic h
 ·exact fun _ h=>absurd (nE hi) h
 ·exact fun _=>⟨eF hi hic,hF hR⟩
theorem pX{id:Nat}{w0:World}(F0:Act→Prop)(S:List Nat)(T:List (Nat×Nat×Value))(X:World)(R F:World→Prop)(ic is:Nat)(hm:Tryz.prog.follows .mixedOrders=true)(hb:gE ops=true)(hF0:F0 a)(hX:w0.drew=X)
  (hstep:∀ a0,F0 a0→∀ zl a w i o,zl.size=ops.size→GC ops S T X R F ic is a0 zl a w→zl.getD i true=false→ops[i]?=some o→(∀ e∈o.after,Region.binds .any e=true→Up zl e.on)→wpOp Tryz.prog ops Q i (GC ops S T X R F ic is a0 (zl.setIfInBounds i true)) a w)
  (hdone:∀ zl a' w',GC ops S T X R F ic is a zl a' w'→(∀ i,i<ops.size→Up zl i)→Q .normal a' w'):(Code.region id ops true).wp Tryz.prog Q a w0 :=
 fL hm hb F0 (GC ops S T X R F ic is) hF0 (GC.start _ _ hX) hstep hdone
end
end Go.Proofs.YtmgjidnalpgegaaGreatDoor
