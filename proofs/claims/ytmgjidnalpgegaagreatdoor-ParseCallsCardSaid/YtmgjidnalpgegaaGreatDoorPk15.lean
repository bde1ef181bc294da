/-
  Lemmas, part 15: ParU ParV.
-/
import Derived.Test.YtmgjidnalpgegaaGreatDoorPk14
set_option maxHeartbeats 100000000
namespace Go.Proofs.YtmgjidnalpgegaaGreatDoor
open Go.RowKit
theorem isS_ne{t:Tok}{s s':Bs}(h:isS t s=true)(bp:s≠s'):isS t s'=false:=by
 unfold isS at h ⊢;simp at h;simp[h.2,bp]
set_option maxRecDepth 100000 in
theorem uFJ(E:Env)(hE:E.ok)(he:E.ends)(hL:E.L.length<=1000000)(hT:E.short)(op k nd pl er:Nat)(w:World)(hI:InE E k op nd pl er w)(hk:k<E.L.length)(hn:nd<=k)(hs:isS (E.at k) [123]=true) :
  Calls Tryz.prog 123 #[.pointer (some ⟨E.r,0,none⟩)] w (NPost E w k op nd pl er (iL (E.L.drop k) nd)):=by
 have CTK:=zh (fun W h=>lQ E hE k op nd pl er [123] W h hk hL hs);have CE:=zh (fun k nd pl er W h hk hn=>uAN E hE he hL hT op k nd pl er W h hk hn);have CT:=zh (fun k nd pl er W h hk=>cE E k op nd pl er W h hk);have CS:=zh (fun t s W=>dF t s W);have CW:=zh (fun k nd pl er W h hk=>fB E hE k op nd pl er 6 W h hk);have CN:=zh (fun k nd pl er cs fb h1 W h hn=>iJ E hE k op nd pl er cs fb h1 W h hn);have bo:=zh ((Fs.start hI).alloc 41 aA.toArray (by decide));have dc:=E.more he hk (eI hs);generalize hO:iL (E.L.drop k) nd=T;have HO:Hid (eY (E.L.length-k) 0 0 1 [] (E.L.drop (k+1)) nd=T):=zh (by rw[<- hO];unfold iL;rw[yk,List.tail_drop]);have HF:Hid (k<E.L.length/\nd<=k):=zh ⟨hk,hn⟩;clear hI hO hn hs;simp only[aA]at bo
 go_enter Tryz.func123,Tryz.ntmps123
 go_upto_region 1 with fail
 generalize World.alloc _ _=W1 at bo ⊢;generalize hq:w.heap.size=q at bo ⊢;have HQ:=zh hq;have dy:=zh (bo.out.alloc 41 aA.toArray (by decide));have HT:=zh (dy.out.there 0 rfl 22 rfl);have bt:=zh (dy.out.fill hE 0 rfl (cQ 8 [] 0 none 0 0) rfl);have f9:=gF 8 [] 0 none 0 0;have n9:Hid (w.heap.size<=W1.heap.size):=zh (dy.out.ge 0 rfl);clear bo dy hq;simp only[List.set_cons_zero]at bt;generalize kx:W1.heap.size=q4 at bt HT n9 ⊢
 go_upto_region 2 with(first |(refine yq rfl 41 (.tmp 4) (.tmp 10) rfl q4 0 (cQ 8 [] 0 none 0 0).toArray rfl rfl HT.out aE f9 ?_;change wpList _ _ _ _ _ (World.setCells _ q4 0 (cQ 8 [] 0 none 0 0));generalize World.setCells _ _ _ _=W2 at bt ⊢))
 clear HT f9 kx
 go_wp2_with fail
 refine(CTK.out _ bt.out.ine).mono ?_;rintro e w4 ⟨rfl,h1,h2⟩;have HM:Hid (∃ k' c rows n cap A l,Mat E w k op nd pl er q q4 T k' c rows 0 1 n cap A l w4):=zh ⟨k+1,nd,0,0,0,none,[],bt.out.step h1 h2.X,KR.nil _ _ _,zr,dc,by omega,zr,by omega,by omega,by omega,by omega,_,by omega,HO.out⟩;clear h1 h2 bt CTK HO hk dc
 go_wp2_with fail
 go_loopw [5,6] (fun v5 v6 wr=>∃ cols wide:Nat,v5=.int .i64 (cols:Int)/\v6=.int .i64 (wide:Int)/\Hid (∃ k' c rows n cap A l,Mat E w k op nd pl er q q4 T k' c rows cols wide n cap A l wr)) (fun _ _ wr=>E.L.length-rdAt wr E.r)
 case atStart=>exact⟨0,1,rfl,rfl,HM⟩
 case round=>
  obtain⟨cols,wide,rfl,rfl,hrel⟩:=hrel;obtain⟨k2,c,rows,n,cap,A,l,hS⟩:=hrel.out;have az:=zh hS.st;have j3:=zh hS.kr;have HB:Hid (k+1<=k2/\k2<E.L.length/\c+k+1<=nd+k2/\nd<=c/\n<=c/\rows<=k2/\cols<=k2/\wide<=k2+1):=zh ⟨hS.le,hS.lt,hS.nc,hS.nn,hS.ln,hS.lr,hS.lc,hS.lw⟩;have HG:=zh hS.out;have HRD:=zh hS.st.ine.rdAt;have CE1:=zh (CE.out k2 c pl er _ az.out.ine HB.out.2.1 (by have:=HB.out;have:=HF.out;omega));clear hS hrel HM CE
  go_wp2_with fail
  refine CE1.out.mono ?_;clear CE1;cases hp:dC (E.L.drop k2) c with
  |bad e1 p1=>
   have db:Hid (T=.bad e1 p1):=zh (by obtain⟨f,_,hf⟩:=HG.out;rw[hp]at hf;exact hf.symm);rintro e w6 ⟨cs,k1,op1,nd1,rfl,g1,g2,g3,g4,g5,g6,g7⟩;obtain⟨C,rfl⟩:∃ C:List Value,cs=C.toArray:=⟨cs.toList,by simp⟩
   have yC:Hid (C.length=22):=zh (by rwa [yd]at g1);have yo:=zh g2;have HX:=zh (⟨g3,g4,g5⟩:k2<=k1/\k1<E.L.length/\nd1+k2<=c+k1);have am:=zh (az.out.step g6 g7);clear g1 g2 g3 g4 g5 g6 g7 az j3 HG hp;have c8:=zh (am.out.alloc 41 aA.toArray (by decide));clear am;have HT:=zh (c8.out.there 0 rfl C.toArray.size (by rw[yd,yC.out];rfl));have da:=zh (c8.out.fill hE 0 rfl C (by rw[yC.out];rfl));have zi:=fv yC.out;clear c8;simp only[aA,List.set_cons_zero]at da HT
   go_upto_region 8 with(first |(refine yq rfl 41 (.tmp 7) (.tmp 20) rfl w6.heap.size 0 C.toArray rfl rfl HT.out zi yo.out ?_;change wpList _ _ _ _ _ (World.setCells _ w6.heap.size 0 C);generalize World.setCells _ _ _ _=W8 at da ⊢;generalize w6.heap.size=q7 at da ⊢))
   clear HT zi;have HT:=zh (da.out.there 2 rfl 22 rfl);have ag:=zh (da.out.fill hE 2 rfl aA rfl)
   go_wp2_with (first |(refine yq rfl 41 (.tmp 2) (.tmp 24) rfl q 0 aA.toArray rfl rfl HT.out aE bB ?_;change wpList _ _ _ _ _ (World.setCells _ q 0 aA);generalize World.setCells _ _ _ _=wz at ag ⊢))
   have HA:=zh (ag.out.li 2 rfl);refine yt (aO rfl rfl HA.out rfl) rfl ?_;rw[db.out];exact cR ag.out rfl bB (by have:=HX.out;have:=HB.out;omega) HX.out.2.1 (by have:=HX.out;have:=HB.out;omega)
  |ok x ts1 c1=>
   rintro e w6 ⟨k1,cs,rfl,g1,g2,rfl,g4,g5,g6,g7,g8⟩;have eu:=uCC hp;subst eu;obtain⟨C,rfl⟩:∃ C:List Value,cs=C.toArray:=⟨cs.toList,by simp⟩
   have yC:Hid (C.length=22):=zh (by have:=g8.1;rwa [yd]at this);have yo:=zh g8.2.1;have HX:=zh (⟨g1,g2,g4⟩:k2<=k1/\k1<E.L.length/\c+1+k2<=c+k1);have am:=zh (az.out.step g6 g7);have HQL:Hid (∀ y,(Value.slice A n cap).ownBlock=some y->q4+1<=y/\y<wr.heap.size):=zh (fun y hy=>gH j3.out hy);have HXB:Hid (∀ y∈E.X,y<q4+1):=zh (fun y hy=>by obtain⟨k0,op0,nd0,pl0,er0,cn⟩:=az.out.base;have:=cn.xlt y hy;have:=n9.out;omega);have iv:=zh (j3.out.kp g7 (fun y hy=>.inl (HXB.out y hy)));have HV6:Hid (NV w6 (KX (q4+1) (.slice A n cap)) (c+1) x C.toArray):=zh (g8.anti (fun y hy _=>by have h4:=az.out.lt 0 rfl;exact(KX.mem.1 hy).elim (fun h=>yg.2 (HQL.out y h).2) (fun h=>yg.2 (by omega))))
   have HG1:Hid (∃ f,E.L.length-k2<=f+1/\(if isS (E.at k1) [44]&&(decide (rows=0)||decide (wide<cols)) then eY f rows cols (wide+1) (l++[x]) (E.L.drop (k1+1)) (c+1) else if isS (E.at k1) [59]&&(decide (rows=0)||decide (wide=cols)) then eY f (rows+1) wide 1 (l++[x]) (E.L.drop (k1+1)) (c+1) else if isS (E.at k1) [125]&&(decide (rows=0)||decide (wide=cols)) then .ok (uKT (rows+1:Nat) (l++[x])) (E.L.drop (k1+1)) (c+1+1) else fU 6 (E.L.drop k1))=T):=zh (by obtain⟨f,h1,h2⟩:=HG.out;rw[hp]at h2;rw[<- List.tail_drop] ;exact⟨f,h1,h2⟩);clear g1 g2 g4 g5 g6 g7 g8 az j3 HG hp HXB;have c8:=zh (am.out.alloc 41 aA.toArray (by decide));have r8:Hid (∀ y,(Value.slice A n cap).ownBlock=some y->y≠w6.heap.size):=zh (fun y hy e=>by have:=(gH iv.out hy).2;omega)
   have HKP:∀ W,Kp [w6.heap.size] w6 W->Hid (KR W (q4+1) (.slice A n cap) n l c/\NV W (KX (q4+1) (.slice A n cap)) (c+1) x C.toArray):=fun W hk=>zh ⟨iv.out.kp hk (fun y hy=>.inr (by rw[yf.1 hy];exact zr)),HV6.out.kp (hk.mono (fun y hy hl=>by rw[yf.1 hy]at hl;omega))⟩
   have ls:=HKP _ (aQ (.inl (.head _)) C 0 ((Kp.refl _ _).alloc (.cells aA.toArray 41)));clear HKP iv HV6 am;have HT:=zh (c8.out.there 0 rfl C.toArray.size (by rw[yd,yC.out];rfl));have da:=zh (c8.out.fill hE 0 rfl C (by rw[yC.out];rfl));have zi:=fv yC.out;clear c8;simp only[aA,List.set_cons_zero]at da HT ls
   go_upto_region 9 with(first |(refine yq rfl 41 (.tmp 7) (.tmp 20) rfl w6.heap.size 0 C.toArray rfl rfl HT.out zi yo.out ?_;change wpList _ _ _ _ _ (World.setCells _ w6.heap.size 0 C);generalize World.setCells _ _ _ _=W8 at da ls ⊢;generalize w6.heap.size=q7 at da r8 ⊢))
   clear HT;have r3:=da.out.ine.rd.cell 3;have rf3:=da.out.ine.rd.frozen 3;simp only[za,zb,zf]at r3;obtain⟨bb,je⟩:∃ bb:Bool,decide (((c+1:Nat):Int)<=256)=bb:=⟨_,rfl⟩
   go_upto_if 29 with fail
   clear r3 rf3
   go_cut [] (fun wx=>Hid (∃ n1 ap A1,n1<=c+1/\Fs E w (k1) op (c+1) pl er [(q4,41,(cQ 8 [] (rows) A1 n1 ap).toArray),(q,41,aA.toArray)] wx/\KR wx (q4+1) (.slice A1 n1 ap) n1 (l++[x]) (c+1)))
   case first=>
    cases bb
    ·have pu:Hid (256<c+1):=zh (by have:=of_decide_eq_false je;omega);have hlt:¬ ((c+1:Nat):Int)<=256:=by have:=pu.out;omega
     clear je
     go_wp2_with fail
     all_goals go_meet
     exact zh ⟨n,cap,A,by have:=HB.out;omega,da.out.drop1,ls.out.1.skip pu.out⟩
    have pu:Hid (c+1<=256):=zh (by have:=of_decide_eq_true je;omega);have fm:=zh (da.out.range 0 (l:=C) rfl);have x21:=(da.out.li 1 rfl).cell 21;simp only[za,zb,zf]at x21;have zi:(Tryz.prog.info? 41).map (·.size)=some C.length:=by rw[yC.out];exact aE
    have bl:=zh (da.out.alloc 41 C.toArray (by decide));have fe:Below W8.heap.size W8 (W8.alloc (.cells C.toArray 41)):=(zp _);have me:=zh ((ls.out.1.next fe).more (Nat.le_succ c));have oo:=zh (ls.out.2.kp (Kp.of_below fe));have xf:Hid (∀ y,(Value.slice A n cap).ownBlock=some y->y≠W8.heap.size):=zh (fun y hy e=>by have:=(gH ls.out.1 hy).2;omega);have b6:∀ b∈([(W8.heap.size,41,C.toArray),(q7,41,C.toArray),(q4,41,(cQ 8 [] (rows) A n cap).toArray),(q,41,aA.toArray)]:List (Nat×TypeId×Array Value)),(Value.slice A n cap).ownBlock≠some b.1:=fun b hb e=>by
     simp only[ym,List.not_mem_nil,or_false]at hb;rcases hb with rfl|rfl|rfl|rfl
     ·exact xf.out _ e rfl
     ·exact r8.out _ e rfl
     ·have:=(HQL.out _ e).1;omega
     have:=(HQL.out _ e).1;have:=n9.out;have:=HQ.out;omega
    replace b6:=zh b6;have kw:=zh (bl.out.li 0 rfl);have HZ:Hid (w.heap.size<=q4+1/\n<=100000/\q4+1<=(W8.alloc (.cells C.toArray 41)).heap.size):=zh ⟨by have:=n9.out;omega,by have:=HB.out;have:=pu.out;omega,by have:=bl.out.lt 2 rfl;omega⟩;clear da fe xf ls je;have hle:((c+1:Nat):Int)<=256:=by have:=pu.out;omega
    go_wp2_with (first |(refine yr rfl 41 (.tmp 7) rfl q7 0 rfl C _ fm.out Tryz.underlying41 rfl zi ?_) |(refine mP rfl (.tmp 32) rfl C rfl yC.out W8.heap.size rfl (some 33) rfl ?_;generalize W8.alloc (.cells C.toArray 41)=W9 at bl me oo kw HZ ⊢;generalize W8.heap.size=q8 at bl b6 kw ⊢) |(refine kK rfl (.tmp 31) (.tmp 33) rfl (q4+1) n (.slice A n cap) l (c+1) rfl me.out HZ.out.2.1 HZ.out.2.2 q8 1 C rfl yC.out kw.out yo.out x oo.out ?_;intro v2 w9 h1 h2 h3;obtain⟨A1,ap,rfl⟩:=h1.form;have dj:=zh (bl.out.grow hE me.out HZ.out.1 b6.out h2);have fq:=zh h1;clear h1 h2 h3 bl me oo kw b6 HZ x21;have y21:=(dj.out.li 2 rfl).cell 21;have yf21:=(dj.out.li 2 rfl).frozen 21;simp only[za,zb,zf]at y21))
    all_goals go_meet
    exact zh ⟨n+1,ap,A1,by have:=HB.out;omega,(dj.out.put hE 2 rfl 21 (.slice A1 (n+1) ap)).drop1.drop1,fq.out.kp ((Kp.refl [q4] _).set (.inl (.head _)) 21 _) (fun y hy=>.inl (by rw[yf.1 hy];omega))⟩
   case rest=>
    obtain⟨n1,ap,A1,av,hF,hK⟩:=hcut.out;have bl:=zh hF;have me:=zh hK;have jf:=zh av;clear hcut hF hK av da ls r8 HQL je yo zi yC;have CT1:=zh (CT.out k1 (c+1) pl er _ bl.out.ine HX.out.2.1);have pr:Hid ((E.at k1).kind≠0->k1+1<E.L.length):=zh (fun h=>E.more he HX.out.2.1 h);have r9:Hid (∀ W,InE E k1 op (c+1) pl er W->Calls Tryz.prog 26 #[.pointer (some ⟨E.r,0,none⟩),.int .i64 6] W (Step E W k1 op (c+1) (E.at k1).place 6 (.bool false))):=zh (fun W h=>CW.out k1 (c+1) pl er W h HX.out.2.1)
    have HG2:Hid (∃ f,E.L.length-k2<=f+1/\(if isS (E.at k1) [44]&&(decide (rows=0)||decide (wide<cols)) then eY f rows cols (wide+1) (l++[x]) (E.L.drop (k1+1)) (c+1) else if isS (E.at k1) [59]&&(decide (rows=0)||decide (wide=cols)) then eY f (rows+1) wide 1 (l++[x]) (E.L.drop (k1+1)) (c+1) else if isS (E.at k1) [125]&&(decide (rows=0)||decide (wide=cols)) then .ok (uKT (rows+1:Nat) (l++[x])) (E.L.drop (k1+1)) (c+1+1) else .bad 6 (E.at k1).place)=T):=HG1;clear HG1 CW CT;obtain⟨tt,ed⟩:∃ tt,E.at k1=tt:=⟨_,rfl⟩
    rw[ed]at CT1 pr r9 HG2;clear ed;obtain⟨tk,tx,tp⟩:=tt;dsimp only[tkV]at CT1
    go_wp2_with fail
    refine CT1.out.mono ?_;rintro e w10 ⟨rfl,hb⟩;have dj:=zh ((bl.out.next hb).alloc 70 #[.int .i64 tk,.string ⟨tx.toArray⟩,.int .i64 (tp:Int)] (by decide));have fq:=zh ((me.out.next hb).next (W':=w10.alloc (.cells #[.int .i64 tk,.string ⟨tx.toArray⟩,.int .i64 (tp:Int)] 70)) (zp _));clear hb CT1 bl me
    go_upto_region 13 with fail
    generalize World.alloc _ _=W11 at dj fq ⊢;generalize w10.heap.size=q9 at dj ⊢;obtain⟨b1,af⟩:∃ b1,(isS ⟨tk,tx,tp⟩ [44]&&(decide (rows=0)||decide (wide<cols)))=b1:=⟨_,rfl⟩
    have eo:=zh af;clear af
    go_cut [41] (fun v wx=>v=.bool b1/\Hid (Fs E w (k1) op (c+1) pl er [(q9,70,#[.int .i64 tk,.string ⟨tx.toArray⟩,.int .i64 (tp:Int)]),(q4,41,(cQ 8 [] (rows) A1 n1 ap).toArray),(q,41,aA.toArray)] wx/\KR wx (q4+1) (.slice A1 n1 ap) n1 (l++[x]) (c+1)))
    case first=>
     have x0:=(dj.out.li 0 rfl).cell 0;have x1:=(dj.out.li 0 rfl).cell 1;have x2:=(dj.out.li 0 rfl).cell 2;simp only[za,zb,zf]at x0 x1 x2;have CS1:=zh (CS.out ⟨tk,tx,tp⟩ [44] W11)
     go_wp2_with fail
     refine CS1.out.mono ?_;rintro e w12 ⟨rfl,hb⟩;have px:=zh (dj.out.next hb);have ta:=zh (fq.out.next hb);clear hb CS1 dj fq;have y20:=(px.out.li 1 rfl).cell 20;simp only[za,zb,zf]at y20;cases js:isS ⟨tk,tx,tp⟩ [44] with
     |false=>
      have e1:b1=false:=by rw[<- eo.out,js];rfl
      subst e1
      go_wp2_with fail
      all_goals go_meet
      exact⟨rfl,zh ⟨px.out,ta.out⟩⟩
     |true=>
      by_cases h0:rows=0
      ·have e1:b1=true:=by rw[<- eo.out,js,h0];rfl
       subst e1;have n0:((rows:Int)==0)=true:=by simp[h0]
       go_wp2_with fail
       all_goals go_meet
       exact⟨rfl,zh ⟨px.out,ta.out⟩⟩
      have n0:((rows:Int)==0)=false:=by simp;omega
      have e1:b1=decide (wide<cols):=by rw[<- eo.out,js];simp[h0]
      by_cases hw:wide<cols
      ·have hwi:(wide:Int)<(cols:Int):=by omega
       have e2:b1=true:=by rw[e1];simp[hw]
       subst e2;clear e1 hw
       go_wp2_with fail
       all_goals go_meet
       exact⟨rfl,zh ⟨px.out,ta.out⟩⟩
      have hwi:¬ (wide:Int)<(cols:Int):=by omega
      have e2:b1=false:=by rw[e1];simp[hw]
      subst e2;clear e1 hw
      go_wp2_with fail
      all_goals go_meet
      exact⟨by first|rfl |(simp;omega),zh ⟨px.out,ta.out⟩⟩
    case rest=>
     obtain⟨rfl,hcut⟩:=hcut;have cv:=zh hcut.out.1;have fy:=zh hcut.out.2;clear hcut dj fq;have hwb:(wide:Int)<=1000001:=by have:=HB.out;omega
     have hrb:(rows:Int)<=1000000:=by have:=HB.out;omega
     cases b1
     ·have co:Hid (∃ f,E.L.length-k2<=f+1/\(if isS ⟨tk,tx,tp⟩ [59]&&(decide (rows=0)||decide (wide=cols)) then eY f (rows+1) wide 1 (l++[x]) (E.L.drop (k1+1)) (c+1) else if isS ⟨tk,tx,tp⟩ [125]&&(decide (rows=0)||decide (wide=cols)) then .ok (uKT (rows+1:Nat) (l++[x])) (E.L.drop (k1+1)) (c+1+1) else .bad 6 tp)=T):=zh (by obtain⟨f,h1,h2⟩:=HG2.out;rw[eo.out,if_neg (by decide)]at h2;exact⟨f,h1,h2⟩);clear eo HG2;obtain⟨b2,bf⟩:∃ b2,((isS ⟨tk,tx,tp⟩ [59]||isS ⟨tk,tx,tp⟩ [125])&&(decide (rows=0)||decide (wide=cols)))=b2:=⟨_,rfl⟩
      have au:=zh bf;clear bf
      go_upto_region 14 with fail
      go_cut [54] (fun v wx=>v=.bool b2/\Hid (Fs E w (k1) op (c+1) pl er [(q9,70,#[.int .i64 tk,.string ⟨tx.toArray⟩,.int .i64 (tp:Int)]),(q4,41,(cQ 8 [] (rows) A1 n1 ap).toArray),(q,41,aA.toArray)] wx/\KR wx (q4+1) (.slice A1 n1 ap) n1 (l++[x]) (c+1)))
      case first=>
       have x0:=(cv.out.li 0 rfl).cell 0;have x1:=(cv.out.li 0 rfl).cell 1;have x2:=(cv.out.li 0 rfl).cell 2;simp only[za,zb,zf]at x0 x1 x2;have CS1:=zh (CS.out ⟨tk,tx,tp⟩ [59] wc)
       go_wp2_with fail
       refine CS1.out.mono ?_;rintro e w12 ⟨rfl,hb⟩;have j4:=zh (cv.out.next hb);have py:=zh (fy.out.next hb);clear hb CS1 cv fy;cases je:isS ⟨tk,tx,tp⟩ [59] with
       |true=>
        have y20:=(j4.out.li 1 rfl).cell 20;simp only[za,zb,zf]at y20;by_cases h0:rows=0
        ·have e1:b2=true:=by rw[<- au.out];simp[je,h0]
         subst e1;have n0:((rows:Int)==0)=true:=by simp[h0]
         go_wp2_with fail
         all_goals go_meet
         exact⟨rfl,zh ⟨j4.out,py.out⟩⟩
        have n0:((rows:Int)==0)=false:=by simp;omega
        by_cases hw:wide=cols
        ·have hwi:((wide:Int)==(cols:Int))=true:=by simp[hw]
         have e2:b2=true:=by rw[<- au.out];simp[je,hw]
         subst e2;clear hw
         go_wp2_with fail
         all_goals go_meet
         exact⟨rfl,zh ⟨j4.out,py.out⟩⟩
        have hwi:((wide:Int)==(cols:Int))=false:=by simp;omega
        have e2:b2=false:=by rw[<- au.out];simp[hw,h0]
        subst e2;clear hw
        go_wp2_with fail
        all_goals go_meet
        exact⟨rfl,zh ⟨j4.out,py.out⟩⟩
       |false=>
        have x0:=(j4.out.li 0 rfl).cell 0;have x1:=(j4.out.li 0 rfl).cell 1;have x2:=(j4.out.li 0 rfl).cell 2;simp only[za,zb,zf]at x0 x1 x2;have u7:=je;clear je;have CS1:=zh (CS.out ⟨tk,tx,tp⟩ [125] w12)
        go_wp2_with fail
        refine CS1.out.mono ?_;rintro e w14 ⟨rfl,hb⟩;have lx:=zh (j4.out.next hb);have ob:=zh (py.out.next hb);clear hb CS1 j4 py;clear x0 x1 x2;cases je:isS ⟨tk,tx,tp⟩ [125] with
        |true=>
         have y20:=(lx.out.li 1 rfl).cell 20;simp only[za,zb,zf]at y20;by_cases h0:rows=0
         ·have e1:b2=true:=by rw[<- au.out];simp[je,h0]
          subst e1;have n0:((rows:Int)==0)=true:=by simp[h0]
          go_wp2_with fail
          all_goals go_meet
          exact⟨rfl,zh ⟨lx.out,ob.out⟩⟩
         have n0:((rows:Int)==0)=false:=by simp;omega
         by_cases hw:wide=cols
         ·have hwi:((wide:Int)==(cols:Int))=true:=by simp[hw]
          have e2:b2=true:=by rw[<- au.out];simp[je,hw]
          subst e2;clear hw
          go_wp2_with fail
          all_goals go_meet
          exact⟨rfl,zh ⟨lx.out,ob.out⟩⟩
         have hwi:((wide:Int)==(cols:Int))=false:=by simp;omega
         have e2:b2=false:=by rw[<- au.out];simp[hw,h0]
         subst e2;clear hw
         go_wp2_with fail
         all_goals go_meet
         exact⟨rfl,zh ⟨lx.out,ob.out⟩⟩
        |false=>
         have e1:b2=false:=by rw[<- au.out,u7,je];rfl
         subst e1
         go_wp2_with fail
         all_goals go_meet
         exact⟨rfl,zh ⟨lx.out,ob.out⟩⟩
      case rest=>
       obtain⟨rfl,hcut⟩:=hcut;have ly:=zh hcut.out.1;have xi:=zh hcut.out.2;clear hcut cv fy;cases b2
       ·have db:Hid (T=.bad 6 tp):=zh (by obtain⟨f,h1,h2⟩:=co.out;rw[<- h2];have h3:=au.out;cases ha:isS ⟨tk,tx,tp⟩ [59] <;> cases hb:isS ⟨tk,tx,tp⟩ [125] <;> rw[ha,hb]at h3 <;> simp at h3 ⊢ <;> simp[h3]);have HOW1:=zh (r9.out _ ly.out.ine);clear co au pr
        go_wp2_with fail
        refine HOW1.out.mono ?_;rintro e w15 ⟨rfl,h1,h2⟩;have HS15:=zh (ly.out.step h1 h2.X);clear h1 h2 ly HOW1 r9 xi;have HT:=zh (HS15.out.there 2 rfl 22 rfl);have ag:=zh (HS15.out.fill hE 2 rfl aA rfl)
        go_wp2_with (first |(refine yq rfl 41 (.tmp 2) (.tmp 38) rfl q 0 aA.toArray rfl rfl HT.out aE bB ?_;change wpList _ _ _ _ _ (World.setCells _ q 0 aA);generalize World.setCells _ _ _ _=wz at ag ⊢))
        have HA:=zh (ag.out.li 2 rfl);refine yt (aO rfl rfl HA.out rfl) rfl ?_;rw[db.out];exact cR ag.out rfl bB (by have:=HX.out;have:=HB.out;omega) HX.out.2.1 (by have:=HX.out;have:=HB.out;omega)
       have y20:=(ly.out.li 1 rfl).cell 20;have yf20:=(ly.out.li 1 rfl).frozen 20;simp only[za,zb,zf]at y20;have cv:Hid (Fs E w (k1) op (c+1) pl er [(q9,70,#[.int .i64 tk,.string ⟨tx.toArray⟩,.int .i64 (tp:Int)]),(q4,41,(cQ 8 [] ((rows:Int)+1) A1 n1 ap).toArray),(q,41,aA.toArray)] (wc.setCell ⟨q4,20,none⟩ (.int .i64 ((rows:Int)+1)))):=zh (ly.out.put hE 1 rfl 20 _);have fy:=zh (xi.out.kp ((Kp.refl [q4] _).set (.inl (.head _)) 20 (.int .i64 ((rows:Int)+1))) (fun y hy=>.inl (by rw[yf.1 hy];omega)));clear ly xi
       go_upto_region 17 with fail
       generalize World.setCell _ _ _=W11b at cv fy ⊢;clear y20 yf20;have h2:isS ⟨tk,tx,tp⟩ [59]=true\/isS ⟨tk,tx,tp⟩ [125]=true:=by have:=au.out;simp at this;exact this.1
       have hk2':=pr.out (h2.elim eI eI);clear h2;cases t7:isS ⟨tk,tx,tp⟩ [59] with
       |true=>
        have t8:=isS_ne t7 (by decide:([59]:Bs)≠[125]);have t9:Hid (∃ f,E.L.length-k2<=f+1/\eY f (rows+1) wide 1 (l++[x]) (E.L.drop (k1+1)) (c+1)=T):=zh (by obtain⟨f,h1,h2⟩:=co.out;have h3:=au.out;rw[t7]at h2 h3;simp only[Bool.true_or]at h3;rw[h3,if_pos rfl]at h2;exact⟨f,h1,h2⟩);clear co au pr r9 t7;have r1:=cv.out.ine.rd.cell 1;have rf1:=cv.out.ine.rd.frozen 1;simp only[za,zb,zf]at r1;have ol:(k1:Int)<=1000000:=by have:=HX.out;omega
        have eh:Hid (Fs E w (k1+1) op (c+1) pl er [(q9,70,#[.int .i64 tk,.string ⟨tx.toArray⟩,.int .i64 (tp:Int)]),(q4,41,(cQ 8 [] ((rows:Int)+1) A1 n1 ap).toArray),(q,41,aA.toArray)] (W11b.setCell ⟨E.r,1,none⟩ (.int .i64 ((k1:Int)+1)))):=zh (cv.out.rd hE 1 _ rfl);have fz:=zh (fy.out.kp ((Kp.refl [E.r] _).set (.inl (.head _)) 1 (.int .i64 ((k1:Int)+1))) (fun y hy=>.inl (by obtain⟨k0,op0,nd0,pl0,er0,cn⟩:=cv.out.base;have:=cn.rd.lt;rw[yf.1 hy];have:=n9.out;omega)));clear cv fy
        go_upto_region 18 with fail
        generalize World.setCell _ _ _=W12 at eh fz ⊢;clear r1 rf1;have x0:=(eh.out.li 0 rfl).cell 0;have x1:=(eh.out.li 0 rfl).cell 1;have x2:=(eh.out.li 0 rfl).cell 2;simp only[za,zb,zf]at x0 x1 x2;have CS1:=zh (CS.out ⟨tk,tx,tp⟩ [125] W12);rw[t8]at CS1
        go_wp2_with fail
        refine CS1.out.mono ?_;rintro e w13 ⟨rfl,hb⟩;have i8:=zh (eh.out.next hb);have mz:=zh (fz.out.next hb);clear hb CS1 eh fz
        go_wp2_with fail
        go_roundw
        case rel=>exact⟨wide,1,rfl,rfl,zh ⟨k1+1,c+1,rows+1,n1,ap,A1,l++[x],i8.out.drop1,mz.out,by have:=HB.out;have:=HX.out;omega,hk2',by have:=HB.out;have:=HX.out;omega,by have:=HB.out;omega,jf.out,by have:=HB.out;have:=HX.out;omega,by have:=HB.out;have:=HX.out;omega,by have:=HB.out;have:=HX.out;omega,by obtain⟨f,h1,h2⟩:=t9.out;exact⟨f,by have:=HX.out;omega,h2⟩⟩⟩
        case measure=>rw[HRD.out,i8.out.ine.rdAt];have:=HX.out;omega
       |false=>
        have t8:isS ⟨tk,tx,tp⟩ [125]=true:=by have:=au.out;rw[t7]at this;simp at this;exact this.1
        have db:Hid (T=.ok (uKT (rows+1:Nat) (l++[x])) (E.L.drop (k1+1)) (c+1+1)):=zh (by obtain⟨f,h1,h2⟩:=co.out;have h3:=au.out;rw[t7,t8]at h2 h3;simp only[Bool.false_or,Bool.true_and,Bool.false_and]at h3 h2;rw[h3]at h2;exact h2.symm);clear co au pr r9 t7;have r1:=cv.out.ine.rd.cell 1;have rf1:=cv.out.ine.rd.frozen 1;simp only[za,zb,zf]at r1;have ol:(k1:Int)<=1000000:=by have:=HX.out;omega
        have eh:Hid (Fs E w (k1+1) op (c+1) pl er [(q9,70,#[.int .i64 tk,.string ⟨tx.toArray⟩,.int .i64 (tp:Int)]),(q4,41,(cQ 8 [] ((rows:Int)+1) A1 n1 ap).toArray),(q,41,aA.toArray)] (W11b.setCell ⟨E.r,1,none⟩ (.int .i64 ((k1:Int)+1)))):=zh (cv.out.rd hE 1 _ rfl);have fz:=zh (fy.out.kp ((Kp.refl [E.r] _).set (.inl (.head _)) 1 (.int .i64 ((k1:Int)+1))) (fun y hy=>.inl (by obtain⟨k0,op0,nd0,pl0,er0,cn⟩:=cv.out.base;have:=cn.rd.lt;rw[yf.1 hy];have:=n9.out;omega)));clear cv fy
        go_upto_region 18 with fail
        generalize World.setCell _ _ _=W12 at eh fz ⊢;clear r1 rf1;have x0:=(eh.out.li 0 rfl).cell 0;have x1:=(eh.out.li 0 rfl).cell 1;have x2:=(eh.out.li 0 rfl).cell 2;simp only[za,zb,zf]at x0 x1 x2;have CS1:=zh (CS.out ⟨tk,tx,tp⟩ [125] W12);rw[t8]at CS1
        go_wp2_with fail
        refine CS1.out.mono ?_;rintro e w13 ⟨rfl,hb⟩;have i8:=zh (eh.out.next hb);have mz:=zh (fz.out.next hb);clear hb CS1 eh fz;have CN1:=zh (CN.out (k1+1) (c+1) pl er (cQ 8 [] ((rows:Int)+1) A1 n1 ap) rfl (gF _ _ _ _ _ _) _ i8.out.ine (by have:=HB.out;have:=HF.out;have:=HX.out;omega));obtain⟨D,hC,ai,ec,ii⟩:=fD (c+1+1) (cQ 8 [] ((rows:Int)+1) A1 n1 ap) rfl (gF _ _ _ _ _ _);rw[hC]at CN1;have yC:=zh ai;have dx:=zh ec;have mw:=zh ii;have fm:=zh (i8.out.range 1 (l:=cQ 8 [] ((rows:Int)+1) A1 n1 ap) rfl);clear hC ai ec ii
        go_wp2_with (first |(refine yr rfl 41 (.tmp 4) rfl q4 0 rfl (cQ 8 [] ((rows:Int)+1) A1 n1 ap) _ fm.out Tryz.underlying41 rfl aE ?_))
        refine CN1.out.mono ?_;rintro e wn ⟨rfl,av,ep⟩;have jv:=zh (i8.out.step av ep.X);have HKn:=zh (mz.out.kp ep (fun y hy=>.inl (by obtain⟨k0,op0,nd0,pl0,er0,cn⟩:=i8.out.base;have:=cn.rd.lt;rw[yf.1 hy];have:=n9.out;omega)));clear av ep CN1 fm i8 mz;have HT:=zh (jv.out.there 2 rfl D.toArray.size (by rw[yd,yC.out];rfl));have ag:=zh (jv.out.fill hE 2 rfl D (by rw[yC.out];rfl));have HKz:=zh ((HKn.out.kp (aQ (Y:=[q]) (.inl (.head _)) D 0 (Kp.refl _ _)) (fun y hy=>.inl (by rw[yf.1 hy];have:=n9.out;have:=HQ.out;omega))).more (Nat.le_succ (c+1)));have zi:(Tryz.prog.info? 41).map (·.size)=some D.toArray.size:=by rw[yd,yC.out];exact aE
        clear jv HKn
        go_wp2_with (first |(refine yq rfl 41 (.tmp 2) (.tmp 87) rfl q 0 D.toArray rfl rfl HT.out zi dx.out ?_;change wpList _ _ _ _ _ (World.setCells _ q 0 D);generalize World.setCells _ _ _ _=wz at ag HKz ⊢))
        have HA:=zh (ag.out.li 2 rfl);refine yt (aO rfl rfl HA.out (by rw[yd,yC.out])) rfl ?_;rw[db.out];refine xF ag.out yC.out dx.out (fun hn=>?_) (by have:=HX.out;have:=HB.out;omega) hk2' (by have:=HX.out;have:=HB.out;omega) (by have:=HB.out;omega) rfl;obtain⟨h4,h5⟩:=HKz.out.kids hn (X:=List.range w.heap.size) (fun y hy=>by have:=yg.1 hy;have:=n9.out;omega);exact⟨A1,ap,by rw[mw.out hn,h4];rfl,h5⟩
     have h44:isS ⟨tk,tx,tp⟩ [44]=true:=by have:=eo.out;simp at this;exact this.1
     have t8:=isS_ne h44 (by decide:([44]:Bs)≠[125]);have hk2':=pr.out (eI h44);have t9:Hid (∃ f,E.L.length-k2<=f+1/\eY f rows cols (wide+1) (l++[x]) (E.L.drop (k1+1)) (c+1)=T):=zh (by obtain⟨f,h1,h2⟩:=HG2.out;rw[eo.out,if_pos rfl]at h2;exact⟨f,h1,h2⟩);clear eo HG2 pr h44 r9;have r1:=cv.out.ine.rd.cell 1;have rf1:=cv.out.ine.rd.frozen 1;simp only[za,zb,zf]at r1;have ol:(k1:Int)<=1000000:=by have:=HX.out;omega
     have eh:Hid (Fs E w (k1+1) op (c+1) pl er [(q9,70,#[.int .i64 tk,.string ⟨tx.toArray⟩,.int .i64 (tp:Int)]),(q4,41,(cQ 8 [] (rows) A1 n1 ap).toArray),(q,41,aA.toArray)] (wc.setCell ⟨E.r,1,none⟩ (.int .i64 ((k1:Int)+1)))):=zh (cv.out.rd hE 1 _ rfl);have fz:=zh (fy.out.kp ((Kp.refl [E.r] _).set (.inl (.head _)) 1 (.int .i64 ((k1:Int)+1))) (fun y hy=>.inl (by obtain⟨k0,op0,nd0,pl0,er0,cn⟩:=cv.out.base;have:=cn.rd.lt;rw[yf.1 hy];have:=n9.out;omega)));clear cv fy
     go_upto_region 18 with fail
     generalize World.setCell _ _ _=W12 at eh fz ⊢;clear r1 rf1;have x0:=(eh.out.li 0 rfl).cell 0;have x1:=(eh.out.li 0 rfl).cell 1;have x2:=(eh.out.li 0 rfl).cell 2;simp only[za,zb,zf]at x0 x1 x2;have CS1:=zh (CS.out ⟨tk,tx,tp⟩ [125] W12);rw[t8]at CS1
     go_wp2_with fail
     refine CS1.out.mono ?_;rintro e w13 ⟨rfl,hb⟩;have i8:=zh (eh.out.next hb);have mz:=zh (fz.out.next hb);clear hb CS1 eh fz
     go_wp2_with fail
     go_roundw
     case rel=>exact⟨cols,wide+1,rfl,rfl,zh ⟨k1+1,c+1,rows,n1,ap,A1,l++[x],i8.out.drop1,mz.out,by have:=HB.out;have:=HX.out;omega,hk2',by have:=HB.out;have:=HX.out;omega,by have:=HB.out;omega,jf.out,by have:=HB.out;have:=HX.out;omega,by have:=HB.out;have:=HX.out;omega,by have:=HB.out;have:=HX.out;omega,by obtain⟨f,h1,h2⟩:=t9.out;exact⟨f,by have:=HX.out;omega,h2⟩⟩⟩
     case measure=>rw[HRD.out,i8.out.ine.rdAt];have:=HX.out;omega
def pI:Prop:=∀ (h:NodeH) (W:World),(h.kind=4\/h.kind=7)->h.name.length<=100000->h=⟨h.kind,aC,h.name,aG,aG,0⟩->Calls Tryz.prog 27 #[dO h none 0 0] W fun e w'=>e=.returned (.int .i64 (cK (.mk h []):Nat))/\Below W.heap.size W w'
theorem uCA(s:Bs):cK (eF s [])=if bR s then 0 else 6:=by
 have h1:cS aC aC=true:=by rfl
 unfold cK;simp[Tree.size,bH,Tree.depth,dQ,Tree.right,bP,bJ,NodeH.same,h1]
theorem uCB(s:Bs):cK (uID s)=if bS s then 0 else 6:=by
 have h1:cS aC aC=true:=by rfl
 unfold cK;simp[Tree.size,bH,Tree.depth,dQ,Tree.right,bP,bJ,NodeH.same,h1]
def uDX(s:Bs):fT->Out
 | .bad e p=>.bad e p
 | .ok l ts1 c1=>.ok (eF s l) ts1.tail (c1+1)
structure Arg(E:Env)(w:World)(k op nd pl er q q4:Nat)(s:Bs)(wh:List Tok->Nat->Out)(R:fT)(k' c n cap:Nat)(A:Option Addr)(l:List Tree)(W:World):Prop where
 st:Fs E w k' (op+1) c pl er [(q4,41,(cQ 4 s 0 A n cap).toArray),(q,41,aA.toArray)] W
 kr:KR W (q4+1) (.slice A n cap) n l c
 len:n=l.length
 le:k<=k'
 lt:k'<E.L.length
 nn:nd<=c
structure ArgA(E:Env)(w:World)(k op nd pl er q q4:Nat)(s:Bs)(wh:List Tok->Nat->Out)(R:fT)(k' c n cap:Nat)(A:Option Addr)(l:List Tree)(W:World):Prop extends Arg E w k op nd pl er q q4 s wh R k' c n cap A l W where
 nc:c+k+1<=nd+k'
 few:n<32
 go:∃ f,E.L.length-k'<=f/\bN wh f l (E.L.drop k') c=R
structure ArgZ(E:Env)(w:World)(k op nd pl er q q4:Nat)(s:Bs)(wh:List Tok->Nat->Out)(R:fT)(k' c n cap:Nat)(A:Option Addr)(l:List Tree)(W:World):Prop extends Arg E w k op nd pl er q q4 s wh R k' c n cap A l W where
 nc:c+k<=nd+k'
 few:n<=32
 cl:isS (E.at k') [41]=true
 go:R=.ok l (E.L.drop k') c
theorem ArgA.out{E:Env}{w:World}{k op nd pl er q q4:Nat}{s:Bs}{wh:List Tok->Nat->Out}{R:fT}{k' c n cap:Nat}{A:Option Addr}{l:List Tree}{W:World}(h:ArgA E w k op nd pl er q q4 s wh R k' c n cap A l W) :
  ∃ f,E.L.length-k'<=f+1/\(match iP wh (E.L.drop k') c with
   | .bad e p=>fT.bad e p
   | .ok x ts1 c1=>
    if isS (hd ts1) [41] then .ok (l++[x]) ts1 c1
    else if isS (hd ts1) [44] then if 32<=l.length+1 then .bad 10 (hd ts1).place else bN wh f (l++[x]) ts1.tail c1
    else .bad 6 (hd ts1).place)=R:=by
 obtain⟨f,h1,h2⟩:=h.go;have:=h.lt;cases f with
 |zero=>omega
 |succ f=>exact⟨f,h1,h2⟩
set_option maxRecDepth 100000 in
theorem call_any(E:Env)(hE:E.ok)(he:E.ends)(hL:E.L.length<=1000000)(hT:E.short)(hC:pI)(whole:Nat->List Tok->Nat->Out)(op:Nat)(ho:op<=64)(hp:op<64->eE E 24 (whole (op+1)) (op+1))(k nd pl er:Nat)(w:World)(hI:InE E k op nd pl er w)(hk:k<E.L.length)(hn:nd<=k)(dc:k+1<E.L.length)(hs:isS (E.at (k+1)) [40]=true) :
  Calls Tryz.prog 129 #[.pointer (some ⟨E.r,0,none⟩)] w (NPost E w k op nd pl er (nM whole op (E.L.drop k) nd)):=by
 have fg:=E.more he dc (eI hs);have CT:=zh (fun k op nd pl er W h hk=>cE E k op nd pl er W h hk);have CS:=zh (fun t s W=>dF t s W);have CFo:=zh (fun W=>lG (E.at k).text W (by have:=hT k;unfold maxLen;omega));have CCk:=zh (hC ⟨4,aC,aN (E.at k).text,aG,aG,0⟩ · (.inl rfl) (by have:=hT k;rw[fL];omega) rfl);have CW:=zh (fun W h=>fB E hE k op nd pl er 9 W h hk);have CEy:=zh (fun W h=>wY E hE (k+1) op nd pl er W h dc hL hs);have CEd:=zh (fun W h ho=>tU E hE (k+1) op nd pl er W h dc ho (by omega));have CA:=zh (fun ho k nd pl er W h hk hn=>yH E hE (whole (op+1)) (op+1) (hp ho) k nd pl er W h hk hn hL);have CCf:=zh (fun k nd pl er n W h hk hs hn=>uEB E hE k (op+1) nd pl er n W h hk hs hn);have CCy:=zh (fun k nd pl er n W h hk hs hn=>uIX E hE k (op+1) nd pl er n W h hk hL hs hn)
 have CCn:=zh (fun k nd pl er n W h hk hs=>comma_no E hE k (op+1) nd pl er n W h hk hs);have CN:=zh (fun k nd pl er cs fb h1 W h hn=>iJ E hE k (op+1) nd pl er cs fb h1 W h hn);have CLv:=zh (fun k nd pl er W h hk hs=>xG E hE k op nd pl er W h hk hL hs ho);have bo:=zh ((Fs.start hI).alloc 41 aA.toArray (by decide));have HF:Hid (k<E.L.length/\nd<=k/\k+1<E.L.length/\k+2<E.L.length/\op<=64):=zh ⟨hk,hn,dc,fg,ho⟩;generalize hO:nM whole op (E.L.drop k) nd=T;have HO:Hid ((if !bR (aN (E.at k).text) then .bad 9 (E.at k).place else if 64<=op then .bad 8 (E.at (k+1)).place else uDX (aN (E.at k).text) (if isS (E.at (k+2)) [41] then .ok [] (E.L.drop (k+2)) nd else bN (whole (op+1)) (E.L.length-k) [] (E.L.drop (k+2)) nd))=T):=zh (by
  rw[<- hO];unfold nM fU uDX;rw[List.tail_drop,List.tail_drop,yk];rfl)
 have rq:=uCA (aN (E.at k).text);clear hI hO hn hs hk dc fg hp ho hT hC;generalize hsn:aN (E.at k).text=s at *;have HPC:=zh rq;clear rq hsn;have CT1:=zh (CT.out k op nd pl er · · HF.out.1);generalize ed:E.at k=tt at *;obtain⟨tk,tx,tp⟩:=tt;dsimp only[tkV]at *;have oy:=nS;clear ed;simp only[aA]at bo
 go_enter Tryz.func129,Tryz.ntmps129
 go_upto_region 1 with fail
 generalize World.alloc _ _=W1 at bo ⊢;generalize hq:w.heap.size=q at bo ⊢;have HQ:=zh hq;clear hq
 go_wp2_with fail
 refine(CT1.out _ bo.out.ine).mono ?_;rintro e w2 ⟨rfl,hb⟩;have dy:=zh (bo.out.next hb);clear hb bo CT1
 go_wp2_with fail
 refine(CFo.out _).mono ?_;rintro e w3 ⟨rfl,hb⟩;have bt:=zh ((dy.out.next hb).alloc 41 aA.toArray (by decide));have n9:Hid (q<w3.heap.size/\w.heap.size<=w3.heap.size):=zh (by have:=(dy.out.next hb).lt 0 rfl;exact⟨this,by have:=HQ.out;omega⟩);clear hb dy CFo oy;have HT:=zh (bt.out.there 0 rfl 22 rfl);have ak:=zh (bt.out.fill hE 0 rfl (cQ 4 s 0 none 0 0) rfl);have f9:=gF 4 s 0 none 0 0;clear bt;simp only[List.set_cons_zero]at ak;simp only[aA]at ak HT
 go_upto_region 2 with(first |(refine yq rfl 41 (.tmp 4) (.tmp 12) rfl w3.heap.size 0 (cQ 4 s 0 none 0 0).toArray rfl rfl HT.out aE f9 ?_;change wpList _ _ _ _ _ (World.setCells _ w3.heap.size 0 (cQ 4 s 0 none 0 0));generalize World.setCells _ _ _ _=W4 at ak ⊢;generalize w3.heap.size=q4 at ak n9 ⊢))
 clear HT f9;have fm:=zh (ak.out.range 0 (l:=cQ 4 s 0 none 0 0) rfl)
 go_wp2_with (first |(refine yr rfl 41 (.tmp 4) rfl q4 0 rfl (cQ 4 s 0 none 0 0) _ fm.out Tryz.underlying41 rfl aE ?_))
 refine(CCk.out _).mono ?_;rintro e w5 ⟨rfl,hb⟩;have az:=zh (ak.out.next hb);clear hb ak CCk fm;rw[HPC.out];cases vy:bR s with
 |false=>
  have db:Hid (T=.bad 9 tp):=zh (by rw[<- HO.out,vy];rfl);rw[if_neg (by decide)];clear HO HPC
  go_wp2_with fail
  refine(CW.out _ az.out.ine).mono ?_;rintro e w6 ⟨rfl,h1,h2⟩;have am:=zh (az.out.step h1 h2.X);clear h1 h2 az CW;have HT:=zh (am.out.there 1 rfl 22 rfl);have ag:=zh (am.out.fill hE 1 rfl aA rfl)
  go_wp2_with (first |(refine yq rfl 41 (.tmp 2) (.tmp 16) rfl q 0 aA.toArray rfl rfl HT.out aE bB ?_;change wpList _ _ _ _ _ (World.setCells _ q 0 aA);generalize World.setCells _ _ _ _=wz at ag ⊢))
  have HA:=zh (ag.out.li 1 rfl);refine yt (aO rfl rfl HA.out rfl) rfl ?_;rw[db.out];exact cR ag.out rfl bB zr HF.out.1 (by omega)
 |true=>
  rw[if_pos rfl];clear CW HPC;have gy:Hid ((if 64<=op then .bad 8 (E.at (k+1)).place else uDX s (if isS (E.at (k+2)) [41] then .ok [] (E.L.drop (k+2)) nd else bN (whole (op+1)) (E.L.length-k) [] (E.L.drop (k+2)) nd))=T):=zh (by rw[<- HO.out,vy];rfl);clear HO vy;have r1:=az.out.ine.rd.cell 1;have rf1:=az.out.ine.rd.frozen 1;simp only[za,zb,zf]at r1;have ol:(k:Int)<=1000000:=by have:=HF.out;omega
  have am:Hid (Fs E w (k+1) (op) (nd) pl er [(q4,41,(cQ 4 s 0 none 0 0).toArray),(q,41,aA.toArray)] (w5.setCell ⟨E.r,1,none⟩ (.int .i64 ((k:Int)+1)))):=zh (az.out.rd hE 1 _ rfl);clear az
  go_upto_region 5 with fail
  generalize World.setCell _ _ _=W6 at am ⊢;clear r1 rf1;by_cases rl:64<=op
  ·rw[if_pos rl]at gy;have iq:=zh gy.out.symm
   go_wp2_with fail
   refine(CEd.out _ am.out.ine rl).mono ?_;rintro e w7 ⟨rfl,h1,h2⟩;have c8:=zh (am.out.step h1 h2.X);clear h1 h2 am CEd rl;have HT:=zh (c8.out.there 1 rfl 22 rfl);have ag:=zh (c8.out.fill hE 1 rfl aA rfl)
   go_wp2_with (first |(refine yq rfl 41 (.tmp 2) (.tmp 29) rfl q 0 aA.toArray rfl rfl HT.out aE bB ?_;change wpList _ _ _ _ _ (World.setCells _ q 0 aA);generalize World.setCells _ _ _ _=wz at ag ⊢))
   have HA:=zh (ag.out.li 1 rfl);refine yt (aO rfl rfl HA.out rfl) rfl ?_;rw[iq.out];exact cR ag.out rfl bB (by omega) HF.out.2.2.1 (by omega)
  rw[if_neg rl]at gy;have sc:op<64:=by omega
  have CA1:=zh (CA.out sc);clear rl CA CEd;generalize whole (op+1)=wh at gy CA1
  go_wp2_with fail
  refine(CEy.out _ am.out.ine sc).mono ?_;rintro e w7 ⟨rfl,h1,h2⟩;have c8:=zh (am.out.step h1 h2.X);clear h1 h2 am CEy sc;have CT1:=zh (CT.out (k+2) (op+1) nd pl er _ c8.out.ine HF.out.2.2.2.1);have pr:Hid ((E.at (k+2)).kind≠0->k+3<E.L.length):=zh (fun h=>E.more he HF.out.2.2.2.1 h);obtain⟨R,hR⟩:∃ R,(if isS (E.at (k+2)) [41] then fT.ok [] (E.L.drop (k+2)) nd else bN wh (E.L.length-k) [] (E.L.drop (k+2)) nd)=R:=⟨_,rfl⟩
  rw[hR]at gy;have HR:=zh hR;clear hR
  go_wp2_with fail
  refine CT1.out.mono ?_;rintro e w8 ⟨rfl,hb⟩;have da:=zh (c8.out.next hb);clear hb c8 CT1;have CS1:=zh (CS.out (E.at (k+2)) [41] w8)
  go_wp2_with fail
  refine CS1.out.mono ?_;rintro e w9 ⟨rfl,hb⟩;have bl:=zh (da.out.next hb);clear hb da CS1;have HM:Hid ((isS (E.at (k+2)) [41]=false/\ArgA E w k op nd pl er q q4 s wh R (k+2) nd 0 0 none [] w9)\/(isS (E.at (k+2)) [41]=true/\ArgZ E w k op nd pl er q q4 s wh R (k+2) nd 0 0 none [] w9)):=zh (by
   have hA:Arg E w k op nd pl er q q4 s wh R (k+2) nd 0 0 none [] w9:=⟨bl.out,KR.nil _ _ _,rfl,by omega,HF.out.2.2.2.1,zr⟩
   cases hb:isS (E.at (k+2)) [41] with
   |false=>exact .inl ⟨rfl,{ toArg:=hA,nc:=by omega,few:=by omega,go:=⟨E.L.length-k,by omega,by have:=HR.out;rw[hb]at this;exact this⟩ }⟩
   |true=>exact .inr ⟨rfl,{ toArg:=hA,nc:=by omega,few:=by omega,cl:=hb,go:=by have:=HR.out;rw[hb,if_pos rfl]at this;exact this.symm }⟩)
  clear bl HR pr;generalize isS (E.at (k+2)) [41]=b0 at HM ⊢
  go_wp2_with fail
  go_loopw [5] (fun v wr=>(v=.bool true/\Hid (∃ k' c n cap A l,ArgA E w k op nd pl er q q4 s wh R k' c n cap A l wr))\/(v=.bool false/\Hid (∃ k' c n cap A l,ArgZ E w k op nd pl er q q4 s wh R k' c n cap A l wr))) (fun v wr=>onM v (E.L.length-rdAt wr E.r))
  case atStart=>
   rcases HM.out with⟨rfl,h⟩|⟨rfl,h⟩
   ·exact .inl ⟨rfl,zh ⟨_,_,_,_,_,_,h⟩⟩
   exact .inr ⟨rfl,zh ⟨_,_,_,_,_,_,h⟩⟩
  case round=>
   clear HM;rcases hrel with⟨rfl,hrel⟩|⟨rfl,hrel⟩
   ·obtain⟨k2,c,n,cap,A,l,hS⟩:=hrel.out;have dj:=zh hS.st;have fq:=zh hS.kr;have HB:Hid (k<=k2/\k2<E.L.length/\c+k+1<=nd+k2/\nd<=c/\n=l.length/\n<32):=zh ⟨hS.le,hS.lt,hS.nc,hS.nn,hS.len,hS.few⟩;have HG:=zh hS.out;have HRD:=zh hS.st.ine.rdAt;have CA2:=zh (CA1.out k2 c pl er _ dj.out.ine HB.out.2.1 (by have:=HB.out;have:=HF.out;omega));clear hS hrel CA1
    go_wp2_with fail
    refine CA2.out.mono ?_;clear CA2;cases hp:iP wh (E.L.drop k2) c with
    |bad e1 p1=>
     have db:Hid (T=.bad e1 p1):=zh (by obtain⟨f,_,hf⟩:=HG.out;rw[hp]at hf;rw[<- gy.out,<- hf];rfl);rintro e w6 ⟨cs,k1,op1,nd1,rfl,g1,g2,g3,g4,g5,g6,g7⟩;obtain⟨C,rfl⟩:∃ C:List Value,cs=C.toArray:=⟨cs.toList,by simp⟩
     have yC:Hid (C.length=22):=zh (by rwa [yd]at g1);have yo:=zh g2;have HX:=zh (⟨g3,g4,g5⟩:k2<=k1/\k1<E.L.length/\nd1+k2<=c+k1);have am:=zh (dj.out.step g6 g7);clear g1 g2 g3 g4 g5 g6 g7 dj fq HG hp;have c8:=zh (am.out.alloc 41 aA.toArray (by decide));clear am;have HT:=zh (c8.out.there 0 rfl C.toArray.size (by rw[yd,yC.out];rfl));have da:=zh (c8.out.fill hE 0 rfl C (by rw[yC.out];rfl));have zi:=fv yC.out;clear c8;simp only[aA,List.set_cons_zero]at da HT
     go_upto_region 11 with(first |(refine yq rfl 41 (.tmp 6) (.tmp 38) rfl w6.heap.size 0 C.toArray rfl rfl HT.out zi yo.out ?_;change wpList _ _ _ _ _ (World.setCells _ w6.heap.size 0 C);generalize World.setCells _ _ _ _=W8 at da ⊢;generalize w6.heap.size=q7 at da ⊢))
     clear HT zi;have HT:=zh (da.out.there 2 rfl 22 rfl);have ag:=zh (da.out.fill hE 2 rfl aA rfl)
     go_wp2_with (first |(refine yq rfl 41 (.tmp 2) (.tmp 42) rfl q 0 aA.toArray rfl rfl HT.out aE bB ?_;change wpList _ _ _ _ _ (World.setCells _ q 0 aA);generalize World.setCells _ _ _ _=wz at ag ⊢))
     have HA:=zh (ag.out.li 2 rfl);refine yt (aO rfl rfl HA.out rfl) rfl ?_;rw[db.out];exact cR ag.out rfl bB (by have:=HX.out;have:=HB.out;omega) HX.out.2.1 (by have:=HX.out;have:=HB.out;omega)
    |ok x ts1 c1=>
     rintro e w6 ⟨k1,cs,rfl,g1,g2,rfl,g4,g5,g6,g7,g8⟩;obtain⟨C,rfl⟩:∃ C:List Value,cs=C.toArray:=⟨cs.toList,by simp⟩
     have yC:Hid (C.length=22):=zh (by have:=g8.1;rwa [yd]at this);have yo:=zh g8.2.1;have HX:=zh (⟨g1,g2,g4,g5⟩:k2<=k1/\k1<E.L.length/\c1+k2<=c+k1+1/\c<=c1);have am:=zh (dj.out.step g6 g7);have HQL:Hid (∀ y,(Value.slice A n cap).ownBlock=some y->q4+1<=y/\y<wr.heap.size):=zh (fun y hy=>gH fq.out hy);have HXB:Hid (∀ y∈E.X,y<q4+1):=zh (fun y hy=>by obtain⟨k0,op0,nd0,pl0,er0,cn⟩:=dj.out.base;have:=cn.xlt y hy;have:=n9.out;omega);have iv:=zh (fq.out.kp g7 (fun y hy=>.inl (HXB.out y hy)));have HV6:Hid (NV w6 (KX (q4+1) (.slice A n cap)) c1 x C.toArray):=zh (g8.anti (fun y hy _=>by have h4:=dj.out.lt 0 rfl;exact(KX.mem.1 hy).elim (fun h=>yg.2 (HQL.out y h).2) (fun h=>yg.2 (by omega))))
     have HG1:Hid (∃ f,E.L.length-k2<=f+1/\(if isS (E.at k1) [41] then fT.ok (l++[x]) (E.L.drop k1) c1 else if isS (E.at k1) [44] then if 32<=l.length+1 then .bad 10 (E.at k1).place else bN wh f (l++[x]) (E.L.drop (k1+1)) c1 else .bad 6 (E.at k1).place)=R):=zh (by obtain⟨f,h1,h2⟩:=HG.out;rw[hp]at h2;rw[<- List.tail_drop];exact⟨f,h1,h2⟩);clear g1 g2 g4 g5 g6 g7 g8 dj fq HG hp HXB;have c8:=zh (am.out.alloc 41 aA.toArray (by decide));have r8:Hid (∀ y,(Value.slice A n cap).ownBlock=some y->y≠w6.heap.size):=zh (fun y hy e=>by have:=(gH iv.out hy).2;omega);have HKP:∀ W,Kp [w6.heap.size] w6 W->Hid (KR W (q4+1) (.slice A n cap) n l c/\NV W (KX (q4+1) (.slice A n cap)) c1 x C.toArray):=fun W hk=>zh ⟨iv.out.kp hk (fun y hy=>.inr (by rw[yf.1 hy];exact zr)),HV6.out.kp (hk.mono (fun y hy hl=>by rw[yf.1 hy]at hl;omega))⟩
     have ls:=HKP _ (aQ (.inl (.head _)) C 0 ((Kp.refl _ _).alloc (.cells aA.toArray 41)));clear HKP iv HV6 am;have HT:=zh (c8.out.there 0 rfl C.toArray.size (by rw[yd,yC.out];rfl));have da:=zh (c8.out.fill hE 0 rfl C (by rw[yC.out];rfl));have zi:=fv yC.out;clear c8;simp only[aA,List.set_cons_zero]at da HT ls
     go_upto_region 12 with(first |(refine yq rfl 41 (.tmp 6) (.tmp 38) rfl w6.heap.size 0 C.toArray rfl rfl HT.out zi yo.out ?_;change wpList _ _ _ _ _ (World.setCells _ w6.heap.size 0 C);generalize World.setCells _ _ _ _=W8 at da ls ⊢;generalize w6.heap.size=q7 at da r8 ⊢))
     clear HT
     go_cut [] (fun wx=>Hid (∃ ap A1,Fs E w (k1) (op+1) (c1) pl er [(q4,41,(cQ 4 s 0 A1 (n+1) ap).toArray),(q,41,aA.toArray)] wx/\KR wx (q4+1) (.slice A1 (n+1) ap) (n+1) (l++[x]) c1))
     case first=>
      have fm:=zh (da.out.range 0 (l:=C) rfl);have x21:=(da.out.li 1 rfl).cell 21;simp only[za,zb,zf]at x21;have zi:(Tryz.prog.info? 41).map (·.size)=some C.length:=by rw[yC.out];exact aE
      have bl:=zh (da.out.alloc 41 C.toArray (by decide));have fe:Below W8.heap.size W8 (W8.alloc (.cells C.toArray 41)):=(zp _);have me:=zh ((ls.out.1.next fe).more HX.out.2.2.2);have oo:=zh (ls.out.2.kp (Kp.of_below fe));have xf:Hid (∀ y,(Value.slice A n cap).ownBlock=some y->y≠W8.heap.size):=zh (fun y hy e=>by have:=(gH ls.out.1 hy).2;omega);have b6:∀ b∈([(W8.heap.size,41,C.toArray),(q7,41,C.toArray),(q4,41,(cQ 4 s 0 A n cap).toArray),(q,41,aA.toArray)]:List (Nat×TypeId×Array Value)),(Value.slice A n cap).ownBlock≠some b.1:=fun b hb e=>by
       simp only[ym,List.not_mem_nil,or_false]at hb;rcases hb with rfl|rfl|rfl|rfl
       ·exact xf.out _ e rfl
       ·exact r8.out _ e rfl
       ·have:=(HQL.out _ e).1;omega
       have:=(HQL.out _ e).1;have:=n9.out;have:=HQ.out;omega
      replace b6:=zh b6;have kw:=zh (bl.out.li 0 rfl);have HZ:Hid (w.heap.size<=q4+1/\n<=100000/\q4+1<=(W8.alloc (.cells C.toArray 41)).heap.size):=zh ⟨by have:=n9.out;omega,by have:=HB.out;omega,by have:=bl.out.lt 2 rfl;omega⟩;clear da fe xf ls
      go_wp2_with (first |(refine yr rfl 41 (.tmp 6) rfl q7 0 rfl C _ fm.out Tryz.underlying41 rfl zi ?_) |(refine mP rfl (.tmp 45) rfl C rfl yC.out W8.heap.size rfl (some 46) rfl ?_;generalize W8.alloc (.cells C.toArray 41)=W9 at bl me oo kw HZ ⊢;generalize W8.heap.size=q8 at bl b6 kw ⊢) |(refine kK rfl (.tmp 44) (.tmp 46) rfl (q4+1) n (.slice A n cap) l c1 rfl me.out HZ.out.2.1 HZ.out.2.2 q8 1 C rfl yC.out kw.out yo.out x oo.out ?_;intro v2 w9 h1 h2 h3;obtain⟨A1,ap,rfl⟩:=h1.form;have dj:=zh (bl.out.grow hE me.out HZ.out.1 b6.out h2);have fq:=zh h1;clear h1 h2 h3 bl me oo kw b6 HZ x21;have y21:=(dj.out.li 2 rfl).cell 21;have yf21:=(dj.out.li 2 rfl).frozen 21;simp only[za,zb,zf]at y21))
      all_goals go_meet
      exact zh ⟨ap,A1,(dj.out.put hE 2 rfl 21 (.slice A1 (n+1) ap)).drop1.drop1,fq.out.kp ((Kp.refl [q4] _).set (.inl (.head _)) 21 _) (fun y hy=>.inl (by rw[yf.1 hy];omega))⟩
     case rest=>
      obtain⟨ap,A1,hF,hK⟩:=hcut.out;have bl:=zh hF;have me:=zh hK;clear hcut hF hK da ls r8 HQL yo zi yC;have CT1:=zh (CT.out k1 (op+1) c1 pl er _ bl.out.ine HX.out.2.1)
      go_wp2_with fail
      refine CT1.out.mono ?_;rintro e w10 ⟨rfl,hb⟩;have dj:=zh (bl.out.next hb);have fq:=zh (me.out.next hb);clear hb bl me CT1;have CS1:=zh (CS.out (E.at k1) [41] w10)
      go_wp2_with fail
      refine CS1.out.mono ?_;rintro e w11 ⟨rfl,hb⟩;have cv:=zh (dj.out.next hb);have fy:=zh (fq.out.next hb);clear hb dj fq CS1;have HAr:Hid (∀ W,Fs E w (k1) (op+1) (c1) pl er [(q4,41,(cQ 4 s 0 A1 (n+1) ap).toArray),(q,41,aA.toArray)] W->KR W (q4+1) (.slice A1 (n+1) ap) (n+1) (l++[x]) c1->Arg E w k op nd pl er q q4 s wh R k1 c1 (n+1) ap A1 (l++[x]) W):=zh (fun W h1 h2=>⟨h1,h2,by have:=HB.out;simp;omega,by have:=HB.out;have:=HX.out;omega,HX.out.2.1,by have:=HB.out;have:=HX.out;omega⟩);cases ka:isS (E.at k1) [41] with
      |true=>
       have t9:Hid (R=.ok (l++[x]) (E.L.drop k1) c1):=zh (by obtain⟨f,h1,h2⟩:=HG1.out;rw[ka,if_pos rfl]at h2;exact h2.symm);have HZ:Hid (ArgZ E w k op nd pl er q q4 s wh R k1 c1 (n+1) ap A1 (l++[x]) w11):=zh { toArg:=HAr.out _ cv.out fy.out,nc:=by have:=HB.out;have:=HX.out;omega,few:=by have:=HB.out;omega,cl:=ka,go:=t9.out };clear t9 HG1 HAr cv fy ka
       go_wp2_with fail
       go_roundw
       case rel=>exact .inr ⟨rfl,zh ⟨_,_,_,_,_,_,HZ.out⟩⟩
       case measure=>
        show onM (.bool false) _<onM (.bool true) _;unfold onM;simp only;omega
      |false=>
       have HG2:Hid (∃ f,E.L.length-k2<=f+1/\(if isS (E.at k1) [44] then if 32<=l.length+1 then .bad 10 (E.at k1).place else bN wh f (l++[x]) (E.L.drop (k1+1)) c1 else .bad 6 (E.at k1).place)=R):=zh (by obtain⟨f,h1,h2⟩:=HG1.out;rw[ka]at h2;exact⟨f,h1,h2⟩);clear HG1;cases js:isS (E.at k1) [44] with
       |true=>
        by_cases hfull:32<=n+1
        ·skip
         have x21:=(cv.out.li 0 rfl).cell 21;simp only[za,zb,zf]at x21;have db:Hid (T=.bad 10 (E.at k1).place):=zh (by obtain⟨f,h1,h2⟩:=HG2.out;rw[js]at h2;rw[<- gy.out,<- h2];have h3:=HB.out;simp only[if_true];rw[if_pos (by omega)];rfl);have CC1:=zh (CCf.out k1 c1 pl er (n+1) _ cv.out.ine HX.out.2.1 js hfull)
         go_wp2_with fail
         refine CC1.out.mono ?_;rintro e w12 ⟨rfl,h1,h2⟩;have eh:=zh (cv.out.step h1 h2.X);clear h1 h2 cv fy CC1 HAr x21;have HT:=zh (eh.out.there 1 rfl 22 rfl);have ag:=zh (eh.out.fill hE 1 rfl aA rfl)
         go_wp2_with (first |(refine yq rfl 41 (.tmp 2) (.tmp 62) rfl q 0 aA.toArray rfl rfl HT.out aE bB ?_;change wpList _ _ _ _ _ (World.setCells _ q 0 aA);generalize World.setCells _ _ _ _=wz at ag ⊢))
         have HA:=zh (ag.out.li 1 rfl);refine yt (aO rfl rfl HA.out rfl) rfl ?_;rw[db.out];exact cR ag.out rfl bB (by have:=HX.out;have:=HB.out;omega) HX.out.2.1 (by have:=HX.out;have:=HB.out;omega)
        skip
        have x21:=(cv.out.li 0 rfl).cell 21;simp only[za,zb,zf]at x21;have ur:=E.more he HX.out.2.1 (eI js);have t9:Hid (∃ f,E.L.length-k2<=f+1/\bN wh f (l++[x]) (E.L.drop (k1+1)) c1=R):=zh (by obtain⟨f,h1,h2⟩:=HG2.out;rw[js,if_pos rfl,if_neg (by have h3:=HB.out;omega)]at h2;exact⟨f,h1,h2⟩);have CC1:=zh (CCy.out k1 c1 pl er (n+1) _ cv.out.ine HX.out.2.1 js (by omega))
        go_wp2_with fail
        refine CC1.out.mono ?_;rintro e w12 ⟨rfl,h1,h2⟩;have eh:=zh (cv.out.step h1 h2.X);have fz:=zh (fy.out.kp h2 (fun y hy=>.inl (by obtain⟨k0,op0,nd0,pl0,er0,cn⟩:=cv.out.base;have:=cn.rd.lt;rw[yf.1 hy];have:=n9.out;omega)));clear h1 h2 cv fy CC1 x21 HG2;have HZ:Hid (ArgA E w k op nd pl er q q4 s wh R (k1+1) c1 (n+1) ap A1 (l++[x]) w12):=zh { st:=eh.out,kr:=fz.out,len:=by have:=HB.out;simp;omega,le:=by have:=HB.out;have:=HX.out;omega,lt:=ur,nn:=by have:=HB.out;have:=HX.out;omega,nc:=by have:=HB.out;have:=HX.out;omega,few:=by omega,go:=by obtain⟨f,h1,h2⟩:=t9.out;exact⟨f,by have:=HX.out;omega,h2⟩ };clear t9 HAr eh fz js
        go_wp2_with fail
        go_roundw
        case rel=>exact .inl ⟨rfl,zh ⟨_,_,_,_,_,_,HZ.out⟩⟩
        case measure=>
         show onM (.bool true) _<onM (.bool true) _;unfold onM;simp only;rw[HRD.out,HZ.out.st.ine.rdAt];have:=HX.out;omega
       |false=>
        have x21:=(cv.out.li 0 rfl).cell 21;simp only[za,zb,zf]at x21;have db:Hid (T=.bad 6 (E.at k1).place):=zh (by obtain⟨f,h1,h2⟩:=HG2.out;rw[js]at h2;rw[<- gy.out,<- h2];rfl);have CC1:=zh (CCn.out k1 c1 pl er (n+1) _ cv.out.ine HX.out.2.1 js)
        go_wp2_with fail
        refine CC1.out.mono ?_;rintro e w12 ⟨rfl,h1,h2⟩;have eh:=zh (cv.out.step h1 h2.X);clear h1 h2 cv fy CC1 HAr x21;have HT:=zh (eh.out.there 1 rfl 22 rfl);have ag:=zh (eh.out.fill hE 1 rfl aA rfl)
        go_wp2_with (first |(refine yq rfl 41 (.tmp 2) (.tmp 62) rfl q 0 aA.toArray rfl rfl HT.out aE bB ?_;change wpList _ _ _ _ _ (World.setCells _ q 0 aA);generalize World.setCells _ _ _ _=wz at ag ⊢))
        have HA:=zh (ag.out.li 1 rfl);refine yt (aO rfl rfl HA.out rfl) rfl ?_;rw[db.out];exact cR ag.out rfl bB (by have:=HX.out;have:=HB.out;omega) HX.out.2.1 (by have:=HX.out;have:=HB.out;omega)
   obtain⟨k2,c,n,cap,A,l,hS⟩:=hrel.out;have dj:=zh hS.st;have fq:=zh hS.kr;have HB:Hid (k<=k2/\k2<E.L.length/\c+k<=nd+k2/\nd<=c):=zh ⟨hS.le,hS.lt,hS.nc,hS.nn⟩;have HCL:=zh hS.cl;have ur:=E.more he hS.lt (eI hS.cl);have db:Hid (T=.ok (eF s l) (E.L.drop (k2+1)) (c+1)):=zh (by rw[<- gy.out,hS.go];show Out.ok _ (E.L.drop k2).tail _=_;rw[List.tail_drop]);clear hS hrel CA1;have CN1:=zh (CN.out k2 c pl er (cQ 4 s 0 A n cap) rfl (gF _ _ _ _ _ _) _ dj.out.ine (by have:=HB.out;have:=HF.out;omega));obtain⟨D,hC,ai,ec,ii⟩:=fD (c+1) (cQ 4 s 0 A n cap) rfl (gF _ _ _ _ _ _);rw[hC]at CN1;have yC:=zh ai;have dx:=zh ec;have mw:=zh ii;have fm:=zh (dj.out.range 0 (l:=cQ 4 s 0 A n cap) rfl);clear hC ai ec ii
   go_wp2_with (first |(refine yr rfl 41 (.tmp 4) rfl q4 0 rfl (cQ 4 s 0 A n cap) _ fm.out Tryz.underlying41 rfl aE ?_))
   refine CN1.out.mono ?_;rintro e wn ⟨rfl,av,ep⟩;have jv:=zh (dj.out.step av ep.X);have HER:Hid (∀ y∈[E.r],y<q4+1):=zh (fun y hy=>by obtain⟨k0,op0,nd0,pl0,er0,cn⟩:=dj.out.base;have:=cn.rd.lt;rw[yf.1 hy];have:=n9.out;omega);have HKn:=zh (fq.out.kp ep (fun y hy=>.inl (HER.out y hy)));clear av ep CN1 fm dj fq;have CL1:=zh (CLv.out k2 (c+1) pl er _ jv.out.ine HB.out.2.1 HCL.out)
   go_wp2_with fail
   refine CL1.out.mono ?_;rintro e wl ⟨rfl,av,ep⟩;have HSl:=zh (jv.out.step av ep.X);have HKl:=zh (HKn.out.kp ep (fun y hy=>.inl (HER.out y hy)));clear av ep CL1 jv HKn;have HT:=zh (HSl.out.there 1 rfl D.toArray.size (by rw[yd,yC.out];rfl));have ag:=zh (HSl.out.fill hE 1 rfl D (by rw[yC.out];rfl));have HKz:=zh ((HKl.out.kp (aQ (Y:=[q]) (.inl (.head _)) D 0 (Kp.refl _ _)) (fun y hy=>.inl (by rw[yf.1 hy];have:=n9.out;omega))).more (Nat.le_succ c));have zi:(Tryz.prog.info? 41).map (·.size)=some D.toArray.size:=by rw[yd,yC.out];exact aE
   clear HSl HKl
   go_wp2_with (first |(refine yq rfl 41 (.tmp 2) (.tmp 65) rfl q 0 D.toArray rfl rfl HT.out zi dx.out ?_;change wpList _ _ _ _ _ (World.setCells _ q 0 D);generalize World.setCells _ _ _ _=wz at ag HKz ⊢))
   have HA:=zh (ag.out.li 1 rfl);refine yt (aO rfl rfl HA.out (by rw[yd,yC.out])) rfl ?_;rw[db.out];refine xF ag.out yC.out dx.out (fun hn=>?_) (by have:=HB.out;omega) ur (by have:=HB.out;omega) (by have:=HB.out;omega) rfl;obtain⟨h4,h5⟩:=HKz.out.kids hn (X:=List.range w.heap.size) (fun y hy=>by have:=yg.1 hy;have:=n9.out;omega);exact⟨A,cap,by rw[mw.out hn,h4];rfl,h5⟩
end Go.Proofs.YtmgjidnalpgegaaGreatDoor
