/-
  Lemmas, part 15: ParU ParV.
-/
import Derived.Test.YtmgjidnalpgegaaGreatDoorPr14
set_option maxHeartbeats 100000000
namespace Go.Proofs.YtmgjidnalpgegaaGreatDoor
open Go.RowKit
theorem isS_ne{t:Tok}{s s':Bs}(h:isS t s=true)(bp:s≠s'):isS t s'=false:=by
 unfold isS at h ⊢;simp at h;simp[h.2,bp]
set_option maxRecDepth 100000 in
theorem uDP(E:Env)(hE:E.ok)(he:E.ends)(hL:E.L.length<=1000000)(hT:E.short)(op k nd pl er:Nat)(w:World)(hI:InE E k op nd pl er w)(hk:k<E.L.length)(hn:nd<=k)(hs:isS (E.at k) [123]=true) :
  Calls Tryz.prog 123 #[.pointer (some ⟨E.r,0,none⟩)] w (NPost E w k op nd pl er (jW (E.L.drop k) nd)):=by
 have CTK:=zh (fun W h=>kR E hE k op nd pl er [123] W h hk hL hs);have CE:=zh (fun k nd pl er W h hk hn=>yW E hE he hL hT op k nd pl er W h hk hn);have CT:=zh (fun k nd pl er W h hk=>bX E k op nd pl er W h hk);have CS:=zh (fun t s W=>cO t s W);have CW:=zh (fun k nd pl er W h hk=>eN E hE k op nd pl er 6 W h hk);have CN:=zh (fun k nd pl er cs fz h1 W h hn=>gI E hE k op nd pl er cs fz h1 W h hn);have bo:=zh ((Fs.start hI).alloc 41 aA.toArray (by decide));have dq:=E.more he hk (dW hs);generalize hO:jW (E.L.drop k) nd=T;have HO:Hid (eP (E.L.length-k) 0 0 1 [] (E.L.drop (k+1)) nd=T):=zh (by rw[<- hO];unfold jW;rw[yk,List.tail_drop]);have HF:Hid (k<E.L.length/\nd<=k):=zh ⟨hk,hn⟩;clear hI hO hn hs;simp only[aA]at bo
 go_enter Tryz.func123,Tryz.ntmps123
 go_upto_region 1 with fail
 generalize World.alloc _ _=W1 at bo ⊢;generalize hq:w.heap.size=q at bo ⊢;have HQ:=zh hq;have ed:=zh (bo.out.alloc 41 aA.toArray (by decide));have HT:=zh (ed.out.there 0 rfl 22 rfl);have bw:=zh (ed.out.fill hE 0 rfl (cD 8 [] 0 none 0 0) rfl);have fq:=fI 8 [] 0 none 0 0;have od:Hid (w.heap.size<=W1.heap.size):=zh (ed.out.ge 0 rfl);clear bo ed hq;simp only[List.set_cons_zero]at bw;generalize la:W1.heap.size=q4 at bw HT od ⊢
 go_upto_region 2 with(first |(refine yq rfl 41 (.tmp 4) (.tmp 10) rfl q4 0 (cD 8 [] 0 none 0 0).toArray rfl rfl HT.out aF fq ?_;change wpList _ _ _ _ _ (World.setCells _ q4 0 (cD 8 [] 0 none 0 0));generalize World.setCells _ _ _ _=W2 at bw ⊢))
 clear HT fq la
 go_wp2_with fail
 refine(CTK.out _ bw.out.ine).mono ?_;rintro e w4 ⟨rfl,h1,h2⟩;have HM:Hid (∃ k' c rows n cap A l,Mat E w k op nd pl er q q4 T k' c rows 0 1 n cap A l w4):=zh ⟨k+1,nd,0,0,0,none,[],bw.out.step h1 h2.X,KR.nil _ _ _,zr,dq,by omega,zr,by omega,by omega,by omega,by omega,_,by omega,HO.out⟩;clear h1 h2 bw CTK HO hk dq
 go_wp2_with fail
 go_loopw [5,6] (fun v5 v6 wr=>∃ cols wide:Nat,v5=.int .i64 (cols:Int)/\v6=.int .i64 (wide:Int)/\Hid (∃ k' c rows n cap A l,Mat E w k op nd pl er q q4 T k' c rows cols wide n cap A l wr)) (fun _ _ wr=>E.L.length-rdAt wr E.r)
 case atStart=>exact⟨0,1,rfl,rfl,HM⟩
 case round=>
  obtain⟨cols,wide,rfl,rfl,hrel⟩:=hrel;obtain⟨k2,c,rows,n,cap,A,l,hS⟩:=hrel.out;have az:=zh hS.st;have jq:=zh hS.kr;have HB:Hid (k+1<=k2/\k2<E.L.length/\c+k+1<=nd+k2/\nd<=c/\n<=c/\rows<=k2/\cols<=k2/\wide<=k2+1):=zh ⟨hS.le,hS.lt,hS.nc,hS.nn,hS.ln,hS.lr,hS.lc,hS.lw⟩;have HG:=zh hS.out;have HRD:=zh hS.st.ine.rdAt;have CE1:=zh (CE.out k2 c pl er _ az.out.ine HB.out.2.1 (by have:=HB.out;have:=HF.out;omega));clear hS hrel HM CE
  go_wp2_with fail
  refine CE1.out.mono ?_;clear CE1;cases hp:eJ (E.L.drop k2) c with
  |bad e1 p1=>
   have dc:Hid (T=.bad e1 p1):=zh (by obtain⟨f,_,hf⟩:=HG.out;rw[hp]at hf;exact hf.symm);rintro e w6 ⟨cs,k1,op1,nd1,rfl,g1,g2,g3,g4,g5,g6,g7⟩;obtain⟨C,rfl⟩:∃ C:List Value,cs=C.toArray:=⟨cs.toList,by simp⟩
   have yC:Hid (C.length=22):=zh (by rwa [yd]at g1);have yo:=zh g2;have HX:=zh (⟨g3,g4,g5⟩:k2<=k1/\k1<E.L.length/\nd1+k2<=c+k1);have al:=zh (az.out.step g6 g7);clear g1 g2 g3 g4 g5 g6 g7 az jq HG hp;have c9:=zh (al.out.alloc 41 aA.toArray (by decide));clear al;have HT:=zh (c9.out.there 0 rfl C.toArray.size (by rw[yd,yC.out];rfl));have db:=zh (c9.out.fill hE 0 rfl C (by rw[yC.out];rfl));have zi:=fo yC.out;clear c9;simp only[aA,List.set_cons_zero]at db HT
   go_upto_region 8 with(first |(refine yq rfl 41 (.tmp 7) (.tmp 20) rfl w6.heap.size 0 C.toArray rfl rfl HT.out zi yo.out ?_;change wpList _ _ _ _ _ (World.setCells _ w6.heap.size 0 C);generalize World.setCells _ _ _ _=W8 at db ⊢;generalize w6.heap.size=q7 at db ⊢))
   clear HT zi;have HT:=zh (db.out.there 2 rfl 22 rfl);have ag:=zh (db.out.fill hE 2 rfl aA rfl)
   go_wp2_with (first |(refine yq rfl 41 (.tmp 2) (.tmp 24) rfl q 0 aA.toArray rfl rfl HT.out aF aW ?_;change wpList _ _ _ _ _ (World.setCells _ q 0 aA);generalize World.setCells _ _ _ _=wz at ag ⊢))
   have HA:=zh (ag.out.li 2 rfl);refine yt (aM rfl rfl HA.out rfl) rfl ?_;rw[dc.out];exact cE ag.out rfl aW (by have:=HX.out;have:=HB.out;omega) HX.out.2.1 (by have:=HX.out;have:=HB.out;omega)
  |ok x av c1=>
   rintro e w6 ⟨k1,cs,rfl,g1,g2,rfl,g4,g5,g6,g7,g8⟩;have fg:=uAK hp;subst fg;obtain⟨C,rfl⟩:∃ C:List Value,cs=C.toArray:=⟨cs.toList,by simp⟩
   have yC:Hid (C.length=22):=zh (by have:=g8.1;rwa [yd]at this);have yo:=zh g8.2.1;have HX:=zh (⟨g1,g2,g4⟩:k2<=k1/\k1<E.L.length/\c+1+k2<=c+k1);have al:=zh (az.out.step g6 g7);have HQL:Hid (∀ y,(Value.slice A n cap).ownBlock=some y->q4+1<=y/\y<wr.heap.size):=zh (fun y hy=>fL jq.out hy);have HXB:Hid (∀ y∈E.X,y<q4+1):=zh (fun y hy=>by obtain⟨k0,op0,nd0,pl0,er0,ct⟩:=az.out.base;have:=ct.xlt y hy;have:=od.out;omega);have iv:=zh (jq.out.kp g7 (fun y hy=>.inl (HXB.out y hy)));have HV6:Hid (NV w6 (KX (q4+1) (.slice A n cap)) (c+1) x C.toArray):=zh (g8.anti (fun y hy _=>by have h4:=az.out.lt 0 rfl;exact(KX.mem.1 hy).elim (fun h=>yg.2 (HQL.out y h).2) (fun h=>yg.2 (by omega))))
   have HG1:Hid (∃ f,E.L.length-k2<=f+1/\(if isS (E.at k1) [44]&&(decide (rows=0)||decide (wide<cols)) then eP f rows cols (wide+1) (l++[x]) (E.L.drop (k1+1)) (c+1) else if isS (E.at k1) [59]&&(decide (rows=0)||decide (wide=cols)) then eP f (rows+1) wide 1 (l++[x]) (E.L.drop (k1+1)) (c+1) else if isS (E.at k1) [125]&&(decide (rows=0)||decide (wide=cols)) then .ok (uIZ (rows+1:Nat) (l++[x])) (E.L.drop (k1+1)) (c+1+1) else fE 6 (E.L.drop k1))=T):=zh (by obtain⟨f,h1,h2⟩:=HG.out;rw[hp]at h2;rw[<- List.tail_drop] ;exact⟨f,h1,h2⟩);clear g1 g2 g4 g5 g6 g7 g8 az jq HG hp HXB;have c9:=zh (al.out.alloc 41 aA.toArray (by decide));have r9:Hid (∀ y,(Value.slice A n cap).ownBlock=some y->y≠w6.heap.size):=zh (fun y hy e=>by have:=(fL iv.out hy).2;omega)
   have HKP:∀ W,Kp [w6.heap.size] w6 W->Hid (KR W (q4+1) (.slice A n cap) n l c/\NV W (KX (q4+1) (.slice A n cap)) (c+1) x C.toArray):=fun W hk=>zh ⟨iv.out.kp hk (fun y hy=>.inr (by rw[yf.1 hy];exact zr)),HV6.out.kp (hk.mono (fun y hy hl=>by rw[yf.1 hy]at hl;omega))⟩
   have lz:=HKP _ (aT (.inl (.head _)) C 0 ((Kp.refl _ _).alloc (.cells aA.toArray 41)));clear HKP iv HV6 al;have HT:=zh (c9.out.there 0 rfl C.toArray.size (by rw[yd,yC.out];rfl));have db:=zh (c9.out.fill hE 0 rfl C (by rw[yC.out];rfl));have zi:=fo yC.out;clear c9;simp only[aA,List.set_cons_zero]at db HT lz
   go_upto_region 9 with(first |(refine yq rfl 41 (.tmp 7) (.tmp 20) rfl w6.heap.size 0 C.toArray rfl rfl HT.out zi yo.out ?_;change wpList _ _ _ _ _ (World.setCells _ w6.heap.size 0 C);generalize World.setCells _ _ _ _=W8 at db lz ⊢;generalize w6.heap.size=q7 at db r9 ⊢))
   clear HT;have r3:=db.out.ine.rd.cell 3;have rf3:=db.out.ine.rd.frozen 3;simp only[za,zb,zf]at r3;obtain⟨bb,kb⟩:∃ bb:Bool,decide (((c+1:Nat):Int)<=256)=bb:=⟨_,rfl⟩
   go_upto_if 29 with fail
   clear r3 rf3
   go_cut [] (fun wx=>Hid (∃ n1 cap1 A1,n1<=c+1/\Fs E w (k1) op (c+1) pl er [(q4,41,(cD 8 [] (rows) A1 n1 cap1).toArray),(q,41,aA.toArray)] wx/\KR wx (q4+1) (.slice A1 n1 cap1) n1 (l++[x]) (c+1)))
   case first=>
    cases bb
    ·have qg:Hid (256<c+1):=zh (by have:=of_decide_eq_false kb;omega);have hlt:¬ ((c+1:Nat):Int)<=256:=by have:=qg.out;omega
     clear kb
     go_wp2_with fail
     all_goals go_meet
     exact zh ⟨n,cap,A,by have:=HB.out;omega,db.out.drop1,lz.out.1.skip qg.out⟩
    have qg:Hid (c+1<=256):=zh (by have:=of_decide_eq_true kb;omega);have ee:=zh (db.out.range 0 (l:=C) rfl);have x21:=(db.out.li 1 rfl).cell 21;simp only[za,zb,zf]at x21;have zi:(Tryz.prog.info? 41).map (·.size)=some C.length:=by rw[yC.out];exact aF
    have bl:=zh (db.out.alloc 41 C.toArray (by decide));have fs:Below W8.heap.size W8 (W8.alloc (.cells C.toArray 41)):=(zp _);have mj:=zh ((lz.out.1.next fs).more (Nat.le_succ c));have om:=zh (lz.out.2.kp (Kp.of_below fs));have wg:Hid (∀ y,(Value.slice A n cap).ownBlock=some y->y≠W8.heap.size):=zh (fun y hy e=>by have:=(fL lz.out.1 hy).2;omega);have b6:∀ b∈([(W8.heap.size,41,C.toArray),(q7,41,C.toArray),(q4,41,(cD 8 [] (rows) A n cap).toArray),(q,41,aA.toArray)]:List (Nat×TypeId×Array Value)),(Value.slice A n cap).ownBlock≠some b.1:=fun b hb e=>by
     simp only[ym,List.not_mem_nil,or_false]at hb;rcases hb with rfl|rfl|rfl|rfl
     ·exact wg.out _ e rfl
     ·exact r9.out _ e rfl
     ·have:=(HQL.out _ e).1;omega
     have:=(HQL.out _ e).1;have:=od.out;have:=HQ.out;omega
    replace b6:=zh b6;have uq:=zh (bl.out.li 0 rfl);have HZ:Hid (w.heap.size<=q4+1/\n<=100000/\q4+1<=(W8.alloc (.cells C.toArray 41)).heap.size):=zh ⟨by have:=od.out;omega,by have:=HB.out;have:=qg.out;omega,by have:=bl.out.lt 2 rfl;omega⟩;clear db fs wg lz kb;have hle:((c+1:Nat):Int)<=256:=by have:=qg.out;omega
    go_wp2_with (first |(refine yr rfl 41 (.tmp 7) rfl q7 0 rfl C _ ee.out Tryz.underlying41 rfl zi ?_) |(refine lM rfl (.tmp 32) rfl C rfl yC.out W8.heap.size rfl (some 33) rfl ?_;generalize W8.alloc (.cells C.toArray 41)=W9 at bl mj om uq HZ ⊢;generalize W8.heap.size=q8 at bl b6 uq ⊢) |(refine jP rfl (.tmp 31) (.tmp 33) rfl (q4+1) n (.slice A n cap) l (c+1) rfl mj.out HZ.out.2.1 HZ.out.2.2 q8 1 C rfl yC.out uq.out yo.out x om.out ?_;intro v2 w9 h1 h2 h3;obtain⟨A1,cap1,rfl⟩:=h1.form;have dm:=zh (bl.out.grow hE mj.out HZ.out.1 b6.out h2);have fj:=zh h1;clear h1 h2 h3 bl mj om uq b6 HZ x21;have y21:=(dm.out.li 2 rfl).cell 21;have yf21:=(dm.out.li 2 rfl).frozen 21;simp only[za,zb,zf]at y21))
    all_goals go_meet
    exact zh ⟨n+1,cap1,A1,by have:=HB.out;omega,(dm.out.put hE 2 rfl 21 (.slice A1 (n+1) cap1)).drop1.drop1,fj.out.kp ((Kp.refl [q4] _).set (.inl (.head _)) 21 _) (fun y hy=>.inl (by rw[yf.1 hy];omega))⟩
   case rest=>
    obtain⟨n1,cap1,A1,au,hF,hK⟩:=hcut.out;have bl:=zh hF;have mj:=zh hK;have mi:=zh au;clear hcut hF hK au db lz r9 HQL kb yo zi yC;have CT1:=zh (CT.out k1 (c+1) pl er _ bl.out.ine HX.out.2.1);have qd:Hid ((E.at k1).kind≠0->k1+1<E.L.length):=zh (fun h=>E.more he HX.out.2.1 h);have sc:Hid (∀ W,InE E k1 op (c+1) pl er W->Calls Tryz.prog 26 #[.pointer (some ⟨E.r,0,none⟩),.int .i64 6] W (Step E W k1 op (c+1) (E.at k1).place 6 (.bool false))):=zh (fun W h=>CW.out k1 (c+1) pl er W h HX.out.2.1)
    have zn:Hid (∃ f,E.L.length-k2<=f+1/\(if isS (E.at k1) [44]&&(decide (rows=0)||decide (wide<cols)) then eP f rows cols (wide+1) (l++[x]) (E.L.drop (k1+1)) (c+1) else if isS (E.at k1) [59]&&(decide (rows=0)||decide (wide=cols)) then eP f (rows+1) wide 1 (l++[x]) (E.L.drop (k1+1)) (c+1) else if isS (E.at k1) [125]&&(decide (rows=0)||decide (wide=cols)) then .ok (uIZ (rows+1:Nat) (l++[x])) (E.L.drop (k1+1)) (c+1+1) else .bad 6 (E.at k1).place)=T):=HG1;clear HG1 CW CT;obtain⟨tt,ec⟩:∃ tt,E.at k1=tt:=⟨_,rfl⟩
    rw[ec]at CT1 qd sc zn;clear ec;obtain⟨tk,tx,tp⟩:=tt;dsimp only[tkV]at CT1
    go_wp2_with fail
    refine CT1.out.mono ?_;rintro e w10 ⟨rfl,hb⟩;have dm:=zh ((bl.out.next hb).alloc 70 #[.int .i64 tk,.string ⟨tx.toArray⟩,.int .i64 (tp:Int)] (by decide));have fj:=zh ((mj.out.next hb).next (W':=w10.alloc (.cells #[.int .i64 tk,.string ⟨tx.toArray⟩,.int .i64 (tp:Int)] 70)) (zp _));clear hb CT1 bl mj
    go_upto_region 13 with fail
    generalize World.alloc _ _=W11 at dm fj ⊢;generalize w10.heap.size=q9 at dm ⊢;obtain⟨b1,af⟩:∃ b1,(isS ⟨tk,tx,tp⟩ [44]&&(decide (rows=0)||decide (wide<cols)))=b1:=⟨_,rfl⟩
    have dy:=zh af;clear af
    go_cut [41] (fun v wx=>v=.bool b1/\Hid (Fs E w (k1) op (c+1) pl er [(q9,70,#[.int .i64 tk,.string ⟨tx.toArray⟩,.int .i64 (tp:Int)]),(q4,41,(cD 8 [] (rows) A1 n1 cap1).toArray),(q,41,aA.toArray)] wx/\KR wx (q4+1) (.slice A1 n1 cap1) n1 (l++[x]) (c+1)))
    case first=>
     have x0:=(dm.out.li 0 rfl).cell 0;have x1:=(dm.out.li 0 rfl).cell 1;have x2:=(dm.out.li 0 rfl).cell 2;simp only[za,zb,zf]at x0 x1 x2;have CS1:=zh (CS.out ⟨tk,tx,tp⟩ [44] W11)
     go_wp2_with fail
     refine CS1.out.mono ?_;rintro e w12 ⟨rfl,hb⟩;have qh:=zh (dm.out.next hb);have s8:=zh (fj.out.next hb);clear hb CS1 dm fj;have y20:=(qh.out.li 1 rfl).cell 20;simp only[za,zb,zf]at y20;cases jr:isS ⟨tk,tx,tp⟩ [44] with
     |false=>
      have e1:b1=false:=by rw[<- dy.out,jr];rfl
      subst e1
      go_wp2_with fail
      all_goals go_meet
      exact⟨rfl,zh ⟨qh.out,s8.out⟩⟩
     |true=>
      by_cases h0:rows=0
      ·have e1:b1=true:=by rw[<- dy.out,jr,h0];rfl
       subst e1;have n0:((rows:Int)==0)=true:=by simp[h0]
       go_wp2_with fail
       all_goals go_meet
       exact⟨rfl,zh ⟨qh.out,s8.out⟩⟩
      have n0:((rows:Int)==0)=false:=by simp;omega
      have e1:b1=decide (wide<cols):=by rw[<- dy.out,jr];simp[h0]
      by_cases hw:wide<cols
      ·have hwi:(wide:Int)<(cols:Int):=by omega
       have e2:b1=true:=by rw[e1];simp[hw]
       subst e2;clear e1 hw
       go_wp2_with fail
       all_goals go_meet
       exact⟨rfl,zh ⟨qh.out,s8.out⟩⟩
      have hwi:¬ (wide:Int)<(cols:Int):=by omega
      have e2:b1=false:=by rw[e1];simp[hw]
      subst e2;clear e1 hw
      go_wp2_with fail
      all_goals go_meet
      exact⟨by first|rfl |(simp;omega),zh ⟨qh.out,s8.out⟩⟩
    case rest=>
     obtain⟨rfl,hcut⟩:=hcut;have cx:=zh hcut.out.1;have fp:=zh hcut.out.2;clear hcut dm fj;have hwb:(wide:Int)<=1000001:=by have:=HB.out;omega
     have hrb:(rows:Int)<=1000000:=by have:=HB.out;omega
     cases b1
     ·have cq:Hid (∃ f,E.L.length-k2<=f+1/\(if isS ⟨tk,tx,tp⟩ [59]&&(decide (rows=0)||decide (wide=cols)) then eP f (rows+1) wide 1 (l++[x]) (E.L.drop (k1+1)) (c+1) else if isS ⟨tk,tx,tp⟩ [125]&&(decide (rows=0)||decide (wide=cols)) then .ok (uIZ (rows+1:Nat) (l++[x])) (E.L.drop (k1+1)) (c+1+1) else .bad 6 tp)=T):=zh (by obtain⟨f,h1,h2⟩:=zn.out;rw[dy.out,if_neg (by decide)]at h2;exact⟨f,h1,h2⟩);clear dy zn;obtain⟨b2,ay⟩:∃ b2,((isS ⟨tk,tx,tp⟩ [59]||isS ⟨tk,tx,tp⟩ [125])&&(decide (rows=0)||decide (wide=cols)))=b2:=⟨_,rfl⟩
      have aq:=zh ay;clear ay
      go_upto_region 14 with fail
      go_cut [54] (fun v wx=>v=.bool b2/\Hid (Fs E w (k1) op (c+1) pl er [(q9,70,#[.int .i64 tk,.string ⟨tx.toArray⟩,.int .i64 (tp:Int)]),(q4,41,(cD 8 [] (rows) A1 n1 cap1).toArray),(q,41,aA.toArray)] wx/\KR wx (q4+1) (.slice A1 n1 cap1) n1 (l++[x]) (c+1)))
      case first=>
       have x0:=(cx.out.li 0 rfl).cell 0;have x1:=(cx.out.li 0 rfl).cell 1;have x2:=(cx.out.li 0 rfl).cell 2;simp only[za,zb,zf]at x0 x1 x2;have CS1:=zh (CS.out ⟨tk,tx,tp⟩ [59] wc)
       go_wp2_with fail
       refine CS1.out.mono ?_;rintro e w12 ⟨rfl,hb⟩;have j3:=zh (cx.out.next hb);have qi:=zh (fp.out.next hb);clear hb CS1 cx fp;cases kb:isS ⟨tk,tx,tp⟩ [59] with
       |true=>
        have y20:=(j3.out.li 1 rfl).cell 20;simp only[za,zb,zf]at y20;by_cases h0:rows=0
        ·have e1:b2=true:=by rw[<- aq.out];simp[kb,h0]
         subst e1;have n0:((rows:Int)==0)=true:=by simp[h0]
         go_wp2_with fail
         all_goals go_meet
         exact⟨rfl,zh ⟨j3.out,qi.out⟩⟩
        have n0:((rows:Int)==0)=false:=by simp;omega
        by_cases hw:wide=cols
        ·have hwi:((wide:Int)==(cols:Int))=true:=by simp[hw]
         have e2:b2=true:=by rw[<- aq.out];simp[kb,hw]
         subst e2;clear hw
         go_wp2_with fail
         all_goals go_meet
         exact⟨rfl,zh ⟨j3.out,qi.out⟩⟩
        have hwi:((wide:Int)==(cols:Int))=false:=by simp;omega
        have e2:b2=false:=by rw[<- aq.out];simp[hw,h0]
        subst e2;clear hw
        go_wp2_with fail
        all_goals go_meet
        exact⟨rfl,zh ⟨j3.out,qi.out⟩⟩
       |false=>
        have x0:=(j3.out.li 0 rfl).cell 0;have x1:=(j3.out.li 0 rfl).cell 1;have x2:=(j3.out.li 0 rfl).cell 2;simp only[za,zb,zf]at x0 x1 x2;have mw:=kb;clear kb;have CS1:=zh (CS.out ⟨tk,tx,tp⟩ [125] w12)
        go_wp2_with fail
        refine CS1.out.mono ?_;rintro e w14 ⟨rfl,hb⟩;have l6:=zh (j3.out.next hb);have oe:=zh (qi.out.next hb);clear hb CS1 j3 qi;clear x0 x1 x2;cases kb:isS ⟨tk,tx,tp⟩ [125] with
        |true=>
         have y20:=(l6.out.li 1 rfl).cell 20;simp only[za,zb,zf]at y20;by_cases h0:rows=0
         ·have e1:b2=true:=by rw[<- aq.out];simp[kb,h0]
          subst e1;have n0:((rows:Int)==0)=true:=by simp[h0]
          go_wp2_with fail
          all_goals go_meet
          exact⟨rfl,zh ⟨l6.out,oe.out⟩⟩
         have n0:((rows:Int)==0)=false:=by simp;omega
         by_cases hw:wide=cols
         ·have hwi:((wide:Int)==(cols:Int))=true:=by simp[hw]
          have e2:b2=true:=by rw[<- aq.out];simp[kb,hw]
          subst e2;clear hw
          go_wp2_with fail
          all_goals go_meet
          exact⟨rfl,zh ⟨l6.out,oe.out⟩⟩
         have hwi:((wide:Int)==(cols:Int))=false:=by simp;omega
         have e2:b2=false:=by rw[<- aq.out];simp[hw,h0]
         subst e2;clear hw
         go_wp2_with fail
         all_goals go_meet
         exact⟨rfl,zh ⟨l6.out,oe.out⟩⟩
        |false=>
         have e1:b2=false:=by rw[<- aq.out,mw,kb];rfl
         subst e1
         go_wp2_with fail
         all_goals go_meet
         exact⟨rfl,zh ⟨l6.out,oe.out⟩⟩
      case rest=>
       obtain⟨rfl,hcut⟩:=hcut;have l7:=zh hcut.out.1;have wi:=zh hcut.out.2;clear hcut cx fp;cases b2
       ·have dc:Hid (T=.bad 6 tp):=zh (by obtain⟨f,h1,h2⟩:=cq.out;rw[<- h2];have h3:=aq.out;cases ha:isS ⟨tk,tx,tp⟩ [59] <;> cases hb:isS ⟨tk,tx,tp⟩ [125] <;> rw[ha,hb]at h3 <;> simp at h3 ⊢ <;> simp[h3]);have HOW1:=zh (sc.out _ l7.out.ine);clear cq aq qd
        go_wp2_with fail
        refine HOW1.out.mono ?_;rintro e w15 ⟨rfl,h1,h2⟩;have HS15:=zh (l7.out.step h1 h2.X);clear h1 h2 l7 HOW1 sc wi;have HT:=zh (HS15.out.there 2 rfl 22 rfl);have ag:=zh (HS15.out.fill hE 2 rfl aA rfl)
        go_wp2_with (first |(refine yq rfl 41 (.tmp 2) (.tmp 38) rfl q 0 aA.toArray rfl rfl HT.out aF aW ?_;change wpList _ _ _ _ _ (World.setCells _ q 0 aA);generalize World.setCells _ _ _ _=wz at ag ⊢))
        have HA:=zh (ag.out.li 2 rfl);refine yt (aM rfl rfl HA.out rfl) rfl ?_;rw[dc.out];exact cE ag.out rfl aW (by have:=HX.out;have:=HB.out;omega) HX.out.2.1 (by have:=HX.out;have:=HB.out;omega)
       have y20:=(l7.out.li 1 rfl).cell 20;have yf20:=(l7.out.li 1 rfl).frozen 20;simp only[za,zb,zf]at y20;have cx:Hid (Fs E w (k1) op (c+1) pl er [(q9,70,#[.int .i64 tk,.string ⟨tx.toArray⟩,.int .i64 (tp:Int)]),(q4,41,(cD 8 [] ((rows:Int)+1) A1 n1 cap1).toArray),(q,41,aA.toArray)] (wc.setCell ⟨q4,20,none⟩ (.int .i64 ((rows:Int)+1)))):=zh (l7.out.put hE 1 rfl 20 _);have fp:=zh (wi.out.kp ((Kp.refl [q4] _).set (.inl (.head _)) 20 (.int .i64 ((rows:Int)+1))) (fun y hy=>.inl (by rw[yf.1 hy];omega)));clear l7 wi
       go_upto_region 17 with fail
       generalize World.setCell _ _ _=W11b at cx fp ⊢;clear y20 yf20;have h2:isS ⟨tk,tx,tp⟩ [59]=true\/isS ⟨tk,tx,tp⟩ [125]=true:=by have:=aq.out;simp at this;exact this.1
       have hk2':=qd.out (h2.elim dW dW);clear h2;cases t6:isS ⟨tk,tx,tp⟩ [59] with
       |true=>
        have t7:=isS_ne t6 (by decide:([59]:Bs)≠[125]);have HG3:Hid (∃ f,E.L.length-k2<=f+1/\eP f (rows+1) wide 1 (l++[x]) (E.L.drop (k1+1)) (c+1)=T):=zh (by obtain⟨f,h1,h2⟩:=cq.out;have h3:=aq.out;rw[t6]at h2 h3;simp only[Bool.true_or]at h3;rw[h3,if_pos rfl]at h2;exact⟨f,h1,h2⟩);clear cq aq qd sc t6;have r1:=cx.out.ine.rd.cell 1;have rf1:=cx.out.ine.rd.frozen 1;simp only[za,zb,zf]at r1;have ll:(k1:Int)<=1000000:=by have:=HX.out;omega
        have eh:Hid (Fs E w (k1+1) op (c+1) pl er [(q9,70,#[.int .i64 tk,.string ⟨tx.toArray⟩,.int .i64 (tp:Int)]),(q4,41,(cD 8 [] ((rows:Int)+1) A1 n1 cap1).toArray),(q,41,aA.toArray)] (W11b.setCell ⟨E.r,1,none⟩ (.int .i64 ((k1:Int)+1)))):=zh (cx.out.rd hE 1 _ rfl);have jb:=zh (fp.out.kp ((Kp.refl [E.r] _).set (.inl (.head _)) 1 (.int .i64 ((k1:Int)+1))) (fun y hy=>.inl (by obtain⟨k0,op0,nd0,pl0,er0,ct⟩:=cx.out.base;have:=ct.rd.lt;rw[yf.1 hy];have:=od.out;omega)));clear cx fp
        go_upto_region 18 with fail
        generalize World.setCell _ _ _=W12 at eh jb ⊢;clear r1 rf1;have x0:=(eh.out.li 0 rfl).cell 0;have x1:=(eh.out.li 0 rfl).cell 1;have x2:=(eh.out.li 0 rfl).cell 2;simp only[za,zb,zf]at x0 x1 x2;have CS1:=zh (CS.out ⟨tk,tx,tp⟩ [125] W12);rw[t7]at CS1
        go_wp2_with fail
        refine CS1.out.mono ?_;rintro e w13 ⟨rfl,hb⟩;have jc:=zh (eh.out.next hb);have nf:=zh (jb.out.next hb);clear hb CS1 eh jb
        go_wp2_with fail
        go_roundw
        case rel=>exact⟨wide,1,rfl,rfl,zh ⟨k1+1,c+1,rows+1,n1,cap1,A1,l++[x],jc.out.drop1,nf.out,by have:=HB.out;have:=HX.out;omega,hk2',by have:=HB.out;have:=HX.out;omega,by have:=HB.out;omega,mi.out,by have:=HB.out;have:=HX.out;omega,by have:=HB.out;have:=HX.out;omega,by have:=HB.out;have:=HX.out;omega,by obtain⟨f,h1,h2⟩:=HG3.out;exact⟨f,by have:=HX.out;omega,h2⟩⟩⟩
        case measure=>rw[HRD.out,jc.out.ine.rdAt];have:=HX.out;omega
       |false=>
        have t7:isS ⟨tk,tx,tp⟩ [125]=true:=by have:=aq.out;rw[t6]at this;simp at this;exact this.1
        have dc:Hid (T=.ok (uIZ (rows+1:Nat) (l++[x])) (E.L.drop (k1+1)) (c+1+1)):=zh (by obtain⟨f,h1,h2⟩:=cq.out;have h3:=aq.out;rw[t6,t7]at h2 h3;simp only[Bool.false_or,Bool.true_and,Bool.false_and]at h3 h2;rw[h3]at h2;exact h2.symm);clear cq aq qd sc t6;have r1:=cx.out.ine.rd.cell 1;have rf1:=cx.out.ine.rd.frozen 1;simp only[za,zb,zf]at r1;have ll:(k1:Int)<=1000000:=by have:=HX.out;omega
        have eh:Hid (Fs E w (k1+1) op (c+1) pl er [(q9,70,#[.int .i64 tk,.string ⟨tx.toArray⟩,.int .i64 (tp:Int)]),(q4,41,(cD 8 [] ((rows:Int)+1) A1 n1 cap1).toArray),(q,41,aA.toArray)] (W11b.setCell ⟨E.r,1,none⟩ (.int .i64 ((k1:Int)+1)))):=zh (cx.out.rd hE 1 _ rfl);have jb:=zh (fp.out.kp ((Kp.refl [E.r] _).set (.inl (.head _)) 1 (.int .i64 ((k1:Int)+1))) (fun y hy=>.inl (by obtain⟨k0,op0,nd0,pl0,er0,ct⟩:=cx.out.base;have:=ct.rd.lt;rw[yf.1 hy];have:=od.out;omega)));clear cx fp
        go_upto_region 18 with fail
        generalize World.setCell _ _ _=W12 at eh jb ⊢;clear r1 rf1;have x0:=(eh.out.li 0 rfl).cell 0;have x1:=(eh.out.li 0 rfl).cell 1;have x2:=(eh.out.li 0 rfl).cell 2;simp only[za,zb,zf]at x0 x1 x2;have CS1:=zh (CS.out ⟨tk,tx,tp⟩ [125] W12);rw[t7]at CS1
        go_wp2_with fail
        refine CS1.out.mono ?_;rintro e w13 ⟨rfl,hb⟩;have jc:=zh (eh.out.next hb);have nf:=zh (jb.out.next hb);clear hb CS1 eh jb;have CN1:=zh (CN.out (k1+1) (c+1) pl er (cD 8 [] ((rows:Int)+1) A1 n1 cap1) rfl (fI _ _ _ _ _ _) _ jc.out.ine (by have:=HB.out;have:=HF.out;have:=HX.out;omega));obtain⟨D,hC,ah,fd,gq⟩:=eO (c+1+1) (cD 8 [] ((rows:Int)+1) A1 n1 cap1) rfl (fI _ _ _ _ _ _);rw[hC]at CN1;have yC:=zh ah;have fa:=zh fd;have m8:=zh gq;have ee:=zh (jc.out.range 1 (l:=cD 8 [] ((rows:Int)+1) A1 n1 cap1) rfl);clear hC ah fd gq
        go_wp2_with (first |(refine yr rfl 41 (.tmp 4) rfl q4 0 rfl (cD 8 [] ((rows:Int)+1) A1 n1 cap1) _ ee.out Tryz.underlying41 rfl aF ?_))
        refine CN1.out.mono ?_;rintro e wn ⟨rfl,au,ew⟩;have ju:=zh (jc.out.step au ew.X);have HKn:=zh (nf.out.kp ew (fun y hy=>.inl (by obtain⟨k0,op0,nd0,pl0,er0,ct⟩:=jc.out.base;have:=ct.rd.lt;rw[yf.1 hy];have:=od.out;omega)));clear au ew CN1 ee jc nf;have HT:=zh (ju.out.there 2 rfl D.toArray.size (by rw[yd,yC.out];rfl));have ag:=zh (ju.out.fill hE 2 rfl D (by rw[yC.out];rfl));have HKz:=zh ((HKn.out.kp (aT (Y:=[q]) (.inl (.head _)) D 0 (Kp.refl _ _)) (fun y hy=>.inl (by rw[yf.1 hy];have:=od.out;have:=HQ.out;omega))).more (Nat.le_succ (c+1)));have zi:(Tryz.prog.info? 41).map (·.size)=some D.toArray.size:=by rw[yd,yC.out];exact aF
        clear ju HKn
        go_wp2_with (first |(refine yq rfl 41 (.tmp 2) (.tmp 87) rfl q 0 D.toArray rfl rfl HT.out zi fa.out ?_;change wpList _ _ _ _ _ (World.setCells _ q 0 D);generalize World.setCells _ _ _ _=wz at ag HKz ⊢))
        have HA:=zh (ag.out.li 2 rfl);refine yt (aM rfl rfl HA.out (by rw[yd,yC.out])) rfl ?_;rw[dc.out];refine vS ag.out yC.out fa.out (fun hn=>?_) (by have:=HX.out;have:=HB.out;omega) hk2' (by have:=HX.out;have:=HB.out;omega) (by have:=HB.out;omega) rfl;obtain⟨h4,h5⟩:=HKz.out.kids hn (X:=List.range w.heap.size) (fun y hy=>by have:=yg.1 hy;have:=od.out;omega);exact⟨A1,cap1,by rw[m8.out hn,h4];rfl,h5⟩
     have h44:isS ⟨tk,tx,tp⟩ [44]=true:=by have:=dy.out;simp at this;exact this.1
     have t7:=isS_ne h44 (by decide:([44]:Bs)≠[125]);have hk2':=qd.out (dW h44);have HG3:Hid (∃ f,E.L.length-k2<=f+1/\eP f rows cols (wide+1) (l++[x]) (E.L.drop (k1+1)) (c+1)=T):=zh (by obtain⟨f,h1,h2⟩:=zn.out;rw[dy.out,if_pos rfl]at h2;exact⟨f,h1,h2⟩);clear dy zn qd h44 sc;have r1:=cx.out.ine.rd.cell 1;have rf1:=cx.out.ine.rd.frozen 1;simp only[za,zb,zf]at r1;have ll:(k1:Int)<=1000000:=by have:=HX.out;omega
     have eh:Hid (Fs E w (k1+1) op (c+1) pl er [(q9,70,#[.int .i64 tk,.string ⟨tx.toArray⟩,.int .i64 (tp:Int)]),(q4,41,(cD 8 [] (rows) A1 n1 cap1).toArray),(q,41,aA.toArray)] (wc.setCell ⟨E.r,1,none⟩ (.int .i64 ((k1:Int)+1)))):=zh (cx.out.rd hE 1 _ rfl);have jb:=zh (fp.out.kp ((Kp.refl [E.r] _).set (.inl (.head _)) 1 (.int .i64 ((k1:Int)+1))) (fun y hy=>.inl (by obtain⟨k0,op0,nd0,pl0,er0,ct⟩:=cx.out.base;have:=ct.rd.lt;rw[yf.1 hy];have:=od.out;omega)));clear cx fp
     go_upto_region 18 with fail
     generalize World.setCell _ _ _=W12 at eh jb ⊢;clear r1 rf1;have x0:=(eh.out.li 0 rfl).cell 0;have x1:=(eh.out.li 0 rfl).cell 1;have x2:=(eh.out.li 0 rfl).cell 2;simp only[za,zb,zf]at x0 x1 x2;have CS1:=zh (CS.out ⟨tk,tx,tp⟩ [125] W12);rw[t7]at CS1
     go_wp2_with fail
     refine CS1.out.mono ?_;rintro e w13 ⟨rfl,hb⟩;have jc:=zh (eh.out.next hb);have nf:=zh (jb.out.next hb);clear hb CS1 eh jb
     go_wp2_with fail
     go_roundw
     case rel=>exact⟨cols,wide+1,rfl,rfl,zh ⟨k1+1,c+1,rows,n1,cap1,A1,l++[x],jc.out.drop1,nf.out,by have:=HB.out;have:=HX.out;omega,hk2',by have:=HB.out;have:=HX.out;omega,by have:=HB.out;omega,mi.out,by have:=HB.out;have:=HX.out;omega,by have:=HB.out;have:=HX.out;omega,by have:=HB.out;have:=HX.out;omega,by obtain⟨f,h1,h2⟩:=HG3.out;exact⟨f,by have:=HX.out;omega,h2⟩⟩⟩
     case measure=>rw[HRD.out,jc.out.ine.rdAt];have:=HX.out;omega
def oD:Prop:=∀ (h:NodeH) (W:World),(h.kind=4\/h.kind=7)->h.name.length<=100000->h=⟨h.kind,aD,h.name,aG,aG,0⟩->Calls Tryz.prog 27 #[dA h none 0 0] W fun e w'=>e=.returned (.int .i64 (dE (.mk h []):Nat))/\Below W.heap.size W w'
theorem uAI(s:Bs):dE (uBL s [])=if bN s then 0 else 6:=by
 have h1:cG aD aD=true:=by rfl
 unfold dE;simp[Tree.size,bB,Tree.depth,dC,Tree.right,bK,bE,NodeH.same,h1]
theorem uAJ(s:Bs):dE (uGF s)=if bM s then 0 else 6:=by
 have h1:cG aD aD=true:=by rfl
 unfold dE;simp[Tree.size,bB,Tree.depth,dC,Tree.right,bK,bE,NodeH.same,h1]
def uCD(s:Bs):oE->Out
 | .bad e p=>.bad e p
 | .ok l av c1=>.ok (uBL s l) av.tail (c1+1)
structure Arg(E:Env)(w:World)(k op nd pl er q q4:Nat)(s:Bs)(wh:List Tok->Nat->Out)(R:oE)(k' c n cap:Nat)(A:Option Addr)(l:List Tree)(W:World):Prop where
 st:Fs E w k' (op+1) c pl er [(q4,41,(cD 4 s 0 A n cap).toArray),(q,41,aA.toArray)] W
 kr:KR W (q4+1) (.slice A n cap) n l c
 len:n=l.length
 le:k<=k'
 lt:k'<E.L.length
 nn:nd<=c
structure ArgA(E:Env)(w:World)(k op nd pl er q q4:Nat)(s:Bs)(wh:List Tok->Nat->Out)(R:oE)(k' c n cap:Nat)(A:Option Addr)(l:List Tree)(W:World):Prop extends Arg E w k op nd pl er q q4 s wh R k' c n cap A l W where
 nc:c+k+1<=nd+k'
 few:n<32
 go:∃ f,E.L.length-k'<=f/\dX wh f l (E.L.drop k') c=R
structure ArgZ(E:Env)(w:World)(k op nd pl er q q4:Nat)(s:Bs)(wh:List Tok->Nat->Out)(R:oE)(k' c n cap:Nat)(A:Option Addr)(l:List Tree)(W:World):Prop extends Arg E w k op nd pl er q q4 s wh R k' c n cap A l W where
 nc:c+k<=nd+k'
 few:n<=32
 cl:isS (E.at k') [41]=true
 go:R=.ok l (E.L.drop k') c
theorem ArgA.out{E:Env}{w:World}{k op nd pl er q q4:Nat}{s:Bs}{wh:List Tok->Nat->Out}{R:oE}{k' c n cap:Nat}{A:Option Addr}{l:List Tree}{W:World}(h:ArgA E w k op nd pl er q q4 s wh R k' c n cap A l W) :
  ∃ f,E.L.length-k'<=f+1/\(match rK wh (E.L.drop k') c with
   | .bad e p=>oE.bad e p
   | .ok x av c1=>
    if isS (hd av) [41] then .ok (l++[x]) av c1
    else if isS (hd av) [44] then if 32<=l.length+1 then .bad 10 (hd av).place else dX wh f (l++[x]) av.tail c1
    else .bad 6 (hd av).place)=R:=by
 obtain⟨f,h1,h2⟩:=h.go;have:=h.lt;cases f with
 |zero=>omega
 |succ f=>exact⟨f,h1,h2⟩
set_option maxRecDepth 100000 in
theorem call_any(E:Env)(hE:E.ok)(he:E.ends)(hL:E.L.length<=1000000)(hT:E.short)(hC:oD)(whole:Nat->List Tok->Nat->Out)(op:Nat)(ho:op<=64)(hp:op<64->dP E 24 (whole (op+1)) (op+1))(k nd pl er:Nat)(w:World)(hI:InE E k op nd pl er w)(hk:k<E.L.length)(hn:nd<=k)(dq:k+1<E.L.length)(hs:isS (E.at (k+1)) [40]=true) :
  Calls Tryz.prog 129 #[.pointer (some ⟨E.r,0,none⟩)] w (NPost E w k op nd pl er (nG whole op (E.L.drop k) nd)):=by
 have fm:=E.more he dq (dW hs);have CT:=zh (fun k op nd pl er W h hk=>bX E k op nd pl er W h hk);have CS:=zh (fun t s W=>cO t s W);have CFo:=zh (fun W=>kG (E.at k).text W (by have:=hT k;unfold maxLen;omega));have CCk:=zh (hC ⟨4,aD,aO (E.at k).text,aG,aG,0⟩ · (.inl rfl) (by have:=hT k;rw[eW];omega) rfl);have CW:=zh (fun W h=>eN E hE k op nd pl er 9 W h hk);have CEy:=zh (fun W h=>vK E hE (k+1) op nd pl er W h dq hL hs);have CEd:=zh (fun W h ho=>sH E hE (k+1) op nd pl er W h dq ho (by omega));have CA:=zh (fun ho k nd pl er W h hk hn=>wV E hE (whole (op+1)) (op+1) (hp ho) k nd pl er W h hk hn hL);have CCf:=zh (fun k nd pl er n W h hk hs hn=>uCI E hE k (op+1) nd pl er n W h hk hs hn);have CCy:=zh (fun k nd pl er n W h hk hs hn=>uHE E hE k (op+1) nd pl er n W h hk hL hs hn)
 have CCn:=zh (fun k nd pl er n W h hk hs=>comma_no E hE k (op+1) nd pl er n W h hk hs);have CN:=zh (fun k nd pl er cs fz h1 W h hn=>gI E hE k (op+1) nd pl er cs fz h1 W h hn);have CLv:=zh (fun k nd pl er W h hk hs=>vT E hE k op nd pl er W h hk hL hs ho);have bo:=zh ((Fs.start hI).alloc 41 aA.toArray (by decide));have HF:Hid (k<E.L.length/\nd<=k/\k+1<E.L.length/\k+2<E.L.length/\op<=64):=zh ⟨hk,hn,dq,fm,ho⟩;generalize hO:nG whole op (E.L.drop k) nd=T;have HO:Hid ((if !bN (aO (E.at k).text) then .bad 9 (E.at k).place else if 64<=op then .bad 8 (E.at (k+1)).place else uCD (aO (E.at k).text) (if isS (E.at (k+2)) [41] then .ok [] (E.L.drop (k+2)) nd else dX (whole (op+1)) (E.L.length-k) [] (E.L.drop (k+2)) nd))=T):=zh (by
  rw[<- hO];unfold nG fE uCD;rw[List.tail_drop,List.tail_drop,yk];rfl)
 have rv:=uAI (aO (E.at k).text);clear hI hO hn hs hk dq fm hp ho hT hC;generalize hsn:aO (E.at k).text=s at *;have uv:=zh rv;clear rv hsn;have CT1:=zh (CT.out k op nd pl er · · HF.out.1);generalize ec:E.at k=tt at *;obtain⟨tk,tx,tp⟩:=tt;dsimp only[tkV]at *;have hf1:=mK;clear ec;simp only[aA]at bo
 go_enter Tryz.func129,Tryz.ntmps129
 go_upto_region 1 with fail
 generalize World.alloc _ _=W1 at bo ⊢;generalize hq:w.heap.size=q at bo ⊢;have HQ:=zh hq;clear hq
 go_wp2_with fail
 refine(CT1.out _ bo.out.ine).mono ?_;rintro e w2 ⟨rfl,hb⟩;have ed:=zh (bo.out.next hb);clear hb bo CT1
 go_wp2_with fail
 refine(CFo.out _).mono ?_;rintro e w3 ⟨rfl,hb⟩;have bw:=zh ((ed.out.next hb).alloc 41 aA.toArray (by decide));have od:Hid (q<w3.heap.size/\w.heap.size<=w3.heap.size):=zh (by have:=(ed.out.next hb).lt 0 rfl;exact⟨this,by have:=HQ.out;omega⟩);clear hb ed CFo hf1;have HT:=zh (bw.out.there 0 rfl 22 rfl);have ak:=zh (bw.out.fill hE 0 rfl (cD 4 s 0 none 0 0) rfl);have fq:=fI 4 s 0 none 0 0;clear bw;simp only[List.set_cons_zero]at ak;simp only[aA]at ak HT
 go_upto_region 2 with(first |(refine yq rfl 41 (.tmp 4) (.tmp 12) rfl w3.heap.size 0 (cD 4 s 0 none 0 0).toArray rfl rfl HT.out aF fq ?_;change wpList _ _ _ _ _ (World.setCells _ w3.heap.size 0 (cD 4 s 0 none 0 0));generalize World.setCells _ _ _ _=W4 at ak ⊢;generalize w3.heap.size=q4 at ak od ⊢))
 clear HT fq;have ee:=zh (ak.out.range 0 (l:=cD 4 s 0 none 0 0) rfl)
 go_wp2_with (first |(refine yr rfl 41 (.tmp 4) rfl q4 0 rfl (cD 4 s 0 none 0 0) _ ee.out Tryz.underlying41 rfl aF ?_))
 refine(CCk.out _).mono ?_;rintro e w5 ⟨rfl,hb⟩;have az:=zh (ak.out.next hb);clear hb ak CCk ee;rw[uv.out];cases pm:bN s with
 |false=>
  have dc:Hid (T=.bad 9 tp):=zh (by rw[<- HO.out,pm];rfl);rw[if_neg (by decide)];clear HO uv
  go_wp2_with fail
  refine(CW.out _ az.out.ine).mono ?_;rintro e w6 ⟨rfl,h1,h2⟩;have al:=zh (az.out.step h1 h2.X);clear h1 h2 az CW;have HT:=zh (al.out.there 1 rfl 22 rfl);have ag:=zh (al.out.fill hE 1 rfl aA rfl)
  go_wp2_with (first |(refine yq rfl 41 (.tmp 2) (.tmp 16) rfl q 0 aA.toArray rfl rfl HT.out aF aW ?_;change wpList _ _ _ _ _ (World.setCells _ q 0 aA);generalize World.setCells _ _ _ _=wz at ag ⊢))
  have HA:=zh (ag.out.li 1 rfl);refine yt (aM rfl rfl HA.out rfl) rfl ?_;rw[dc.out];exact cE ag.out rfl aW zr HF.out.1 (by omega)
 |true=>
  rw[if_pos rfl];clear CW uv;have gm:Hid ((if 64<=op then .bad 8 (E.at (k+1)).place else uCD s (if isS (E.at (k+2)) [41] then .ok [] (E.L.drop (k+2)) nd else dX (whole (op+1)) (E.L.length-k) [] (E.L.drop (k+2)) nd))=T):=zh (by rw[<- HO.out,pm];rfl);clear HO pm;have r1:=az.out.ine.rd.cell 1;have rf1:=az.out.ine.rd.frozen 1;simp only[za,zb,zf]at r1;have ll:(k:Int)<=1000000:=by have:=HF.out;omega
  have al:Hid (Fs E w (k+1) (op) (nd) pl er [(q4,41,(cD 4 s 0 none 0 0).toArray),(q,41,aA.toArray)] (w5.setCell ⟨E.r,1,none⟩ (.int .i64 ((k:Int)+1)))):=zh (az.out.rd hE 1 _ rfl);clear az
  go_upto_region 5 with fail
  generalize World.setCell _ _ _=W6 at al ⊢;clear r1 rf1;by_cases rp:64<=op
  ·rw[if_pos rp]at gm;have im:=zh gm.out.symm
   go_wp2_with fail
   refine(CEd.out _ al.out.ine rp).mono ?_;rintro e w7 ⟨rfl,h1,h2⟩;have c9:=zh (al.out.step h1 h2.X);clear h1 h2 al CEd rp;have HT:=zh (c9.out.there 1 rfl 22 rfl);have ag:=zh (c9.out.fill hE 1 rfl aA rfl)
   go_wp2_with (first |(refine yq rfl 41 (.tmp 2) (.tmp 29) rfl q 0 aA.toArray rfl rfl HT.out aF aW ?_;change wpList _ _ _ _ _ (World.setCells _ q 0 aA);generalize World.setCells _ _ _ _=wz at ag ⊢))
   have HA:=zh (ag.out.li 1 rfl);refine yt (aM rfl rfl HA.out rfl) rfl ?_;rw[im.out];exact cE ag.out rfl aW (by omega) HF.out.2.2.1 (by omega)
  rw[if_neg rp]at gm;have sd:op<64:=by omega
  have CA1:=zh (CA.out sd);clear rp CA CEd;generalize whole (op+1)=wh at gm CA1
  go_wp2_with fail
  refine(CEy.out _ al.out.ine sd).mono ?_;rintro e w7 ⟨rfl,h1,h2⟩;have c9:=zh (al.out.step h1 h2.X);clear h1 h2 al CEy sd;have CT1:=zh (CT.out (k+2) (op+1) nd pl er _ c9.out.ine HF.out.2.2.2.1);have qd:Hid ((E.at (k+2)).kind≠0->k+3<E.L.length):=zh (fun h=>E.more he HF.out.2.2.2.1 h);obtain⟨R,hR⟩:∃ R,(if isS (E.at (k+2)) [41] then oE.ok [] (E.L.drop (k+2)) nd else dX wh (E.L.length-k) [] (E.L.drop (k+2)) nd)=R:=⟨_,rfl⟩
  rw[hR]at gm;have HR:=zh hR;clear hR
  go_wp2_with fail
  refine CT1.out.mono ?_;rintro e w8 ⟨rfl,hb⟩;have db:=zh (c9.out.next hb);clear hb c9 CT1;have CS1:=zh (CS.out (E.at (k+2)) [41] w8)
  go_wp2_with fail
  refine CS1.out.mono ?_;rintro e w9 ⟨rfl,hb⟩;have bl:=zh (db.out.next hb);clear hb db CS1;have HM:Hid ((isS (E.at (k+2)) [41]=false/\ArgA E w k op nd pl er q q4 s wh R (k+2) nd 0 0 none [] w9)\/(isS (E.at (k+2)) [41]=true/\ArgZ E w k op nd pl er q q4 s wh R (k+2) nd 0 0 none [] w9)):=zh (by
   have hA:Arg E w k op nd pl er q q4 s wh R (k+2) nd 0 0 none [] w9:=⟨bl.out,KR.nil _ _ _,rfl,by omega,HF.out.2.2.2.1,zr⟩
   cases hb:isS (E.at (k+2)) [41] with
   |false=>exact .inl ⟨rfl,{ toArg:=hA,nc:=by omega,few:=by omega,go:=⟨E.L.length-k,by omega,by have:=HR.out;rw[hb]at this;exact this⟩ }⟩
   |true=>exact .inr ⟨rfl,{ toArg:=hA,nc:=by omega,few:=by omega,cl:=hb,go:=by have:=HR.out;rw[hb,if_pos rfl]at this;exact this.symm }⟩)
  clear bl HR qd;generalize isS (E.at (k+2)) [41]=b0 at HM ⊢
  go_wp2_with fail
  go_loopw [5] (fun v wr=>(v=.bool true/\Hid (∃ k' c n cap A l,ArgA E w k op nd pl er q q4 s wh R k' c n cap A l wr))\/(v=.bool false/\Hid (∃ k' c n cap A l,ArgZ E w k op nd pl er q q4 s wh R k' c n cap A l wr))) (fun v wr=>onM v (E.L.length-rdAt wr E.r))
  case atStart=>
   rcases HM.out with⟨rfl,h⟩|⟨rfl,h⟩
   ·exact .inl ⟨rfl,zh ⟨_,_,_,_,_,_,h⟩⟩
   exact .inr ⟨rfl,zh ⟨_,_,_,_,_,_,h⟩⟩
  case round=>
   clear HM;rcases hrel with⟨rfl,hrel⟩|⟨rfl,hrel⟩
   ·obtain⟨k2,c,n,cap,A,l,hS⟩:=hrel.out;have dm:=zh hS.st;have fj:=zh hS.kr;have HB:Hid (k<=k2/\k2<E.L.length/\c+k+1<=nd+k2/\nd<=c/\n=l.length/\n<32):=zh ⟨hS.le,hS.lt,hS.nc,hS.nn,hS.len,hS.few⟩;have HG:=zh hS.out;have HRD:=zh hS.st.ine.rdAt;have CA2:=zh (CA1.out k2 c pl er _ dm.out.ine HB.out.2.1 (by have:=HB.out;have:=HF.out;omega));clear hS hrel CA1
    go_wp2_with fail
    refine CA2.out.mono ?_;clear CA2;cases hp:rK wh (E.L.drop k2) c with
    |bad e1 p1=>
     have dc:Hid (T=.bad e1 p1):=zh (by obtain⟨f,_,hf⟩:=HG.out;rw[hp]at hf;rw[<- gm.out,<- hf];rfl);rintro e w6 ⟨cs,k1,op1,nd1,rfl,g1,g2,g3,g4,g5,g6,g7⟩;obtain⟨C,rfl⟩:∃ C:List Value,cs=C.toArray:=⟨cs.toList,by simp⟩
     have yC:Hid (C.length=22):=zh (by rwa [yd]at g1);have yo:=zh g2;have HX:=zh (⟨g3,g4,g5⟩:k2<=k1/\k1<E.L.length/\nd1+k2<=c+k1);have al:=zh (dm.out.step g6 g7);clear g1 g2 g3 g4 g5 g6 g7 dm fj HG hp;have c9:=zh (al.out.alloc 41 aA.toArray (by decide));clear al;have HT:=zh (c9.out.there 0 rfl C.toArray.size (by rw[yd,yC.out];rfl));have db:=zh (c9.out.fill hE 0 rfl C (by rw[yC.out];rfl));have zi:=fo yC.out;clear c9;simp only[aA,List.set_cons_zero]at db HT
     go_upto_region 11 with(first |(refine yq rfl 41 (.tmp 6) (.tmp 38) rfl w6.heap.size 0 C.toArray rfl rfl HT.out zi yo.out ?_;change wpList _ _ _ _ _ (World.setCells _ w6.heap.size 0 C);generalize World.setCells _ _ _ _=W8 at db ⊢;generalize w6.heap.size=q7 at db ⊢))
     clear HT zi;have HT:=zh (db.out.there 2 rfl 22 rfl);have ag:=zh (db.out.fill hE 2 rfl aA rfl)
     go_wp2_with (first |(refine yq rfl 41 (.tmp 2) (.tmp 42) rfl q 0 aA.toArray rfl rfl HT.out aF aW ?_;change wpList _ _ _ _ _ (World.setCells _ q 0 aA);generalize World.setCells _ _ _ _=wz at ag ⊢))
     have HA:=zh (ag.out.li 2 rfl);refine yt (aM rfl rfl HA.out rfl) rfl ?_;rw[dc.out];exact cE ag.out rfl aW (by have:=HX.out;have:=HB.out;omega) HX.out.2.1 (by have:=HX.out;have:=HB.out;omega)
    |ok x av c1=>
     rintro e w6 ⟨k1,cs,rfl,g1,g2,rfl,g4,g5,g6,g7,g8⟩;obtain⟨C,rfl⟩:∃ C:List Value,cs=C.toArray:=⟨cs.toList,by simp⟩
     have yC:Hid (C.length=22):=zh (by have:=g8.1;rwa [yd]at this);have yo:=zh g8.2.1;have HX:=zh (⟨g1,g2,g4,g5⟩:k2<=k1/\k1<E.L.length/\c1+k2<=c+k1+1/\c<=c1);have al:=zh (dm.out.step g6 g7);have HQL:Hid (∀ y,(Value.slice A n cap).ownBlock=some y->q4+1<=y/\y<wr.heap.size):=zh (fun y hy=>fL fj.out hy);have HXB:Hid (∀ y∈E.X,y<q4+1):=zh (fun y hy=>by obtain⟨k0,op0,nd0,pl0,er0,ct⟩:=dm.out.base;have:=ct.xlt y hy;have:=od.out;omega);have iv:=zh (fj.out.kp g7 (fun y hy=>.inl (HXB.out y hy)));have HV6:Hid (NV w6 (KX (q4+1) (.slice A n cap)) c1 x C.toArray):=zh (g8.anti (fun y hy _=>by have h4:=dm.out.lt 0 rfl;exact(KX.mem.1 hy).elim (fun h=>yg.2 (HQL.out y h).2) (fun h=>yg.2 (by omega))))
     have HG1:Hid (∃ f,E.L.length-k2<=f+1/\(if isS (E.at k1) [41] then oE.ok (l++[x]) (E.L.drop k1) c1 else if isS (E.at k1) [44] then if 32<=l.length+1 then .bad 10 (E.at k1).place else dX wh f (l++[x]) (E.L.drop (k1+1)) c1 else .bad 6 (E.at k1).place)=R):=zh (by obtain⟨f,h1,h2⟩:=HG.out;rw[hp]at h2;rw[<- List.tail_drop];exact⟨f,h1,h2⟩);clear g1 g2 g4 g5 g6 g7 g8 dm fj HG hp HXB;have c9:=zh (al.out.alloc 41 aA.toArray (by decide));have r9:Hid (∀ y,(Value.slice A n cap).ownBlock=some y->y≠w6.heap.size):=zh (fun y hy e=>by have:=(fL iv.out hy).2;omega);have HKP:∀ W,Kp [w6.heap.size] w6 W->Hid (KR W (q4+1) (.slice A n cap) n l c/\NV W (KX (q4+1) (.slice A n cap)) c1 x C.toArray):=fun W hk=>zh ⟨iv.out.kp hk (fun y hy=>.inr (by rw[yf.1 hy];exact zr)),HV6.out.kp (hk.mono (fun y hy hl=>by rw[yf.1 hy]at hl;omega))⟩
     have lz:=HKP _ (aT (.inl (.head _)) C 0 ((Kp.refl _ _).alloc (.cells aA.toArray 41)));clear HKP iv HV6 al;have HT:=zh (c9.out.there 0 rfl C.toArray.size (by rw[yd,yC.out];rfl));have db:=zh (c9.out.fill hE 0 rfl C (by rw[yC.out];rfl));have zi:=fo yC.out;clear c9;simp only[aA,List.set_cons_zero]at db HT lz
     go_upto_region 12 with(first |(refine yq rfl 41 (.tmp 6) (.tmp 38) rfl w6.heap.size 0 C.toArray rfl rfl HT.out zi yo.out ?_;change wpList _ _ _ _ _ (World.setCells _ w6.heap.size 0 C);generalize World.setCells _ _ _ _=W8 at db lz ⊢;generalize w6.heap.size=q7 at db r9 ⊢))
     clear HT
     go_cut [] (fun wx=>Hid (∃ cap1 A1,Fs E w (k1) (op+1) (c1) pl er [(q4,41,(cD 4 s 0 A1 (n+1) cap1).toArray),(q,41,aA.toArray)] wx/\KR wx (q4+1) (.slice A1 (n+1) cap1) (n+1) (l++[x]) c1))
     case first=>
      have ee:=zh (db.out.range 0 (l:=C) rfl);have x21:=(db.out.li 1 rfl).cell 21;simp only[za,zb,zf]at x21;have zi:(Tryz.prog.info? 41).map (·.size)=some C.length:=by rw[yC.out];exact aF
      have bl:=zh (db.out.alloc 41 C.toArray (by decide));have fs:Below W8.heap.size W8 (W8.alloc (.cells C.toArray 41)):=(zp _);have mj:=zh ((lz.out.1.next fs).more HX.out.2.2.2);have om:=zh (lz.out.2.kp (Kp.of_below fs));have wg:Hid (∀ y,(Value.slice A n cap).ownBlock=some y->y≠W8.heap.size):=zh (fun y hy e=>by have:=(fL lz.out.1 hy).2;omega);have b6:∀ b∈([(W8.heap.size,41,C.toArray),(q7,41,C.toArray),(q4,41,(cD 4 s 0 A n cap).toArray),(q,41,aA.toArray)]:List (Nat×TypeId×Array Value)),(Value.slice A n cap).ownBlock≠some b.1:=fun b hb e=>by
       simp only[ym,List.not_mem_nil,or_false]at hb;rcases hb with rfl|rfl|rfl|rfl
       ·exact wg.out _ e rfl
       ·exact r9.out _ e rfl
       ·have:=(HQL.out _ e).1;omega
       have:=(HQL.out _ e).1;have:=od.out;have:=HQ.out;omega
      replace b6:=zh b6;have uq:=zh (bl.out.li 0 rfl);have HZ:Hid (w.heap.size<=q4+1/\n<=100000/\q4+1<=(W8.alloc (.cells C.toArray 41)).heap.size):=zh ⟨by have:=od.out;omega,by have:=HB.out;omega,by have:=bl.out.lt 2 rfl;omega⟩;clear db fs wg lz
      go_wp2_with (first |(refine yr rfl 41 (.tmp 6) rfl q7 0 rfl C _ ee.out Tryz.underlying41 rfl zi ?_) |(refine lM rfl (.tmp 45) rfl C rfl yC.out W8.heap.size rfl (some 46) rfl ?_;generalize W8.alloc (.cells C.toArray 41)=W9 at bl mj om uq HZ ⊢;generalize W8.heap.size=q8 at bl b6 uq ⊢) |(refine jP rfl (.tmp 44) (.tmp 46) rfl (q4+1) n (.slice A n cap) l c1 rfl mj.out HZ.out.2.1 HZ.out.2.2 q8 1 C rfl yC.out uq.out yo.out x om.out ?_;intro v2 w9 h1 h2 h3;obtain⟨A1,cap1,rfl⟩:=h1.form;have dm:=zh (bl.out.grow hE mj.out HZ.out.1 b6.out h2);have fj:=zh h1;clear h1 h2 h3 bl mj om uq b6 HZ x21;have y21:=(dm.out.li 2 rfl).cell 21;have yf21:=(dm.out.li 2 rfl).frozen 21;simp only[za,zb,zf]at y21))
      all_goals go_meet
      exact zh ⟨cap1,A1,(dm.out.put hE 2 rfl 21 (.slice A1 (n+1) cap1)).drop1.drop1,fj.out.kp ((Kp.refl [q4] _).set (.inl (.head _)) 21 _) (fun y hy=>.inl (by rw[yf.1 hy];omega))⟩
     case rest=>
      obtain⟨cap1,A1,hF,hK⟩:=hcut.out;have bl:=zh hF;have mj:=zh hK;clear hcut hF hK db lz r9 HQL yo zi yC;have CT1:=zh (CT.out k1 (op+1) c1 pl er _ bl.out.ine HX.out.2.1)
      go_wp2_with fail
      refine CT1.out.mono ?_;rintro e w10 ⟨rfl,hb⟩;have dm:=zh (bl.out.next hb);have fj:=zh (mj.out.next hb);clear hb bl mj CT1;have CS1:=zh (CS.out (E.at k1) [41] w10)
      go_wp2_with fail
      refine CS1.out.mono ?_;rintro e w11 ⟨rfl,hb⟩;have cx:=zh (dm.out.next hb);have fp:=zh (fj.out.next hb);clear hb dm fj CS1;have HAr:Hid (∀ W,Fs E w (k1) (op+1) (c1) pl er [(q4,41,(cD 4 s 0 A1 (n+1) cap1).toArray),(q,41,aA.toArray)] W->KR W (q4+1) (.slice A1 (n+1) cap1) (n+1) (l++[x]) c1->Arg E w k op nd pl er q q4 s wh R k1 c1 (n+1) cap1 A1 (l++[x]) W):=zh (fun W h1 h2=>⟨h1,h2,by have:=HB.out;simp;omega,by have:=HB.out;have:=HX.out;omega,HX.out.2.1,by have:=HB.out;have:=HX.out;omega⟩);cases kf:isS (E.at k1) [41] with
      |true=>
       have HG3:Hid (R=.ok (l++[x]) (E.L.drop k1) c1):=zh (by obtain⟨f,h1,h2⟩:=HG1.out;rw[kf,if_pos rfl]at h2;exact h2.symm);have HZ:Hid (ArgZ E w k op nd pl er q q4 s wh R k1 c1 (n+1) cap1 A1 (l++[x]) w11):=zh { toArg:=HAr.out _ cx.out fp.out,nc:=by have:=HB.out;have:=HX.out;omega,few:=by have:=HB.out;omega,cl:=kf,go:=HG3.out };clear HG3 HG1 HAr cx fp kf
       go_wp2_with fail
       go_roundw
       case rel=>exact .inr ⟨rfl,zh ⟨_,_,_,_,_,_,HZ.out⟩⟩
       case measure=>
        show onM (.bool false) _<onM (.bool true) _;unfold onM;simp only;omega
      |false=>
       have zn:Hid (∃ f,E.L.length-k2<=f+1/\(if isS (E.at k1) [44] then if 32<=l.length+1 then .bad 10 (E.at k1).place else dX wh f (l++[x]) (E.L.drop (k1+1)) c1 else .bad 6 (E.at k1).place)=R):=zh (by obtain⟨f,h1,h2⟩:=HG1.out;rw[kf]at h2;exact⟨f,h1,h2⟩);clear HG1;cases jr:isS (E.at k1) [44] with
       |true=>
        by_cases hfull:32<=n+1
        ·skip
         have x21:=(cx.out.li 0 rfl).cell 21;simp only[za,zb,zf]at x21;have dc:Hid (T=.bad 10 (E.at k1).place):=zh (by obtain⟨f,h1,h2⟩:=zn.out;rw[jr]at h2;rw[<- gm.out,<- h2];have h3:=HB.out;simp only[if_true];rw[if_pos (by omega)];rfl);have CC1:=zh (CCf.out k1 c1 pl er (n+1) _ cx.out.ine HX.out.2.1 jr hfull)
         go_wp2_with fail
         refine CC1.out.mono ?_;rintro e w12 ⟨rfl,h1,h2⟩;have eh:=zh (cx.out.step h1 h2.X);clear h1 h2 cx fp CC1 HAr x21;have HT:=zh (eh.out.there 1 rfl 22 rfl);have ag:=zh (eh.out.fill hE 1 rfl aA rfl)
         go_wp2_with (first |(refine yq rfl 41 (.tmp 2) (.tmp 62) rfl q 0 aA.toArray rfl rfl HT.out aF aW ?_;change wpList _ _ _ _ _ (World.setCells _ q 0 aA);generalize World.setCells _ _ _ _=wz at ag ⊢))
         have HA:=zh (ag.out.li 1 rfl);refine yt (aM rfl rfl HA.out rfl) rfl ?_;rw[dc.out];exact cE ag.out rfl aW (by have:=HX.out;have:=HB.out;omega) HX.out.2.1 (by have:=HX.out;have:=HB.out;omega)
        skip
        have x21:=(cx.out.li 0 rfl).cell 21;simp only[za,zb,zf]at x21;have t9:=E.more he HX.out.2.1 (dW jr);have HG3:Hid (∃ f,E.L.length-k2<=f+1/\dX wh f (l++[x]) (E.L.drop (k1+1)) c1=R):=zh (by obtain⟨f,h1,h2⟩:=zn.out;rw[jr,if_pos rfl,if_neg (by have h3:=HB.out;omega)]at h2;exact⟨f,h1,h2⟩);have CC1:=zh (CCy.out k1 c1 pl er (n+1) _ cx.out.ine HX.out.2.1 jr (by omega))
        go_wp2_with fail
        refine CC1.out.mono ?_;rintro e w12 ⟨rfl,h1,h2⟩;have eh:=zh (cx.out.step h1 h2.X);have jb:=zh (fp.out.kp h2 (fun y hy=>.inl (by obtain⟨k0,op0,nd0,pl0,er0,ct⟩:=cx.out.base;have:=ct.rd.lt;rw[yf.1 hy];have:=od.out;omega)));clear h1 h2 cx fp CC1 x21 zn;have HZ:Hid (ArgA E w k op nd pl er q q4 s wh R (k1+1) c1 (n+1) cap1 A1 (l++[x]) w12):=zh { st:=eh.out,kr:=jb.out,len:=by have:=HB.out;simp;omega,le:=by have:=HB.out;have:=HX.out;omega,lt:=t9,nn:=by have:=HB.out;have:=HX.out;omega,nc:=by have:=HB.out;have:=HX.out;omega,few:=by omega,go:=by obtain⟨f,h1,h2⟩:=HG3.out;exact⟨f,by have:=HX.out;omega,h2⟩ };clear HG3 HAr eh jb jr
        go_wp2_with fail
        go_roundw
        case rel=>exact .inl ⟨rfl,zh ⟨_,_,_,_,_,_,HZ.out⟩⟩
        case measure=>
         show onM (.bool true) _<onM (.bool true) _;unfold onM;simp only;rw[HRD.out,HZ.out.st.ine.rdAt];have:=HX.out;omega
       |false=>
        have x21:=(cx.out.li 0 rfl).cell 21;simp only[za,zb,zf]at x21;have dc:Hid (T=.bad 6 (E.at k1).place):=zh (by obtain⟨f,h1,h2⟩:=zn.out;rw[jr]at h2;rw[<- gm.out,<- h2];rfl);have CC1:=zh (CCn.out k1 c1 pl er (n+1) _ cx.out.ine HX.out.2.1 jr)
        go_wp2_with fail
        refine CC1.out.mono ?_;rintro e w12 ⟨rfl,h1,h2⟩;have eh:=zh (cx.out.step h1 h2.X);clear h1 h2 cx fp CC1 HAr x21;have HT:=zh (eh.out.there 1 rfl 22 rfl);have ag:=zh (eh.out.fill hE 1 rfl aA rfl)
        go_wp2_with (first |(refine yq rfl 41 (.tmp 2) (.tmp 62) rfl q 0 aA.toArray rfl rfl HT.out aF aW ?_;change wpList _ _ _ _ _ (World.setCells _ q 0 aA);generalize World.setCells _ _ _ _=wz at ag ⊢))
        have HA:=zh (ag.out.li 1 rfl);refine yt (aM rfl rfl HA.out rfl) rfl ?_;rw[dc.out];exact cE ag.out rfl aW (by have:=HX.out;have:=HB.out;omega) HX.out.2.1 (by have:=HX.out;have:=HB.out;omega)
   obtain⟨k2,c,n,cap,A,l,hS⟩:=hrel.out;have dm:=zh hS.st;have fj:=zh hS.kr;have HB:Hid (k<=k2/\k2<E.L.length/\c+k<=nd+k2/\nd<=c):=zh ⟨hS.le,hS.lt,hS.nc,hS.nn⟩;have HCL:=zh hS.cl;have t9:=E.more he hS.lt (dW hS.cl);have dc:Hid (T=.ok (uBL s l) (E.L.drop (k2+1)) (c+1)):=zh (by rw[<- gm.out,hS.go];show Out.ok _ (E.L.drop k2).tail _=_;rw[List.tail_drop]);clear hS hrel CA1;have CN1:=zh (CN.out k2 c pl er (cD 4 s 0 A n cap) rfl (fI _ _ _ _ _ _) _ dm.out.ine (by have:=HB.out;have:=HF.out;omega));obtain⟨D,hC,ah,fd,gq⟩:=eO (c+1) (cD 4 s 0 A n cap) rfl (fI _ _ _ _ _ _);rw[hC]at CN1;have yC:=zh ah;have fa:=zh fd;have m8:=zh gq;have ee:=zh (dm.out.range 0 (l:=cD 4 s 0 A n cap) rfl);clear hC ah fd gq
   go_wp2_with (first |(refine yr rfl 41 (.tmp 4) rfl q4 0 rfl (cD 4 s 0 A n cap) _ ee.out Tryz.underlying41 rfl aF ?_))
   refine CN1.out.mono ?_;rintro e wn ⟨rfl,au,ew⟩;have ju:=zh (dm.out.step au ew.X);have HER:Hid (∀ y∈[E.r],y<q4+1):=zh (fun y hy=>by obtain⟨k0,op0,nd0,pl0,er0,ct⟩:=dm.out.base;have:=ct.rd.lt;rw[yf.1 hy];have:=od.out;omega);have HKn:=zh (fj.out.kp ew (fun y hy=>.inl (HER.out y hy)));clear au ew CN1 ee dm fj;have CL1:=zh (CLv.out k2 (c+1) pl er _ ju.out.ine HB.out.2.1 HCL.out)
   go_wp2_with fail
   refine CL1.out.mono ?_;rintro e wl ⟨rfl,au,ew⟩;have HSl:=zh (ju.out.step au ew.X);have HKl:=zh (HKn.out.kp ew (fun y hy=>.inl (HER.out y hy)));clear au ew CL1 ju HKn;have HT:=zh (HSl.out.there 1 rfl D.toArray.size (by rw[yd,yC.out];rfl));have ag:=zh (HSl.out.fill hE 1 rfl D (by rw[yC.out];rfl));have HKz:=zh ((HKl.out.kp (aT (Y:=[q]) (.inl (.head _)) D 0 (Kp.refl _ _)) (fun y hy=>.inl (by rw[yf.1 hy];have:=od.out;omega))).more (Nat.le_succ c));have zi:(Tryz.prog.info? 41).map (·.size)=some D.toArray.size:=by rw[yd,yC.out];exact aF
   clear HSl HKl
   go_wp2_with (first |(refine yq rfl 41 (.tmp 2) (.tmp 65) rfl q 0 D.toArray rfl rfl HT.out zi fa.out ?_;change wpList _ _ _ _ _ (World.setCells _ q 0 D);generalize World.setCells _ _ _ _=wz at ag HKz ⊢))
   have HA:=zh (ag.out.li 1 rfl);refine yt (aM rfl rfl HA.out (by rw[yd,yC.out])) rfl ?_;rw[dc.out];refine vS ag.out yC.out fa.out (fun hn=>?_) (by have:=HB.out;omega) t9 (by have:=HB.out;omega) (by have:=HB.out;omega) rfl;obtain⟨h4,h5⟩:=HKz.out.kids hn (X:=List.range w.heap.size) (fun y hy=>by have:=yg.1 hy;have:=od.out;omega);exact⟨A,cap,by rw[m8.out hn,h4];rfl,h5⟩
end Go.Proofs.YtmgjidnalpgegaaGreatDoor
