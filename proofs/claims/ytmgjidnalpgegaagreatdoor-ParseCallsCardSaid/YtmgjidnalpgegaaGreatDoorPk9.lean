/-
  Lemmas, part 9: Par9 ParA ParB ParC ParD.
-/
import Derived.Deep.CutBlock
import Derived.Great.BuildSlice
import Derived.Great.Walk
import Derived.Test.YtmgjidnalpgegaaGreatDoorPk8
set_option maxHeartbeats 100000000
namespace Go.Proofs.YtmgjidnalpgegaaGreatDoor
open Go.RowKit
set_option maxRecDepth 100000 in
theorem cell_row(E:Env)(hE:E.ok)(k op nd pl er:Nat)(w:World)(hI:InE E k op nd pl er w)(hk:k<E.L.length)(ht:(E.at k).text.length<=100000)(m:Mk)
  (h4:(E.at k).kind=4) (hm:bG (E.at k).text=some m) (hx:E.ax.rows[m.row]?=none) (hmr:m.row<=100000000) :
  Calls Tryz.prog 132 #[.pointer (some ⟨E.r,0,none⟩)] w (StepX E w k op nd (E.at k).place 18 (.tuple #[jC aG,.bool false])):=by
 have CT:=zh (fun W h=>cE E k op nd pl er W h hk);have CP:=zh (fun W=>iW (E.at k).text W ht);unfold jK at CP;rw[hm]at CP;have CL1:=zh (fun W h=>yZ E hE k op nd pl er E.pa E.ax.rows m.row W h (.inl ⟨rfl,rfl⟩) hmr hx hk);generalize E.at k=t at *;obtain⟨tk,tx,tp⟩:=t;obtain⟨mr,mc,mfr,mfc⟩:=m;dsimp only[tkV,kC]at CT CP h4 CL1 ⊢;subst h4;clear ht hm hx hmr;have cj:=zh (hI.next (zp (.cells bW 36)));have cf:Hid (Kp E.X w (w.alloc (.cells bW 36))):=zh ((Kp.refl _ _).alloc _);have cd:=zh (Own1.new hI (Kp.refl E.X w) 36 bW);have HF:=zh hI;clear hI;have hf0:=mN;have oy:=nS
 go_enter Tryz.func132,Tryz.ntmps132
 go_upto_region 1 with fail
 generalize w.alloc (.cells bW 36)=W1 at *;generalize w.heap.size=q at *
 go_wp2_with fail
 refine(CT.out W1 cj.out).mono ?_;rintro e w1 ⟨rfl,hb⟩;have fp:=zh (cj.out.next hb);have ee:=zh (cf.out.trans (Kp.of_below hb));have jh:=zh (cd.out.next hb);clear hb cj cf cd
 go_wp2_with fail
 refine(CP.out w1).mono ?_;rintro e w2 ⟨rfl,hb⟩;have ct:=zh (fp.out.next hb);have cq:=zh (ee.out.trans (Kp.of_below hb));have bq:=zh (jh.out.next hb);clear hb fp ee jh
 go_upto_region 2 with fail
 have fj:=zh (ct.out.next (zp (.cells #[.int .i64 (mr:Int),.int .i64 (mc:Int),.bool mfr,.bool mfc] 150)));have iw:=zh (bq.out.next (zp (.cells #[.int .i64 (mr:Int),.int .i64 (mc:Int),.bool mfr,.bool mfc] 150)));have au:=zh (Own1.new HF.out cq.out 150 #[.int .i64 (mr:Int),.int .i64 (mc:Int),.bool mfr,.bool mfc]);have ig:=zh (cq.out.alloc (.cells #[.int .i64 (mr:Int),.int .i64 (mc:Int),.bool mfr,.bool mfc] 150));have bp:q≠w2.heap.size:=by have:=bq.out.li.lt;omega
 generalize w2.alloc (.cells #[.int .i64 (mr:Int),.int .i64 (mc:Int),.bool mfr,.bool mfc] 150)=w3 at *;generalize w2.heap.size=q1 at *;clear ct bq cq
 go_wp2_with fail
 refine(CT.out w3 fj.out).mono ?_;rintro e w4 ⟨rfl,hb⟩;have kv:=zh (fj.out.next hb);have j9:=zh (ig.out.trans (Kp.of_below hb));have lj:=zh (iw.out.next hb);have cg:=zh (au.out.next hb);clear hb fj ig iw au;have b0:=cg.out.li.cell 0;have b1:=cg.out.li.cell 1;have b2:=cg.out.li.cell 2;have b3:=cg.out.li.cell 3;simp only[za,zb,zf]at b0 b1 b2 b3
 go_upto_region 5 with fail
 have nj:=zh (kv.out.next (zp (.cells #[.int .i64 0,.int .i64 0,.int .i64 0,.int .i64 0,.bool mfr,.bool mfc] 36)));have j2:=zh (lj.out.next (zp (.cells #[.int .i64 0,.int .i64 0,.int .i64 0,.int .i64 0,.bool mfr,.bool mfc] 36)));have di:=zh (cg.out.next (zp (.cells #[.int .i64 0,.int .i64 0,.int .i64 0,.int .i64 0,.bool mfr,.bool mfc] 36)));have HC5:=zh (Own1.new HF.out j9.out 36 #[.int .i64 0,.int .i64 0,.int .i64 0,.int .i64 0,.bool mfr,.bool mfc]);have j3:=zh (j9.out.alloc (.cells #[.int .i64 0,.int .i64 0,.int .i64 0,.int .i64 0,.bool mfr,.bool mfc] 36));have bv:q≠w4.heap.size:=by have:=lj.out.li.lt;omega
 have o8:q1≠w4.heap.size:=by have:=cg.out.li.lt;omega
 generalize w4.alloc (.cells #[.int .i64 0,.int .i64 0,.int .i64 0,.int .i64 0,.bool mfr,.bool mfc] 36)=w5 at *;generalize w4.heap.size=q2 at *;clear kv lj cg j9 b0 b1 b2 b3;have b0:=di.out.li.cell 0;have b1:=di.out.li.cell 1;have r4:=nj.out.rd.cell 4;have r5:=nj.out.rd.cell 5;simp only[za,zb,zf]at b0 b1 r4 r5
 go_cut [5] (fun v wx=>v=.bool false/\Hid (InE E k op nd tp 18 wx)/\Hid (Kp E.X w wx)/\Hid (Own1 E w wx q 36 bW))
 case first=>
  go_region_with ((go_at_call 134;refine(CL1.out w5.drew (nj.out.next (Below.refl _ _).drew)).mono ?_;rintro e w6 ⟨rfl,h1,h2⟩;have ml:=zh h1;have iv:=zh (j3.out.drew.trans h2);have ji:=zh ((j2.out.next (Below.refl _ _).drew).kp h2);have iy:=zh ((HC5.out.next (Below.refl _ _).drew).kp h2);clear h1 h2;have c0:=iy.out.li.cell 0;have c1:=iy.out.li.cell 1;have g0:=iy.out.li.frozen 0;have g1:=iy.out.li.frozen 1;simp only[za,zb,zf]at c0 c1))
  all_goals go_wp2_with fail
  all_goals go_meet
  all_goals exact⟨rfl,zh (ml.out.own hE iy.out (by decide) (by decide) (((Kp.refl _ _).set (.inl (.head _)) 0 _).set (.inl (.head _)) 1 _)),zh (iv.out.own iy.out (((Kp.refl _ _).set (.inl (.head _)) 0 _).set (.inl (.head _)) 1 _)),zh ((ji.out.off bv 0 _).off bv 1 _)⟩
 case rest=>
  obtain⟨rfl,gq,nk,dw⟩:=hcut;clear nj j3 j2 di HC5 b0 b1 r4 r5 CT CP CL1;have HP:Hid (∀ W',Kp [q] wc W'->StepX E w k op nd tp 18 (.tuple #[jC aG,.bool false]) (.returned (.tuple #[jC aG,.bool false])) W'):=zh (fun W' h=>⟨rfl,gq.out.own hE dw.out (by decide) (by decide) h,nk.out.own dw.out h⟩);have a0:=dw.out.li.cell 0;have a1:=dw.out.li.cell 1;have a2:=dw.out.li.cell 2;have a3:=dw.out.li.cell 3;have a4:=dw.out.li.cell 4;have a5:=dw.out.li.cell 5;have g0:=dw.out.li.frozen 0;have g1:=dw.out.li.frozen 1;have g2:=dw.out.li.frozen 2;have g3:=dw.out.li.frozen 3;have g4:=dw.out.li.frozen 4;have g5:=dw.out.li.frozen 5;simp only[bW,za,zb,zf]at a0 a1 a2 a3 a4 a5
  go_wp2_with fail
  refine yt (v:=.tuple #[jC aG,.bool false]) (by simp[results,Tryz.results132,go_sem,a0,a1,a2,a3,a4,a5]) rfl ?_;exact HP.out _ ((((((((Kp.refl _ _).set (.inl (.head _)) 0 _).set (.inl (.head _)) 1 _).set (.inl (.head _)) 2 _).set (.inl (.head _)) 3 _).set (.inl (.head _)) 4 _).set (.inl (.head _)) 5 _))
set_option maxRecDepth 100000 in
theorem cell_col(E:Env)(hE:E.ok)(k op nd pl er:Nat)(w:World)(hI:InE E k op nd pl er w)(hk:k<E.L.length)(ht:(E.at k).text.length<=100000)(m:Mk)(x:IdR)
  (h4:(E.at k).kind=4) (hm:bG (E.at k).text=some m) (hx:E.ax.rows[m.row]?=some x) (hy:E.ax.cols[m.col]?=none) (hmr:m.row<=100000000) (hmc:m.col<=100000000) :
  Calls Tryz.prog 132 #[.pointer (some ⟨E.r,0,none⟩)] w (StepX E w k op nd (E.at k).place 18 (.tuple #[jC aG,.bool false])):=by
 have CT:=zh (fun W h=>cE E k op nd pl er W h hk);have CP:=zh (fun W=>iW (E.at k).text W ht);unfold jK at CP;rw[hm]at CP;have CL1:=zh (fun W h=>pX E hE k op nd pl er E.pa E.ax.rows m.row x W h (.inl ⟨rfl,rfl⟩) hmr hx);have CL2:=zh (fun W h=>yZ E hE k op nd pl er E.pb E.ax.cols m.col W h (.inr ⟨rfl,rfl⟩) hmc hy hk);generalize E.at k=t at *;obtain⟨tk,tx,tp⟩:=t;obtain⟨mr,mc,mfr,mfc⟩:=m;dsimp only[tkV,kC]at CT CP h4 CL1 CL2 ⊢;subst h4;clear ht hm hx hy hmr hmc;have cj:=zh (hI.next (zp (.cells bW 36)));have cf:Hid (Kp E.X w (w.alloc (.cells bW 36))):=zh ((Kp.refl _ _).alloc _);have cd:=zh (Own1.new hI (Kp.refl E.X w) 36 bW);have HF:=zh hI;clear hI;have hf0:=mN;have oy:=nS;obtain⟨xa,xn⟩:=x
 go_enter Tryz.func132,Tryz.ntmps132
 go_upto_region 1 with fail
 generalize w.alloc (.cells bW 36)=W1 at *;generalize w.heap.size=q at *
 go_wp2_with fail
 refine(CT.out W1 cj.out).mono ?_;rintro e w1 ⟨rfl,hb⟩;have fp:=zh (cj.out.next hb);have ee:=zh (cf.out.trans (Kp.of_below hb));have jh:=zh (cd.out.next hb);clear hb cj cf cd
 go_wp2_with fail
 refine(CP.out w1).mono ?_;rintro e w2 ⟨rfl,hb⟩;have ct:=zh (fp.out.next hb);have cq:=zh (ee.out.trans (Kp.of_below hb));have bq:=zh (jh.out.next hb);clear hb fp ee jh
 go_upto_region 2 with fail
 have fj:=zh (ct.out.next (zp (.cells #[.int .i64 (mr:Int),.int .i64 (mc:Int),.bool mfr,.bool mfc] 150)));have iw:=zh (bq.out.next (zp (.cells #[.int .i64 (mr:Int),.int .i64 (mc:Int),.bool mfr,.bool mfc] 150)));have au:=zh (Own1.new HF.out cq.out 150 #[.int .i64 (mr:Int),.int .i64 (mc:Int),.bool mfr,.bool mfc]);have ig:=zh (cq.out.alloc (.cells #[.int .i64 (mr:Int),.int .i64 (mc:Int),.bool mfr,.bool mfc] 150));have bp:q≠w2.heap.size:=by have:=bq.out.li.lt;omega
 generalize w2.alloc (.cells #[.int .i64 (mr:Int),.int .i64 (mc:Int),.bool mfr,.bool mfc] 150)=w3 at *;generalize w2.heap.size=q1 at *;clear ct bq cq
 go_wp2_with fail
 refine(CT.out w3 fj.out).mono ?_;rintro e w4 ⟨rfl,hb⟩;have kv:=zh (fj.out.next hb);have j9:=zh (ig.out.trans (Kp.of_below hb));have lj:=zh (iw.out.next hb);have cg:=zh (au.out.next hb);clear hb fj ig iw au;have b0:=cg.out.li.cell 0;have b1:=cg.out.li.cell 1;have b2:=cg.out.li.cell 2;have b3:=cg.out.li.cell 3;simp only[za,zb,zf]at b0 b1 b2 b3
 go_upto_region 5 with fail
 have nj:=zh (kv.out.next (zp (.cells #[.int .i64 0,.int .i64 0,.int .i64 0,.int .i64 0,.bool mfr,.bool mfc] 36)));have j2:=zh (lj.out.next (zp (.cells #[.int .i64 0,.int .i64 0,.int .i64 0,.int .i64 0,.bool mfr,.bool mfc] 36)));have di:=zh (cg.out.next (zp (.cells #[.int .i64 0,.int .i64 0,.int .i64 0,.int .i64 0,.bool mfr,.bool mfc] 36)));have HC5:=zh (Own1.new HF.out j9.out 36 #[.int .i64 0,.int .i64 0,.int .i64 0,.int .i64 0,.bool mfr,.bool mfc]);have j3:=zh (j9.out.alloc (.cells #[.int .i64 0,.int .i64 0,.int .i64 0,.int .i64 0,.bool mfr,.bool mfc] 36));have bv:q≠w4.heap.size:=by have:=lj.out.li.lt;omega
 have o8:q1≠w4.heap.size:=by have:=cg.out.li.lt;omega
 generalize w4.alloc (.cells #[.int .i64 0,.int .i64 0,.int .i64 0,.int .i64 0,.bool mfr,.bool mfc] 36)=w5 at *;generalize w4.heap.size=q2 at *;clear kv lj cg j9 b0 b1 b2 b3;have b0:=di.out.li.cell 0;have b1:=di.out.li.cell 1;have r4:=nj.out.rd.cell 4;have r5:=nj.out.rd.cell 5;simp only[za,zb,zf]at b0 b1 r4 r5
 go_cut [5] (fun v wx=>v=.bool true/\Hid (InE E k op nd pl er wx)/\Hid (Kp E.X w wx)/\Hid (Own1 E w wx q 36 bW)/\Hid (Own1 E w wx q1 150 #[.int .i64 (mr:Int),.int .i64 (mc:Int),.bool mfr,.bool mfc])/\Hid (Own1 E w wx q2 36 #[.int .i64 xa,.int .i64 xn,.int .i64 0,.int .i64 0,.bool mfr,.bool mfc]))
 case first=>
  go_region_with ((go_at_call 134;refine(CL1.out w5.drew (nj.out.next (Below.refl _ _).drew)).mono ?_;rintro e w6 ⟨rfl,h1,h2⟩;have ml:=zh h1;have iv:=zh (j3.out.drew.trans h2);have ji:=zh ((j2.out.next (Below.refl _ _).drew).kp h2);have HB6:=zh ((di.out.next (Below.refl _ _).drew).kp h2);have iy:=zh ((HC5.out.next (Below.refl _ _).drew).kp h2);clear h1 h2;have c0:=iy.out.li.cell 0;have c1:=iy.out.li.cell 1;have g0:=iy.out.li.frozen 0;have g1:=iy.out.li.frozen 1;simp only[za,zb,zf]at c0 c1))
  all_goals go_wp2_with fail
  all_goals go_meet
  all_goals exact⟨rfl,zh (ml.out.own hE iy.out (by decide) (by decide) (((Kp.refl _ _).set (.inl (.head _)) 0 _).set (.inl (.head _)) 1 _)),zh (iv.out.own iy.out (((Kp.refl _ _).set (.inl (.head _)) 0 _).set (.inl (.head _)) 1 _)),zh ((ji.out.off bv 0 _).off bv 1 _),zh ((HB6.out.off o8 0 _).off o8 1 _),zh ((iy.out.put 0 _).put 1 _)⟩
 case rest=>
  obtain⟨rfl,gq,nk,dw,HB7,HC7⟩:=hcut;clear nj j3 j2 di HC5 b0 b1 r4 r5;have b1:=HB7.out.li.cell 1;have r5:=gq.out.rd.cell 5;simp only[za,zb,zf]at b1 r5
  go_upto_region 8 with fail
  go_cut [5] (fun v wx=>v=.bool false/\Hid (InE E k op nd tp 18 wx)/\Hid (Kp E.X w wx)/\Hid (Own1 E w wx q 36 bW))
  case first=>
   go_region_with ((go_at_call 134;refine(CL2.out wc.drew (gq.out.next (Below.refl _ _).drew)).mono ?_;rintro e w6 ⟨rfl,h1,h2⟩;have ml:=zh h1;have iv:=zh (nk.out.drew.trans h2);have ji:=zh ((dw.out.next (Below.refl _ _).drew).kp h2);have iy:=zh ((HC7.out.next (Below.refl _ _).drew).kp h2);clear h1 h2;have c2:=iy.out.li.cell 2;have c3:=iy.out.li.cell 3;have g2:=iy.out.li.frozen 2;have g3:=iy.out.li.frozen 3;simp only[za,zb,zf]at c2 c3))
   all_goals go_wp2_with fail
   all_goals go_meet
   all_goals exact⟨rfl,zh (ml.out.own hE iy.out (by decide) (by decide) (((Kp.refl _ _).set (.inl (.head _)) 2 _).set (.inl (.head _)) 3 _)),zh (iv.out.own iy.out (((Kp.refl _ _).set (.inl (.head _)) 2 _).set (.inl (.head _)) 3 _)),zh ((ji.out.off bv 2 _).off bv 3 _)⟩
  case rest=>
   obtain⟨rfl,v7,ls,o9⟩:=hcut;clear gq nk dw HB7 HC7 b1 r5 CT CP CL1 CL2;have HP:Hid (∀ W',Kp [q] wc W'->StepX E w k op nd tp 18 (.tuple #[jC aG,.bool false]) (.returned (.tuple #[jC aG,.bool false])) W'):=zh (fun W' h=>⟨rfl,v7.out.own hE o9.out (by decide) (by decide) h,ls.out.own o9.out h⟩);have a0:=o9.out.li.cell 0;have a1:=o9.out.li.cell 1;have a2:=o9.out.li.cell 2;have a3:=o9.out.li.cell 3;have a4:=o9.out.li.cell 4;have a5:=o9.out.li.cell 5;have g0:=o9.out.li.frozen 0;have g1:=o9.out.li.frozen 1;have g2:=o9.out.li.frozen 2;have g3:=o9.out.li.frozen 3;have g4:=o9.out.li.frozen 4;have g5:=o9.out.li.frozen 5;simp only[bW,za,zb,zf]at a0 a1 a2 a3 a4 a5
   go_wp2_with fail
   refine yt (v:=.tuple #[jC aG,.bool false]) (by simp[results,Tryz.results132,go_sem,a0,a1,a2,a3,a4,a5]) rfl ?_;exact HP.out _ ((((((((Kp.refl _ _).set (.inl (.head _)) 0 _).set (.inl (.head _)) 1 _).set (.inl (.head _)) 2 _).set (.inl (.head _)) 3 _).set (.inl (.head _)) 4 _).set (.inl (.head _)) 5 _))
theorem uU{l:Bs}{c:Nat}(hc:bX l=some c):c<=1000000:=by
 unfold bX at hc
 split at hc
 ·cases hc
 rename_i h3
 split at hc
 ·rename_i bk
  have:=mD l (fun c hc=>List.all_eq_true.1 bk c hc) 3 (by omega);rw[List.take_of_length_le (by rcases Nat.lt_or_ge 3 l.length with h|h;exact absurd (.inr h) h3;exact h)]at this;injection hc with hc;omega
 cases hc
theorem sC{s:Bs}{m:Mk}(h:bG s=some m):m.row<=100000000/\m.col<=100000000:=by
 unfold bG at h;dsimp only at h
 split at h
 ·cases h
 rename_i c hc
 split at h
 ·cases h
 rename_i n hn
 injection h with h;subst h;have h1:=oW hn;have h2:=uU hc;exact⟨by show n-1<=_;omega,by show c<=_;omega⟩
theorem cell_any(E:Env)(hE:E.ok)(k op nd pl er:Nat)(w:World)(hI:InE E k op nd pl er w)(hk:k<E.L.length)(hL:E.L.length<=1000000)(ht:(E.at k).text.length<=100000) :
  Calls Tryz.prog 132 #[.pointer (some ⟨E.r,0,none⟩)] w (uAE E w k op nd pl er (dZ E.ax (E.L.drop k))):=by
 have v8:dZ E.ax (E.L.drop k)=if (E.at k).kind≠4 then .error 6
   else match bG (E.at k).text with
    |none=>.error 6
    |some m=>match E.ax.rows[m.row]? with
     |none=>.error 18
     |some r=>match E.ax.cols[m.col]? with
      |none=>.error 18
      |some k=>.ok ⟨r,k,m.fr,m.fc⟩:=rfl
 rw[v8];by_cases h4:(E.at k).kind=4
 ·rw[if_neg (fun h=>h h4)];cases hm:bG (E.at k).text with
  |none=>exact wT E hE k op nd pl er w hI hk ht (.inr hm)
  |some m=>
   have v9:=sC hm;dsimp only;cases hx:E.ax.rows[m.row]? with
   |none=>exact cell_row E hE k op nd pl er w hI hk ht m h4 hm hx v9.1
   |some x=>
    dsimp only;cases hy:E.ax.cols[m.col]? with
    |none=>exact cell_col E hE k op nd pl er w hI hk ht m x h4 hm hx hy v9.1 v9.2
    |some y=>exact cell_ok E hE k op nd pl er w hI hk hL ht m x y h4 hm hx hy v9.1 v9.2
 rw[if_pos h4];exact wT E hE k op nd pl er w hI hk ht (.inl h4)
def NV(W:World)(X:List Nat)(nd:Nat)(t:Tree)(cs:Array Value):Prop:=cs.size=22/\cs.all (·.oneCell')=true/\(nd<=256->∃ A cp,cs=bC t.h A t.l.length cp/\KidsOk W X A t.l)
theorem NV.kp{W W':World}{X:List Nat}{nd:Nat}{t:Tree}{cs:Array Value}(h:NV W X nd t cs)(hk:Kp X W W'):NV W' X nd t cs :=
 ⟨h.1,h.2.1,fun hn=>by obtain⟨A,cp,e,h3⟩:=h.2.2 hn;exact⟨A,cp,e,h3.kp hk⟩⟩
theorem NV.mono{W:World}{X:List Nat}{nd nd':Nat}{t:Tree}{cs:Array Value}(h:NV W X nd t cs)(hn:nd<=nd'):NV W X nd' t cs:=⟨h.1,h.2.1,fun h'=>h.2.2 (yv hn h')⟩
mutual
theorem NodeAt.anti{W:World}{X Y:List Nat}(hs:∀ y∈Y,y<W.heap.size->y∈X){g o:Nat}:∀ {t:Tree},NodeAt W X g o t->NodeAt W Y g o t
 | .mk h l,hn=>by
  obtain⟨A,c,h1,h2⟩:=hn;refine⟨A,c,h1,?_⟩;rcases h2 with h2|⟨g',e,h3,h4,h5⟩
  ·exact .inl h2
  exact .inr ⟨g',e,fun hm=>h3 (hs g' hm h4),h4,KidsAt.anti hs h5⟩
theorem KidsAt.anti{W:World}{X Y:List Nat}(hs:∀ y∈Y,y<W.heap.size->y∈X){g:Nat}:∀ {l:List Tree} {i:Nat},KidsAt W X g i l->KidsAt W Y g i l
 | [],_,_=>trivial
 |_::_,_,hn=>⟨NodeAt.anti hs hn.1,KidsAt.anti hs hn.2⟩
end
theorem NV.anti{W:World}{X Y:List Nat}{nd:Nat}{t:Tree}{cs:Array Value}(h:NV W X nd t cs)(hs:∀ y∈Y,y<W.heap.size->y∈X):NV W Y nd t cs :=
 ⟨h.1,h.2.1,fun hn=>by
  obtain⟨A,cp,e,h3⟩:=h.2.2 hn;refine⟨A,cp,e,?_⟩;rcases h3 with h3|⟨g',e2,h4,h5,h6⟩
  ·exact .inl h3
  exact .inr ⟨g',e2,fun hm=>h4 (hs g' hm h5),h5,KidsAt.anti hs h6⟩⟩
theorem NV.fresh{W:World}{X:List Nat}{nd:Nat}{t:Tree}{cs:Array Value}(h:NV W X nd t cs){z:Nat}(hz:W.heap.size<=z):NV W (z::X) nd t cs :=
 h.anti (fun y hy hl=>by rcases ym.1 hy with rfl|hy;omega;exact hy)
theorem NV.kpX{W W':World}{X Y:List Nat}{nd:Nat}{t:Tree}{cs:Array Value}(h:NV W X nd t cs)(hk:Kp Y W W')(hs:∀ y∈Y,y∈X):NV W' X nd t cs:=h.kp (hk.mono (fun y hy _=>hs y hy))
def NPost(E:Env)(w:World)(k op nd pl er:Nat)(o:Out)(e:Ending)(w':World):Prop:=match o with
 | .ok t ts c=>∃ k' cs,e=.returned (.tuple #[.agg cs,.bool true])/\k<=k'/\k'<E.L.length/\ts=E.L.drop k'/\c+k<=nd+k'/\nd<=c/\InE E k' op c pl er w'/\Kp E.X w w'/\NV w' (List.range w.heap.size) c t cs
 | .bad er' p=>∃ cs k' op' nd',e=.returned (.tuple #[.agg cs,.bool false])/\cs.size=22/\cs.all (·.oneCell')=true/\k<=k'/\k'<E.L.length/\nd'+k<=nd+k'/\InE E k' op' nd' p er' w'/\Kp E.X w w'
def Env.ends(E:Env):Prop:=0<E.L.length/\∀ k,k<E.L.length->((E.at k).kind=0↔k+1=E.L.length)
theorem Env.more{E:Env}(h:E.ends){k:Nat}(hk:k<E.L.length)(hn:(E.at k).kind≠0):k+1<E.L.length:=by
 rcases Nat.lt_or_ge (k+1) E.L.length with h1|h1
 ·exact h1
 exact absurd ((h.2 k hk).2 (by omega)) hn
set_option maxRecDepth 100000 in
theorem nG(t:Tok)(w:World)(ht:t.text.length<=100000) :
  Calls Tryz.prog 128 #[tkV t] w fun e w'=>e=.returned (.bool (cJ t))/\Below w.heap.size w w':=by
 have CF:=zh (fun W=>lG t.text W (by unfold maxLen;omega));obtain⟨tk,tx,tp⟩:=t;unfold cJ;dsimp only at CF ⊢;have hB:Below w.heap.size w (w.alloc (.cells #[.int .i64 tk,.string ⟨tx.toArray⟩,.int .i64 tp] 70)):=(Below.refl _ w).alloc zr _;have HB:=zh hB;clear hB ht;by_cases h:tk=3
 ·subst h;by_cases h1:aN tx=kI
  ·rw[h1]at CF ⊢
   go_enter Tryz.func128,Tryz.ntmps128
   go_wp2_with fail
   refine(CF.out _).mono ?_;rintro e w2 ⟨rfl,hb⟩;have co:=zh (HB.out.trans (hb.mono HB.out.size));clear hb HB CF;unfold kI
   go_wp2_with fail
   go_ret
   exact⟨rfl,co.out⟩
  by_cases h2:aN tx=iQ
  ·rw[h2]at CF ⊢
   go_enter Tryz.func128,Tryz.ntmps128
   go_wp2_with fail
   refine(CF.out _).mono ?_;rintro e w2 ⟨rfl,hb⟩;have co:=zh (HB.out.trans (hb.mono HB.out.size));clear hb HB CF;unfold iQ
   go_wp2_with fail
   go_ret
   exact⟨rfl,co.out⟩
  have e1:(aN tx==kI)=false:=by simpa using h1
  have e2:(aN tx==iQ)=false:=by simpa using h2
  rw[e1,e2];unfold kI at h1 e1;unfold iQ at h2 e2
  go_enter Tryz.func128,Tryz.ntmps128
  go_wp2_with fail
  refine(CF.out _).mono ?_;rintro e w2 ⟨rfl,hb⟩;have co:=zh (HB.out.trans (hb.mono HB.out.size));clear hb HB CF
  go_wp2_with fail
  go_ret
  exact⟨by simp,co.out⟩
 have hb:((tk:Int) != 3)=true:=by simp;omega
 have bu:((tk:Int)==3)=false:=by simp;omega
 have hd:decide (tk=3)=false:=decide_eq_false h;rw[hd];clear h hd CF
 go_enter Tryz.func128,Tryz.ntmps128
 go_wp2_with fail
 go_ret
 exact⟨by simp,HB.out⟩
theorem aO{fn:Func}{p u:Tmp}{tmps:Array Value}{w:World}{g:Nat}{cs:Array Value}(h:fn.results=#[.cell p 41,.tmp u])(hp:tmps.getD p undef=.pointer (some ⟨g,0,none⟩))(hl:Lies w g 41 cs)(fb:cs.size=22) :
  (results fn tmps).run Tryz.prog w=.ok (.tuple #[.agg cs,tmps.getD u undef]) w:=by
 have hr:=run_loadVar_row (P:=Tryz.prog) w g 41 41 cs _ _ hl Tryz.underlying41 rfl (by rw[fb];exact aE);rw[results_cell_tmp h,hp];simp only[asAddr,Sem.run_pure,Result.andThen_ok,hr]
abbrev oD(v:Val):List Value:=[.int .i64 0,.int .i64 v.kind,.int .i64 v.mant,.int .i64 v.exp,.string ⟨v.text.toArray⟩,.bool v.truth,.int .i64 v.fault,.string ⟨#[]⟩,.int .i64 0,.int .i64 0,.int .i64 0,.int .i64 0,.bool false,.bool false,.int .i64 0,.int .i64 0,.int .i64 0,.int .i64 0,.bool false,.bool false,.int .i64 0,.slice none 0 0]
theorem nI(v:Val):(oD v).toArray.all (·.oneCell')=true:=by simp[oD,Value.oneCell']
theorem fD(n:Nat)(cs:List Value)(h:cs.length=22)(h1:cs.toArray.all (·.oneCell')=true):∃ C:List Value,(if 256<n then aA.toArray else cs.toArray)=C.toArray/\C.length=22/\C.toArray.all (·.oneCell')=true/\(n<=256->C=cs):=by
 by_cases hn:256<n
 ·exact⟨aA,by rw[if_pos hn],rfl,bB,fun h'=>by omega⟩
 exact⟨cs,by rw[if_neg hn],h,h1,fun _=>rfl⟩
set_option maxRecDepth 100000 in
theorem rY(E:Env)(hE:E.ok)(k op nd pl er:Nat)(w:World)(hI:InE E k op nd pl er w)(hk:k+1<E.L.length)(hL:E.L.length<=1000000)(ht:(E.at k).text.length<=100000)(hn:nd<=k)(v:Val)(hv:eM (E.at k)=.ok v) :
  Calls Tryz.prog 117 #[.pointer (some ⟨E.r,0,none⟩)] w (fun e w'=>e=.returned (.tuple #[.agg (if 256<nd+1 then aA.toArray else (oD v).toArray),.bool true])/\InE E (k+1) op (nd+1) pl er w'/\Kp E.X w w'):=by
 have CT:=zh (fun W h=>cE E k op nd pl er W h (by omega));have CN:=zh (fun W h=>iJ E hE (k+1) op nd pl er (oD v) rfl (nI v) W h (by omega));obtain⟨C,hC,ai,ec,ii⟩:=fD (nd+1) (oD v) rfl (nI v);rw[hC]at CN ⊢;clear hC;have yC:=zh ai;have dx:=zh ec;have mw:=zh ii;clear ai ec ii;have CPn:=zh (fun W=>xP (E.at k).text W (by omega));have CPo:=zh of_any;have CTx:=zh (fun W=>uDF (E.at k).text W (by omega));have CFa:=zh (fun W h=>wB (E.at k).text W (by unfold maxLen;omega) h);have CBa:=zh yK;have CTr:=zh (fun W=>nG (E.at k) W ht);have CFo:=zh (fun W=>lG (E.at k).text W (by unfold maxLen;omega));have CTh:=zh yD;generalize E.at k=t at *;obtain⟨tk,tx,tp⟩:=t;dsimp only[tkV]at CT CPn CTx CFa CTr CFo ⊢;have HF:=zh hI;have cj:=zh (hI.next (zp (.cells aA.toArray 41)))
 have cf:Hid (Kp E.X w (w.alloc (.cells aA.toArray 41))):=zh ((Kp.refl _ _).alloc _);have cd:=zh (Own1.new hI (Kp.refl E.X w) 41 aA.toArray);clear hI;simp only[aA]at cj cf cd
 go_enter Tryz.func117,Tryz.ntmps117
 go_upto_region 1 with fail
 generalize w.alloc (.cells zM 41)=W1 at cj cf cd ⊢;generalize fa:w.heap.size=q at cd ⊢;clear fa
 go_wp2_with fail
 refine(CT.out W1 cj.out).mono ?_;rintro e w1 ⟨rfl,hb⟩;have fp:=zh (cj.out.next hb);have ee:=zh (cf.out.trans (Kp.of_below hb));have jh:=zh (cd.out.next hb);clear hb cj cf cd
 go_upto_region 2 with fail
 have ct:=zh (fp.out.next (zp (.cells #[.int .i64 tk,.string ⟨tx.toArray⟩,.int .i64 (tp:Int)] 70)));have bq:=zh (jh.out.next (zp (.cells #[.int .i64 tk,.string ⟨tx.toArray⟩,.int .i64 (tp:Int)] 70)));have co:=zh (Own1.new HF.out ee.out 70 #[.int .i64 tk,.string ⟨tx.toArray⟩,.int .i64 (tp:Int)]);have cq:=zh (ee.out.alloc (.cells #[.int .i64 tk,.string ⟨tx.toArray⟩,.int .i64 (tp:Int)] 70));have bp:q≠w1.heap.size:=by have:=jh.out.li.lt;omega
 generalize w1.alloc (.cells #[.int .i64 tk,.string ⟨tx.toArray⟩,.int .i64 (tp:Int)] 70)=w2 at *;generalize w1.heap.size=q1 at *;clear fp jh ee
 go_upto_block 0 with fail
 have fj:=zh (ct.out.next (zp (.cells (kN aC) 32)));have iw:=zh (bq.out.next (zp (.cells (kN aC) 32)));have au:=zh (co.out.next (zp (.cells (kN aC) 32)));have HV3:=zh (Own1.new HF.out cq.out 32 (kN aC));have ig:=zh (cq.out.alloc (.cells (kN aC) 32));have bv:q≠w2.heap.size:=by have:=bq.out.li.lt;omega
 have o8:q1≠w2.heap.size:=by have:=co.out.li.lt;omega
 simp only[aC]at fj iw au HV3 ig;generalize w2.alloc (.cells #[.int .i64 0,.int .i64 0,.int .i64 0,.string ⟨#[]⟩,.bool false,.int .i64 0] 32)=w3 at fj iw au HV3 ig ⊢;generalize w2.heap.size=q2 at *;clear ct bq co cq
 go_cut [] (fun wx=>Hid (InE E k op nd pl er wx)/\Hid (Kp E.X w wx)/\Hid (Own1 E w wx q 41 aA.toArray)/\Hid (Own1 E w wx q2 32 (kN v)))
 case first=>
  have HI:=fj;have HK:=ig;have HA:=iw;have HB:=au;have HV:=HV3;clear fj ig iw HV3 CN CT;have b0:=au.out.li.cell 0;have b1:=au.out.li.cell 1;have b2:=au.out.li.cell 2;simp only[za,zb,zf]at b0 b1 b2;by_cases h1:tk=1
  ·subst h1;have hp:∃ a b,eO tx=some (a,b)/\v=jB a b:=by
    unfold eM at hv;simp only[if_pos]at hv;cases hq:eO tx with
    |none=>rw[hq]at hv;cases hv
    |some q=>rw[hq]at hv;injection hv with hv;exact⟨q.1,q.2,rfl,hv.symm⟩
   obtain⟨na,nb,hp,rfl⟩:=hp;rw[hp]at CPn;clear hv hp;unfold iT at CPn
   try unfold jB
   unfold jB at CPo;dsimp only at CPn
   go_wp2_with fail
   refine(CPn.out _).mono ?_;rintro e x1 ⟨rfl,hb⟩;replace HI:=zh (HI.out.next hb);replace HK:=zh (HK.out.trans (Kp.of_below hb));replace HA:=zh (HA.out.next hb);replace HB:=zh (HB.out.next hb);replace HV:=zh (HV.out.next hb);clear hb
   go_upto_region 6 with fail
   have pf:∀ o,Below x1.heap.size x1 (x1.alloc o):=fun o=>zp o
   replace HI:=zh (HI.out.next (pf (.cells #[.int .i64 na,.int .i64 nb] 30)));replace HK:=zh (HK.out.alloc (.cells #[.int .i64 na,.int .i64 nb] 30));replace HA:=zh (HA.out.next (pf (.cells #[.int .i64 na,.int .i64 nb] 30)));replace HB:=zh (HB.out.next (pf (.cells #[.int .i64 na,.int .i64 nb] 30)));replace HV:=zh (HV.out.next (pf (.cells #[.int .i64 na,.int .i64 nb] 30)));have HN:=zh (Lies.new x1 30 #[.int .i64 na,.int .i64 nb]);generalize x1.alloc (.cells #[.int .i64 na,.int .i64 nb] 30)=x2 at HI HK HA HB HV HN ⊢;generalize x1.heap.size=qn at HN ⊢;clear pf;have n0:=HN.out.cell 0;have n1:=HN.out.cell 1;simp only[za,zb,zf]at n0 n1
   go_wp2_with fail
   refine(CPo.out na nb _).mono ?_;rintro e x3 ⟨rfl,hb⟩;replace HI:=zh (HI.out.next hb);replace HK:=zh (HK.out.trans (Kp.of_below hb));replace HA:=zh (HA.out.next hb);replace HB:=zh (HB.out.next hb);replace HV:=zh (HV.out.next hb);clear hb;have v0:=HV.out.li.cell 0;have v1:=HV.out.li.cell 1;have v2:=HV.out.li.cell 2;have v3:=HV.out.li.cell 3;have v4:=HV.out.li.cell 4;have v5:=HV.out.li.cell 5;have g0:=HV.out.li.frozen 0;have g1:=HV.out.li.frozen 1;have g2:=HV.out.li.frozen 2;have g3:=HV.out.li.frozen 3;have g4:=HV.out.li.frozen 4;have g5:=HV.out.li.frozen 5;simp only[za,zb,zf]at v0 v1 v2 v3 v4 v5
   all_goals go_wp2_with fail
   all_goals go_meet
   all_goals exact⟨zh (HI.out.own hE HV.out (by decide) (by decide) (((((((Kp.refl _ _).set (.inl (.head _)) 0 _).set (.inl (.head _)) 1 _).set (.inl (.head _)) 2 _).set (.inl (.head _)) 3 _).set (.inl (.head _)) 4 _).set (.inl (.head _)) 5 _)),zh (HK.out.own HV.out (((((((Kp.refl _ _).set (.inl (.head _)) 0 _).set (.inl (.head _)) 1 _).set (.inl (.head _)) 2 _).set (.inl (.head _)) 3 _).set (.inl (.head _)) 4 _).set (.inl (.head _)) 5 _)),zh ((((((HA.out.off bv 0 _).off bv 1 _).off bv 2 _).off bv 3 _).off bv 4 _).off bv 5 _),zh ((((((HV.out.put 0 _).put 1 _).put 2 _).put 3 _).put 4 _).put 5 _)⟩
  by_cases h2:tk=2
  ·subst h2;have hp:tx.length<=255/\qS tx=v:=by
    unfold eM at hv;simp only[if_pos,show ¬ (2=1) by decide,if_false]at hv;by_cases hl:255<tx.length
    ·simp[hl]at hv
    simp only[hl,if_false]at hv;injection hv with hv;exact⟨by omega,hv⟩
   obtain⟨hp1,sy⟩:=hp;rw[sy]at CTx;clear hv sy h1;obtain⟨va,vb,vc,vd,ve,vf⟩:=v
   try dsimp only at CTx ⊢
   go_wp2_with fail
   refine(CTx.out _).mono ?_;rintro e x1 ⟨rfl,hb⟩;replace HI:=zh (HI.out.next hb);replace HK:=zh (HK.out.trans (Kp.of_below hb));replace HA:=zh (HA.out.next hb);replace HB:=zh (HB.out.next hb);replace HV:=zh (HV.out.next hb);clear hb;have v0:=HV.out.li.cell 0;have v1:=HV.out.li.cell 1;have v2:=HV.out.li.cell 2;have v3:=HV.out.li.cell 3;have v4:=HV.out.li.cell 4;have v5:=HV.out.li.cell 5;have g0:=HV.out.li.frozen 0;have g1:=HV.out.li.frozen 1;have g2:=HV.out.li.frozen 2;have g3:=HV.out.li.frozen 3;have g4:=HV.out.li.frozen 4;have g5:=HV.out.li.frozen 5;simp only[za,zb,zf]at v0 v1 v2 v3 v4 v5
   all_goals go_wp2_with fail
   all_goals go_meet
   all_goals exact⟨zh (HI.out.own hE HV.out (by decide) (by decide) (((((((Kp.refl _ _).set (.inl (.head _)) 0 _).set (.inl (.head _)) 1 _).set (.inl (.head _)) 2 _).set (.inl (.head _)) 3 _).set (.inl (.head _)) 4 _).set (.inl (.head _)) 5 _)),zh (HK.out.own HV.out (((((((Kp.refl _ _).set (.inl (.head _)) 0 _).set (.inl (.head _)) 1 _).set (.inl (.head _)) 2 _).set (.inl (.head _)) 3 _).set (.inl (.head _)) 4 _).set (.inl (.head _)) 5 _)),zh ((((((HA.out.off bv 0 _).off bv 1 _).off bv 2 _).off bv 3 _).off bv 4 _).off bv 5 _),zh ((((((HV.out.put 0 _).put 1 _).put 2 _).put 3 _).put 4 _).put 5 _)⟩
  by_cases h6:tk=6
  ·subst h6;have hp:pG (kE tx)=v:=by
    unfold eM at hv;simp only[if_pos,show ¬ (6=1) by decide,show ¬ (6=2) by decide,if_false]at hv;injection hv
   have CB1:=zh (fun W=>CBa.out (kE tx) W);rw[hp]at CB1;clear hv hp h1 h2 CBa;obtain⟨va,vb,vc,vd,ve,vf⟩:=v
   try dsimp only at CB1 ⊢
   generalize kE tx=fn at *
   go_wp2_with fail
   refine(CFa.out _ HI.out.tb).mono ?_;rintro e x1 ⟨rfl,hb⟩;replace HI:=zh (HI.out.next hb);replace HK:=zh (HK.out.trans (Kp.of_below hb));replace HA:=zh (HA.out.next hb);replace HB:=zh (HB.out.next hb);replace HV:=zh (HV.out.next hb);clear hb
   go_wp2_with fail
   refine(CB1.out _).mono ?_;rintro e x2 ⟨rfl,hb⟩;replace HI:=zh (HI.out.next hb);replace HK:=zh (HK.out.trans (Kp.of_below hb));replace HA:=zh (HA.out.next hb);replace HB:=zh (HB.out.next hb);replace HV:=zh (HV.out.next hb);clear hb;have v0:=HV.out.li.cell 0;have v1:=HV.out.li.cell 1;have v2:=HV.out.li.cell 2;have v3:=HV.out.li.cell 3;have v4:=HV.out.li.cell 4;have v5:=HV.out.li.cell 5;have g0:=HV.out.li.frozen 0;have g1:=HV.out.li.frozen 1;have g2:=HV.out.li.frozen 2;have g3:=HV.out.li.frozen 3;have g4:=HV.out.li.frozen 4;have g5:=HV.out.li.frozen 5;simp only[za,zb,zf]at v0 v1 v2 v3 v4 v5
   all_goals go_wp2_with fail
   all_goals go_meet
   all_goals exact⟨zh (HI.out.own hE HV.out (by decide) (by decide) (((((((Kp.refl _ _).set (.inl (.head _)) 0 _).set (.inl (.head _)) 1 _).set (.inl (.head _)) 2 _).set (.inl (.head _)) 3 _).set (.inl (.head _)) 4 _).set (.inl (.head _)) 5 _)),zh (HK.out.own HV.out (((((((Kp.refl _ _).set (.inl (.head _)) 0 _).set (.inl (.head _)) 1 _).set (.inl (.head _)) 2 _).set (.inl (.head _)) 3 _).set (.inl (.head _)) 4 _).set (.inl (.head _)) 5 _)),zh ((((((HA.out.off bv 0 _).off bv 1 _).off bv 2 _).off bv 3 _).off bv 4 _).off bv 5 _),zh ((((((HV.out.put 0 _).put 1 _).put 2 _).put 3 _).put 4 _).put 5 _)⟩
  have h3:cJ ⟨tk,tx,tp⟩=true/\mO (aN tx==kI)=v:=by
   unfold eM at hv;simp only[h1,h2,h6,if_false]at hv;by_cases hi:cJ ⟨tk,tx,tp⟩=true
   ·simp only[hi,if_true]at hv;injection hv with hv;exact⟨hi,hv⟩
   simp[hi]at hv
  obtain⟨hi,hv3⟩:=h3;rw[hi]at CTr;have ht3:tk=3/\(aN tx=kI\/aN tx=iQ):=by
   unfold cJ at hi;simpa using hi
  obtain⟨rfl,hf⟩:=ht3;clear hv hi h1 h2 h6;rcases hf with hf|hf
  ·rw[hf]at CFo;have hp:mO true=v:=by
    rw[hf]at hv3;rw[<- hv3];rfl
   have CT1:=zh (fun W=>CTh.out true W);rw[hp]at CT1;clear hv3 hp hf;obtain⟨va,vb,vc,vd,ve,vf⟩:=v
   try dsimp only at CT1 ⊢
   unfold kI at CFo
   go_wp2_with fail
   refine(CTr.out _).mono ?_;rintro e x1 ⟨rfl,hb⟩;replace HI:=zh (HI.out.next hb);replace HK:=zh (HK.out.trans (Kp.of_below hb));replace HA:=zh (HA.out.next hb);replace HB:=zh (HB.out.next hb);replace HV:=zh (HV.out.next hb);clear hb;have b0:=HB.out.li.cell 0;have b1:=HB.out.li.cell 1;have b2:=HB.out.li.cell 2;simp only[za,zb,zf]at b0 b1 b2
   go_wp2_with fail
   refine(CFo.out _).mono ?_;rintro e x2 ⟨rfl,hb⟩;replace HI:=zh (HI.out.next hb);replace HK:=zh (HK.out.trans (Kp.of_below hb));replace HA:=zh (HA.out.next hb);replace HB:=zh (HB.out.next hb);replace HV:=zh (HV.out.next hb);clear hb
   go_wp2_with fail
   refine(CT1.out _).mono ?_;rintro e x3 ⟨rfl,hb⟩;replace HI:=zh (HI.out.next hb);replace HK:=zh (HK.out.trans (Kp.of_below hb));replace HA:=zh (HA.out.next hb);replace HB:=zh (HB.out.next hb);replace HV:=zh (HV.out.next hb);clear hb;have v0:=HV.out.li.cell 0;have v1:=HV.out.li.cell 1;have v2:=HV.out.li.cell 2;have v3:=HV.out.li.cell 3;have v4:=HV.out.li.cell 4;have v5:=HV.out.li.cell 5;have g0:=HV.out.li.frozen 0;have g1:=HV.out.li.frozen 1;have g2:=HV.out.li.frozen 2;have g3:=HV.out.li.frozen 3;have g4:=HV.out.li.frozen 4;have g5:=HV.out.li.frozen 5;simp only[za,zb,zf]at v0 v1 v2 v3 v4 v5
   all_goals go_wp2_with fail
   all_goals go_meet
   all_goals exact⟨zh (HI.out.own hE HV.out (by decide) (by decide) (((((((Kp.refl _ _).set (.inl (.head _)) 0 _).set (.inl (.head _)) 1 _).set (.inl (.head _)) 2 _).set (.inl (.head _)) 3 _).set (.inl (.head _)) 4 _).set (.inl (.head _)) 5 _)),zh (HK.out.own HV.out (((((((Kp.refl _ _).set (.inl (.head _)) 0 _).set (.inl (.head _)) 1 _).set (.inl (.head _)) 2 _).set (.inl (.head _)) 3 _).set (.inl (.head _)) 4 _).set (.inl (.head _)) 5 _)),zh ((((((HA.out.off bv 0 _).off bv 1 _).off bv 2 _).off bv 3 _).off bv 4 _).off bv 5 _),zh ((((((HV.out.put 0 _).put 1 _).put 2 _).put 3 _).put 4 _).put 5 _)⟩
  rw[hf]at CFo;have hp:mO false=v:=by
   rw[hf]at hv3;rw[<- hv3];rfl
  have CT1:=zh (fun W=>CTh.out false W);rw[hp]at CT1;clear hv3 hp hf;obtain⟨va,vb,vc,vd,ve,vf⟩:=v
  try dsimp only at CT1 ⊢
  unfold iQ at CFo
  go_wp2_with fail
  refine(CTr.out _).mono ?_;rintro e x1 ⟨rfl,hb⟩;replace HI:=zh (HI.out.next hb);replace HK:=zh (HK.out.trans (Kp.of_below hb));replace HA:=zh (HA.out.next hb);replace HB:=zh (HB.out.next hb);replace HV:=zh (HV.out.next hb);clear hb;have b0:=HB.out.li.cell 0;have b1:=HB.out.li.cell 1;have b2:=HB.out.li.cell 2;simp only[za,zb,zf]at b0 b1 b2
  go_wp2_with fail
  refine(CFo.out _).mono ?_;rintro e x2 ⟨rfl,hb⟩;replace HI:=zh (HI.out.next hb);replace HK:=zh (HK.out.trans (Kp.of_below hb));replace HA:=zh (HA.out.next hb);replace HB:=zh (HB.out.next hb);replace HV:=zh (HV.out.next hb);clear hb
  go_wp2_with fail
  refine(CT1.out _).mono ?_;rintro e x3 ⟨rfl,hb⟩;replace HI:=zh (HI.out.next hb);replace HK:=zh (HK.out.trans (Kp.of_below hb));replace HA:=zh (HA.out.next hb);replace HB:=zh (HB.out.next hb);replace HV:=zh (HV.out.next hb);clear hb;have v0:=HV.out.li.cell 0;have v1:=HV.out.li.cell 1;have v2:=HV.out.li.cell 2;have v3:=HV.out.li.cell 3;have v4:=HV.out.li.cell 4;have v5:=HV.out.li.cell 5;have g0:=HV.out.li.frozen 0;have g1:=HV.out.li.frozen 1;have g2:=HV.out.li.frozen 2;have g3:=HV.out.li.frozen 3;have g4:=HV.out.li.frozen 4;have g5:=HV.out.li.frozen 5;simp only[za,zb,zf]at v0 v1 v2 v3 v4 v5
  all_goals go_wp2_with fail
  all_goals go_meet
  all_goals exact⟨zh (HI.out.own hE HV.out (by decide) (by decide) (((((((Kp.refl _ _).set (.inl (.head _)) 0 _).set (.inl (.head _)) 1 _).set (.inl (.head _)) 2 _).set (.inl (.head _)) 3 _).set (.inl (.head _)) 4 _).set (.inl (.head _)) 5 _)),zh (HK.out.own HV.out (((((((Kp.refl _ _).set (.inl (.head _)) 0 _).set (.inl (.head _)) 1 _).set (.inl (.head _)) 2 _).set (.inl (.head _)) 3 _).set (.inl (.head _)) 4 _).set (.inl (.head _)) 5 _)),zh ((((((HA.out.off bv 0 _).off bv 1 _).off bv 2 _).off bv 3 _).off bv 4 _).off bv 5 _),zh ((((((HV.out.put 0 _).put 1 _).put 2 _).put 3 _).put 4 _).put 5 _)⟩
 case rest=>
  obtain⟨kv,j9,lj,HV4⟩:=hcut;clear fj ig iw au HV3 CT CPn CPo CTx CFa CBa CTr CFo CTh hv ht;have r1:=kv.out.rd.cell 1;have fr1:=kv.out.rd.frozen 1;simp only[za,zb,zf]at r1;have ol:(k:Int)<=1000000:=by omega
  have mv:Hid (Kp [E.r] wc (wc.setCell ⟨E.r,1,none⟩ (.int .i64 ((k:Int)+1)))):=zh ((Kp.refl _ _).set (.inl (.head _)) 1 _);have nj:Hid (InE E (k+1) op nd pl er (wc.setCell ⟨E.r,1,none⟩ (.int .i64 ((k:Int)+1)))):=zh (kv.out.wrote hE mv.out (kv.out.rd.put 1 _));have j3:=zh (j9.out.trans mv.out.X);have j2:=zh (lj.out.kp mv.out.X);have HV5:=zh (HV4.out.kp mv.out.X)
  go_upto_region 18 with fail
  generalize wc.setCell ⟨E.r,1,none⟩ (.int .i64 ((k:Int)+1))=w5 at *;clear kv j9 lj HV4 mv r1 fr1;have v0:=HV5.out.li.cell 0;have v1:=HV5.out.li.cell 1;have v2:=HV5.out.li.cell 2;have v3:=HV5.out.li.cell 3;have v4:=HV5.out.li.cell 4;have v5:=HV5.out.li.cell 5;simp only[za,zb,zf]at v0 v1 v2 v3 v4 v5
  go_wp2_with fail
  refine(CN.out w5 nj.out).mono ?_;rintro e w6 ⟨rfl,h1,h2⟩;have ml:=zh h1;have iv:=zh (j3.out.trans h2.X);have ji:=zh (j2.out.kp h2.X);clear h1 h2 nj j3 j2 HV5 CN v0 v1 v2 v3 v4 v5;have bn:Kp [q] w6 (w6.setCells q 0 C):=aQ (.inl (.head _)) C 0 (Kp.refl _ _);have gq:=zh (ml.out.own hE ji.out (by decide) (by decide) bn);have nk:=zh (iv.out.own ji.out bn);have HT:Hid (w6.there q 0 22):=zh ji.out.li.thereA;have dw:Hid (Lies (w6.setCells q 0 C) q 41 C.toArray):=zh (ji.out.li.putAll yC.out);clear bn ml iv ji;have zi:=fv yC.out
  go_wp2_with (first |(refine yq rfl 41 (.tmp 2) (.tmp 70) rfl q 0 C.toArray rfl rfl (by rw[yd,yC.out];exact HT.out) zi dx.out ?_;change wpList _ _ _ _ _ (w6.setCells q 0 C);generalize w6.setCells q 0 C=w7 at gq nk dw ⊢))
  refine yt (aO rfl rfl dw.out (by rw[yd,yC.out])) rfl ?_;exact⟨rfl,gq.out,nk.out⟩
theorem uFG(E:Env)(hE:E.ok)(k op nd pl er:Nat)(w:World)(hI:InE E k op nd pl er w)(hk:k+1<E.L.length)(hL:E.L.length<=1000000)(ht:(E.at k).text.length<=100000)(hn:nd<=k)(v:Val)(hv:eM (E.at k)=.ok v) :
  Calls Tryz.prog 117 #[.pointer (some ⟨E.r,0,none⟩)] w (NPost E w k op nd pl er (.ok (jJ v) (E.L.drop (k+1)) (nd+1))):=by
 refine(rY E hE k op nd pl er w hI hk hL ht hn v hv).mono ?_;rintro e w' ⟨rfl,h1,h2⟩;obtain⟨C,hC,ai,ec,ii⟩:=fD (nd+1) (oD v) rfl (nI v);rw[hC];refine⟨k+1,C.toArray,rfl,by omega,hk,rfl,by omega,by omega,h1,h2,by rw[yd,ai],ec,fun hn=>⟨none,0,?_,.inl rfl⟩⟩;rw[ii hn];rfl
set_option maxRecDepth 100000 in
theorem pW(E:Env)(hE:E.ok)(k op nd pl er:Nat)(w:World)(hI:InE E k op nd pl er w)(hk:k<E.L.length)(ht:(E.at k).text.length<=100000)(er':Nat)(hv:eM (E.at k)=.error er') :
  Calls Tryz.prog 117 #[.pointer (some ⟨E.r,0,none⟩)] w (fun e w'=>e=.returned (.tuple #[.agg aA.toArray,.bool false])/\InE E k op nd (E.at k).place er' w'/\Kp E.X w w'):=by
 have CT:=zh (fun W h=>cE E k op nd pl er W h hk);have CW:=zh (fun W h e=>fB E hE k op nd pl er e W h hk);have CPn:=zh (fun W=>xP (E.at k).text W (by omega));have CTr:=zh (fun W=>nG (E.at k) W ht);generalize E.at k=t at *;obtain⟨tk,tx,tp⟩:=t;dsimp only[tkV]at CT CPn CTr CW ⊢;have HF:=zh hI;have cj:=zh (hI.next (zp (.cells aA.toArray 41)));have cf:Hid (Kp E.X w (w.alloc (.cells aA.toArray 41))):=zh ((Kp.refl _ _).alloc _);have cd:=zh (Own1.new hI (Kp.refl E.X w) 41 aA.toArray);clear hI;simp only[aA]at cj cf cd
 go_enter Tryz.func117,Tryz.ntmps117
 go_upto_region 1 with fail
 generalize w.alloc (.cells zM 41)=W1 at cj cf cd ⊢;generalize fa:w.heap.size=q at cd ⊢;clear fa
 go_wp2_with fail
 refine(CT.out W1 cj.out).mono ?_;rintro e w1 ⟨rfl,hb⟩;have fp:=zh (cj.out.next hb);have ee:=zh (cf.out.trans (Kp.of_below hb));have jh:=zh (cd.out.next hb);clear hb cj cf cd
 go_upto_region 2 with fail
 have ct:=zh (fp.out.next (zp (.cells #[.int .i64 tk,.string ⟨tx.toArray⟩,.int .i64 (tp:Int)] 70)));have bq:=zh (jh.out.next (zp (.cells #[.int .i64 tk,.string ⟨tx.toArray⟩,.int .i64 (tp:Int)] 70)));have co:=zh (Own1.new HF.out ee.out 70 #[.int .i64 tk,.string ⟨tx.toArray⟩,.int .i64 (tp:Int)]);have cq:=zh (ee.out.alloc (.cells #[.int .i64 tk,.string ⟨tx.toArray⟩,.int .i64 (tp:Int)] 70));have bp:q≠w1.heap.size:=by have:=jh.out.li.lt;omega
 generalize w1.alloc (.cells #[.int .i64 tk,.string ⟨tx.toArray⟩,.int .i64 (tp:Int)] 70)=w2 at *;generalize w1.heap.size=q1 at *;clear fp jh ee
 go_upto_block 0 with fail
 have fj:=zh (ct.out.next (zp (.cells (kN aC) 32)));have iw:=zh (bq.out.next (zp (.cells (kN aC) 32)));have au:=zh (co.out.next (zp (.cells (kN aC) 32)));have HV3:=zh (Own1.new HF.out cq.out 32 (kN aC));have ig:=zh (cq.out.alloc (.cells (kN aC) 32));have bv:q≠w2.heap.size:=by have:=bq.out.li.lt;omega
 have o8:q1≠w2.heap.size:=by have:=co.out.li.lt;omega
 simp only[aC]at fj iw au HV3 ig;generalize w2.alloc (.cells #[.int .i64 0,.int .i64 0,.int .i64 0,.string ⟨#[]⟩,.bool false,.int .i64 0] 32)=w3 at fj iw au HV3 ig ⊢;generalize w2.heap.size=q2 at *;clear ct bq co cq;have HI:=fj;have HK:=ig;have HA:=iw;have HB:=au;clear fj ig iw au HV3 CT;have b0:=HB.out.li.cell 0;have b1:=HB.out.li.cell 1;have b2:=HB.out.li.cell 2;simp only[za,zb,zf]at b0 b1 b2;by_cases h1:tk=1
 ·subst h1;have hp:eO tx=none/\er'=2:=by
   unfold eM at hv;simp only[if_pos]at hv;cases hq:eO tx with
   |none=>rw[hq]at hv;injection hv with hv;exact⟨rfl,hv.symm⟩
   |some q=>rw[hq]at hv;cases hv
  obtain⟨hp,rfl⟩:=hp;rw[hp]at CPn;clear hv hp CTr;unfold iT at CPn;dsimp only at CPn
  go_wp2_with fail
  refine(CPn.out _).mono ?_;rintro e x1 ⟨rfl,hb⟩;replace HI:=zh (HI.out.next hb);replace HK:=zh (HK.out.trans (Kp.of_below hb));replace HA:=zh (HA.out.next hb);replace HB:=zh (HB.out.next hb);clear hb
  go_upto_region 6 with fail
  have pf:∀ o,Below x1.heap.size x1 (x1.alloc o):=fun o=>zp o
  replace HI:=zh (HI.out.next (pf (.cells #[.int .i64 0,.int .i64 0] 30)));replace HK:=zh (HK.out.alloc (.cells #[.int .i64 0,.int .i64 0] 30));replace HA:=zh (HA.out.next (pf (.cells #[.int .i64 0,.int .i64 0] 30)));replace HB:=zh (HB.out.next (pf (.cells #[.int .i64 0,.int .i64 0] 30)));generalize x1.alloc (.cells #[.int .i64 0,.int .i64 0] 30)=x2 at HI HK HA HB ⊢;generalize x1.heap.size=qn at *;clear pf
  go_wp2_with fail
  refine(CW.out _ HI.out 2).mono ?_;rintro e w6 ⟨rfl,h1,h2⟩;have ml:=zh h1;have iv:=zh (HK.out.trans h2.X);have ji:=zh (HA.out.kp h2.X);clear h1 h2 HI HK HA HB CW;have bn:Kp [q] w6 (w6.setCells q 0 aA):=aQ (.inl (.head _)) aA 0 (Kp.refl _ _);have gq:=zh (ml.out.own hE ji.out (by decide) (by decide) bn);have nk:=zh (iv.out.own ji.out bn);have HT:Hid (w6.there q 0 22):=zh ji.out.li.thereA;have dw:Hid (Lies (w6.setCells q 0 aA) q 41 aA.toArray):=zh (ji.out.li.putAll rfl);clear bn ml iv ji
  go_wp2_with (first |(refine yq rfl 41 (.tmp 2) (.tmp 25) rfl q 0 aA.toArray rfl rfl HT.out aE bB ?_;change wpList _ _ _ _ _ (w6.setCells q 0 aA);generalize w6.setCells q 0 aA=w7 at gq nk dw ⊢))
  refine yt (aO rfl rfl dw.out rfl) rfl ?_;exact⟨rfl,gq.out,nk.out⟩
 by_cases h2:tk=2
 ·subst h2;have hp:255<tx.length/\er'=14:=by
   unfold eM at hv;simp only[if_pos,show ¬ (2=1) by decide,if_false]at hv;by_cases hl:255<tx.length
   ·simp only[hl,if_true]at hv;injection hv with hv;exact⟨hl,hv.symm⟩
   simp[hl]at hv
  obtain⟨hp,rfl⟩:=hp;clear hv h1 CTr CPn
  go_wp2_with fail
  refine(CW.out _ HI.out 14).mono ?_;rintro e w6 ⟨rfl,h1,h2⟩;have ml:=zh h1;have iv:=zh (HK.out.trans h2.X);have ji:=zh (HA.out.kp h2.X);clear h1 h2 HI HK HA HB CW;have bn:Kp [q] w6 (w6.setCells q 0 aA):=aQ (.inl (.head _)) aA 0 (Kp.refl _ _);have gq:=zh (ml.out.own hE ji.out (by decide) (by decide) bn);have nk:=zh (iv.out.own ji.out bn);have HT:Hid (w6.there q 0 22):=zh ji.out.li.thereA;have dw:Hid (Lies (w6.setCells q 0 aA) q 41 aA.toArray):=zh (ji.out.li.putAll rfl);clear bn ml iv ji
  go_wp2_with (first |(refine yq rfl 41 (.tmp 2) (.tmp 38) rfl q 0 aA.toArray rfl rfl HT.out aE bB ?_;change wpList _ _ _ _ _ (w6.setCells q 0 aA);generalize w6.setCells q 0 aA=w7 at gq nk dw ⊢))
  refine yt (aO rfl rfl dw.out rfl) rfl ?_;exact⟨rfl,gq.out,nk.out⟩
 have h6:tk≠6:=by
  intro h6;subst h6;unfold eM at hv;simp at hv
 have hp:cJ ⟨tk,tx,tp⟩=false/\er'=6:=by
  unfold eM at hv;simp only[h1,h2,h6,if_false]at hv;by_cases hi:cJ ⟨tk,tx,tp⟩=true
  ·simp[hi]at hv
  simp only[hi]at hv;injection hv with hv;exact⟨by simpa using hi,hv.symm⟩
 obtain⟨hp,rfl⟩:=hp;rw[hp]at CTr;have n1:((tk:Int)==1)=false:=by simp;omega
 have n2:((tk:Int)==2)=false:=by simp;omega
 have n6:((tk:Int)==6)=false:=by simp;omega
 clear hv hp h1 h2 h6 CPn
 go_wp2_with fail
 refine(CTr.out _).mono ?_;rintro e x1 ⟨rfl,hb⟩;replace HI:=zh (HI.out.next hb);replace HK:=zh (HK.out.trans (Kp.of_below hb));replace HA:=zh (HA.out.next hb);replace HB:=zh (HB.out.next hb);clear hb
 go_wp2_with fail
 refine(CW.out _ HI.out 6).mono ?_;rintro e w6 ⟨rfl,h1,h2⟩;have ml:=zh h1;have iv:=zh (HK.out.trans h2.X);have ji:=zh (HA.out.kp h2.X);clear h1 h2 HI HK HA HB CW;have bn:Kp [q] w6 (w6.setCells q 0 aA):=aQ (.inl (.head _)) aA 0 (Kp.refl _ _);have gq:=zh (ml.out.own hE ji.out (by decide) (by decide) bn);have nk:=zh (iv.out.own ji.out bn);have HT:Hid (w6.there q 0 22):=zh ji.out.li.thereA;have dw:Hid (Lies (w6.setCells q 0 aA) q 41 aA.toArray):=zh (ji.out.li.putAll rfl);clear bn ml iv ji
 go_wp2_with (first |(refine yq rfl 41 (.tmp 2) (.tmp 10) rfl q 0 aA.toArray rfl rfl HT.out aE bB ?_;change wpList _ _ _ _ _ (w6.setCells q 0 aA);generalize w6.setCells q 0 aA=w7 at gq nk dw ⊢))
 refine yt (aO rfl rfl dw.out rfl) rfl ?_;exact⟨rfl,gq.out,nk.out⟩
theorem uBN(E:Env)(hE:E.ok)(k op nd pl er:Nat)(w:World)(hI:InE E k op nd pl er w)(hk:k<E.L.length)(ht:(E.at k).text.length<=100000)(er':Nat)(hv:eM (E.at k)=.error er') :
  Calls Tryz.prog 117 #[.pointer (some ⟨E.r,0,none⟩)] w (NPost E w k op nd pl er (.bad er' (E.at k).place)):=by
 refine(pW E hE k op nd pl er w hI hk ht er' hv).mono ?_;rintro e w' ⟨rfl,h1,h2⟩;exact⟨aA.toArray,k,op,nd,rfl,rfl,bB,zr,hk,zr,h1,h2⟩
theorem uJO(E:Env)(k:Nat)(c:Nat):cN (E.L.drop k) c=match eM (E.at k) with
  | .error e=>.bad e (E.at k).place
  | .ok v=>.ok (jJ v) (E.L.drop k).tail (c+1):=rfl
theorem rF{t:Tok}{v:Val}(h:eM t=.ok v):t.kind≠0:=by
 intro h0;unfold eM at h;rw[h0]at h;have hi:cJ t=false:=by unfold cJ;rw[h0];rfl
 simp[hi]at h
theorem nJ(E:Env)(hE:E.ok)(he:E.ends)(k op nd pl er:Nat)(w:World)(hI:InE E k op nd pl er w)(hk:k<E.L.length)(hL:E.L.length<=1000000)(ht:(E.at k).text.length<=100000)(hn:nd<=k) :
  Calls Tryz.prog 117 #[.pointer (some ⟨E.r,0,none⟩)] w (NPost E w k op nd pl er (cN (E.L.drop k) nd)):=by
 rw[uJO];cases hv:eM (E.at k) with
 |error e=>exact uBN E hE k op nd pl er w hI hk ht e hv
 |ok v=>
  have h:=uFG E hE k op nd pl er w hI (E.more he hk (rF hv)) hL ht hn v hv;rw[List.tail_drop];exact h
theorem xA(off:Nat):∀ (cs:List Value) (k:Nat) (A:Array Value),off+k+cs.length<=A.size->((cs.zipIdx k).foldl (fun(B:Array Value) (x:Value×Nat)=>B.setIfInBounds (off+x.2) x.1) A).toList=A.toList.take (off+k)++cs++A.toList.drop (off+k+cs.length)
 | [],k,A,_=>by simp
 |c::r,k,A,h=>by
  have hl:off+k<A.toList.length:=by simp at h ⊢;omega
  rw[List.zipIdx_cons,List.foldl_cons,xA off r (k+1) _ (by rw[Array.size_setIfInBounds];simp at h;omega)];rw[Array.toList_setIfInBounds];show (A.toList.set (off+k) c).take (off+k+1)++r++(A.toList.set (off+k) c).drop (off+k+1+r.length)=_;rw[yw (by simpa using hl),List.getElem_set_self,List.take_set_of_le zr,List.drop_set_of_lt (by omega)];simp[Nat.add_comm,Nat.add_left_comm]
theorem fold_set(off:Nat)(cs:List Value)(A:Array Value)(h:off+cs.length<=A.size):(cs.toArray.zipIdx.foldl (fun(B:Array Value) (x:Value×Nat)=>B.setIfInBounds (off+x.2) x.1) A)=(A.toList.take off++cs++A.toList.drop (off+cs.length)).toArray:=by
 have:=xA off cs 0 A (by simpa using h);rw[<- Array.foldl_toList,Array.toList_zipIdx];apply Array.toList_inj.1;simpa using this
theorem jQ:∃ i z,Tryz.prog.info? 41=some i/\i.size=22/\i.zero=some z/\z.cells.size=22:=by
 have h:((Tryz.prog.info? 41).bind (·.zero)).map (·.cells.size)=some 22:=by kernel_rfl
 have h2:=aE;cases hi:Tryz.prog.info? 41 with
 |none=>rw[hi]at h2;cases h2
 |some i=>
  rw[hi]at h h2;cases hz:i.zero with
  |none=>simp[hz]at h
  |some z=>
   simp[hz]at h;simp at h2;exact⟨i,z,rfl,h2,hz,h⟩
theorem nU:Tryz.prog.underlying 39=some (.slice 41):=by kernel_rfl
theorem gN(place:Nat->Option (Nat×Nat))(A:Array Value)(off n:Nat)(cs:List Value)(hn:cs.length=n)(i:Nat)(rest:List (Nat×Value))(hp:place i=some (off,n))(h:off+n<=A.size) :
  Instr.fill place A ((i,.agg cs.toArray)::rest)=Instr.fill place (A.toList.take off++cs++A.toList.drop (off+n)).toArray rest:=by
 subst hn;have hf:=fold_set off cs A h;rw[<- hf]
 conv=>lhs;unfold Instr.fill
 rw[hp];refine if_neg ?_;simp[Value.cells];omega
theorem built1(cs:List Value)(h:cs.length=22):Tryz.prog.builtSlice 41 1 [(0,.agg cs.toArray)]=some cs.toArray:=by
 obtain⟨i,z,h1,h2,h3,h4⟩:=jQ;unfold Program.builtSlice;rw[h1];simp only[h3,h2];rw[if_neg (by decide),gN _ _ (0*22) 22 cs h 0 [] rfl (by simp)];show some _=some _;simp
theorem built2(c1 c2:List Value)(mn:c1.length=22)(rs:c2.length=22):Tryz.prog.builtSlice 41 2 [(0,.agg c1.toArray),(1,.agg c2.toArray)]=some (c1++c2).toArray:=by
 obtain⟨i,z,h1,h2,h3,h4⟩:=jQ;unfold Program.builtSlice;rw[h1];simp only[h3,h2];rw[if_neg (by decide),gN _ _ (0*22) 22 c1 mn 0 _ rfl (by simp),gN _ _ (1*22) 22 c2 rs 1 [] rfl (by simp[mn])];show some _=some _;simp[mn]
theorem KidsAt.one{W:World}{X:List Nat}{g nd:Nat}{t:Tree}{cs:List Value}(hl:Lies W g 41 cs.toArray)(hv:NV W X nd t cs.toArray)(hn:nd<=256)(hx:g∉X)(A:Option Addr)(hA:A=some ⟨g,0,none⟩):KidsOk W X A [t]:=by
 obtain⟨fb,h1,h3⟩:=hv;obtain⟨B,cp,e,hk⟩:=h3 hn;refine .inr ⟨g,hA,hx,hl.lt,?_,trivial⟩;cases t with
 |mk h l=>
  refine⟨B,cp,fun j hj=>?_,hk⟩;rw[show 0*22+j=j by omega,hl.cell j,e];rfl
theorem KidsAt.two{W:World}{X:List Nat}{g nd:Nat}{t1 t2:Tree}{c1 c2:List Value}(hl:Lies W g 41 (c1++c2).toArray)(hv1:NV W X nd t1 c1.toArray)(hv2:NV W X nd t2 c2.toArray)(hn:nd<=256)(hx:g∉X)(A:Option Addr)(hA:A=some ⟨g,0,none⟩):KidsOk W X A [t1,t2]:=by
 obtain⟨fb,h1,h3⟩:=hv1;obtain⟨k22,k1,k3⟩:=hv2;obtain⟨B,cp,e,hk⟩:=h3 hn;obtain⟨B',qy,e',hk'⟩:=k3 hn;rw[yd]at fb k22;refine .inr ⟨g,hA,hx,hl.lt,?_,?_,trivial⟩
 ·cases t1 with
  |mk h l=>
   refine⟨B,cp,fun j hj=>?_,hk⟩;rw[show 0*22+j=j by omega,hl.cell j,za,List.getElem?_append_left (by omega),<- za,e];rfl
 cases t2 with
 |mk h l=>
  refine⟨B',qy,fun j hj=>?_,hk'⟩;rw[hl.cell _,za,List.getElem?_append_right (by omega),show (0+1)*22+j-c1.length=j by omega,<- za,e'];rfl
end Go.Proofs.YtmgjidnalpgegaaGreatDoor
