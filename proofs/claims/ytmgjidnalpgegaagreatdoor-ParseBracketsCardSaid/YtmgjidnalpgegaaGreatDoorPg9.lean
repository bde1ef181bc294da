/-
  Lemmas, part 9: Par9 ParA ParB ParC ParD.
-/
import Derived.Deep.CutBlock
import Derived.Great.BuildSlice
import Derived.Great.Walk
import Derived.Test.YtmgjidnalpgegaaGreatDoorPg8
namespace Go.Proofs.YtmgjidnalpgegaaGreatDoor
open Go.RowKit
set_option maxRecDepth 100000 in
set_option maxHeartbeats 3200000 in
theorem cell_row(E:Env)(hE:E.ok)(k op nd pl er:Nat)(w:World)(hI:InE E k op nd pl er w)(hk:k<E.L.length)(ht:(E.at k).text.length≤100000)(m:Mk)
  (h4:(E.at k).kind=4) (hm:bC (E.at k).text=some m) (hx:E.ax.rows[m.row]?=none) (hmr:m.row≤100000000) :
  Calls Tryz.prog 132 #[.pointer (some ⟨E.r,0,none⟩)] w (StepX E w k op nd (E.at k).place 18 (.tuple #[iU aH,.bool false])):=by
 have CT:=zh (fun W h=>bT E k op nd pl er W h hk);have CP:=zh (fun W=>gX (E.at k).text W ht);unfold iI at CP;rw[hm]at CP;have CL1:=zh (fun W h=>xT E hE k op nd pl er E.pa E.ax.rows m.row W h (.inl ⟨rfl,rfl⟩) hmr hx hk);generalize E.at k=t at *;obtain⟨tk,tx,tp⟩:=t;obtain⟨mr,mc,mfr,mfc⟩:=m;dsimp only[tkV,jE]at CT CP h4 CL1 ⊢;subst h4;clear ht hm hx hmr;have HI0:=zh (hI.next ((Below.refl _ _).alloc (Nat.le_refl _) (.cells bP 36)));have HK0:Hid (Kp E.X w (w.alloc (.cells bP 36))):=zh ((Kp.refl _ _).alloc _);have HA0:=zh (Own1.new hI (Kp.refl E.X w) 36 bP);have HF:=zh hI;clear hI;have hf0:=lU;have hf1:=mX
 go_enter Tryz.func132,Tryz.ntmps132
 go_upto_region 1 with fail
 generalize w.alloc (.cells bP 36)=W1 at *;generalize w.heap.size=q at *
 go_wp2_with fail
 refine(CT.out W1 HI0.out).mono ?_;rintro e w1 ⟨rfl,hb⟩;have HI1:=zh (HI0.out.next hb);have HK1:=zh (HK0.out.trans (Kp.of_below hb));have HA1:=zh (HA0.out.next hb);clear hb HI0 HK0 HA0
 go_wp2_with fail
 refine(CP.out w1).mono ?_;rintro e w2 ⟨rfl,hb⟩;have HI2:=zh (HI1.out.next hb);have HK2:=zh (HK1.out.trans (Kp.of_below hb));have HA2:=zh (HA1.out.next hb);clear hb HI1 HK1 HA1
 go_upto_region 2 with fail
 have HI3:=zh (HI2.out.next ((Below.refl _ _).alloc (Nat.le_refl _) (.cells #[.int .i64 (mr:Int),.int .i64 (mc:Int),.bool mfr,.bool mfc] 150)));have HA3:=zh (HA2.out.next ((Below.refl _ _).alloc (Nat.le_refl _) (.cells #[.int .i64 (mr:Int),.int .i64 (mc:Int),.bool mfr,.bool mfc] 150)));have HB3:=zh (Own1.new HF.out HK2.out 150 #[.int .i64 (mr:Int),.int .i64 (mc:Int),.bool mfr,.bool mfc]);have HK3:=zh (HK2.out.alloc (.cells #[.int .i64 (mr:Int),.int .i64 (mc:Int),.bool mfr,.bool mfc] 150));have hne:q≠w2.heap.size:=by have:=HA2.out.li.lt;omega
 generalize w2.alloc (.cells #[.int .i64 (mr:Int),.int .i64 (mc:Int),.bool mfr,.bool mfc] 150)=w3 at *;generalize w2.heap.size=q1 at *;clear HI2 HA2 HK2
 go_wp2_with fail
 refine(CT.out w3 HI3.out).mono ?_;rintro e w4 ⟨rfl,hb⟩;have HI4:=zh (HI3.out.next hb);have HK4:=zh (HK3.out.trans (Kp.of_below hb));have HA4:=zh (HA3.out.next hb);have HB4:=zh (HB3.out.next hb);clear hb HI3 HK3 HA3 HB3;have b0:=HB4.out.li.cell 0;have b1:=HB4.out.li.cell 1;have b2:=HB4.out.li.cell 2;have b3:=HB4.out.li.cell 3;simp only[List.getElem?_toArray,List.getElem?_cons_zero,List.getElem?_cons_succ]at b0 b1 b2 b3
 go_upto_region 5 with fail
 have HI5:=zh (HI4.out.next ((Below.refl _ _).alloc (Nat.le_refl _) (.cells #[.int .i64 0,.int .i64 0,.int .i64 0,.int .i64 0,.bool mfr,.bool mfc] 36)));have HA5:=zh (HA4.out.next ((Below.refl _ _).alloc (Nat.le_refl _) (.cells #[.int .i64 0,.int .i64 0,.int .i64 0,.int .i64 0,.bool mfr,.bool mfc] 36)));have HB5:=zh (HB4.out.next ((Below.refl _ _).alloc (Nat.le_refl _) (.cells #[.int .i64 0,.int .i64 0,.int .i64 0,.int .i64 0,.bool mfr,.bool mfc] 36)));have HC5:=zh (Own1.new HF.out HK4.out 36 #[.int .i64 0,.int .i64 0,.int .i64 0,.int .i64 0,.bool mfr,.bool mfc]);have HK5:=zh (HK4.out.alloc (.cells #[.int .i64 0,.int .i64 0,.int .i64 0,.int .i64 0,.bool mfr,.bool mfc] 36));have hne2:q≠w4.heap.size:=by have:=HA4.out.li.lt;omega
 have hne3:q1≠w4.heap.size:=by have:=HB4.out.li.lt;omega
 generalize w4.alloc (.cells #[.int .i64 0,.int .i64 0,.int .i64 0,.int .i64 0,.bool mfr,.bool mfc] 36)=w5 at *;generalize w4.heap.size=q2 at *;clear HI4 HA4 HB4 HK4 b0 b1 b2 b3;have b0:=HB5.out.li.cell 0;have b1:=HB5.out.li.cell 1;have r4:=HI5.out.rd.cell 4;have r5:=HI5.out.rd.cell 5;simp only[List.getElem?_toArray,List.getElem?_cons_zero,List.getElem?_cons_succ]at b0 b1 r4 r5
 go_cut [5] (fun v wx=>v=.bool false∧Hid (InE E k op nd tp 18 wx)∧Hid (Kp E.X w wx)∧Hid (Own1 E w wx q 36 bP))
 case first=>
  go_region_with ((go_at_call 134;refine(CL1.out w5.drew (HI5.out.next (Below.refl _ _).drew)).mono ?_;rintro e w6 ⟨rfl,h1,h2⟩;have HI6:=zh h1;have HK6:=zh (HK5.out.drew.trans h2);have HA6:=zh ((HA5.out.next (Below.refl _ _).drew).kp h2);have HC6:=zh ((HC5.out.next (Below.refl _ _).drew).kp h2);clear h1 h2;have c0:=HC6.out.li.cell 0;have c1:=HC6.out.li.cell 1;have g0:=HC6.out.li.frozen 0;have g1:=HC6.out.li.frozen 1;simp only[List.getElem?_toArray,List.getElem?_cons_zero,List.getElem?_cons_succ]at c0 c1))
  all_goals go_wp2_with fail
  all_goals go_meet
  all_goals exact⟨rfl,zh (HI6.out.own hE HC6.out (by decide) (by decide) (((Kp.refl _ _).set (.inl (.head _)) 0 _).set (.inl (.head _)) 1 _)),zh (HK6.out.own HC6.out (((Kp.refl _ _).set (.inl (.head _)) 0 _).set (.inl (.head _)) 1 _)),zh ((HA6.out.off hne2 0 _).off hne2 1 _)⟩
 case rest=>
  obtain⟨rfl,HI7,HK7,HA7⟩:=hcut;clear HI5 HK5 HA5 HB5 HC5 b0 b1 r4 r5 CT CP CL1;have HP:Hid (∀ W',Kp [q] wc W'→StepX E w k op nd tp 18 (.tuple #[iU aH,.bool false]) (.returned (.tuple #[iU aH,.bool false])) W'):=zh (fun W' h=>⟨rfl,HI7.out.own hE HA7.out (by decide) (by decide) h,HK7.out.own HA7.out h⟩);have a0:=HA7.out.li.cell 0;have a1:=HA7.out.li.cell 1;have a2:=HA7.out.li.cell 2;have a3:=HA7.out.li.cell 3;have a4:=HA7.out.li.cell 4;have a5:=HA7.out.li.cell 5;have g0:=HA7.out.li.frozen 0;have g1:=HA7.out.li.frozen 1;have g2:=HA7.out.li.frozen 2;have g3:=HA7.out.li.frozen 3;have g4:=HA7.out.li.frozen 4;have g5:=HA7.out.li.frozen 5;simp only[bP,List.getElem?_toArray,List.getElem?_cons_zero,List.getElem?_cons_succ]at a0 a1 a2 a3 a4 a5
  go_wp2_with fail
  refine bodyPost_ret (v:=.tuple #[iU aH,.bool false]) (by simp[results,Tryz.results132,go_sem,a0,a1,a2,a3,a4,a5]) rfl ?_;exact HP.out _ ((((((((Kp.refl _ _).set (.inl (.head _)) 0 _).set (.inl (.head _)) 1 _).set (.inl (.head _)) 2 _).set (.inl (.head _)) 3 _).set (.inl (.head _)) 4 _).set (.inl (.head _)) 5 _))
set_option maxRecDepth 100000 in
set_option maxHeartbeats 3200000 in
theorem cell_col(E:Env)(hE:E.ok)(k op nd pl er:Nat)(w:World)(hI:InE E k op nd pl er w)(hk:k<E.L.length)(ht:(E.at k).text.length≤100000)(m:Mk)(x:IdR)
  (h4:(E.at k).kind=4) (hm:bC (E.at k).text=some m) (hx:E.ax.rows[m.row]?=some x) (hy:E.ax.cols[m.col]?=none) (hmr:m.row≤100000000) (hmc:m.col≤100000000) :
  Calls Tryz.prog 132 #[.pointer (some ⟨E.r,0,none⟩)] w (StepX E w k op nd (E.at k).place 18 (.tuple #[iU aH,.bool false])):=by
 have CT:=zh (fun W h=>bT E k op nd pl er W h hk);have CP:=zh (fun W=>gX (E.at k).text W ht);unfold iI at CP;rw[hm]at CP;have CL1:=zh (fun W h=>pA E hE k op nd pl er E.pa E.ax.rows m.row x W h (.inl ⟨rfl,rfl⟩) hmr hx);have CL2:=zh (fun W h=>xT E hE k op nd pl er E.pb E.ax.cols m.col W h (.inr ⟨rfl,rfl⟩) hmc hy hk);generalize E.at k=t at *;obtain⟨tk,tx,tp⟩:=t;obtain⟨mr,mc,mfr,mfc⟩:=m;dsimp only[tkV,jE]at CT CP h4 CL1 CL2 ⊢;subst h4;clear ht hm hx hy hmr hmc;have HI0:=zh (hI.next ((Below.refl _ _).alloc (Nat.le_refl _) (.cells bP 36)));have HK0:Hid (Kp E.X w (w.alloc (.cells bP 36))):=zh ((Kp.refl _ _).alloc _);have HA0:=zh (Own1.new hI (Kp.refl E.X w) 36 bP);have HF:=zh hI;clear hI;have hf0:=lU;have hf1:=mX;obtain⟨xa,xn⟩:=x
 go_enter Tryz.func132,Tryz.ntmps132
 go_upto_region 1 with fail
 generalize w.alloc (.cells bP 36)=W1 at *;generalize w.heap.size=q at *
 go_wp2_with fail
 refine(CT.out W1 HI0.out).mono ?_;rintro e w1 ⟨rfl,hb⟩;have HI1:=zh (HI0.out.next hb);have HK1:=zh (HK0.out.trans (Kp.of_below hb));have HA1:=zh (HA0.out.next hb);clear hb HI0 HK0 HA0
 go_wp2_with fail
 refine(CP.out w1).mono ?_;rintro e w2 ⟨rfl,hb⟩;have HI2:=zh (HI1.out.next hb);have HK2:=zh (HK1.out.trans (Kp.of_below hb));have HA2:=zh (HA1.out.next hb);clear hb HI1 HK1 HA1
 go_upto_region 2 with fail
 have HI3:=zh (HI2.out.next ((Below.refl _ _).alloc (Nat.le_refl _) (.cells #[.int .i64 (mr:Int),.int .i64 (mc:Int),.bool mfr,.bool mfc] 150)));have HA3:=zh (HA2.out.next ((Below.refl _ _).alloc (Nat.le_refl _) (.cells #[.int .i64 (mr:Int),.int .i64 (mc:Int),.bool mfr,.bool mfc] 150)));have HB3:=zh (Own1.new HF.out HK2.out 150 #[.int .i64 (mr:Int),.int .i64 (mc:Int),.bool mfr,.bool mfc]);have HK3:=zh (HK2.out.alloc (.cells #[.int .i64 (mr:Int),.int .i64 (mc:Int),.bool mfr,.bool mfc] 150));have hne:q≠w2.heap.size:=by have:=HA2.out.li.lt;omega
 generalize w2.alloc (.cells #[.int .i64 (mr:Int),.int .i64 (mc:Int),.bool mfr,.bool mfc] 150)=w3 at *;generalize w2.heap.size=q1 at *;clear HI2 HA2 HK2
 go_wp2_with fail
 refine(CT.out w3 HI3.out).mono ?_;rintro e w4 ⟨rfl,hb⟩;have HI4:=zh (HI3.out.next hb);have HK4:=zh (HK3.out.trans (Kp.of_below hb));have HA4:=zh (HA3.out.next hb);have HB4:=zh (HB3.out.next hb);clear hb HI3 HK3 HA3 HB3;have b0:=HB4.out.li.cell 0;have b1:=HB4.out.li.cell 1;have b2:=HB4.out.li.cell 2;have b3:=HB4.out.li.cell 3;simp only[List.getElem?_toArray,List.getElem?_cons_zero,List.getElem?_cons_succ]at b0 b1 b2 b3
 go_upto_region 5 with fail
 have HI5:=zh (HI4.out.next ((Below.refl _ _).alloc (Nat.le_refl _) (.cells #[.int .i64 0,.int .i64 0,.int .i64 0,.int .i64 0,.bool mfr,.bool mfc] 36)));have HA5:=zh (HA4.out.next ((Below.refl _ _).alloc (Nat.le_refl _) (.cells #[.int .i64 0,.int .i64 0,.int .i64 0,.int .i64 0,.bool mfr,.bool mfc] 36)));have HB5:=zh (HB4.out.next ((Below.refl _ _).alloc (Nat.le_refl _) (.cells #[.int .i64 0,.int .i64 0,.int .i64 0,.int .i64 0,.bool mfr,.bool mfc] 36)));have HC5:=zh (Own1.new HF.out HK4.out 36 #[.int .i64 0,.int .i64 0,.int .i64 0,.int .i64 0,.bool mfr,.bool mfc]);have HK5:=zh (HK4.out.alloc (.cells #[.int .i64 0,.int .i64 0,.int .i64 0,.int .i64 0,.bool mfr,.bool mfc] 36));have hne2:q≠w4.heap.size:=by have:=HA4.out.li.lt;omega
 have hne3:q1≠w4.heap.size:=by have:=HB4.out.li.lt;omega
 generalize w4.alloc (.cells #[.int .i64 0,.int .i64 0,.int .i64 0,.int .i64 0,.bool mfr,.bool mfc] 36)=w5 at *;generalize w4.heap.size=q2 at *;clear HI4 HA4 HB4 HK4 b0 b1 b2 b3;have b0:=HB5.out.li.cell 0;have b1:=HB5.out.li.cell 1;have r4:=HI5.out.rd.cell 4;have r5:=HI5.out.rd.cell 5;simp only[List.getElem?_toArray,List.getElem?_cons_zero,List.getElem?_cons_succ]at b0 b1 r4 r5
 go_cut [5] (fun v wx=>v=.bool true∧Hid (InE E k op nd pl er wx)∧Hid (Kp E.X w wx)∧Hid (Own1 E w wx q 36 bP)∧Hid (Own1 E w wx q1 150 #[.int .i64 (mr:Int),.int .i64 (mc:Int),.bool mfr,.bool mfc])∧Hid (Own1 E w wx q2 36 #[.int .i64 xa,.int .i64 xn,.int .i64 0,.int .i64 0,.bool mfr,.bool mfc]))
 case first=>
  go_region_with ((go_at_call 134;refine(CL1.out w5.drew (HI5.out.next (Below.refl _ _).drew)).mono ?_;rintro e w6 ⟨rfl,h1,h2⟩;have HI6:=zh h1;have HK6:=zh (HK5.out.drew.trans h2);have HA6:=zh ((HA5.out.next (Below.refl _ _).drew).kp h2);have HB6:=zh ((HB5.out.next (Below.refl _ _).drew).kp h2);have HC6:=zh ((HC5.out.next (Below.refl _ _).drew).kp h2);clear h1 h2;have c0:=HC6.out.li.cell 0;have c1:=HC6.out.li.cell 1;have g0:=HC6.out.li.frozen 0;have g1:=HC6.out.li.frozen 1;simp only[List.getElem?_toArray,List.getElem?_cons_zero,List.getElem?_cons_succ]at c0 c1))
  all_goals go_wp2_with fail
  all_goals go_meet
  all_goals exact⟨rfl,zh (HI6.out.own hE HC6.out (by decide) (by decide) (((Kp.refl _ _).set (.inl (.head _)) 0 _).set (.inl (.head _)) 1 _)),zh (HK6.out.own HC6.out (((Kp.refl _ _).set (.inl (.head _)) 0 _).set (.inl (.head _)) 1 _)),zh ((HA6.out.off hne2 0 _).off hne2 1 _),zh ((HB6.out.off hne3 0 _).off hne3 1 _),zh ((HC6.out.put 0 _).put 1 _)⟩
 case rest=>
  obtain⟨rfl,HI7,HK7,HA7,HB7,HC7⟩:=hcut;clear HI5 HK5 HA5 HB5 HC5 b0 b1 r4 r5;have b1:=HB7.out.li.cell 1;have r5:=HI7.out.rd.cell 5;simp only[List.getElem?_toArray,List.getElem?_cons_zero,List.getElem?_cons_succ]at b1 r5
  go_upto_region 8 with fail
  go_cut [5] (fun v wx=>v=.bool false∧Hid (InE E k op nd tp 18 wx)∧Hid (Kp E.X w wx)∧Hid (Own1 E w wx q 36 bP))
  case first=>
   go_region_with ((go_at_call 134;refine(CL2.out wc.drew (HI7.out.next (Below.refl _ _).drew)).mono ?_;rintro e w6 ⟨rfl,h1,h2⟩;have HI6:=zh h1;have HK6:=zh (HK7.out.drew.trans h2);have HA6:=zh ((HA7.out.next (Below.refl _ _).drew).kp h2);have HC6:=zh ((HC7.out.next (Below.refl _ _).drew).kp h2);clear h1 h2;have c2:=HC6.out.li.cell 2;have c3:=HC6.out.li.cell 3;have g2:=HC6.out.li.frozen 2;have g3:=HC6.out.li.frozen 3;simp only[List.getElem?_toArray,List.getElem?_cons_zero,List.getElem?_cons_succ]at c2 c3))
   all_goals go_wp2_with fail
   all_goals go_meet
   all_goals exact⟨rfl,zh (HI6.out.own hE HC6.out (by decide) (by decide) (((Kp.refl _ _).set (.inl (.head _)) 2 _).set (.inl (.head _)) 3 _)),zh (HK6.out.own HC6.out (((Kp.refl _ _).set (.inl (.head _)) 2 _).set (.inl (.head _)) 3 _)),zh ((HA6.out.off hne2 2 _).off hne2 3 _)⟩
  case rest=>
   obtain⟨rfl,HI8,HK8,HA8⟩:=hcut;clear HI7 HK7 HA7 HB7 HC7 b1 r5 CT CP CL1 CL2;have HP:Hid (∀ W',Kp [q] wc W'→StepX E w k op nd tp 18 (.tuple #[iU aH,.bool false]) (.returned (.tuple #[iU aH,.bool false])) W'):=zh (fun W' h=>⟨rfl,HI8.out.own hE HA8.out (by decide) (by decide) h,HK8.out.own HA8.out h⟩);have a0:=HA8.out.li.cell 0;have a1:=HA8.out.li.cell 1;have a2:=HA8.out.li.cell 2;have a3:=HA8.out.li.cell 3;have a4:=HA8.out.li.cell 4;have a5:=HA8.out.li.cell 5;have g0:=HA8.out.li.frozen 0;have g1:=HA8.out.li.frozen 1;have g2:=HA8.out.li.frozen 2;have g3:=HA8.out.li.frozen 3;have g4:=HA8.out.li.frozen 4;have g5:=HA8.out.li.frozen 5;simp only[bP,List.getElem?_toArray,List.getElem?_cons_zero,List.getElem?_cons_succ]at a0 a1 a2 a3 a4 a5
   go_wp2_with fail
   refine bodyPost_ret (v:=.tuple #[iU aH,.bool false]) (by simp[results,Tryz.results132,go_sem,a0,a1,a2,a3,a4,a5]) rfl ?_;exact HP.out _ ((((((((Kp.refl _ _).set (.inl (.head _)) 0 _).set (.inl (.head _)) 1 _).set (.inl (.head _)) 2 _).set (.inl (.head _)) 3 _).set (.inl (.head _)) 4 _).set (.inl (.head _)) 5 _))
theorem tQ{l:Bs}{c:Nat}(hc:bQ l=some c):c≤1000000:=by
 unfold bQ at hc
 split at hc
 ·cases hc
 ·rename_i h3
  split at hc
  ·rename_i hall
   have:=lM l (fun c hc=>List.all_eq_true.1 hall c hc) 3 (by omega);rw[List.take_of_length_le (by rcases Nat.lt_or_ge 3 l.length with h | h;exact absurd (.inr h) h3;exact h)]at this;injection hc with hc;omega
  ·cases hc
theorem qZ{s:Bs}{m:Mk}(h:bC s=some m):m.row≤100000000∧m.col≤100000000:=by
 unfold bC at h;dsimp only at h
 split at h
 ·cases h
 ·rename_i c hc
  split at h
  ·cases h
  ·rename_i n hn
   injection h with h;subst h;have h1:=oB hn;have h2:=tQ hc;exact⟨by show n-1≤_;omega,by show c≤_;omega⟩
theorem cell_any(E:Env)(hE:E.ok)(k op nd pl er:Nat)(w:World)(hI:InE E k op nd pl er w)(hk:k<E.L.length)(hL:E.L.length≤1000000)(ht:(E.at k).text.length≤100000) :
  Calls Tryz.prog 132 #[.pointer (some ⟨E.r,0,none⟩)] w (yV E w k op nd pl er (dM E.ax (E.L.drop k))):=by
 have hcell:dM E.ax (E.L.drop k)=if (E.at k).kind≠4 then .error 6
   else match bC (E.at k).text with
    | none=>.error 6
    | some m=>match E.ax.rows[m.row]? with
     | none=>.error 18
     | some r=>match E.ax.cols[m.col]? with
      | none=>.error 18
      | some k=>.ok ⟨r,k,m.fr,m.fc⟩:=rfl
 rw[hcell];by_cases h4:(E.at k).kind=4
 ·rw[if_neg (fun h=>h h4)];cases hm:bC (E.at k).text with
  | none=>exact vM E hE k op nd pl er w hI hk ht (.inr hm)
  | some m=>
   have hmb:=qZ hm;dsimp only;cases hx:E.ax.rows[m.row]? with
   | none=>exact cell_row E hE k op nd pl er w hI hk ht m h4 hm hx hmb.1
   | some x=>
    dsimp only;cases hy:E.ax.cols[m.col]? with
    | none=>exact cell_col E hE k op nd pl er w hI hk ht m x h4 hm hx hy hmb.1 hmb.2
    | some y=>exact cell_ok E hE k op nd pl er w hI hk hL ht m x y h4 hm hx hy hmb.1 hmb.2
 ·rw[if_pos h4];exact vM E hE k op nd pl er w hI hk ht (.inl h4)
def NV(W:World)(X:List Nat)(nd:Nat)(t:Tree)(cs:Array Value):Prop:=cs.size=22∧cs.all (·.oneCell')=true∧(nd≤256→∃ A cp,cs=bX t.h A t.l.length cp∧KidsOk W X A t.l)
theorem NV.kp{W W':World}{X:List Nat}{nd:Nat}{t:Tree}{cs:Array Value}(h:NV W X nd t cs)(hk:Kp X W W'):NV W' X nd t cs :=
 ⟨h.1,h.2.1,fun hn=>by obtain⟨A,cp,e,h3⟩:=h.2.2 hn;exact⟨A,cp,e,h3.kp hk⟩⟩
theorem NV.mono{W:World}{X:List Nat}{nd nd':Nat}{t:Tree}{cs:Array Value}(h:NV W X nd t cs)(hn:nd≤nd'):NV W X nd' t cs:=⟨h.1,h.2.1,fun h'=>h.2.2 (Nat.le_trans hn h')⟩
mutual
theorem NodeAt.anti{W:World}{X Y:List Nat}(hs:∀ y∈Y,y<W.heap.size→y∈X){g o:Nat}:∀ {t:Tree},NodeAt W X g o t→NodeAt W Y g o t
 | .mk h l,hn=>by
  obtain⟨A,c,h1,h2⟩:=hn;refine⟨A,c,h1,?_⟩;rcases h2 with h2 | ⟨g',e,h3,h4,h5⟩
  ·exact .inl h2
  ·exact .inr ⟨g',e,fun hm=>h3 (hs g' hm h4),h4,KidsAt.anti hs h5⟩
theorem KidsAt.anti{W:World}{X Y:List Nat}(hs:∀ y∈Y,y<W.heap.size→y∈X){g:Nat}:∀ {l:List Tree} {i:Nat},KidsAt W X g i l→KidsAt W Y g i l
 | [],_,_=>trivial
 | _::_,_,hn=>⟨NodeAt.anti hs hn.1,KidsAt.anti hs hn.2⟩
end
theorem NV.anti{W:World}{X Y:List Nat}{nd:Nat}{t:Tree}{cs:Array Value}(h:NV W X nd t cs)(hs:∀ y∈Y,y<W.heap.size→y∈X):NV W Y nd t cs :=
 ⟨h.1,h.2.1,fun hn=>by
  obtain⟨A,cp,e,h3⟩:=h.2.2 hn;refine⟨A,cp,e,?_⟩;rcases h3 with h3 | ⟨g',e2,h4,h5,h6⟩
  ·exact .inl h3
  ·exact .inr ⟨g',e2,fun hm=>h4 (hs g' hm h5),h5,KidsAt.anti hs h6⟩⟩
theorem NV.fresh{W:World}{X:List Nat}{nd:Nat}{t:Tree}{cs:Array Value}(h:NV W X nd t cs){z:Nat}(hz:W.heap.size≤z):NV W (z::X) nd t cs :=
 h.anti (fun y hy hl=>by rcases List.mem_cons.1 hy with rfl | hy;omega;exact hy)
theorem NV.kpX{W W':World}{X Y:List Nat}{nd:Nat}{t:Tree}{cs:Array Value}(h:NV W X nd t cs)(hk:Kp Y W W')(hs:∀ y∈Y,y∈X):NV W' X nd t cs:=h.kp (hk.mono (fun y hy _=>hs y hy))
def NPost(E:Env)(w:World)(k op nd pl er:Nat)(o:Out)(e:Ending)(w':World):Prop:=match o with
 | .ok t ts c=>∃ k' cs,e=.returned (.tuple #[.agg cs,.bool true])∧k≤k'∧k'<E.L.length∧ts=E.L.drop k'∧c+k≤nd+k'∧nd≤c∧InE E k' op c pl er w'∧Kp E.X w w'∧NV w' (List.range w.heap.size) c t cs
 | .bad er' p=>∃ cs k' op' nd',e=.returned (.tuple #[.agg cs,.bool false])∧cs.size=22∧cs.all (·.oneCell')=true∧k≤k'∧k'<E.L.length∧nd'+k≤nd+k'∧InE E k' op' nd' p er' w'∧Kp E.X w w'
def Env.ends(E:Env):Prop:=0<E.L.length∧∀ k,k<E.L.length→((E.at k).kind=0↔k+1=E.L.length)
theorem Env.more{E:Env}(h:E.ends){k:Nat}(hk:k<E.L.length)(hn:(E.at k).kind≠0):k+1<E.L.length:=by
 rcases Nat.lt_or_ge (k+1) E.L.length with h1 | h1
 ·exact h1
 ·exact absurd ((h.2 k hk).2 (by omega)) hn
set_option maxRecDepth 100000 in
set_option maxHeartbeats 1600000 in
theorem mH(t:Tok)(w:World)(ht:t.text.length≤100000) :
  Calls Tryz.prog 128 #[tkV t] w fun e w'=>e=.returned (.bool (cB t))∧Below w.heap.size w w':=by
 have CF:=zh (fun W=>kJ t.text W (by unfold maxLen;omega));obtain⟨tk,tx,tp⟩:=t;unfold cB;dsimp only at CF ⊢;have hB:Below w.heap.size w (w.alloc (.cells #[.int .i64 tk,.string ⟨tx.toArray⟩,.int .i64 tp] 70)):=(Below.refl _ w).alloc (Nat.le_refl _) _;have HB:=zh hB;clear hB ht;by_cases h:tk=3
 ·subst h;by_cases h1:aG tx=jZ
  ·rw[h1]at CF ⊢
   go_enter Tryz.func128,Tryz.ntmps128
   go_wp2_with fail
   refine(CF.out _).mono ?_;rintro e w2 ⟨rfl,hb⟩;have HB2:=zh (HB.out.trans (hb.mono HB.out.size));clear hb HB CF;unfold jZ
   go_wp2_with fail
   go_ret
   exact⟨rfl,HB2.out⟩
  ·by_cases h2:aG tx=iF
   ·rw[h2]at CF ⊢
    go_enter Tryz.func128,Tryz.ntmps128
    go_wp2_with fail
    refine(CF.out _).mono ?_;rintro e w2 ⟨rfl,hb⟩;have HB2:=zh (HB.out.trans (hb.mono HB.out.size));clear hb HB CF;unfold iF
    go_wp2_with fail
    go_ret
    exact⟨rfl,HB2.out⟩
   ·have e1:(aG tx==jZ)=false:=by simpa using h1
    have e2:(aG tx==iF)=false:=by simpa using h2
    rw[e1,e2];unfold jZ at h1 e1;unfold iF at h2 e2
    go_enter Tryz.func128,Tryz.ntmps128
    go_wp2_with fail
    refine(CF.out _).mono ?_;rintro e w2 ⟨rfl,hb⟩;have HB2:=zh (HB.out.trans (hb.mono HB.out.size));clear hb HB CF
    go_wp2_with fail
    go_ret
    exact⟨by simp,HB2.out⟩
 ·have hb:((tk:Int) != 3)=true:=by simp;omega
  have hb3:((tk:Int)==3)=false:=by simp;omega
  have hd:decide (tk=3)=false:=decide_eq_false h;rw[hd];clear h hd CF
  go_enter Tryz.func128,Tryz.ntmps128
  go_wp2_with fail
  go_ret
  exact⟨by simp,HB.out⟩
theorem aK{fn:Func}{p u:Tmp}{tmps:Array Value}{w:World}{g:Nat}{cs:Array Value}(h:fn.results=#[.cell p 41,.tmp u])(hp:tmps.getD p undef=.pointer (some ⟨g,0,none⟩))(hl:Lies w g 41 cs)(h22:cs.size=22) :
  (results fn tmps).run Tryz.prog w=.ok (.tuple #[.agg cs,tmps.getD u undef]) w:=by
 have hr:=run_loadVar_row (P:=Tryz.prog) w g 41 41 cs _ _ hl Tryz.underlying41 rfl (by rw[h22];exact aE);rw[results_cell_tmp h,hp];simp only[asAddr,Sem.run_pure,Result.andThen_ok,hr]
abbrev nG(v:Val):List Value:=[.int .i64 0,.int .i64 v.kind,.int .i64 v.mant,.int .i64 v.exp,.string ⟨v.text.toArray⟩,.bool v.truth,.int .i64 v.fault,.string ⟨#[]⟩,.int .i64 0,.int .i64 0,.int .i64 0,.int .i64 0,.bool false,.bool false,.int .i64 0,.int .i64 0,.int .i64 0,.int .i64 0,.bool false,.bool false,.int .i64 0,.slice none 0 0]
theorem mM(v:Val):(nG v).toArray.all (·.oneCell')=true:=by simp[nG,Value.oneCell']
theorem eT(n:Nat)(cs:List Value)(h:cs.length=22)(h1:cs.toArray.all (·.oneCell')=true):∃ C:List Value,(if 256<n then aB.toArray else cs.toArray)=C.toArray∧C.length=22∧C.toArray.all (·.oneCell')=true∧(n≤256→C=cs):=by
 by_cases hn:256<n
 ·exact⟨aB,by rw[if_pos hn],rfl,aT,fun h'=>by omega⟩
 ·exact⟨cs,by rw[if_neg hn],h,h1,fun _=>rfl⟩
set_option maxRecDepth 100000 in
set_option maxHeartbeats 3200000 in
theorem qV(E:Env)(hE:E.ok)(k op nd pl er:Nat)(w:World)(hI:InE E k op nd pl er w)(hk:k+1<E.L.length)(hL:E.L.length≤1000000)(ht:(E.at k).text.length≤100000)(hn:nd≤k)(v:Val)(hv:eC (E.at k)=.ok v) :
  Calls Tryz.prog 117 #[.pointer (some ⟨E.r,0,none⟩)] w (fun e w'=>e=.returned (.tuple #[.agg (if 256<nd+1 then aB.toArray else (nG v).toArray),.bool true])∧InE E (k+1) op (nd+1) pl er w'∧Kp E.X w w'):=by
 have CT:=zh (fun W h=>bT E k op nd pl er W h (by omega));have CN:=zh (fun W h=>gN E hE (k+1) op nd pl er (nG v) rfl (mM v) W h (by omega));obtain⟨C,hC,hC22,hC1,hCk⟩:=eT (nd+1) (nG v) rfl (mM v);rw[hC]at CN ⊢;clear hC;have yC:=zh hC22;have HC1:=zh hC1;have HCk:=zh hCk;clear hC22 hC1 hCk;have CPn:=zh (fun W=>wL (E.at k).text W (by omega));have CPo:=zh of_any;have CTx:=zh (fun W=>uBM (E.at k).text W (by omega));have CFa:=zh (fun W h=>uT (E.at k).text W (by unfold maxLen;omega) h);have CBa:=zh xC;have CTr:=zh (fun W=>mH (E.at k) W ht);have CFo:=zh (fun W=>kJ (E.at k).text W (by unfold maxLen;omega));have CTh:=zh wV;generalize E.at k=t at *;obtain⟨tk,tx,tp⟩:=t;dsimp only[tkV]at CT CPn CTx CFa CTr CFo ⊢;have HF:=zh hI;have HI0:=zh (hI.next ((Below.refl _ _).alloc (Nat.le_refl _) (.cells aB.toArray 41)))
 have HK0:Hid (Kp E.X w (w.alloc (.cells aB.toArray 41))):=zh ((Kp.refl _ _).alloc _);have HA0:=zh (Own1.new hI (Kp.refl E.X w) 41 aB.toArray);clear hI;simp only[aB]at HI0 HK0 HA0
 go_enter Tryz.func117,Tryz.ntmps117
 go_upto_region 1 with fail
 generalize w.alloc (.cells #[.int .i64 0,.int .i64 0,.int .i64 0,.int .i64 0,.string ⟨#[]⟩,.bool false,.int .i64 0,.string ⟨#[]⟩,.int .i64 0,.int .i64 0,.int .i64 0,.int .i64 0,.bool false,.bool false,.int .i64 0,.int .i64 0,.int .i64 0,.int .i64 0,.bool false,.bool false,.int .i64 0,.slice none 0 0] 41)=W1 at HI0 HK0 HA0 ⊢;generalize hqe:w.heap.size=q at HA0 ⊢;clear hqe
 go_wp2_with fail
 refine(CT.out W1 HI0.out).mono ?_;rintro e w1 ⟨rfl,hb⟩;have HI1:=zh (HI0.out.next hb);have HK1:=zh (HK0.out.trans (Kp.of_below hb));have HA1:=zh (HA0.out.next hb);clear hb HI0 HK0 HA0
 go_upto_region 2 with fail
 have HI2:=zh (HI1.out.next ((Below.refl _ _).alloc (Nat.le_refl _) (.cells #[.int .i64 tk,.string ⟨tx.toArray⟩,.int .i64 (tp:Int)] 70)));have HA2:=zh (HA1.out.next ((Below.refl _ _).alloc (Nat.le_refl _) (.cells #[.int .i64 tk,.string ⟨tx.toArray⟩,.int .i64 (tp:Int)] 70)));have HB2:=zh (Own1.new HF.out HK1.out 70 #[.int .i64 tk,.string ⟨tx.toArray⟩,.int .i64 (tp:Int)]);have HK2:=zh (HK1.out.alloc (.cells #[.int .i64 tk,.string ⟨tx.toArray⟩,.int .i64 (tp:Int)] 70));have hne:q≠w1.heap.size:=by have:=HA1.out.li.lt;omega
 generalize w1.alloc (.cells #[.int .i64 tk,.string ⟨tx.toArray⟩,.int .i64 (tp:Int)] 70)=w2 at *;generalize w1.heap.size=q1 at *;clear HI1 HA1 HK1
 go_upto_block 0 with fail
 have HI3:=zh (HI2.out.next ((Below.refl _ _).alloc (Nat.le_refl _) (.cells (lZ aF) 32)));have HA3:=zh (HA2.out.next ((Below.refl _ _).alloc (Nat.le_refl _) (.cells (lZ aF) 32)));have HB3:=zh (HB2.out.next ((Below.refl _ _).alloc (Nat.le_refl _) (.cells (lZ aF) 32)));have HV3:=zh (Own1.new HF.out HK2.out 32 (lZ aF));have HK3:=zh (HK2.out.alloc (.cells (lZ aF) 32));have hne2:q≠w2.heap.size:=by have:=HA2.out.li.lt;omega
 have hne3:q1≠w2.heap.size:=by have:=HB2.out.li.lt;omega
 simp only[aF]at HI3 HA3 HB3 HV3 HK3;generalize w2.alloc (.cells #[.int .i64 0,.int .i64 0,.int .i64 0,.string ⟨#[]⟩,.bool false,.int .i64 0] 32)=w3 at HI3 HA3 HB3 HV3 HK3 ⊢;generalize w2.heap.size=q2 at *;clear HI2 HA2 HB2 HK2
 go_cut [] (fun wx=>Hid (InE E k op nd pl er wx)∧Hid (Kp E.X w wx)∧Hid (Own1 E w wx q 41 aB.toArray)∧Hid (Own1 E w wx q2 32 (lZ v)))
 case first=>
  have HI:=HI3;have HK:=HK3;have HA:=HA3;have HB:=HB3;have HV:=HV3;clear HI3 HK3 HA3 HV3 CN CT;have b0:=HB3.out.li.cell 0;have b1:=HB3.out.li.cell 1;have b2:=HB3.out.li.cell 2;simp only[List.getElem?_toArray,List.getElem?_cons_zero,List.getElem?_cons_succ]at b0 b1 b2;by_cases h1:tk=1
  ·subst h1;have hp:∃ a b,eE tx=some (a,b)∧v=gZ a b:=by
    unfold eC at hv;simp only[if_pos]at hv;cases hq:eE tx with
    | none=>rw[hq]at hv;cases hv
    | some q=>rw[hq]at hv;injection hv with hv;exact⟨q.1,q.2,rfl,hv.symm⟩
   obtain⟨na,nb,hp,rfl⟩:=hp;rw[hp]at CPn;clear hv hp;unfold gU at CPn
   try unfold gZ
   unfold gZ at CPo;dsimp only at CPn
   go_wp2_with fail
   refine(CPn.out _).mono ?_;rintro e x1 ⟨rfl,hb⟩;replace HI:=zh (HI.out.next hb);replace HK:=zh (HK.out.trans (Kp.of_below hb));replace HA:=zh (HA.out.next hb);replace HB:=zh (HB.out.next hb);replace HV:=zh (HV.out.next hb);clear hb
   go_upto_region 6 with fail
   have hB4:∀ o,Below x1.heap.size x1 (x1.alloc o):=fun o=>(Below.refl _ _).alloc (Nat.le_refl _) o
   replace HI:=zh (HI.out.next (hB4 (.cells #[.int .i64 na,.int .i64 nb] 30)));replace HK:=zh (HK.out.alloc (.cells #[.int .i64 na,.int .i64 nb] 30));replace HA:=zh (HA.out.next (hB4 (.cells #[.int .i64 na,.int .i64 nb] 30)));replace HB:=zh (HB.out.next (hB4 (.cells #[.int .i64 na,.int .i64 nb] 30)));replace HV:=zh (HV.out.next (hB4 (.cells #[.int .i64 na,.int .i64 nb] 30)));have HN:=zh (Lies.new x1 30 #[.int .i64 na,.int .i64 nb]);generalize x1.alloc (.cells #[.int .i64 na,.int .i64 nb] 30)=x2 at HI HK HA HB HV HN ⊢;generalize x1.heap.size=qn at HN ⊢;clear hB4;have n0:=HN.out.cell 0;have n1:=HN.out.cell 1;simp only[List.getElem?_toArray,List.getElem?_cons_zero,List.getElem?_cons_succ]at n0 n1
   go_wp2_with fail
   refine(CPo.out na nb _).mono ?_;rintro e x3 ⟨rfl,hb⟩;replace HI:=zh (HI.out.next hb);replace HK:=zh (HK.out.trans (Kp.of_below hb));replace HA:=zh (HA.out.next hb);replace HB:=zh (HB.out.next hb);replace HV:=zh (HV.out.next hb);clear hb;have v0:=HV.out.li.cell 0;have v1:=HV.out.li.cell 1;have v2:=HV.out.li.cell 2;have v3:=HV.out.li.cell 3;have v4:=HV.out.li.cell 4;have v5:=HV.out.li.cell 5;have g0:=HV.out.li.frozen 0;have g1:=HV.out.li.frozen 1;have g2:=HV.out.li.frozen 2;have g3:=HV.out.li.frozen 3;have g4:=HV.out.li.frozen 4;have g5:=HV.out.li.frozen 5;simp only[List.getElem?_toArray,List.getElem?_cons_zero,List.getElem?_cons_succ]at v0 v1 v2 v3 v4 v5
   all_goals go_wp2_with fail
   all_goals go_meet
   all_goals exact⟨zh (HI.out.own hE HV.out (by decide) (by decide) (((((((Kp.refl _ _).set (.inl (.head _)) 0 _).set (.inl (.head _)) 1 _).set (.inl (.head _)) 2 _).set (.inl (.head _)) 3 _).set (.inl (.head _)) 4 _).set (.inl (.head _)) 5 _)),zh (HK.out.own HV.out (((((((Kp.refl _ _).set (.inl (.head _)) 0 _).set (.inl (.head _)) 1 _).set (.inl (.head _)) 2 _).set (.inl (.head _)) 3 _).set (.inl (.head _)) 4 _).set (.inl (.head _)) 5 _)),zh ((((((HA.out.off hne2 0 _).off hne2 1 _).off hne2 2 _).off hne2 3 _).off hne2 4 _).off hne2 5 _),zh ((((((HV.out.put 0 _).put 1 _).put 2 _).put 3 _).put 4 _).put 5 _)⟩
  ·by_cases h2:tk=2
   ·subst h2;have hp:tx.length≤255∧pW tx=v:=by
     unfold eC at hv;simp only[if_pos,show ¬ (2=1) by decide,if_false]at hv;by_cases hl:255<tx.length
     ·simp[hl]at hv
     ·simp only[hl,if_false]at hv;injection hv with hv;exact⟨by omega,hv⟩
    obtain⟨hp1,hp2⟩:=hp;rw[hp2]at CTx;clear hv hp2 h1;obtain⟨va,vb,vc,vd,ve,vf⟩:=v
    try dsimp only at CTx ⊢
    go_wp2_with fail
    refine(CTx.out _).mono ?_;rintro e x1 ⟨rfl,hb⟩;replace HI:=zh (HI.out.next hb);replace HK:=zh (HK.out.trans (Kp.of_below hb));replace HA:=zh (HA.out.next hb);replace HB:=zh (HB.out.next hb);replace HV:=zh (HV.out.next hb);clear hb;have v0:=HV.out.li.cell 0;have v1:=HV.out.li.cell 1;have v2:=HV.out.li.cell 2;have v3:=HV.out.li.cell 3;have v4:=HV.out.li.cell 4;have v5:=HV.out.li.cell 5;have g0:=HV.out.li.frozen 0;have g1:=HV.out.li.frozen 1;have g2:=HV.out.li.frozen 2;have g3:=HV.out.li.frozen 3;have g4:=HV.out.li.frozen 4;have g5:=HV.out.li.frozen 5;simp only[List.getElem?_toArray,List.getElem?_cons_zero,List.getElem?_cons_succ]at v0 v1 v2 v3 v4 v5
    all_goals go_wp2_with fail
    all_goals go_meet
    all_goals exact⟨zh (HI.out.own hE HV.out (by decide) (by decide) (((((((Kp.refl _ _).set (.inl (.head _)) 0 _).set (.inl (.head _)) 1 _).set (.inl (.head _)) 2 _).set (.inl (.head _)) 3 _).set (.inl (.head _)) 4 _).set (.inl (.head _)) 5 _)),zh (HK.out.own HV.out (((((((Kp.refl _ _).set (.inl (.head _)) 0 _).set (.inl (.head _)) 1 _).set (.inl (.head _)) 2 _).set (.inl (.head _)) 3 _).set (.inl (.head _)) 4 _).set (.inl (.head _)) 5 _)),zh ((((((HA.out.off hne2 0 _).off hne2 1 _).off hne2 2 _).off hne2 3 _).off hne2 4 _).off hne2 5 _),zh ((((((HV.out.put 0 _).put 1 _).put 2 _).put 3 _).put 4 _).put 5 _)⟩
   ·by_cases h6:tk=6
    ·subst h6;have hp:oJ (jH tx)=v:=by
      unfold eC at hv;simp only[if_pos,show ¬ (6=1) by decide,show ¬ (6=2) by decide,if_false]at hv;injection hv
     have CB1:=zh (fun W=>CBa.out (jH tx) W);rw[hp]at CB1;clear hv hp h1 h2 CBa;obtain⟨va,vb,vc,vd,ve,vf⟩:=v
     try dsimp only at CB1 ⊢
     generalize jH tx=fn at *
     go_wp2_with fail
     refine(CFa.out _ HI.out.tb).mono ?_;rintro e x1 ⟨rfl,hb⟩;replace HI:=zh (HI.out.next hb);replace HK:=zh (HK.out.trans (Kp.of_below hb));replace HA:=zh (HA.out.next hb);replace HB:=zh (HB.out.next hb);replace HV:=zh (HV.out.next hb);clear hb
     go_wp2_with fail
     refine(CB1.out _).mono ?_;rintro e x2 ⟨rfl,hb⟩;replace HI:=zh (HI.out.next hb);replace HK:=zh (HK.out.trans (Kp.of_below hb));replace HA:=zh (HA.out.next hb);replace HB:=zh (HB.out.next hb);replace HV:=zh (HV.out.next hb);clear hb;have v0:=HV.out.li.cell 0;have v1:=HV.out.li.cell 1;have v2:=HV.out.li.cell 2;have v3:=HV.out.li.cell 3;have v4:=HV.out.li.cell 4;have v5:=HV.out.li.cell 5;have g0:=HV.out.li.frozen 0;have g1:=HV.out.li.frozen 1;have g2:=HV.out.li.frozen 2;have g3:=HV.out.li.frozen 3;have g4:=HV.out.li.frozen 4;have g5:=HV.out.li.frozen 5;simp only[List.getElem?_toArray,List.getElem?_cons_zero,List.getElem?_cons_succ]at v0 v1 v2 v3 v4 v5
     all_goals go_wp2_with fail
     all_goals go_meet
     all_goals exact⟨zh (HI.out.own hE HV.out (by decide) (by decide) (((((((Kp.refl _ _).set (.inl (.head _)) 0 _).set (.inl (.head _)) 1 _).set (.inl (.head _)) 2 _).set (.inl (.head _)) 3 _).set (.inl (.head _)) 4 _).set (.inl (.head _)) 5 _)),zh (HK.out.own HV.out (((((((Kp.refl _ _).set (.inl (.head _)) 0 _).set (.inl (.head _)) 1 _).set (.inl (.head _)) 2 _).set (.inl (.head _)) 3 _).set (.inl (.head _)) 4 _).set (.inl (.head _)) 5 _)),zh ((((((HA.out.off hne2 0 _).off hne2 1 _).off hne2 2 _).off hne2 3 _).off hne2 4 _).off hne2 5 _),zh ((((((HV.out.put 0 _).put 1 _).put 2 _).put 3 _).put 4 _).put 5 _)⟩
    ·have h3:cB ⟨tk,tx,tp⟩=true∧lV (aG tx==jZ)=v:=by
      unfold eC at hv;simp only[h1,h2,h6,if_false]at hv;by_cases hi:cB ⟨tk,tx,tp⟩=true
      ·simp only[hi,if_true]at hv;injection hv with hv;exact⟨hi,hv⟩
      ·simp[hi]at hv
     obtain⟨hi,hv3⟩:=h3;rw[hi]at CTr;have ht3:tk=3∧(aG tx=jZ∨aG tx=iF):=by
      unfold cB at hi;simpa using hi
     obtain⟨rfl,hf⟩:=ht3;clear hv hi h1 h2 h6;rcases hf with hf | hf
     ·rw[hf]at CFo;have hp:lV true=v:=by
       rw[hf]at hv3;rw[← hv3];rfl
      have CT1:=zh (fun W=>CTh.out true W);rw[hp]at CT1;clear hv3 hp hf;obtain⟨va,vb,vc,vd,ve,vf⟩:=v
      try dsimp only at CT1 ⊢
      unfold jZ at CFo
      go_wp2_with fail
      refine(CTr.out _).mono ?_;rintro e x1 ⟨rfl,hb⟩;replace HI:=zh (HI.out.next hb);replace HK:=zh (HK.out.trans (Kp.of_below hb));replace HA:=zh (HA.out.next hb);replace HB:=zh (HB.out.next hb);replace HV:=zh (HV.out.next hb);clear hb;have b0:=HB.out.li.cell 0;have b1:=HB.out.li.cell 1;have b2:=HB.out.li.cell 2;simp only[List.getElem?_toArray,List.getElem?_cons_zero,List.getElem?_cons_succ]at b0 b1 b2
      go_wp2_with fail
      refine(CFo.out _).mono ?_;rintro e x2 ⟨rfl,hb⟩;replace HI:=zh (HI.out.next hb);replace HK:=zh (HK.out.trans (Kp.of_below hb));replace HA:=zh (HA.out.next hb);replace HB:=zh (HB.out.next hb);replace HV:=zh (HV.out.next hb);clear hb
      go_wp2_with fail
      refine(CT1.out _).mono ?_;rintro e x3 ⟨rfl,hb⟩;replace HI:=zh (HI.out.next hb);replace HK:=zh (HK.out.trans (Kp.of_below hb));replace HA:=zh (HA.out.next hb);replace HB:=zh (HB.out.next hb);replace HV:=zh (HV.out.next hb);clear hb;have v0:=HV.out.li.cell 0;have v1:=HV.out.li.cell 1;have v2:=HV.out.li.cell 2;have v3:=HV.out.li.cell 3;have v4:=HV.out.li.cell 4;have v5:=HV.out.li.cell 5;have g0:=HV.out.li.frozen 0;have g1:=HV.out.li.frozen 1;have g2:=HV.out.li.frozen 2;have g3:=HV.out.li.frozen 3;have g4:=HV.out.li.frozen 4;have g5:=HV.out.li.frozen 5;simp only[List.getElem?_toArray,List.getElem?_cons_zero,List.getElem?_cons_succ]at v0 v1 v2 v3 v4 v5
      all_goals go_wp2_with fail
      all_goals go_meet
      all_goals exact⟨zh (HI.out.own hE HV.out (by decide) (by decide) (((((((Kp.refl _ _).set (.inl (.head _)) 0 _).set (.inl (.head _)) 1 _).set (.inl (.head _)) 2 _).set (.inl (.head _)) 3 _).set (.inl (.head _)) 4 _).set (.inl (.head _)) 5 _)),zh (HK.out.own HV.out (((((((Kp.refl _ _).set (.inl (.head _)) 0 _).set (.inl (.head _)) 1 _).set (.inl (.head _)) 2 _).set (.inl (.head _)) 3 _).set (.inl (.head _)) 4 _).set (.inl (.head _)) 5 _)),zh ((((((HA.out.off hne2 0 _).off hne2 1 _).off hne2 2 _).off hne2 3 _).off hne2 4 _).off hne2 5 _),zh ((((((HV.out.put 0 _).put 1 _).put 2 _).put 3 _).put 4 _).put 5 _)⟩
     ·rw[hf]at CFo;have hp:lV false=v:=by
       rw[hf]at hv3;rw[← hv3];rfl
      have CT1:=zh (fun W=>CTh.out false W);rw[hp]at CT1;clear hv3 hp hf;obtain⟨va,vb,vc,vd,ve,vf⟩:=v
      try dsimp only at CT1 ⊢
      unfold iF at CFo
      go_wp2_with fail
      refine(CTr.out _).mono ?_;rintro e x1 ⟨rfl,hb⟩;replace HI:=zh (HI.out.next hb);replace HK:=zh (HK.out.trans (Kp.of_below hb));replace HA:=zh (HA.out.next hb);replace HB:=zh (HB.out.next hb);replace HV:=zh (HV.out.next hb);clear hb;have b0:=HB.out.li.cell 0;have b1:=HB.out.li.cell 1;have b2:=HB.out.li.cell 2;simp only[List.getElem?_toArray,List.getElem?_cons_zero,List.getElem?_cons_succ]at b0 b1 b2
      go_wp2_with fail
      refine(CFo.out _).mono ?_;rintro e x2 ⟨rfl,hb⟩;replace HI:=zh (HI.out.next hb);replace HK:=zh (HK.out.trans (Kp.of_below hb));replace HA:=zh (HA.out.next hb);replace HB:=zh (HB.out.next hb);replace HV:=zh (HV.out.next hb);clear hb
      go_wp2_with fail
      refine(CT1.out _).mono ?_;rintro e x3 ⟨rfl,hb⟩;replace HI:=zh (HI.out.next hb);replace HK:=zh (HK.out.trans (Kp.of_below hb));replace HA:=zh (HA.out.next hb);replace HB:=zh (HB.out.next hb);replace HV:=zh (HV.out.next hb);clear hb;have v0:=HV.out.li.cell 0;have v1:=HV.out.li.cell 1;have v2:=HV.out.li.cell 2;have v3:=HV.out.li.cell 3;have v4:=HV.out.li.cell 4;have v5:=HV.out.li.cell 5;have g0:=HV.out.li.frozen 0;have g1:=HV.out.li.frozen 1;have g2:=HV.out.li.frozen 2;have g3:=HV.out.li.frozen 3;have g4:=HV.out.li.frozen 4;have g5:=HV.out.li.frozen 5;simp only[List.getElem?_toArray,List.getElem?_cons_zero,List.getElem?_cons_succ]at v0 v1 v2 v3 v4 v5
      all_goals go_wp2_with fail
      all_goals go_meet
      all_goals exact⟨zh (HI.out.own hE HV.out (by decide) (by decide) (((((((Kp.refl _ _).set (.inl (.head _)) 0 _).set (.inl (.head _)) 1 _).set (.inl (.head _)) 2 _).set (.inl (.head _)) 3 _).set (.inl (.head _)) 4 _).set (.inl (.head _)) 5 _)),zh (HK.out.own HV.out (((((((Kp.refl _ _).set (.inl (.head _)) 0 _).set (.inl (.head _)) 1 _).set (.inl (.head _)) 2 _).set (.inl (.head _)) 3 _).set (.inl (.head _)) 4 _).set (.inl (.head _)) 5 _)),zh ((((((HA.out.off hne2 0 _).off hne2 1 _).off hne2 2 _).off hne2 3 _).off hne2 4 _).off hne2 5 _),zh ((((((HV.out.put 0 _).put 1 _).put 2 _).put 3 _).put 4 _).put 5 _)⟩
 case rest=>
  obtain⟨HI4,HK4,HA4,HV4⟩:=hcut;clear HI3 HK3 HA3 HB3 HV3 CT CPn CPo CTx CFa CBa CTr CFo CTh hv ht;have r1:=HI4.out.rd.cell 1;have fr1:=HI4.out.rd.frozen 1;simp only[List.getElem?_toArray,List.getElem?_cons_zero,List.getElem?_cons_succ]at r1;have hkb:(k:Int)≤1000000:=by omega
  have HKr:Hid (Kp [E.r] wc (wc.setCell ⟨E.r,1,none⟩ (.int .i64 ((k:Int)+1)))):=zh ((Kp.refl _ _).set (.inl (.head _)) 1 _);have HI5:Hid (InE E (k+1) op nd pl er (wc.setCell ⟨E.r,1,none⟩ (.int .i64 ((k:Int)+1)))):=zh (HI4.out.wrote hE HKr.out (HI4.out.rd.put 1 _));have HK5:=zh (HK4.out.trans HKr.out.X);have HA5:=zh (HA4.out.kp HKr.out.X);have HV5:=zh (HV4.out.kp HKr.out.X)
  go_upto_region 18 with fail
  generalize wc.setCell ⟨E.r,1,none⟩ (.int .i64 ((k:Int)+1))=w5 at *;clear HI4 HK4 HA4 HV4 HKr r1 fr1;have v0:=HV5.out.li.cell 0;have v1:=HV5.out.li.cell 1;have v2:=HV5.out.li.cell 2;have v3:=HV5.out.li.cell 3;have v4:=HV5.out.li.cell 4;have v5:=HV5.out.li.cell 5;simp only[List.getElem?_toArray,List.getElem?_cons_zero,List.getElem?_cons_succ]at v0 v1 v2 v3 v4 v5
  go_wp2_with fail
  refine(CN.out w5 HI5.out).mono ?_;rintro e w6 ⟨rfl,h1,h2⟩;have HI6:=zh h1;have HK6:=zh (HK5.out.trans h2.X);have HA6:=zh (HA5.out.kp h2.X);clear h1 h2 HI5 HK5 HA5 HV5 CN v0 v1 v2 v3 v4 v5;have hkq:Kp [q] w6 (w6.setCells q 0 C):=aU (.inl (.head _)) C 0 (Kp.refl _ _);have HI7:=zh (HI6.out.own hE HA6.out (by decide) (by decide) hkq);have HK7:=zh (HK6.out.own HA6.out hkq);have HT:Hid (w6.there q 0 22):=zh HA6.out.li.thereA;have HA7:Hid (Lies (w6.setCells q 0 C) q 41 C.toArray):=zh (HA6.out.li.putAll yC.out);clear hkq HI6 HK6 HA6;have zi:=hfN yC.out
  go_wp2_with (first |(refine wpList_store_mid rfl 41 (.tmp 2) (.tmp 70) rfl q 0 C.toArray rfl rfl (by rw[List.size_toArray,yC.out];exact HT.out) zi HC1.out ?_;change wpList _ _ _ _ _ (w6.setCells q 0 C);generalize w6.setCells q 0 C=w7 at HI7 HK7 HA7 ⊢))
  refine bodyPost_ret (aK rfl rfl HA7.out (by rw[List.size_toArray,yC.out])) rfl ?_;exact⟨rfl,HI7.out,HK7.out⟩
theorem uDH(E:Env)(hE:E.ok)(k op nd pl er:Nat)(w:World)(hI:InE E k op nd pl er w)(hk:k+1<E.L.length)(hL:E.L.length≤1000000)(ht:(E.at k).text.length≤100000)(hn:nd≤k)(v:Val)(hv:eC (E.at k)=.ok v) :
  Calls Tryz.prog 117 #[.pointer (some ⟨E.r,0,none⟩)] w (NPost E w k op nd pl er (.ok (iH v) (E.L.drop (k+1)) (nd+1))):=by
 refine(qV E hE k op nd pl er w hI hk hL ht hn v hv).mono ?_;rintro e w' ⟨rfl,h1,h2⟩;obtain⟨C,hC,hC22,hC1,hCk⟩:=eT (nd+1) (nG v) rfl (mM v);rw[hC];refine⟨k+1,C.toArray,rfl,by omega,hk,rfl,by omega,by omega,h1,h2,by rw[List.size_toArray,hC22],hC1,fun hn=>⟨none,0,?_,.inl rfl⟩⟩;rw[hCk hn];rfl
set_option maxRecDepth 100000 in
set_option maxHeartbeats 3200000 in
theorem oZ(E:Env)(hE:E.ok)(k op nd pl er:Nat)(w:World)(hI:InE E k op nd pl er w)(hk:k<E.L.length)(ht:(E.at k).text.length≤100000)(er':Nat)(hv:eC (E.at k)=.error er') :
  Calls Tryz.prog 117 #[.pointer (some ⟨E.r,0,none⟩)] w (fun e w'=>e=.returned (.tuple #[.agg aB.toArray,.bool false])∧InE E k op nd (E.at k).place er' w'∧Kp E.X w w'):=by
 have CT:=zh (fun W h=>bT E k op nd pl er W h hk);have CW:=zh (fun W h e=>eQ E hE k op nd pl er e W h hk);have CPn:=zh (fun W=>wL (E.at k).text W (by omega));have CTr:=zh (fun W=>mH (E.at k) W ht);generalize E.at k=t at *;obtain⟨tk,tx,tp⟩:=t;dsimp only[tkV]at CT CPn CTr CW ⊢;have HF:=zh hI;have HI0:=zh (hI.next ((Below.refl _ _).alloc (Nat.le_refl _) (.cells aB.toArray 41)));have HK0:Hid (Kp E.X w (w.alloc (.cells aB.toArray 41))):=zh ((Kp.refl _ _).alloc _);have HA0:=zh (Own1.new hI (Kp.refl E.X w) 41 aB.toArray);clear hI;simp only[aB]at HI0 HK0 HA0
 go_enter Tryz.func117,Tryz.ntmps117
 go_upto_region 1 with fail
 generalize w.alloc (.cells #[.int .i64 0,.int .i64 0,.int .i64 0,.int .i64 0,.string ⟨#[]⟩,.bool false,.int .i64 0,.string ⟨#[]⟩,.int .i64 0,.int .i64 0,.int .i64 0,.int .i64 0,.bool false,.bool false,.int .i64 0,.int .i64 0,.int .i64 0,.int .i64 0,.bool false,.bool false,.int .i64 0,.slice none 0 0] 41)=W1 at HI0 HK0 HA0 ⊢;generalize hqe:w.heap.size=q at HA0 ⊢;clear hqe
 go_wp2_with fail
 refine(CT.out W1 HI0.out).mono ?_;rintro e w1 ⟨rfl,hb⟩;have HI1:=zh (HI0.out.next hb);have HK1:=zh (HK0.out.trans (Kp.of_below hb));have HA1:=zh (HA0.out.next hb);clear hb HI0 HK0 HA0
 go_upto_region 2 with fail
 have HI2:=zh (HI1.out.next ((Below.refl _ _).alloc (Nat.le_refl _) (.cells #[.int .i64 tk,.string ⟨tx.toArray⟩,.int .i64 (tp:Int)] 70)));have HA2:=zh (HA1.out.next ((Below.refl _ _).alloc (Nat.le_refl _) (.cells #[.int .i64 tk,.string ⟨tx.toArray⟩,.int .i64 (tp:Int)] 70)));have HB2:=zh (Own1.new HF.out HK1.out 70 #[.int .i64 tk,.string ⟨tx.toArray⟩,.int .i64 (tp:Int)]);have HK2:=zh (HK1.out.alloc (.cells #[.int .i64 tk,.string ⟨tx.toArray⟩,.int .i64 (tp:Int)] 70));have hne:q≠w1.heap.size:=by have:=HA1.out.li.lt;omega
 generalize w1.alloc (.cells #[.int .i64 tk,.string ⟨tx.toArray⟩,.int .i64 (tp:Int)] 70)=w2 at *;generalize w1.heap.size=q1 at *;clear HI1 HA1 HK1
 go_upto_block 0 with fail
 have HI3:=zh (HI2.out.next ((Below.refl _ _).alloc (Nat.le_refl _) (.cells (lZ aF) 32)));have HA3:=zh (HA2.out.next ((Below.refl _ _).alloc (Nat.le_refl _) (.cells (lZ aF) 32)));have HB3:=zh (HB2.out.next ((Below.refl _ _).alloc (Nat.le_refl _) (.cells (lZ aF) 32)));have HV3:=zh (Own1.new HF.out HK2.out 32 (lZ aF));have HK3:=zh (HK2.out.alloc (.cells (lZ aF) 32));have hne2:q≠w2.heap.size:=by have:=HA2.out.li.lt;omega
 have hne3:q1≠w2.heap.size:=by have:=HB2.out.li.lt;omega
 simp only[aF]at HI3 HA3 HB3 HV3 HK3;generalize w2.alloc (.cells #[.int .i64 0,.int .i64 0,.int .i64 0,.string ⟨#[]⟩,.bool false,.int .i64 0] 32)=w3 at HI3 HA3 HB3 HV3 HK3 ⊢;generalize w2.heap.size=q2 at *;clear HI2 HA2 HB2 HK2;have HI:=HI3;have HK:=HK3;have HA:=HA3;have HB:=HB3;clear HI3 HK3 HA3 HB3 HV3 CT;have b0:=HB.out.li.cell 0;have b1:=HB.out.li.cell 1;have b2:=HB.out.li.cell 2;simp only[List.getElem?_toArray,List.getElem?_cons_zero,List.getElem?_cons_succ]at b0 b1 b2;by_cases h1:tk=1
 ·subst h1;have hp:eE tx=none∧er'=2:=by
   unfold eC at hv;simp only[if_pos]at hv;cases hq:eE tx with
   | none=>rw[hq]at hv;injection hv with hv;exact⟨rfl,hv.symm⟩
   | some q=>rw[hq]at hv;cases hv
  obtain⟨hp,rfl⟩:=hp;rw[hp]at CPn;clear hv hp CTr;unfold gU at CPn;dsimp only at CPn
  go_wp2_with fail
  refine(CPn.out _).mono ?_;rintro e x1 ⟨rfl,hb⟩;replace HI:=zh (HI.out.next hb);replace HK:=zh (HK.out.trans (Kp.of_below hb));replace HA:=zh (HA.out.next hb);replace HB:=zh (HB.out.next hb);clear hb
  go_upto_region 6 with fail
  have hB4:∀ o,Below x1.heap.size x1 (x1.alloc o):=fun o=>(Below.refl _ _).alloc (Nat.le_refl _) o
  replace HI:=zh (HI.out.next (hB4 (.cells #[.int .i64 0,.int .i64 0] 30)));replace HK:=zh (HK.out.alloc (.cells #[.int .i64 0,.int .i64 0] 30));replace HA:=zh (HA.out.next (hB4 (.cells #[.int .i64 0,.int .i64 0] 30)));replace HB:=zh (HB.out.next (hB4 (.cells #[.int .i64 0,.int .i64 0] 30)));generalize x1.alloc (.cells #[.int .i64 0,.int .i64 0] 30)=x2 at HI HK HA HB ⊢;generalize x1.heap.size=qn at *;clear hB4
  go_wp2_with fail
  refine(CW.out _ HI.out 2).mono ?_;rintro e w6 ⟨rfl,h1,h2⟩;have HI6:=zh h1;have HK6:=zh (HK.out.trans h2.X);have HA6:=zh (HA.out.kp h2.X);clear h1 h2 HI HK HA HB CW;have hkq:Kp [q] w6 (w6.setCells q 0 aB):=aU (.inl (.head _)) aB 0 (Kp.refl _ _);have HI7:=zh (HI6.out.own hE HA6.out (by decide) (by decide) hkq);have HK7:=zh (HK6.out.own HA6.out hkq);have HT:Hid (w6.there q 0 22):=zh HA6.out.li.thereA;have HA7:Hid (Lies (w6.setCells q 0 aB) q 41 aB.toArray):=zh (HA6.out.li.putAll rfl);clear hkq HI6 HK6 HA6
  go_wp2_with (first |(refine wpList_store_mid rfl 41 (.tmp 2) (.tmp 25) rfl q 0 aB.toArray rfl rfl HT.out aE aT ?_;change wpList _ _ _ _ _ (w6.setCells q 0 aB);generalize w6.setCells q 0 aB=w7 at HI7 HK7 HA7 ⊢))
  refine bodyPost_ret (aK rfl rfl HA7.out rfl) rfl ?_;exact⟨rfl,HI7.out,HK7.out⟩
 ·by_cases h2:tk=2
  ·subst h2;have hp:255<tx.length∧er'=14:=by
    unfold eC at hv;simp only[if_pos,show ¬ (2=1) by decide,if_false]at hv;by_cases hl:255<tx.length
    ·simp only[hl,if_true]at hv;injection hv with hv;exact⟨hl,hv.symm⟩
    ·simp[hl]at hv
   obtain⟨hp,rfl⟩:=hp;clear hv h1 CTr CPn
   go_wp2_with fail
   refine(CW.out _ HI.out 14).mono ?_;rintro e w6 ⟨rfl,h1,h2⟩;have HI6:=zh h1;have HK6:=zh (HK.out.trans h2.X);have HA6:=zh (HA.out.kp h2.X);clear h1 h2 HI HK HA HB CW;have hkq:Kp [q] w6 (w6.setCells q 0 aB):=aU (.inl (.head _)) aB 0 (Kp.refl _ _);have HI7:=zh (HI6.out.own hE HA6.out (by decide) (by decide) hkq);have HK7:=zh (HK6.out.own HA6.out hkq);have HT:Hid (w6.there q 0 22):=zh HA6.out.li.thereA;have HA7:Hid (Lies (w6.setCells q 0 aB) q 41 aB.toArray):=zh (HA6.out.li.putAll rfl);clear hkq HI6 HK6 HA6
   go_wp2_with (first |(refine wpList_store_mid rfl 41 (.tmp 2) (.tmp 38) rfl q 0 aB.toArray rfl rfl HT.out aE aT ?_;change wpList _ _ _ _ _ (w6.setCells q 0 aB);generalize w6.setCells q 0 aB=w7 at HI7 HK7 HA7 ⊢))
   refine bodyPost_ret (aK rfl rfl HA7.out rfl) rfl ?_;exact⟨rfl,HI7.out,HK7.out⟩
  ·have h6:tk≠6:=by
    intro h6;subst h6;unfold eC at hv;simp at hv
   have hp:cB ⟨tk,tx,tp⟩=false∧er'=6:=by
    unfold eC at hv;simp only[h1,h2,h6,if_false]at hv;by_cases hi:cB ⟨tk,tx,tp⟩=true
    ·simp[hi]at hv
    ·simp only[hi]at hv;injection hv with hv;exact⟨by simpa using hi,hv.symm⟩
   obtain⟨hp,rfl⟩:=hp;rw[hp]at CTr;have n1:((tk:Int)==1)=false:=by simp;omega
   have n2:((tk:Int)==2)=false:=by simp;omega
   have n6:((tk:Int)==6)=false:=by simp;omega
   clear hv hp h1 h2 h6 CPn
   go_wp2_with fail
   refine(CTr.out _).mono ?_;rintro e x1 ⟨rfl,hb⟩;replace HI:=zh (HI.out.next hb);replace HK:=zh (HK.out.trans (Kp.of_below hb));replace HA:=zh (HA.out.next hb);replace HB:=zh (HB.out.next hb);clear hb
   go_wp2_with fail
   refine(CW.out _ HI.out 6).mono ?_;rintro e w6 ⟨rfl,h1,h2⟩;have HI6:=zh h1;have HK6:=zh (HK.out.trans h2.X);have HA6:=zh (HA.out.kp h2.X);clear h1 h2 HI HK HA HB CW;have hkq:Kp [q] w6 (w6.setCells q 0 aB):=aU (.inl (.head _)) aB 0 (Kp.refl _ _);have HI7:=zh (HI6.out.own hE HA6.out (by decide) (by decide) hkq);have HK7:=zh (HK6.out.own HA6.out hkq);have HT:Hid (w6.there q 0 22):=zh HA6.out.li.thereA;have HA7:Hid (Lies (w6.setCells q 0 aB) q 41 aB.toArray):=zh (HA6.out.li.putAll rfl);clear hkq HI6 HK6 HA6
   go_wp2_with (first |(refine wpList_store_mid rfl 41 (.tmp 2) (.tmp 10) rfl q 0 aB.toArray rfl rfl HT.out aE aT ?_;change wpList _ _ _ _ _ (w6.setCells q 0 aB);generalize w6.setCells q 0 aB=w7 at HI7 HK7 HA7 ⊢))
   refine bodyPost_ret (aK rfl rfl HA7.out rfl) rfl ?_;exact⟨rfl,HI7.out,HK7.out⟩
theorem uAB(E:Env)(hE:E.ok)(k op nd pl er:Nat)(w:World)(hI:InE E k op nd pl er w)(hk:k<E.L.length)(ht:(E.at k).text.length≤100000)(er':Nat)(hv:eC (E.at k)=.error er') :
  Calls Tryz.prog 117 #[.pointer (some ⟨E.r,0,none⟩)] w (NPost E w k op nd pl er (.bad er' (E.at k).place)):=by
 refine(oZ E hE k op nd pl er w hI hk ht er' hv).mono ?_;rintro e w' ⟨rfl,h1,h2⟩;exact⟨aB.toArray,k,op,nd,rfl,rfl,aT,Nat.le_refl _,hk,Nat.le_refl _,h1,h2⟩
theorem uHM(E:Env)(k:Nat)(c:Nat):cH (E.L.drop k) c=match eC (E.at k) with
  | .error e=>.bad e (E.at k).place
  | .ok v=>.ok (iH v) (E.L.drop k).tail (c+1):=rfl
theorem qF{t:Tok}{v:Val}(h:eC t=.ok v):t.kind≠0:=by
 intro h0;unfold eC at h;rw[h0]at h;have hi:cB t=false:=by unfold cB;rw[h0];rfl
 simp[hi]at h
theorem mN(E:Env)(hE:E.ok)(he:E.ends)(k op nd pl er:Nat)(w:World)(hI:InE E k op nd pl er w)(hk:k<E.L.length)(hL:E.L.length≤1000000)(ht:(E.at k).text.length≤100000)(hn:nd≤k) :
  Calls Tryz.prog 117 #[.pointer (some ⟨E.r,0,none⟩)] w (NPost E w k op nd pl er (cH (E.L.drop k) nd)):=by
 rw[uHM];cases hv:eC (E.at k) with
 | error e=>exact uAB E hE k op nd pl er w hI hk ht e hv
 | ok v=>
  have h:=uDH E hE k op nd pl er w hI (E.more he hk (qF hv)) hL ht hn v hv;rw[List.tail_drop];exact h
theorem vT(off:Nat):∀ (cs:List Value) (k:Nat) (A:Array Value),off+k+cs.length≤A.size→((cs.zipIdx k).foldl (fun(B:Array Value) (x:Value×Nat)=>B.setIfInBounds (off+x.2) x.1) A).toList=A.toList.take (off+k)++cs++A.toList.drop (off+k+cs.length)
 | [],k,A,_=>by simp
 | c::r,k,A,h=>by
  have hl:off+k<A.toList.length:=by simp at h ⊢;omega
  rw[List.zipIdx_cons,List.foldl_cons,vT off r (k+1) _ (by rw[Array.size_setIfInBounds];simp at h;omega)];rw[Array.toList_setIfInBounds];show (A.toList.set (off+k) c).take (off+k+1)++r++(A.toList.set (off+k) c).drop (off+k+1+r.length)=_;rw[List.take_succ_eq_append_getElem (by simpa using hl),List.getElem_set_self,List.take_set_of_le (Nat.le_refl _),List.drop_set_of_lt (by omega)];simp[Nat.add_comm,Nat.add_left_comm]
theorem fold_set(off:Nat)(cs:List Value)(A:Array Value)(h:off+cs.length≤A.size):(cs.toArray.zipIdx.foldl (fun(B:Array Value) (x:Value×Nat)=>B.setIfInBounds (off+x.2) x.1) A)=(A.toList.take off++cs++A.toList.drop (off+cs.length)).toArray:=by
 have:=vT off cs 0 A (by simpa using h);rw[← Array.foldl_toList,Array.toList_zipIdx];apply Array.toList_inj.1;simpa using this
theorem qC:∃ i z,Tryz.prog.info? 41=some i∧i.size=22∧i.zero=some z∧z.cells.size=22:=by
 have h:((Tryz.prog.info? 41).bind (·.zero)).map (·.cells.size)=some 22:=by kernel_rfl
 have h2:=aE;cases hi:Tryz.prog.info? 41 with
 | none=>rw[hi]at h2;cases h2
 | some i=>
  rw[hi]at h h2;cases hz:i.zero with
  | none=>simp[hz]at h
  | some z=>
   simp[hz]at h;simp at h2;exact⟨i,z,rfl,h2,hz,h⟩
theorem uQ:Tryz.prog.underlying 39=some (.slice 41):=by kernel_rfl
theorem sR(place:Nat→Option (Nat×Nat))(A:Array Value)(off n:Nat)(cs:List Value)(hn:cs.length=n)(i:Nat)(rest:List (Nat×Value))(hp:place i=some (off,n))(h:off+n≤A.size) :
  Instr.fill place A ((i,.agg cs.toArray)::rest)=Instr.fill place (A.toList.take off++cs++A.toList.drop (off+n)).toArray rest:=by
 subst hn;have hf:=fold_set off cs A h;rw[← hf]
 conv=>lhs;unfold Instr.fill
 rw[hp];refine if_neg ?_;simp[Value.cells];omega
theorem built1(cs:List Value)(h:cs.length=22):Tryz.prog.builtSlice 41 1 [(0,.agg cs.toArray)]=some cs.toArray:=by
 obtain⟨i,z,h1,h2,h3,h4⟩:=qC;unfold Program.builtSlice;rw[h1];simp only[h3,h2];rw[if_neg (by decide),sR _ _ (0*22) 22 cs h 0 [] rfl (by simp)];show some _=some _;simp
theorem built2(c1 c2:List Value)(h1':c1.length=22)(h2':c2.length=22):Tryz.prog.builtSlice 41 2 [(0,.agg c1.toArray),(1,.agg c2.toArray)]=some (c1++c2).toArray:=by
 obtain⟨i,z,h1,h2,h3,h4⟩:=qC;unfold Program.builtSlice;rw[h1];simp only[h3,h2];rw[if_neg (by decide),sR _ _ (0*22) 22 c1 h1' 0 _ rfl (by simp),sR _ _ (1*22) 22 c2 h2' 1 [] rfl (by simp[h1'])];show some _=some _;simp[h1']
theorem KidsAt.one{W:World}{X:List Nat}{g nd:Nat}{t:Tree}{cs:List Value}(hl:Lies W g 41 cs.toArray)(hv:NV W X nd t cs.toArray)(hn:nd≤256)(hx:g∉X)(A:Option Addr)(hA:A=some ⟨g,0,none⟩):KidsOk W X A [t]:=by
 obtain⟨h22,h1,h3⟩:=hv;obtain⟨B,cp,e,hk⟩:=h3 hn;refine .inr ⟨g,hA,hx,hl.lt,?_,trivial⟩;cases t with
 | mk h l=>
  refine⟨B,cp,fun j hj=>?_,hk⟩;rw[show 0*22+j=j by omega,hl.cell j,e];rfl
theorem KidsAt.two{W:World}{X:List Nat}{g nd:Nat}{t1 t2:Tree}{c1 c2:List Value}(hl:Lies W g 41 (c1++c2).toArray)(hv1:NV W X nd t1 c1.toArray)(hv2:NV W X nd t2 c2.toArray)(hn:nd≤256)(hx:g∉X)(A:Option Addr)(hA:A=some ⟨g,0,none⟩):KidsOk W X A [t1,t2]:=by
 obtain⟨h22,h1,h3⟩:=hv1;obtain⟨k22,k1,k3⟩:=hv2;obtain⟨B,cp,e,hk⟩:=h3 hn;obtain⟨B',cp',e',hk'⟩:=k3 hn;rw[List.size_toArray]at h22 k22;refine .inr ⟨g,hA,hx,hl.lt,?_,?_,trivial⟩
 ·cases t1 with
  | mk h l=>
   refine⟨B,cp,fun j hj=>?_,hk⟩;rw[show 0*22+j=j by omega,hl.cell j,List.getElem?_toArray,List.getElem?_append_left (by omega),← List.getElem?_toArray,e];rfl
 ·cases t2 with
  | mk h l=>
   refine⟨B',cp',fun j hj=>?_,hk'⟩;rw[hl.cell _,List.getElem?_toArray,List.getElem?_append_right (by omega),show (0+1)*22+j-c1.length=j by omega,← List.getElem?_toArray,e'];rfl
end Go.Proofs.YtmgjidnalpgegaaGreatDoor
