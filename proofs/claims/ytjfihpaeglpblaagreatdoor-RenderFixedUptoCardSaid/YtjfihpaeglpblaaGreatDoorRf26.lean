/-
  Lemmas, part 26: Wr3.
-/
import Derived.Test.YtjfihpaeglpblaaGreatDoorRf24
set_option maxHeartbeats 100000000
set_option maxRecDepth 1000000
namespace Go.Proofs.YtjfihpaeglpblaaGreatDoor
open Go.RowKit
abbrev dS(t:RTok):Value:=.agg #[vI t.kind,vT t.text,vI t.place]
theorem say_both(row col:Nat)(fr fc:Bool)(w:World)(hp:PowTab w)(hr:row<=400)(hc:col<=400) :
  Calls Tryz.prog 34 #[.agg #[vI (row:Int),vI (col:Int),.bool fr,.bool fc],vI 0] w fun e w'=>e=.returned (dS (dX .plain row col fr fc))/\Below w.heap.size w w':=by
 have hri:(row:Int)<=400:=by omega
 have dy:(col:Int)<=400:=by omega
 obtain⟨W0,aj⟩:∃ W0,W0=(w.alloc (.cells #[vI (row:Int),vI (col:Int),.bool fr,.bool fc] 90)).alloc (.cells #[vI 0,vS #[],vI 0] 64):=⟨_,rfl⟩
 have ak:=zh aj;have aq:Hid (Below w.heap.size w W0):=zh (by rw[aj];exact((Below.refl _ w).alloc zr _).alloc (by rw[World.size_alloc];omega) _);have L0:Hid (Lies W0 w.heap.size 90 #[vI (row:Int),vI (col:Int),.bool fr,.bool fc]):=zh (by rw[aj];exact(Lies.new w _ _).alloc _);have L1:Hid (Lies W0 (w.heap.size+1) 64 #[vI 0,vS #[],vI 0]):=zh (by
  rw[aj];have h:=Lies.new (w.alloc (.cells #[vI (row:Int),vI (col:Int),.bool fr,.bool fc] 90)) 64 #[vI 0,vS #[],vI 0];rw[World.size_alloc]at h;exact h)
 have mg:Hid (PowTab W0):=zh (hp.next aq.out);have bz:Hid (∀ W,Below W0.heap.size W0 W->W.cell? ⟨w.heap.size,0,none⟩=some (vI (row:Int))/\W.cell? ⟨w.heap.size,1,none⟩=some (vI (col:Int))/\W.cell? ⟨w.heap.size,2,none⟩=some (.bool fr)/\W.cell? ⟨w.heap.size,3,none⟩=some (.bool fc)/\W.cell? ⟨w.heap.size+1,0,none⟩=some (vI 0)/\W.cell? ⟨w.heap.size+1,1,none⟩=some (vS #[])/\W.cell? ⟨w.heap.size+1,2,none⟩=some (vI 0)/\W.frozen? ⟨w.heap.size+1,0,none⟩=false/\W.frozen? ⟨w.heap.size+1,1,none⟩=false/\W.frozen? ⟨w.heap.size+1,2,none⟩=false/\w.heap.size+1<W.heap.size/\Below W0.heap.size W0 W):=zh (fun W h=>⟨(L0.out.next h).cell 0,(L0.out.next h).cell 1,(L0.out.next h).cell 2,(L0.out.next h).cell 3,(L1.out.next h).cell 0,(L1.out.next h).cell 1,(L1.out.next h).cell 2,(L1.out.next h).frozen 0,(L1.out.next h).frozen 1,(L1.out.next h).frozen 2,(L1.out.next h).lt,h⟩)
 have CT:=zh (fun W (h:PowTab W)=>vA row col fr fc W h (by omega) (by omega));have ox:Hid (dS (dX .plain row col fr fc)=.agg #[vI 4,vT (mO row col fr fc),vI 0]):=zh rfl;generalize mO row col fr fc=M at *;obtain⟨tv,i9⟩:=zD (dS (dX .plain row col fr fc))
 have ph:=zh i9;rw[<- i9];clear aj hp i9 L0 L1
 go_in
 go_upto_region 1 with fail
 rw[<- ak.out];clear ak;obtain⟨m0,m1,m2,m3,t0,t1,t2,f0,f1,f2,z0,cv⟩:=bz.out _ zB
 go_wp2_with ((with_reducible refine(CT.out _ mg.out).mono ?_);rintro e wx ⟨rfl,hb⟩;have HB:=zh hb;clear m0 m1 m2 m3 t0 t1 t2 f0 f1 f2 z0 cv;obtain⟨m0,m1,m2,m3,t0,t1,t2,f0,f1,f2,z0,cv⟩:=bz.out _ hb;clear hb)
 all_goals (try clear m0 m1 m2 m3 t0 t1 t2 f0 f1 f2 z0 cv)
 all_goals obtain⟨m0,m1,m2,m3,t0,t1,t2,f0,f1,f2,z0,cv⟩:=bz.out _ HB.out
 all_goals refine yt (v:=.agg #[vI 4,vT (M),vI 0]) (by simp[results,Tryz.results34,go_sem,t0,t1,t2]) rfl ?_
 all_goals refine⟨by rw[ph.out,ox.out],?_⟩
 all_goals exact(((zU aq.out HB.out).setCell (p:=⟨_,_,none⟩) (Nat.le_succ _) _).setCell (p:=⟨_,_,none⟩) (Nat.le_succ _) _).setCell (p:=⟨_,_,none⟩) (Nat.le_succ _) _
theorem say_rowF(row col:Nat)(fc:Bool)(w:World)(hp:PowTab w)(hr:row<=400)(hc:col<=400) :
  Calls Tryz.prog 34 #[.agg #[vI (row:Int),vI (col:Int),.bool true,.bool fc],vI 1] w fun e w'=>e=.returned (dS (fE .plain row true))/\Below w.heap.size w w':=by
 have hri:(row:Int)<=400:=by omega
 have dy:(col:Int)<=400:=by omega
 obtain⟨W0,aj⟩:∃ W0,W0=(w.alloc (.cells #[vI (row:Int),vI (col:Int),.bool true,.bool fc] 90)).alloc (.cells #[vI 0,vS #[],vI 0] 64):=⟨_,rfl⟩
 have ak:=zh aj;have aq:Hid (Below w.heap.size w W0):=zh (by rw[aj];exact((Below.refl _ w).alloc zr _).alloc (by rw[World.size_alloc];omega) _);have L0:Hid (Lies W0 w.heap.size 90 #[vI (row:Int),vI (col:Int),.bool true,.bool fc]):=zh (by rw[aj];exact(Lies.new w _ _).alloc _);have L1:Hid (Lies W0 (w.heap.size+1) 64 #[vI 0,vS #[],vI 0]):=zh (by
  rw[aj];have h:=Lies.new (w.alloc (.cells #[vI (row:Int),vI (col:Int),.bool true,.bool fc] 90)) 64 #[vI 0,vS #[],vI 0];rw[World.size_alloc]at h;exact h)
 have mg:Hid (PowTab W0):=zh (hp.next aq.out);have bz:Hid (∀ W,Below W0.heap.size W0 W->W.cell? ⟨w.heap.size,0,none⟩=some (vI (row:Int))/\W.cell? ⟨w.heap.size,1,none⟩=some (vI (col:Int))/\W.cell? ⟨w.heap.size,2,none⟩=some (.bool true)/\W.cell? ⟨w.heap.size,3,none⟩=some (.bool fc)/\W.cell? ⟨w.heap.size+1,0,none⟩=some (vI 0)/\W.cell? ⟨w.heap.size+1,1,none⟩=some (vS #[])/\W.cell? ⟨w.heap.size+1,2,none⟩=some (vI 0)/\W.frozen? ⟨w.heap.size+1,0,none⟩=false/\W.frozen? ⟨w.heap.size+1,1,none⟩=false/\W.frozen? ⟨w.heap.size+1,2,none⟩=false/\w.heap.size+1<W.heap.size/\Below W0.heap.size W0 W):=zh (fun W h=>⟨(L0.out.next h).cell 0,(L0.out.next h).cell 1,(L0.out.next h).cell 2,(L0.out.next h).cell 3,(L1.out.next h).cell 0,(L1.out.next h).cell 1,(L1.out.next h).cell 2,(L1.out.next h).frozen 0,(L1.out.next h).frozen 1,(L1.out.next h).frozen 2,(L1.out.next h).lt,h⟩)
 have CI:Hid (∀ W,PowTab W->Calls Tryz.prog 75 #[vI ((row:Int)+1)] W fun e w'=>e=.returned (vT (Lib.decDigits (row+1)))/\Below W.heap.size W w'):=zh (fun W h=>mL (row+1) W h (by omega));have CI:Hid (∀ W,PowTab W->Calls Tryz.prog 75 #[vI (IntKind.i64.wrap ((row:Int)+1))] W fun e w'=>e=.returned (vT (Lib.decDigits (row+1)))/\Below W.heap.size W w'):=zh (by rw[IntWalk.i64_in ((row:Int)+1) (by omega)];exact CI.out);have hln:(Lib.decDigits (row+1)).length<=4:=cO (row+1) 3 (by have:(10:Nat) ^ (3+1)=10000:=rfl;omega);have ox:Hid (dS (fE .plain row true)=.agg #[vI 4,vT (36::Lib.decDigits (row+1)),vI 0]):=zh rfl;generalize Lib.decDigits (row+1)=M at *;have k1:¬ 9223372036854775807<M.length+1:=by omega
 have k2:¬ 9223372036854775807<1+M.length:=by omega
 obtain⟨tv,i9⟩:=zD (dS (fE .plain row true))
 have ph:=zh i9;rw[<- i9];clear aj hp i9 L0 L1
 go_in
 go_upto_region 1 with fail
 rw[<- ak.out];clear ak;obtain⟨m0,m1,m2,m3,t0,t1,t2,f0,f1,f2,z0,cv⟩:=bz.out _ zB;have qj:Hid (PowTab W0.drew):=mg
 go_upto_region 5 with fail
 go_region_held3 (fun w'=>w'.cell? ⟨w.heap.size,0,none⟩=some (vI (row:Int))/\w'.cell? ⟨w.heap.size,1,none⟩=some (vI (col:Int))/\w'.cell? ⟨w.heap.size,2,none⟩=some (.bool true)/\w'.cell? ⟨w.heap.size,3,none⟩=some (.bool fc)/\w'.cell? ⟨w.heap.size+1,0,none⟩=some (vI 0)/\w'.cell? ⟨w.heap.size+1,1,none⟩=some (vS #[])/\w'.cell? ⟨w.heap.size+1,2,none⟩=some (vI 0)/\w'.frozen? ⟨w.heap.size+1,0,none⟩=false/\w'.frozen? ⟨w.heap.size+1,1,none⟩=false/\w'.frozen? ⟨w.heap.size+1,2,none⟩=false/\w.heap.size+1<w'.heap.size/\Below W0.heap.size W0 w')
  (first|exact bz.out _ cv|exact bz.out _ cv.drew |(go_split_ands;exact bz.out _ (Below.trans (by assumption) (Below.mono hb (Below.size (by assumption)))))|assumption)
  (first
   |(go_at_call 75;(with_reducible refine(CI.out _ qj.out).mono ?_);rintro e wx ⟨rfl,hb⟩;have HB:=zh (Below.trans (Below.refl _ W0).drew (Below.mono hb zr))))
 all_goals (try go_split_ands)
 all_goals go_wp2_with fail
 all_goals (try clear m0 m1 m2 m3 t0 t1 t2 f0 f1 f2 z0 cv)
 all_goals obtain⟨m0,m1,m2,m3,t0,t1,t2,f0,f1,f2,z0,cv⟩:=bz.out _ HB.out
 all_goals refine yt (v:=.agg #[vI 4,vT (36::M),vI 0]) (by simp[results,Tryz.results34,go_sem,t0,t1,t2]) rfl ?_
 all_goals refine⟨by rw[ph.out,ox.out],?_⟩
 all_goals exact(((zU aq.out HB.out).setCell (p:=⟨_,_,none⟩) (Nat.le_succ _) _).setCell (p:=⟨_,_,none⟩) (Nat.le_succ _) _).setCell (p:=⟨_,_,none⟩) (Nat.le_succ _) _
theorem say_rowN(row col:Nat)(fc:Bool)(w:World)(hp:PowTab w)(hr:row<=400)(hc:col<=400) :
  Calls Tryz.prog 34 #[.agg #[vI (row:Int),vI (col:Int),.bool false,.bool fc],vI 1] w fun e w'=>e=.returned (dS (fE .plain row false))/\Below w.heap.size w w':=by
 have hri:(row:Int)<=400:=by omega
 have dy:(col:Int)<=400:=by omega
 obtain⟨W0,aj⟩:∃ W0,W0=(w.alloc (.cells #[vI (row:Int),vI (col:Int),.bool false,.bool fc] 90)).alloc (.cells #[vI 0,vS #[],vI 0] 64):=⟨_,rfl⟩
 have ak:=zh aj;have aq:Hid (Below w.heap.size w W0):=zh (by rw[aj];exact((Below.refl _ w).alloc zr _).alloc (by rw[World.size_alloc];omega) _);have L0:Hid (Lies W0 w.heap.size 90 #[vI (row:Int),vI (col:Int),.bool false,.bool fc]):=zh (by rw[aj];exact(Lies.new w _ _).alloc _);have L1:Hid (Lies W0 (w.heap.size+1) 64 #[vI 0,vS #[],vI 0]):=zh (by
  rw[aj];have h:=Lies.new (w.alloc (.cells #[vI (row:Int),vI (col:Int),.bool false,.bool fc] 90)) 64 #[vI 0,vS #[],vI 0];rw[World.size_alloc]at h;exact h)
 have mg:Hid (PowTab W0):=zh (hp.next aq.out);have bz:Hid (∀ W,Below W0.heap.size W0 W->W.cell? ⟨w.heap.size,0,none⟩=some (vI (row:Int))/\W.cell? ⟨w.heap.size,1,none⟩=some (vI (col:Int))/\W.cell? ⟨w.heap.size,2,none⟩=some (.bool false)/\W.cell? ⟨w.heap.size,3,none⟩=some (.bool fc)/\W.cell? ⟨w.heap.size+1,0,none⟩=some (vI 0)/\W.cell? ⟨w.heap.size+1,1,none⟩=some (vS #[])/\W.cell? ⟨w.heap.size+1,2,none⟩=some (vI 0)/\W.frozen? ⟨w.heap.size+1,0,none⟩=false/\W.frozen? ⟨w.heap.size+1,1,none⟩=false/\W.frozen? ⟨w.heap.size+1,2,none⟩=false/\w.heap.size+1<W.heap.size/\Below W0.heap.size W0 W):=zh (fun W h=>⟨(L0.out.next h).cell 0,(L0.out.next h).cell 1,(L0.out.next h).cell 2,(L0.out.next h).cell 3,(L1.out.next h).cell 0,(L1.out.next h).cell 1,(L1.out.next h).cell 2,(L1.out.next h).frozen 0,(L1.out.next h).frozen 1,(L1.out.next h).frozen 2,(L1.out.next h).lt,h⟩)
 have CI:Hid (∀ W,PowTab W->Calls Tryz.prog 75 #[vI ((row:Int)+1)] W fun e w'=>e=.returned (vT (Lib.decDigits (row+1)))/\Below W.heap.size W w'):=zh (fun W h=>mL (row+1) W h (by omega));have CI:Hid (∀ W,PowTab W->Calls Tryz.prog 75 #[vI (IntKind.i64.wrap ((row:Int)+1))] W fun e w'=>e=.returned (vT (Lib.decDigits (row+1)))/\Below W.heap.size W w'):=zh (by rw[IntWalk.i64_in ((row:Int)+1) (by omega)];exact CI.out);have hln:(Lib.decDigits (row+1)).length<=4:=cO (row+1) 3 (by have:(10:Nat) ^ (3+1)=10000:=rfl;omega);have ox:Hid (dS (fE .plain row false)=.agg #[vI 1,vT (Lib.decDigits (row+1)),vI 0]):=zh rfl;generalize Lib.decDigits (row+1)=M at *;have k1:¬ 9223372036854775807<M.length+1:=by omega
 have k2:¬ 9223372036854775807<1+M.length:=by omega
 obtain⟨tv,i9⟩:=zD (dS (fE .plain row false))
 have ph:=zh i9;rw[<- i9];clear aj hp i9 L0 L1
 go_in
 go_upto_region 1 with fail
 rw[<- ak.out];clear ak;obtain⟨m0,m1,m2,m3,t0,t1,t2,f0,f1,f2,z0,cv⟩:=bz.out _ zB;have qj:Hid (PowTab W0.drew):=mg
 go_upto_region 5 with fail
 go_region_held3 (fun w'=>w'.cell? ⟨w.heap.size,0,none⟩=some (vI (row:Int))/\w'.cell? ⟨w.heap.size,1,none⟩=some (vI (col:Int))/\w'.cell? ⟨w.heap.size,2,none⟩=some (.bool false)/\w'.cell? ⟨w.heap.size,3,none⟩=some (.bool fc)/\w'.cell? ⟨w.heap.size+1,0,none⟩=some (vI 0)/\w'.cell? ⟨w.heap.size+1,1,none⟩=some (vS #[])/\w'.cell? ⟨w.heap.size+1,2,none⟩=some (vI 0)/\w'.frozen? ⟨w.heap.size+1,0,none⟩=false/\w'.frozen? ⟨w.heap.size+1,1,none⟩=false/\w'.frozen? ⟨w.heap.size+1,2,none⟩=false/\w.heap.size+1<w'.heap.size/\Below W0.heap.size W0 w')
  (first|exact bz.out _ cv|exact bz.out _ cv.drew |(go_split_ands;exact bz.out _ (Below.trans (by assumption) (Below.mono hb (Below.size (by assumption)))))|assumption)
  (first
   |(go_at_call 75;(with_reducible refine(CI.out _ qj.out).mono ?_);rintro e wx ⟨rfl,hb⟩;have HB:=zh (Below.trans (Below.refl _ W0).drew (Below.mono hb zr))))
 all_goals (try go_split_ands)
 all_goals go_wp2_with fail
 all_goals (try clear m0 m1 m2 m3 t0 t1 t2 f0 f1 f2 z0 cv)
 all_goals obtain⟨m0,m1,m2,m3,t0,t1,t2,f0,f1,f2,z0,cv⟩:=bz.out _ HB.out
 all_goals refine yt (v:=.agg #[vI 1,vT (M),vI 0]) (by simp[results,Tryz.results34,go_sem,t0,t1,t2]) rfl ?_
 all_goals refine⟨by rw[ph.out,ox.out],?_⟩
 all_goals exact(((zU aq.out HB.out).setCell (p:=⟨_,_,none⟩) (Nat.le_succ _) _).setCell (p:=⟨_,_,none⟩) (Nat.le_succ _) _).setCell (p:=⟨_,_,none⟩) (Nat.le_succ _) _
theorem say_colF(row col:Nat)(fr:Bool)(w:World)(hp:PowTab w)(hr:row<=400)(hc:col<=400) :
  Calls Tryz.prog 34 #[.agg #[vI (row:Int),vI (col:Int),.bool fr,.bool true],vI 2] w fun e w'=>e=.returned (dS (fD .plain col true))/\Below w.heap.size w w':=by
 have hri:(row:Int)<=400:=by omega
 have dy:(col:Int)<=400:=by omega
 obtain⟨W0,aj⟩:∃ W0,W0=(w.alloc (.cells #[vI (row:Int),vI (col:Int),.bool fr,.bool true] 90)).alloc (.cells #[vI 0,vS #[],vI 0] 64):=⟨_,rfl⟩
 have ak:=zh aj;have aq:Hid (Below w.heap.size w W0):=zh (by rw[aj];exact((Below.refl _ w).alloc zr _).alloc (by rw[World.size_alloc];omega) _);have L0:Hid (Lies W0 w.heap.size 90 #[vI (row:Int),vI (col:Int),.bool fr,.bool true]):=zh (by rw[aj];exact(Lies.new w _ _).alloc _);have L1:Hid (Lies W0 (w.heap.size+1) 64 #[vI 0,vS #[],vI 0]):=zh (by
  rw[aj];have h:=Lies.new (w.alloc (.cells #[vI (row:Int),vI (col:Int),.bool fr,.bool true] 90)) 64 #[vI 0,vS #[],vI 0];rw[World.size_alloc]at h;exact h)
 have mg:Hid (PowTab W0):=zh (hp.next aq.out);have bz:Hid (∀ W,Below W0.heap.size W0 W->W.cell? ⟨w.heap.size,0,none⟩=some (vI (row:Int))/\W.cell? ⟨w.heap.size,1,none⟩=some (vI (col:Int))/\W.cell? ⟨w.heap.size,2,none⟩=some (.bool fr)/\W.cell? ⟨w.heap.size,3,none⟩=some (.bool true)/\W.cell? ⟨w.heap.size+1,0,none⟩=some (vI 0)/\W.cell? ⟨w.heap.size+1,1,none⟩=some (vS #[])/\W.cell? ⟨w.heap.size+1,2,none⟩=some (vI 0)/\W.frozen? ⟨w.heap.size+1,0,none⟩=false/\W.frozen? ⟨w.heap.size+1,1,none⟩=false/\W.frozen? ⟨w.heap.size+1,2,none⟩=false/\w.heap.size+1<W.heap.size/\Below W0.heap.size W0 W):=zh (fun W h=>⟨(L0.out.next h).cell 0,(L0.out.next h).cell 1,(L0.out.next h).cell 2,(L0.out.next h).cell 3,(L1.out.next h).cell 0,(L1.out.next h).cell 1,(L1.out.next h).cell 2,(L1.out.next h).frozen 0,(L1.out.next h).frozen 1,(L1.out.next h).frozen 2,(L1.out.next h).lt,h⟩)
 have CI:=zh (fun W=>jY col W (by omega));have hln:(eH (col+1)).length<=3:=iG (col+1) (by omega);have ox:Hid (dS (fD .plain col true)=.agg #[vI 4,vT (36::eH (col+1)),vI 0]):=zh rfl;generalize eH (col+1)=M at *;have k1:¬ 9223372036854775807<M.length+1:=by omega
 have k2:¬ 9223372036854775807<1+M.length:=by omega
 obtain⟨tv,i9⟩:=zD (dS (fD .plain col true))
 have ph:=zh i9;rw[<- i9];clear aj hp i9 L0 L1
 go_in
 go_upto_region 1 with fail
 rw[<- ak.out];clear ak;obtain⟨m0,m1,m2,m3,t0,t1,t2,f0,f1,f2,z0,cv⟩:=bz.out _ zB;have qj:Hid (PowTab W0.drew):=mg
 go_upto_region 7 with fail
 go_region_held3 (fun w'=>w'.cell? ⟨w.heap.size,0,none⟩=some (vI (row:Int))/\w'.cell? ⟨w.heap.size,1,none⟩=some (vI (col:Int))/\w'.cell? ⟨w.heap.size,2,none⟩=some (.bool fr)/\w'.cell? ⟨w.heap.size,3,none⟩=some (.bool true)/\w'.cell? ⟨w.heap.size+1,0,none⟩=some (vI 0)/\w'.cell? ⟨w.heap.size+1,1,none⟩=some (vS #[])/\w'.cell? ⟨w.heap.size+1,2,none⟩=some (vI 0)/\w'.frozen? ⟨w.heap.size+1,0,none⟩=false/\w'.frozen? ⟨w.heap.size+1,1,none⟩=false/\w'.frozen? ⟨w.heap.size+1,2,none⟩=false/\w.heap.size+1<w'.heap.size/\Below W0.heap.size W0 w')
  (first|exact bz.out _ cv|exact bz.out _ cv.drew |(go_split_ands;exact bz.out _ (Below.trans (by assumption) (Below.mono hb (Below.size (by assumption)))))|assumption)
  (first
   |(go_at_call 76;(with_reducible refine(CI.out _).mono ?_);rintro e wx ⟨rfl,hb⟩;have HB:=zh (Below.trans (Below.refl _ W0).drew (Below.mono hb zr))))
 all_goals (try go_split_ands)
 all_goals go_wp2_with fail
 all_goals (try clear m0 m1 m2 m3 t0 t1 t2 f0 f1 f2 z0 cv)
 all_goals obtain⟨m0,m1,m2,m3,t0,t1,t2,f0,f1,f2,z0,cv⟩:=bz.out _ HB.out
 all_goals refine yt (v:=.agg #[vI 4,vT (36::M),vI 0]) (by simp[results,Tryz.results34,go_sem,t0,t1,t2]) rfl ?_
 all_goals refine⟨by rw[ph.out,ox.out],?_⟩
 all_goals exact(((zU aq.out HB.out).setCell (p:=⟨_,_,none⟩) (Nat.le_succ _) _).setCell (p:=⟨_,_,none⟩) (Nat.le_succ _) _).setCell (p:=⟨_,_,none⟩) (Nat.le_succ _) _
theorem say_colN(row col:Nat)(fr:Bool)(w:World)(hp:PowTab w)(hr:row<=400)(hc:col<=400) :
  Calls Tryz.prog 34 #[.agg #[vI (row:Int),vI (col:Int),.bool fr,.bool false],vI 2] w fun e w'=>e=.returned (dS (fD .plain col false))/\Below w.heap.size w w':=by
 have hri:(row:Int)<=400:=by omega
 have dy:(col:Int)<=400:=by omega
 obtain⟨W0,aj⟩:∃ W0,W0=(w.alloc (.cells #[vI (row:Int),vI (col:Int),.bool fr,.bool false] 90)).alloc (.cells #[vI 0,vS #[],vI 0] 64):=⟨_,rfl⟩
 have ak:=zh aj;have aq:Hid (Below w.heap.size w W0):=zh (by rw[aj];exact((Below.refl _ w).alloc zr _).alloc (by rw[World.size_alloc];omega) _);have L0:Hid (Lies W0 w.heap.size 90 #[vI (row:Int),vI (col:Int),.bool fr,.bool false]):=zh (by rw[aj];exact(Lies.new w _ _).alloc _);have L1:Hid (Lies W0 (w.heap.size+1) 64 #[vI 0,vS #[],vI 0]):=zh (by
  rw[aj];have h:=Lies.new (w.alloc (.cells #[vI (row:Int),vI (col:Int),.bool fr,.bool false] 90)) 64 #[vI 0,vS #[],vI 0];rw[World.size_alloc]at h;exact h)
 have mg:Hid (PowTab W0):=zh (hp.next aq.out);have bz:Hid (∀ W,Below W0.heap.size W0 W->W.cell? ⟨w.heap.size,0,none⟩=some (vI (row:Int))/\W.cell? ⟨w.heap.size,1,none⟩=some (vI (col:Int))/\W.cell? ⟨w.heap.size,2,none⟩=some (.bool fr)/\W.cell? ⟨w.heap.size,3,none⟩=some (.bool false)/\W.cell? ⟨w.heap.size+1,0,none⟩=some (vI 0)/\W.cell? ⟨w.heap.size+1,1,none⟩=some (vS #[])/\W.cell? ⟨w.heap.size+1,2,none⟩=some (vI 0)/\W.frozen? ⟨w.heap.size+1,0,none⟩=false/\W.frozen? ⟨w.heap.size+1,1,none⟩=false/\W.frozen? ⟨w.heap.size+1,2,none⟩=false/\w.heap.size+1<W.heap.size/\Below W0.heap.size W0 W):=zh (fun W h=>⟨(L0.out.next h).cell 0,(L0.out.next h).cell 1,(L0.out.next h).cell 2,(L0.out.next h).cell 3,(L1.out.next h).cell 0,(L1.out.next h).cell 1,(L1.out.next h).cell 2,(L1.out.next h).frozen 0,(L1.out.next h).frozen 1,(L1.out.next h).frozen 2,(L1.out.next h).lt,h⟩)
 have CI:=zh (fun W=>jY col W (by omega));have hln:(eH (col+1)).length<=3:=iG (col+1) (by omega);have ox:Hid (dS (fD .plain col false)=.agg #[vI 3,vT (eH (col+1)),vI 0]):=zh rfl;generalize eH (col+1)=M at *;have k1:¬ 9223372036854775807<M.length+1:=by omega
 have k2:¬ 9223372036854775807<1+M.length:=by omega
 obtain⟨tv,i9⟩:=zD (dS (fD .plain col false))
 have ph:=zh i9;rw[<- i9];clear aj hp i9 L0 L1
 go_in
 go_upto_region 1 with fail
 rw[<- ak.out];clear ak;obtain⟨m0,m1,m2,m3,t0,t1,t2,f0,f1,f2,z0,cv⟩:=bz.out _ zB;have qj:Hid (PowTab W0.drew):=mg
 go_upto_region 7 with fail
 go_region_held3 (fun w'=>w'.cell? ⟨w.heap.size,0,none⟩=some (vI (row:Int))/\w'.cell? ⟨w.heap.size,1,none⟩=some (vI (col:Int))/\w'.cell? ⟨w.heap.size,2,none⟩=some (.bool fr)/\w'.cell? ⟨w.heap.size,3,none⟩=some (.bool false)/\w'.cell? ⟨w.heap.size+1,0,none⟩=some (vI 0)/\w'.cell? ⟨w.heap.size+1,1,none⟩=some (vS #[])/\w'.cell? ⟨w.heap.size+1,2,none⟩=some (vI 0)/\w'.frozen? ⟨w.heap.size+1,0,none⟩=false/\w'.frozen? ⟨w.heap.size+1,1,none⟩=false/\w'.frozen? ⟨w.heap.size+1,2,none⟩=false/\w.heap.size+1<w'.heap.size/\Below W0.heap.size W0 w')
  (first|exact bz.out _ cv|exact bz.out _ cv.drew |(go_split_ands;exact bz.out _ (Below.trans (by assumption) (Below.mono hb (Below.size (by assumption)))))|assumption)
  (first
   |(go_at_call 76;(with_reducible refine(CI.out _).mono ?_);rintro e wx ⟨rfl,hb⟩;have HB:=zh (Below.trans (Below.refl _ W0).drew (Below.mono hb zr))))
 all_goals (try go_split_ands)
 all_goals go_wp2_with fail
 all_goals (try clear m0 m1 m2 m3 t0 t1 t2 f0 f1 f2 z0 cv)
 all_goals obtain⟨m0,m1,m2,m3,t0,t1,t2,f0,f1,f2,z0,cv⟩:=bz.out _ HB.out
 all_goals refine yt (v:=.agg #[vI 3,vT (M),vI 0]) (by simp[results,Tryz.results34,go_sem,t0,t1,t2]) rfl ?_
 all_goals refine⟨by rw[ph.out,ox.out],?_⟩
 all_goals exact(((zU aq.out HB.out).setCell (p:=⟨_,_,none⟩) (Nat.le_succ _) _).setCell (p:=⟨_,_,none⟩) (Nat.le_succ _) _).setCell (p:=⟨_,_,none⟩) (Nat.le_succ _) _
end Go.Proofs.YtjfihpaeglpblaaGreatDoor
