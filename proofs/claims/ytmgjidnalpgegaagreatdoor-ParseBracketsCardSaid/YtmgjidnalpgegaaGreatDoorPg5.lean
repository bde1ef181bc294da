/-
  Lemmas, part 5: PlainW RefB4 Val10 PlainH PlainM PlainK PlT1 Ord2 Par0.
-/
import Derived.Test.YtmgjidnalpgegaaGreatDoorShelfB
import Derived.Lib.AppendIntMem
import Derived.Lib.Walk
import Derived.Lib.Repeat
import Derived.Orders
import Derived.Laws.AppendOwn
import Derived.Laws.EntriesVeiled
import Derived.Test.YtmgjidnalpgegaaGreatDoorPg4
namespace Go.Proofs.YtmgjidnalpgegaaGreatDoor
open Go.RowKit
theorem uEX{n m:Nat}(h:n<10 ^ m):eS n≤m:=by
 rcases Nat.eq_zero_or_pos n with z | z
 ·rw[z,vQ];omega
 ·have:=lT (Nat.lt_of_le_of_lt (rT n z) h);omega
def uFO(r d:Nat):Nat:=if 1000<10*r+d then 1000 else 10*r+d
def powR(L:List Nat):Nat:=L.foldl uFO 0
def pY(p r:Nat):Prop:=(p=r∧r≤1000)∨(r=1000∧1000≤p)
theorem uAV{p r:Nat}(h:pY p r)(d:Nat):pY (eI p d) (uFO r d):=by
 unfold pY eI uFO at *;rcases h with⟨h1,h2⟩ | ⟨h1,h2⟩
 ·subst h1;rw[if_pos (by omega)]
  split <;> omega
 ·subst h1
  right
  refine⟨if_pos (by omega),?_⟩
  split <;> omega
theorem uAU(L:List Nat):∀ p r,pY p r→pY (L.foldl eI p) (L.foldl uFO r):=by
 induction L with
 | nil=>intro p r h;exact h
 | cons d L ih=>intro p r h;exact ih _ _ (uAV h d)
theorem powRel(L:List Nat):pY (uDT L) (powR L):=uAU L 0 0 (.inl ⟨rfl,by omega⟩)
theorem wH(neg:Bool)(n:Nat)(e:Int)(hn:eS n≤300)(he:e≤-1000):fI neg n e=some (0,0):=by
 have h1:(dJ n e).2≤e+285:=by
  unfold dJ
  split
  ·show e+((eS n-15:Nat):Int)≤e+285;omega
  ·show e≤e+285;omega
 have hb:=tM n e;have hd:eS (dJ n e).1≤16:=uEX (Nat.lt_of_le_of_lt hb (by decide));unfold fI;generalize dJ n e=p at *;obtain⟨m,f⟩:=p;simp only at h1 hd ⊢;have h2:fS m f=(0,-40):=by
  unfold fS;rw[if_pos (by omega),uFR m _ (by omega)]
 rw[h2];rfl
def xJ(x:Bool×List Nat×Nat×Bool×List Nat):Option (Int×Int):=fI x.1 (aS x.2.1) ((if x.2.2.2.1 then -(powR x.2.2.2.2:Int) else powR x.2.2.2.2)-(x.2.2.1:Int))
def yE(l:Bs):Option (Int×Int):=if 255<l.length then none else (nP l).bind xJ
theorem pNumT_bd(l:Bs)(x:Bool×List Nat×Nat×Bool×List Nat)(h:nP l=some x):x.2.1.length≤l.length∧x.2.2.1≤l.length∧Dig x.2.1:=by
 unfold nP at h;have hi:(if aP l 0 45 then 1 else 0)≤1:=by split <;> omega
 generalize (if aP l 0 45 then 1 else 0)=i at *;have ha:=bW aC (l.drop i);rw[List.length_drop]at ha;have hb:=bW aC (l.drop (i+aM aC (l.drop i)+1));rw[List.length_drop]at hb;simp only at h
 split at h
 ·rename_i h46
  have h46':=at_lt _ _ _ h46
  split at h
  ·cases h
  ·obtain⟨p,_,hx⟩:=Option.map_eq_some_iff.1 h;subst hx;refine⟨?_,?_,?_⟩
   ·simp only[List.length_append,iW,List.length_take,List.length_drop];omega
   ·show aM aC _≤_;omega
   ·exact(sN _ _ (Nat.le_refl _)).append (sN _ _ (Nat.le_refl _))
 ·split at h
  ·cases h
  ·obtain⟨p,_,hx⟩:=Option.map_eq_some_iff.1 h;subst hx;refine⟨?_,Nat.zero_le _,?_⟩
   ·simp only[iW,List.length_take,List.length_drop];omega
   ·exact sN _ _ (Nat.le_refl _)
theorem uGX(x:Bool×List Nat×Nat×Bool×List Nat)(h1:x.2.1.length≤255)(h2:x.2.2.1≤255)(h3:Dig x.2.1):sS (x.1,x.2.1,x.2.2.1,x.2.2.2.1,uDT x.2.2.2.2)=xJ x:=by
 obtain⟨ng,ds,b,np,pd⟩:=x;simp only at h1 h2 h3;unfold sS xJ;simp only;have hN:eS (aS ds)≤255:=Nat.le_trans (uEX (mO ds h3)) h1;rcases powRel pd with⟨e1,_⟩ | ⟨e1,e2⟩
 ·rw[e1]
 ·rw[e1];cases np
  ·simp only[Bool.false_eq_true,if_false];rcases Nat.eq_zero_or_pos (aS ds) with z | z
   ·rw[z,oD,oD]
   ·rw[oC ng _ _ z (by omega),oC ng _ _ z (by omega)]
  ·simp only[if_true];rw[wH ng _ _ (by omega) (by omega),wH ng _ _ (by omega) (by omega)]
theorem uA(l:Bs):eE l=yE l:=by
 unfold eE yE
 split
 ·rfl
 ·rename_i hl
  rw[all_text];cases h:nP l with
  | none=>rfl
  | some x=>
   obtain⟨a1,a2,a3⟩:=pNumT_bd l x h;exact uGX x (by omega) (by omega) a3
def cA(v:Val):Bool :=
 !((decide (v.kind≠1)&&!(decide (v.mant=0)&&decide (v.exp=0)))||(decide (v.kind≠2)&&decide (v.text≠[]))||(decide (v.kind≠3)&&v.truth)||(decide (v.kind≠4)&&decide (v.fault≠0))) &&
 (if v.kind=1 then dL v.mant v.exp else if v.kind=2 then decide (v.text.length≤255) else decide (v.kind=0)||decide (v.kind=3)||(decide (v.kind=4)&&decide (1≤v.fault)&&decide (v.fault≤9)))
def cW(a b:Val):Bool:=(a.kind==b.kind)&&(a.mant==b.mant)&&(a.exp==b.exp)&&(a.text==b.text)&&(a.truth==b.truth)&&(a.fault==b.fault)
theorem uS(a:Val):cW a a=true:=by simp[cW]
theorem iR(a b:Val):cW a b=true↔a=b:=by
 constructor
 ·intro h;obtain⟨k,m,x,t,tr,f⟩:=a;obtain⟨k2,m2,x2,t2,tr2,f2⟩:=b;simp[cW]at h;obtain⟨⟨⟨⟨⟨rfl,rfl⟩,rfl⟩,rfl⟩,rfl⟩,rfl⟩:=h;rfl
 ·intro h;rw[h];exact uS b
set_option maxRecDepth 100000 in
theorem vH(a b:Val)(w:World):(binOp .eql 32 (rQ a) (rQ b)).run Tryz.prog w=.ok (.bool (cW a b)) w:=by
 obtain⟨k,m,x,t,tr,f⟩:=a;obtain⟨k2,m2,x2,t2,tr2,f2⟩:=b
 go_simp
 by_cases h0:k=k2
 case neg=>simp[cW,h0]
 by_cases h1:m=m2
 case neg=>simp[cW,h0,h1]
 by_cases h2:x=x2
 case neg=>simp[cW,h0,h1,h2]
 by_cases h3:t=t2
 case neg=>simp[cW,h0,h1,h2,h3]
 by_cases h4:tr=tr2
 case neg=>simp[cW,h0,h1,h2,h3,h4]
 by_cases h5:f=f2
 case neg=>simp[cW,h0,h1,h2,h3,h4,h5]
 simp[cW,h0,h1,h2,h3,h4,h5]
theorem pN(k m x:Int)(t:Bs)(tr:Bool)(f k2 m2 x2:Int)(t2:Bs)(tr2:Bool)(f2:Int)(w:World) :
  (binOp .eql 32 (.agg #[.int .i64 k,.int .i64 m,.int .i64 x,.string ⟨t.toArray⟩,.bool tr,.int .i64 f]) (.agg #[.int .i64 k2,.int .i64 m2,.int .i64 x2,.string ⟨t2.toArray⟩,.bool tr2,.int .i64 f2])).run Tryz.prog w=.ok (.bool (cW ⟨k,m,x,t,tr,f⟩ ⟨k2,m2,x2,t2,tr2,f2⟩)) w :=
 vH ⟨k,m,x,t,tr,f⟩ ⟨k2,m2,x2,t2,tr2,f2⟩ w
def ValIn(w:World)(a:Val)(w':World):Prop:=w.heap.size<w'.heap.size∧w'.cell? ⟨w.heap.size,0,none⟩=some (.int .i64 a.kind)∧w'.cell? ⟨w.heap.size,1,none⟩=some (.int .i64 a.mant)∧w'.cell? ⟨w.heap.size,2,none⟩=some (.int .i64 a.exp)∧w'.cell? ⟨w.heap.size,3,none⟩=some (.string ⟨a.text.toArray⟩)∧w'.cell? ⟨w.heap.size,4,none⟩=some (.bool a.truth)∧w'.cell? ⟨w.heap.size,5,none⟩=some (.int .i64 a.fault)∧Below w.heap.size w w'
theorem ValIn.start(w:World)(a:Val):ValIn w a (w.alloc (.cells (lZ a) 32)):=by
 have hL:Lies (w.alloc (.cells (lZ a) 32)) w.heap.size 32 (lZ a):=Lies.new _ _ _;exact⟨by simp,hL.cell 0,hL.cell 1,hL.cell 2,hL.cell 3,hL.cell 4,hL.cell 5,(Below.refl _ w).alloc (Nat.le_refl _) _⟩
theorem ValIn.next{w w' w'':World}{a:Val}(h:ValIn w a w')(hb:Below w'.heap.size w' w''):ValIn w a w'':=by
 obtain⟨h0,h1,h2,h3,h4,h5,h6,h7⟩:=h;have hs:=hb.size;have k0:∀ i,w''.cell? ⟨w.heap.size,i,none⟩=w'.cell? ⟨w.heap.size,i,none⟩:=fun i=>hb.cell (p:=⟨_,_,none⟩) (by show w.heap.size<_;omega)
 exact⟨by omega,(k0 0).trans h1,(k0 1).trans h2,(k0 2).trans h3,(k0 3).trans h4,(k0 4).trans h5,(k0 5).trans h6,h7.trans (hb.mono h7.size)⟩
theorem ValIn.drew{w w':World}{a:Val}(h:ValIn w a w'):ValIn w a w'.drew:=h.next (Below.refl _ _).drew
theorem pS(v:Val)(h:v.kind=0):cA v=cW v ⟨0,0,0,[],false,0⟩:=by
 obtain⟨k,m,x,t,tr,f⟩:=v;dsimp only at h;subst h;rw[Bool.eq_iff_iff];simp[cA,cW]
theorem uR(v:Val)(h:v.kind=1):cA v=(dL v.mant v.exp&&cW v (gZ v.mant v.exp)):=by
 obtain⟨k,m,x,t,tr,f⟩:=v;dsimp only at h;subst h;rw[Bool.eq_iff_iff];simp[cA,cW,gZ];constructor
 ·rintro⟨⟨⟨rfl,rfl⟩,rfl⟩,h⟩;simp[h]
 ·rintro⟨h,⟨rfl,rfl⟩,rfl⟩;simp[h]
theorem rM(v:Val)(h:v.kind=2):cA v=cW v (pW v.text):=by
 obtain⟨k,m,x,t,tr,f⟩:=v;dsimp only at h;subst h;unfold pW;by_cases hl:255<t.length
 ·rw[if_pos hl];have:¬ t.length≤255:=by omega
  simp[cA,cW,oJ,this]
 ·rw[if_neg hl];have:t.length≤255:=by omega
  rw[Bool.eq_iff_iff];simp[cA,cW,this]
theorem pV(v:Val)(h:v.kind=3):cA v=cW v (lV v.truth):=by
 obtain⟨k,m,x,t,tr,f⟩:=v;dsimp only at h;subst h;rw[Bool.eq_iff_iff];simp[cA,cW,lV]
theorem pT(v:Val)(h:v.kind=4):cA v=cW v (oJ v.fault):=by
 obtain⟨k,m,x,t,tr,f⟩:=v;dsimp only at h;subst h;unfold oJ;by_cases hf:f<1∨9<f
 ·rw[if_pos hf];rcases hf with h | h
  ·have h1:¬ 1≤f:=by omega
   have h2:¬ f=9:=by omega
   simp[cA,cW,h1,h2]
  ·have h1:¬ f≤9:=by omega
   have h2:¬ f=9:=by omega
   simp[cA,cW,h1,h2]
 ·rw[if_neg hf];have h1:1≤f:=by omega
  have h2:f≤9:=by omega
  rw[Bool.eq_iff_iff];simp[cA,cW,h1,h2]
theorem pU(v:Val)(h0:v.kind≠0)(h1:v.kind≠1)(h2:v.kind≠2)(h3:v.kind≠3)(h4:v.kind≠4):cA v=false:=by
 simp[cA,h0,h1,h2,h3,h4]
set_option maxRecDepth 100000 in
set_option maxHeartbeats 6400000 in
theorem uBR(a:Val)(w:World)(h1:-9223372036854775808≤a.mant)(h2:a.mant≤9223372036854775807)(hl:a.text.length≤1000000) :
  Calls Tryz.prog 77 #[rQ a] w fun x w'=>x=.returned (.bool (cA a))∧Below w.heap.size w w':=by
 have T0:=zh (ValIn.start w a);have HB:=zh T0.out.2.2.2.2.2.2.2;have HR:=zh (fun W=>qK a.mant a.exp W h1 h2);have HO:=zh (fun W=>of_any a.mant a.exp W);have HTx:=zh (fun W=>uBM a.text W hl);have HTr:=zh (fun W=>wV a.truth W);have HBd:=zh (fun W=>xC a.fault W);have P0:=zh (pS a);have P1:=zh (uR a);have P2:=zh (rM a);have P3:=zh (pV a);have P4:=zh (pT a);have P5:=zh (pU a);have hE:=pN;generalize cA a=r at *;clear h1 h2 hl;obtain⟨k,m,x,t,tr,f⟩:=a;dsimp only at P0 P1 P2 P3 P4 P5 HR HO HTx HTr HBd;by_cases k0:k=0
 ·have hr:=zh (P0.out k0);subst k0
  go_enter Tryz.func77,Tryz.ntmps77
  go_wp2_with fail
  go_ret
  exact⟨aJ (by rw[hr.out]),HB.out⟩
 have b0:(k==0)=false:=by rw[beq_eq_false_iff_ne];exact k0
 by_cases k1:k=1
 ·have hr:=zh (P1.out k1);subst k1;clear k0 b0;cases hp:dL m x
  ·rw[hp]at HR hr;clear hp
   go_enter Tryz.func77,Tryz.ntmps77
   go_wp2_with fail
   have T1:=T0.out.drew;obtain⟨g0,g1,g2,g3,g4,g5,g6,g7⟩:=id T1;dsimp only at g1 g2 g3 g4 g5 g6
   first
    |(go_region_law (have _:=T1;go_simp;go_at_call 95;refine(HR.out _).mono ?_;rintro e w1 ⟨rfl,hb⟩;have T2:=ValIn.next T1 hb;clear hb T1 g0 g1 g2 g3 g4 g5 g6 g7;obtain⟨g0,g1,g2,g3,g4,g5,g6,g7⟩:=id T2))
    | fail
   all_goals go_wp2_with fail
   all_goals go_ret
   all_goals exact⟨aJ (by rw[hr.out];rfl),g7⟩
  ·rw[hp]at HR hr;clear hp
   go_enter Tryz.func77,Tryz.ntmps77
   go_wp2_with fail
   go_region_held3 (fun w'=>w.heap.size<w'.heap.size∧w'.cell? ⟨w.heap.size,0,none⟩=some (.int .i64 1)∧w'.cell? ⟨w.heap.size,1,none⟩=some (.int .i64 m)∧w'.cell? ⟨w.heap.size,2,none⟩=some (.int .i64 x)∧w'.cell? ⟨w.heap.size,3,none⟩=some (.string ⟨t.toArray⟩)∧w'.cell? ⟨w.heap.size,4,none⟩=some (.bool tr)∧w'.cell? ⟨w.heap.size,5,none⟩=some (.int .i64 f)∧Below w.heap.size w w')
    (first | exact T0.out | exact T0.out.drew | exact(ValIn.next T0.out.drew hb) |(go_split_ands;exact(ValIn.next (w:=w) (a:=⟨1,m,x,t,tr,f⟩) ⟨by assumption,by assumption,by assumption,by assumption,by assumption,by assumption,by assumption,by assumption⟩ hb)))
    (first |(go_at_call 95;refine(HR.out _).mono ?_;rintro e wx ⟨rfl,hb⟩) |(go_at_call 96;refine(HO.out _).mono ?_;rintro e wx ⟨rfl,hb⟩;unfold gZ))
   all_goals go_wp2_with fail
   all_goals go_ret
   all_goals refine⟨aJ (by rw[hr.out] <;> rfl),?_⟩
   all_goals first | assumption |(go_split_ands;assumption)
 have b1:(k==1)=false:=by rw[beq_eq_false_iff_ne];exact k1
 by_cases k2:k=2
 ·have hr:=zh (P2.out k2);subst k2;clear k0 b0 k1 b1;generalize pW t=q at *;obtain⟨qk,qm,qx,qt,qtr,qf⟩:=q
  go_enter Tryz.func77,Tryz.ntmps77
  go_wp2_with fail
  go_region_held3 (fun w'=>w.heap.size<w'.heap.size∧w'.cell? ⟨w.heap.size,0,none⟩=some (.int .i64 2)∧w'.cell? ⟨w.heap.size,1,none⟩=some (.int .i64 m)∧w'.cell? ⟨w.heap.size,2,none⟩=some (.int .i64 x)∧w'.cell? ⟨w.heap.size,3,none⟩=some (.string ⟨t.toArray⟩)∧w'.cell? ⟨w.heap.size,4,none⟩=some (.bool tr)∧w'.cell? ⟨w.heap.size,5,none⟩=some (.int .i64 f)∧Below w.heap.size w w')
   (first | exact T0.out | exact T0.out.drew | exact(ValIn.next T0.out.drew hb) |(go_split_ands;exact(ValIn.next (w:=w) (a:=⟨2,m,x,t,tr,f⟩) ⟨by assumption,by assumption,by assumption,by assumption,by assumption,by assumption,by assumption,by assumption⟩ hb)))
   ((go_at_call 97;refine(HTx.out _).mono ?_;rintro e wx ⟨rfl,hb⟩))
  all_goals go_wp2_with fail
  all_goals go_ret
  all_goals refine⟨aJ (by rw[hr.out] <;> rfl),?_⟩
  all_goals first | assumption |(go_split_ands;assumption)
 have b2:(k==2)=false:=by rw[beq_eq_false_iff_ne];exact k2
 by_cases k3:k=3
 ·have hr:=zh (P3.out k3);subst k3;clear k0 b0 k1 b1 k2 b2
  go_enter Tryz.func77,Tryz.ntmps77
  go_wp2_with fail
  go_region_held3 (fun w'=>w.heap.size<w'.heap.size∧w'.cell? ⟨w.heap.size,0,none⟩=some (.int .i64 3)∧w'.cell? ⟨w.heap.size,1,none⟩=some (.int .i64 m)∧w'.cell? ⟨w.heap.size,2,none⟩=some (.int .i64 x)∧w'.cell? ⟨w.heap.size,3,none⟩=some (.string ⟨t.toArray⟩)∧w'.cell? ⟨w.heap.size,4,none⟩=some (.bool tr)∧w'.cell? ⟨w.heap.size,5,none⟩=some (.int .i64 f)∧Below w.heap.size w w')
   (first | exact T0.out | exact T0.out.drew | exact(ValIn.next T0.out.drew hb) |(go_split_ands;exact(ValIn.next (w:=w) (a:=⟨3,m,x,t,tr,f⟩) ⟨by assumption,by assumption,by assumption,by assumption,by assumption,by assumption,by assumption,by assumption⟩ hb)))
   ((go_at_call 98;refine(HTr.out _).mono ?_;rintro e wx ⟨rfl,hb⟩;unfold lV))
  all_goals go_wp2_with fail
  all_goals go_ret
  all_goals refine⟨aJ (by rw[hr.out] <;> rfl),?_⟩
  all_goals first | assumption |(go_split_ands;assumption)
 have b3:(k==3)=false:=by rw[beq_eq_false_iff_ne];exact k3
 by_cases k4:k=4
 ·have hr:=zh (P4.out k4);subst k4;clear k0 b0 k1 b1 k2 b2 k3 b3;generalize oJ f=q at *;obtain⟨qk,qm,qx,qt,qtr,qf⟩:=q
  go_enter Tryz.func77,Tryz.ntmps77
  go_wp2_with fail
  go_region_held3 (fun w'=>w.heap.size<w'.heap.size∧w'.cell? ⟨w.heap.size,0,none⟩=some (.int .i64 4)∧w'.cell? ⟨w.heap.size,1,none⟩=some (.int .i64 m)∧w'.cell? ⟨w.heap.size,2,none⟩=some (.int .i64 x)∧w'.cell? ⟨w.heap.size,3,none⟩=some (.string ⟨t.toArray⟩)∧w'.cell? ⟨w.heap.size,4,none⟩=some (.bool tr)∧w'.cell? ⟨w.heap.size,5,none⟩=some (.int .i64 f)∧Below w.heap.size w w')
   (first | exact T0.out | exact T0.out.drew | exact(ValIn.next T0.out.drew hb) |(go_split_ands;exact(ValIn.next (w:=w) (a:=⟨4,m,x,t,tr,f⟩) ⟨by assumption,by assumption,by assumption,by assumption,by assumption,by assumption,by assumption,by assumption⟩ hb)))
   ((go_at_call 99;refine(HBd.out _).mono ?_;rintro e wx ⟨rfl,hb⟩))
  all_goals go_wp2_with fail
  all_goals go_ret
  all_goals refine⟨aJ (by rw[hr.out] <;> rfl),?_⟩
  all_goals first | assumption |(go_split_ands;assumption)
 have b4:(k==4)=false:=by rw[beq_eq_false_iff_ne];exact k4
 have hr:=zh (P5.out k0 k1 k2 k3 k4);clear k0 k1 k2 k3 k4
 go_enter Tryz.func77,Tryz.ntmps77
 go_wp2_with fail
 go_ret
 exact⟨aJ (by rw[hr.out]),HB.out⟩
def AllDig(D:Bs):Prop:=∀ c∈D,aC c=true
theorem sU(p q:Nat→Bool)(l:List Nat)(h:∀ i,p i=q i):l.find? p=l.find? q:=by
 have:p=q:=funext h;rw[this]
def bL(m:Nat)(t:Tok):Tok:=⟨t.kind,t.text,t.place+m⟩
def mU(m:Nat):Except Nat (List Tok)→Except Nat (List Tok)
 | .error p=>.error (p+m)
 | .ok ts=>.ok (ts.map (bL m))
theorem zX(m:Nat):∀ (f:Nat) (l:Bs) (k:Nat),dR f l (k+m)=mU m (dR f l k):=by
 intro f
 induction f with
 | zero=>intro l k;rfl
 | succ f ih=>
  intro l k;cases l with
  | nil=>rfl
  | cons c r=>
   simp only[dR]
   split
   ·rw[show k+m+1=k+1+m by omega];exact ih r (k+1)
   ·split
    ·rfl
    ·rw[show k+m+(aR (c::r)).2.2=k+(aR (c::r)).2.2+m by omega,ih];cases dR f ((c::r).drop (aR (c::r)).2.2) (k+(aR (c::r)).2.2) <;> rfl
theorem nN(l:Bs)(k m:Nat):bF l (k+m)=mU m (bF l k):=zX m _ _ _
theorem uHK:∀ (f:Nat) (l:Bs) (k p:Nat),dR f l k=.error p→k≤p∧p<k+l.length:=by
 intro f
 induction f with
 | zero=>intro l k p h;cases h
 | succ f ih=>
  intro l k p h;cases l with
  | nil=>cases h
  | cons c r=>
   simp only[dR]at h
   split at h
   ·have:=ih r (k+1) p h;simp only[List.length_cons];omega
   ·split at h
    ·injection h with h;subst h;simp
    ·cases hx:dR f ((c::r).drop (aR (c::r)).2.2) (k+(aR (c::r)).2.2) with
     | error q=>
      rw[hx]at h;injection h with h;subst h;have:=ih _ _ q hx;have hle:=iP (c::r) (by simp);rw[List.length_drop]at this;omega
     | ok ts=>rw[hx]at h;cases h
theorem pLex_err(l:Bs)(p:Nat)(h:iG l=.error p):p<l.length:=by
 have:=(uHK _ _ _ _ h).2;omega
theorem xQ:∀ (f:Nat) (l:Bs) (k:Nat) (ts:List Tok),dR f l k=.ok ts→ts.length≤l.length:=by
 intro f
 induction f with
 | zero=>intro l k ts h;injection h with h;subst h;simp
 | succ f ih=>
  intro l k ts h;cases l with
  | nil=>injection h with h;subst h;simp
  | cons c r=>
   simp only[dR]at h
   split at h
   ·have:=ih r (k+1) ts h;simp only[List.length_cons];omega
   ·split at h
    ·cases h
    ·rename_i h0
     cases hx:dR f ((c::r).drop (aR (c::r)).2.2) (k+(aR (c::r)).2.2) with
     | error q=>rw[hx]at h;cases h
     | ok us=>
      rw[hx]at h;injection h with h;subst h;have:=ih _ _ us hx;rw[List.length_drop]at this;simp only[List.length_cons]at this ⊢;omega
theorem uGE(l:Bs)(m k:Nat)(c:UInt8):aP (l.take m) k c=(decide (k<m)&&aP l k c):=by
 unfold aP;by_cases h:k<m
 ·rw[List.getElem?_take_of_lt h,decide_eq_true h,Bool.true_and]
 ·rw[List.getElem?_eq_none (by rw[List.length_take];omega),decide_eq_false h];rfl
theorem lN(l:Bs)(c:UInt8):Lib.hasPrefix l [c]=aP l 0 c:=by
 cases l with
 | nil=>rfl
 | cons d l=>
  unfold Lib.hasPrefix aP;simp only[List.isPrefixOf,Bool.and_true,List.getElem?_cons_zero];rw[Bool.eq_iff_iff,beq_iff_eq,beq_iff_eq];constructor
  ·intro h;rw[h]
  ·intro h;injection h with h;exact h.symm
theorem nS(l:Bs)(c:UInt8):Lib.trimPrefix l [c]=if aP l 0 c then l.drop 1 else l:=by
 unfold Lib.trimPrefix;rw[lN];rfl
def dX(c:UInt8):Bool:=decide (65≤c.toNat)&&decide (c.toNat≤90)
def dQ(l:Bs):Nat:=l.foldl (fun a c=>a*26+(c.toNat-65)+1) 0
theorem sJ(l:Bs)(c:UInt8):dQ (l++[c])=dQ l*26+(c.toNat-65)+1:=by simp[dQ]
structure IdR where
 a:Int
 n:Int
theorem IdR.ext'{x y:IdR}(h1:x.a=y.a)(h2:x.n=y.n):x=y:=by
 cases x;cases y;cases h1;cases h2;rfl
instance:DecidableEq IdR:=fun x y=>if h:x.a=y.a∧x.n=y.n then .isTrue (IdR.ext' h.1 h.2) else .isFalse (fun e=>h (by rw[e];exact⟨rfl,rfl⟩))
abbrev id0:IdR:=⟨0,0⟩
structure Cor where
 row:IdR
 col:IdR
 fr:Bool
 fc:Bool
theorem Cor.ext'{x y:Cor}(h1:x.row=y.row)(h2:x.col=y.col)(h3:x.fr=y.fr)(h4:x.fc=y.fc):x=y:=by
 cases x;cases y;cases h1;cases h2;cases h3;cases h4;rfl
instance:DecidableEq Cor:=fun x y=>if h:x.row=y.row∧x.col=y.col∧x.fr=y.fr∧x.fc=y.fc then .isTrue (Cor.ext' h.1 h.2.1 h.2.2.1 h.2.2.2) else .isFalse (fun e=>h (by rw[e];exact⟨rfl,rfl,rfl,rfl⟩))
abbrev aH:Cor:=⟨id0,id0,false,false⟩
structure NodeH where
 kind:Int
 v:Val
 name:Bs
 a:Cor
 b:Cor
 rows:Int
inductive Tree where
 | mk (h:NodeH) (l:List Tree)
def Tree.h:Tree→NodeH
 | .mk h _=>h
def Tree.l:Tree→List Tree
 | .mk _ l=>l
abbrev head0:NodeH:=⟨0,aF,[],aH,aH,0⟩
abbrev lX:Tree:=.mk head0 []
abbrev iH(v:Val):Tree:=.mk ⟨0,v,[],aH,aH,0⟩ []
abbrev iL(k:Int)(a b:Cor):Tree:=.mk ⟨k,aF,[],a,b,0⟩ []
abbrev uBK(s:Bs)(l:List Tree):Tree:=.mk ⟨4,aF,s,aH,aH,0⟩ l
abbrev tUn(s:Bs)(x:Tree):Tree:=.mk ⟨5,aF,s,aH,aH,0⟩ [x]
abbrev tBin(s:Bs)(x y:Tree):Tree:=.mk ⟨6,aF,s,aH,aH,0⟩ [x,y]
abbrev uFU(s:Bs):Tree:=.mk ⟨7,aF,s,aH,aH,0⟩ []
abbrev uII(r:Int)(l:List Tree):Tree:=.mk ⟨8,aF,[],aH,aH,r⟩ l
abbrev uFT:Tree:=.mk ⟨9,aF,[],aH,aH,0⟩ []
mutual
def Tree.size:Tree→Nat
 | .mk _ l=>dN l+1
def dN:List Tree→Nat
 | []=>0
 | t::r=>t.size+dN r
end
mutual
def Tree.depth:Tree→Nat
 | .mk _ l=>lJ l+1
def lJ:List Tree→Nat
 | []=>0
 | t::r=>max t.depth (lJ r)
end
def NodeH.same(x y:NodeH):Bool:=decide (x.kind=y.kind)&&cW x.v y.v&&x.name==y.name&&decide (x.a=y.a)&&decide (x.b=y.b)&&decide (x.rows=y.rows)
mutual
def Tree.same:Tree→Tree→Bool
 | .mk h l,.mk h' l'=>NodeH.same h h'&&iJ l l'
def iJ:List Tree→List Tree→Bool
 | [],[]=>true
 | t::r,t'::r'=>t.same t'&&iJ r r'
 | [],_::_=>false
 | _::_,[]=>false
end
def aV(s:Bs):Nat:=aM aC s
def aZ(s:Bs):Nat:=aM dX s
def cE(s:Bs):Bool :=
 decide (0<s.length)&&decide (s.length≤32)&&dX (s.headD 0)&&s.all (fun c=>dX c||aC c||c==46) &&
  !(decide (aZ s+aV (s.drop (aZ s))=s.length)&&decide (aZ s≤3)&&decide (1≤aV (s.drop (aZ s)))&&decide (aV (s.drop (aZ s))≤7)&&!aP s (aZ s) 48)
def jU(s:Bs):Bool :=
 let a:=if aP s 0 82 then 1+aV (s.drop 1) else 0
 let b:=if aP s a 67 then a+1+aV (s.drop (a+1)) else a
 decide (b=s.length)
def jZ:Bs:=[84,82,85,69]
def iF:Bs:=[70,65,76,83,69]
def bV(s:Bs):Bool :=
 decide (0<s.length)&&decide (s.length≤32)&&(dX (s.headD 0)||s.headD 0==95)&&s.all (fun c=>dX c||aC c||c==95||c==46) &&
  !(s==jZ||s==iF||jU s) &&
  !(decide (aZ s+aV (s.drop (aZ s))=s.length)&&decide (1≤aZ s)&&decide (aZ s≤3)&&decide (1≤aV (s.drop (aZ s))))
def unB(s:Bs):Bool:=s==[45]||s==[43]||s==[37]
def lG(s:Bs):Bool:=s==[43]||s==[45]||s==[42]||s==[47]||s==[94]||s==[38]||s==[61]||s==[60,62]||s==[60]||s==[60,61]||s==[62]||s==[62,61]
def cL(v:Val)(inMat:Bool):Bool:=decide (v.kind≠0)&&cA v&&(inMat||decide (0≤v.mant))
def eR(a b:Cor):Bool :=
 let rows:=decide (a.row≠id0)
 let cols:=decide (a.col≠id0)
 (rows==decide (b.row≠id0))&&(cols==decide (b.col≠id0))&&(rows||cols)&&(rows||(!a.fr&&!b.fr))&&(cols||(!a.fc&&!b.fc))
def bE(h:NodeH)(n:Nat)(kids:List Int)(above:Int):Bool :=
 if h.kind=0 then cL h.v (decide (above=8))&&NodeH.same h ⟨0,h.v,[],aH,aH,0⟩&&decide (n=0)
 else if h.kind=1∨h.kind=3 then decide (h.a.row≠id0)&&decide (h.a.col≠id0)&&NodeH.same h ⟨h.kind,aF,[],h.a,aH,0⟩&&decide (n=0)
 else if h.kind=2 then eR h.a h.b&&NodeH.same h ⟨2,aF,[],h.a,h.b,0⟩&&decide (n=0)
 else if h.kind=4 then cE h.name&&decide (n≤32)&&!(decide (n=1)&&decide (kids=[9]))&&NodeH.same h ⟨4,aF,h.name,aH,aH,0⟩
 else if h.kind=5 then unB h.name&&decide (n=1)&&NodeH.same h ⟨5,aF,h.name,aH,aH,0⟩
 else if h.kind=6 then lG h.name&&decide (n=2)&&NodeH.same h ⟨6,aF,h.name,aH,aH,0⟩
 else if h.kind=7 then bV h.name&&NodeH.same h ⟨7,aF,h.name,aH,aH,0⟩&&decide (n=0)
 else if h.kind=8 then decide (1≤h.rows)&&decide (1≤n)&&decide ((n:Int).tmod h.rows=0)&&NodeH.same h ⟨8,aF,[],aH,aH,h.rows⟩
 else if h.kind=9 then decide (above=4)&&NodeH.same h ⟨9,aF,[],aH,aH,0⟩&&decide (n=0)
 else false
mutual
def Tree.right:Tree→Int→Bool
 | .mk h l,above=>bE h l.length (l.map fun t=>t.h.kind) above&&bN l h.kind
def bN:List Tree→Int→Bool
 | [],_=>true
 | t::r,k=>(decide (k≠8)||decide (t.h.kind=0))&&t.right k&&bN r k
end
def dV(t:Tree):Nat:=if 256<t.size then 5 else if 32<t.depth then 8 else if t.right 6 then 0 else 6
structure Mk where
 row:Nat
 col:Nat
 fr:Bool
 fc:Bool
def bQ(l:Bs):Option Nat:=if l.length=0∨3<l.length then none else if l.all aI then some (dQ (aG l)-1) else none
def gA(l:Bs):Option Nat:=if l.length=0∨7<l.length∨aP l 0 48=true then none else if l.all aC then some (aS (dW l)) else none
def bC(s:Bs):Option Mk :=
 let s1:=Lib.trimPrefix s [36]
 let e:=aM aI s1
 match bQ (s1.take e) with
 | none=>none
 | some col=>
  let s2:=s1.drop e
  match gA (Lib.trimPrefix s2 [36]) with
  | none=>none
  | some row=>some ⟨row-1,col,Lib.hasPrefix s2 [36],Lib.hasPrefix s [36]⟩
inductive Out where
 | ok (t:Tree) (ts:List Tok) (c:Nat)
 | bad (e:Nat) (p:Nat)
def hd(ts:List Tok):Tok:=ts.headD ⟨0,[],0⟩
def nxt(ts:List Tok):Tok:=match ts with
 | _::b::_=>b
 | _=>hd ts
def isS(t:Tok)(s:Bs):Bool:=decide (t.kind=5)&&t.text==s
def fD(e:Nat)(ts:List Tok):Out:=.bad e (hd ts).place
def cB(t:Tok):Bool:=decide (t.kind=3)&&(aG t.text==jZ||aG t.text==iF)
def eC(t:Tok):Except Nat Val :=
 if t.kind=1 then match eE t.text with
  | none=>.error 2
  | some q=>.ok (gZ q.1 q.2)
 else if t.kind=2 then if 255<t.text.length then .error 14 else .ok (pW t.text)
 else if t.kind=6 then .ok (oJ (jH t.text))
 else if cB t then .ok (lV (aG t.text==jZ))
 else .error 6
def cH(ts:List Tok)(c:Nat):Out:=match eC (hd ts) with
 | .error e=>fD e ts
 | .ok v=>.ok (iH v) ts.tail (c+1)
structure Ax where
 rows:List IdR
 cols:List IdR
def dM(ax:Ax)(ts:List Tok):Except Nat Cor :=
 if (hd ts).kind≠4 then .error 6
 else match bC (hd ts).text with
  | none=>.error 6
  | some m=>match ax.rows[m.row]? with
   | none=>.error 18
   | some r=>match ax.cols[m.col]? with
    | none=>.error 18
    | some k=>.ok ⟨r,k,m.fr,m.fc⟩
def gW(ax:Ax)(ts:List Tok)(c:Nat):Out:=match dM ax ts with
 | .error e=>fD e ts
 | .ok a=>
  if isS (hd ts.tail) [35] then .ok (iL 3 a aH) ts.tail.tail (c+1)
  else if isS (hd ts.tail) [58] then match dM ax ts.tail.tail with
   | .error e=>fD e ts.tail.tail
   | .ok b=>.ok (iL 2 a b) ts.tail.tail.tail (c+1)
  else .ok (iL 1 a aH) ts.tail (c+1)
def cV(ax:Ax)(row col:Bool)(ts:List Tok):Except Nat Cor :=
 if (hd ts).kind≠1∧(hd ts).kind≠3∧(hd ts).kind≠4 then .error 6
 else
  let text:=Lib.trimPrefix (hd ts).text [36]
  let fixed:=Lib.hasPrefix (hd ts).text [36]
  let m:=if aC (text.headD 0) then bC (65::text) else none
  match (if col then bQ text else none) with
  | some p=>match ax.cols[p]? with
   | none=>.error 18
   | some k=>.ok ⟨id0,k,false,fixed⟩
  | none=>match (if row then m else none) with
   | some q=>match ax.rows[q.row]? with
    | none=>.error 18
    | some r=>.ok ⟨r,id0,fixed,false⟩
   | none=>.error 6
def fH(ax:Ax)(ts:List Tok)(c:Nat):Out:=match cV ax true true ts with
 | .error e=>fD e ts
 | .ok a=>
  if isS (hd ts.tail) [58] then match cV ax (decide (a.row≠id0)) (decide (a.col≠id0)) ts.tail.tail with
   | .error e=>fD e ts.tail.tail
   | .ok b=>.ok (iL 2 a b) ts.tail.tail.tail (c+1)
  else fD 6 ts.tail
def cU(ts:List Tok)(c:Nat):Out :=
 if isS (hd ts) [45] then
  if (hd ts.tail).kind≠1 then fD 6 ts.tail
  else match eC (hd ts.tail) with
   | .error e=>fD e ts.tail
   | .ok v=>.ok (iH { v with mant:=-v.mant }) ts.tail.tail (c+1)
 else cH ts c
def eN:Nat→Nat→Nat→Nat→List Tree→List Tok→Nat→Out
 | 0,_,_,_,_,ts,_=>fD 6 ts
 | f+1,rows,cols,wide,l,ts,c=>match cU ts c with
  | .bad e p=>.bad e p
  | .ok x ts1 c1=>
   if isS (hd ts1) [44]&&(decide (rows=0)||decide (wide<cols)) then eN f rows cols (wide+1) (l++[x]) ts1.tail c1
   else if isS (hd ts1) [59]&&(decide (rows=0)||decide (wide=cols)) then eN f (rows+1) wide 1 (l++[x]) ts1.tail c1
   else if isS (hd ts1) [125]&&(decide (rows=0)||decide (wide=cols)) then .ok (uII (rows+1:Nat) (l++[x])) ts1.tail (c1+1)
   else fD 6 ts1
def gP(ts:List Tok)(c:Nat):Out:=eN ts.length 0 0 1 [] ts.tail c
inductive kB where
 | ok (l:List Tree) (ts:List Tok) (c:Nat)
 | bad (e:Nat) (p:Nat)
def kQ(whole:List Tok→Nat→Out)(ts:List Tok)(c:Nat):Out :=
 if isS (hd ts) [44]||isS (hd ts) [41] then .ok uFT ts (c+1) else whole ts c
def bS(whole:List Tok→Nat→Out):Nat→List Tree→List Tok→Nat→kB
 | 0,_,ts,_=>.bad 6 (hd ts).place
 | f+1,l,ts,c=>match kQ whole ts c with
  | .bad e p=>.bad e p
  | .ok x ts1 c1=>
   if isS (hd ts1) [41] then .ok (l++[x]) ts1 c1
   else if isS (hd ts1) [44] then if 32≤l.length+1 then .bad 10 (hd ts1).place else bS whole f (l++[x]) ts1.tail c1
   else .bad 6 (hd ts1).place
def mQ(whole:Nat→List Tok→Nat→Out)(open':Nat)(ts:List Tok)(c:Nat):Out :=
 if !cE (aG (hd ts).text) then fD 9 ts
 else if 64≤open' then fD 8 ts.tail
 else match (if isS (hd ts.tail.tail) [41] then .ok [] ts.tail.tail c else bS (whole (open'+1)) ts.length [] ts.tail.tail c) with
  | kB.bad e p=>.bad e p
  | kB.ok l ts1 c1=>.ok (uBK (aG (hd ts).text) l) ts1.tail (c1+1)
def mR(whole:Nat→List Tok→Nat→Out)(open':Nat)(ts:List Tok)(c:Nat):Out :=
 if isS (nxt ts) [40] then mQ whole open' ts c
 else if cB (hd ts) then cH ts c
 else if bV (aG (hd ts).text) then .ok (uFU (aG (hd ts).text)) ts.tail (c+1)
 else fD 9 ts
def eO(whole:Nat→List Tok→Nat→Out)(ax:Ax)(open':Nat)(ts:List Tok)(c:Nat):Out :=
 if (hd ts).kind=1 then if isS (nxt ts) [58] then fH ax ts c else cH ts c
 else if (hd ts).kind=2∨(hd ts).kind=6 then cH ts c
 else if (hd ts).kind=3 then if isS (nxt ts) [58] then fH ax ts c else mR whole open' ts c
 else if (hd ts).kind=4 then if (bC (hd ts).text).isSome then gW ax ts c else fH ax ts c
 else if isS (hd ts) [40] then
  if 64≤open' then fD 8 ts
  else match whole (open'+1) ts.tail c with
   | .bad e p=>.bad e p
   | .ok x ts1 c1=>if isS (hd ts1) [41] then .ok x ts1.tail c1 else fD 6 ts1
 else if isS (hd ts) [123] then gP ts c
 else fD 6 ts
def gC:Nat→Tree→List Tok→Nat→Out
 | 0,t,ts,c=>.ok t ts c
 | f+1,t,ts,c=>if isS (hd ts) [37] then gC f (tUn [37] t) ts.tail (c+1) else .ok t ts c
def bD(part:List Tok→Nat→Out)(ts:List Tok)(c:Nat):Out:=match part ts c with
 | .bad e p=>.bad e p
 | .ok t ts1 c1=>gC ts1.length t ts1 c1
def dB(t:Tok):Bool:=isS t [43]||isS t [45]
def aX:List Tok→Nat
 | []=>0
 | t::r=>if dB t then aX r+1 else 0
def cI(percent:List Tok→Nat→Out)(ts:List Tok)(c:Nat):Out:=match percent (ts.drop (aX ts)) c with
 | .bad e p=>.bad e p
 | .ok t ts1 c1=>.ok ((ts.take (aX ts)).foldr (fun s n=>tUn s.text n) t) ts1 (c1+aX ts)
def eG(sg:List Bs)(t:Tok):Bool:=decide (t.kind=5)&&sg.contains t.text
def fT(next:List Tok→Nat→Out)(sg:List Bs):Nat→Tree→List Tok→Nat→Out
 | 0,t,ts,c=>.ok t ts c
 | f+1,t,ts,c=>if eG sg (hd ts) then match next ts.tail c with
   | .bad e p=>.bad e p
   | .ok x ts1 c1=>fT next sg f (tBin (hd ts).text t x) ts1 (c1+1)
  else .ok t ts c
def bH(next:List Tok→Nat→Out)(sg:List Bs)(ts:List Tok)(c:Nat):Out:=match next ts c with
 | .bad e p=>.bad e p
 | .ok t ts1 c1=>fT next sg ts1.length t ts1 c1
def qL:List Bs:=[[61],[60,62],[60],[60,61],[62],[62,61]]
def oH:List Bs:=[[38]]
def fX:List Bs:=[[43],[45]]
def pP:List Bs:=[[42],[47]]
def nR:List Bs:=[[94]]
def dK(part:List Tok→Nat→Out):List Tok→Nat→Out :=
 bH (bH (bH (bH (bH (cI (bD part)) nR) pP) fX) oH) qL
def cD:Nat→Ax→Nat→List Tok→Nat→Out
 | 0,_,_,ts,_=>fD 6 ts
 | f+1,ax,open',ts,c=>dK (eO (cD f ax) ax open') ts c
def dT(ax:Ax)(ts:List Tok):Except (Nat×Nat) Tree:=match cD 65 ax 0 ts 0 with
 | .bad e p=>.error (e,p)
 | .ok t ts1 c=>if (hd ts1).kind≠0 then .error (6,(hd ts1).place) else if 256<c then .error (5,0) else if dV t≠0 then .error (dV t,0) else .ok t
def aY(ax:Ax)(s:Bs):Except (Nat×Nat) Tree:=match iG s with
 | .error k=>.error (7,k)
 | .ok ts=>dT ax (ts++[aW s.length])
open Go
def Up(zl:Array Bool)(i:Nat):Prop:=zl.getD i false=true
theorem Up.of_false{zl:Array Bool}{i:Nat}(h:zl.getD i true=false):i<zl.size:=by
 rcases Nat.lt_or_ge i zl.size with h1 | h1
 ·exact h1
 ·simp[Array.getElem?_eq_none h1]at h
theorem Up.set{zl:Array Bool}{i j:Nat}(hs:i<zl.size):Up (zl.setIfInBounds i true) j↔(j=i∨Up zl j):=by
 unfold Up;by_cases h:i=j
 ·subst h;simp[hs]
 ·rw[getD_set_ne false h];constructor
  ·exact .inr
  ·rintro(e | e)
   ·exact absurd e.symm h
   ·exact e
theorem Up.none(n i:Nat):¬ Up (Array.replicate n false) i:=by
 unfold Up;simp only[Array.getD_eq_getD_getElem?,Array.getElem?_replicate]
 split <;> simp
def mB(ops:Array Oper):Bool:=(List.range ops.size).all fun i=>((ops[i]?).map fun o=>o.after.all fun e=>decide (e.on<i)).getD true
theorem nJ{ops:Array Oper}(h:mB ops=true){i:Nat}{o:Oper}(ho:ops[i]?=some o):∀ e∈o.after,e.on<i:=by
 intro e he;have hlt:i<ops.size:=(Array.getElem?_eq_some_iff.1 ho).1;have:=List.all_eq_true.1 h i (List.mem_range.2 hlt);rw[ho]at this;simp only[Option.map_some,Option.getD_some,Array.all_eq_true_iff_forall_mem]at this;exact of_decide_eq_true (this e he)
theorem all_up{md:Region.Mode}{ops:Array Oper}(hb:mB ops=true){zl:Array Bool}(hs:zl.size=ops.size)(hr:Region.ready md ops zl=[]):∀ i,i<ops.size→Up zl i:=by
 intro i
 induction i using Nat.strongRecOn with
 | _ i ih=>
  intro hi;cases hu:zl.getD i true
  ·exfalso
   have ho:ops[i]?=some ops[i]:=Array.getElem?_eq_getElem hi;have:i∈Region.ready md ops zl:=mem_ready.2 ⟨hu,ops[i],ho,fun e he _=>ih e.on (nJ hb ho e he) (Nat.lt_trans (nJ hb ho e he) hi)⟩;rw[hr]at this;cases this
  ·have hi':i<zl.size:=by omega
   unfold Up;simp only[Array.getD_eq_getD_getElem?,Array.getElem?_eq_getElem hi',Option.getD_some]at hu ⊢;exact hu
def xN(zl:Array Bool):Nat:=zl.toList.countP (fun b=>!b)
theorem tE{zl:Array Bool}{i:Nat}(h:zl.getD i true=false):xN (zl.setIfInBounds i true)+1=xN zl:=by
 have hi:=Up.of_false h;have hv:zl[i]=false:=by simpa [hi] using h
 unfold xN;obtain⟨l⟩:=zl;simp only[List.size_toArray]at hi;simp only[List.getElem_toArray]at hv;simp only[List.setIfInBounds_toArray];have e1:l=l.take i++l[i]::l.drop (i+1):=by
  rw[← List.drop_eq_getElem_cons hi,List.take_append_drop]
 have e2:l.set i true=l.take i++true::l.drop (i+1):=List.set_eq_take_append_cons_drop.trans (if_pos hi);rw[e2]
 conv=>rhs;rw[e1]
 rw[List.countP_append,List.countP_append,List.countP_cons,List.countP_cons,hv];simp;omega
theorem wA{zl:Array Bool}(h:xN zl=0)(i:Nat):zl.getD i true=true:=by
 cases hu:zl.getD i true
 ·have:=tE hu;omega
 ·rfl
section
variable {P:Program} {ops:Array Oper} {Q:Exit→Act→World→Prop} {md:Region.Mode}
theorem wX(hb:mB ops=true)(I:Array Bool→Act→World→Prop)
  (hstep:∀ zl a w i o,zl.size=ops.size→I zl a w→zl.getD i true=false→ops[i]?=some o→(∀ e∈o.after,Region.binds md e=true→Up zl e.on)→wpOp P ops Q i (I (zl.setIfInBounds i true)) a w)
  (hdone:∀ zl a w,I zl a w→(∀ i,i<ops.size→Up zl i)→Q .normal a w) :
  ∀ (fuel:Nat) (zl:Array Bool) (a:Act) (w:World),zl.size=ops.size→xN zl≤fuel→I zl a w→wpAny P md ops Q fuel zl a w
 | 0,zl,a,w,hs,hf,hI=>by
  have hr:Region.ready md ops zl=[]:=by
   refine List.eq_nil_iff_forall_not_mem.2 (fun i hi=>?_);have h1:=(mem_ready.1 hi).1;rw[wA (by omega) i]at h1;cases h1
  exact⟨hr,hdone zl a w hI (all_up hb hs hr)⟩
 | fuel+1,zl,a,w,hs,hf,hI=>by
  refine⟨fun hr=>hdone zl a w hI (all_up hb hs hr),fun i hi=>?_⟩;obtain⟨h1,o,ho,zd⟩:=mem_ready.1 hi;refine wpOp_mono (fun a' w' h'=>wX hb I hstep hdone fuel _ a' w' (by rw[Array.size_setIfInBounds];exact hs) (by have:=tE h1;omega) h') (hstep zl a w i o hs hI h1 ho zd)
theorem mJ(n:Nat):xN (Array.replicate n false)=n:=by
 unfold xN;simp[List.countP_replicate]
theorem vJ{id:Nat}{a:Act}{w:World}(hm:P.follows .mixedOrders=true)(hb:mB ops=true)(I:Array Bool→Act→World→Prop)
  (h0:I (Array.replicate ops.size false) a w.drew)
  (hstep:∀ zl a w i o,zl.size=ops.size→I zl a w→zl.getD i true=false→ops[i]?=some o→(∀ e∈o.after,Region.binds .any e=true→Up zl e.on)→wpOp P ops Q i (I (zl.setIfInBounds i true)) a w)
  (hdone:∀ zl a w,I zl a w→(∀ i,i<ops.size→Up zl i)→Q .normal a w):(Code.region id ops true).wp P Q a w :=
 wp_region_any hm (wX hb I hstep hdone ops.size _ a _ (by simp) (by rw[mJ];exact Nat.le_refl _) h0)
theorem wp_region_inv'{id:Nat}{a:Act}{w:World}(hm:P.follows .mixedOrders=true)(hb:mB ops=true)(F:Act→Prop)(I:Act→Array Bool→Act→World→Prop)(hF:F a)
  (h0:I a (Array.replicate ops.size false) a w.drew)
  (hstep:∀ a0,F a0→∀ zl a w i o,zl.size=ops.size→I a0 zl a w→zl.getD i true=false→ops[i]?=some o→(∀ e∈o.after,Region.binds .any e=true→Up zl e.on)→wpOp P ops Q i (I a0 (zl.setIfInBounds i true)) a w)
  (hdone:∀ zl a' w',I a zl a' w'→(∀ i,i<ops.size→Up zl i)→Q .normal a' w'):(Code.region id ops true).wp P Q a w :=
 vJ hm hb (I a) h0 (hstep a hF) hdone
theorem gD{i:Nat}{o:Oper}{K:Act→World→Prop}{a:Act}{w:World}(ho:ops[i]?=some o)(hg:o.guard=none)(h:o.wp P a w K Q):wpOp P ops Q i K a w:=by
 unfold wpOp;rw[ho];simp only;rw[if_pos (by simp[Region.wanted,hg])];exact .inl h
end
theorem jQ(a:Act)(v:Value){t s:Nat}(h:t≠s):(a.put (some t) v).eval (.tmp s)=a.eval (.tmp s):=Act.eval_put (fun _ hd e=>h ((Option.some.inj hd).trans (Operand.tmp.inj e).symm))
theorem hG(a:Act)(v:Value){t:Nat}(h:t<a.tmps.size):(a.put (some t) v).eval (.tmp t)=v:=by simp[Act.eval,Act.put,h]
theorem pR(a:Act)(v:Value)(t:Nat):(a.put (some t) v).tmps.size=a.tmps.size:=by simp[Act.put]
open Go
structure Off(S:List Nat)(a0 a:Act):Prop where
 defers:a.defers=a0.defers
 size:a.tmps.size=a0.tmps.size
 same:∀ t:Nat,t∉S→a.tmps[t]?=a0.tmps[t]?
theorem Off.refl(S:List Nat)(a:Act):Off S a a:=⟨rfl,rfl,fun _ _=>rfl⟩
theorem Off.put{S:List Nat}{a0 a:Act}(h:Off S a0 a){s:Nat}(hs:s∈S)(v:Value):Off S a0 (a.put (some s) v):=by
 refine⟨h.defers,by rw[pR];exact h.size,fun t ht=>?_⟩;have hne:s≠t:=fun e=>ht (e ▸ hs)
 rw[← h.same t ht];simp[Act.put,hne]
theorem Off.eval{S:List Nat}{a0 a:Act}(h:Off S a0 a){t:Nat}(ht:t∉S):a.eval (.tmp t)=a0.eval (.tmp t):=by
 have:=h.same t ht;simp only[Act.eval,Array.getD_eq_getD_getElem?,this]
theorem Off.form:∀ (S:List Nat) (a0 a:Act),Off S a0 a→a=S.foldl (fun b s=>b.put (some s) (a.tmps.getD s undef)) a0
 | [],a0,a,h=>by
  obtain⟨tmps,df⟩:=a;obtain⟨tmps0,df0⟩:=a0;have h1:=h.defers;dsimp only at h1;subst h1;have h2:tmps=tmps0:=Array.ext_getElem? (fun t=>h.same t (by simp));rw[h2];rfl
 | s::S,a0,a,h=>by
  rw[List.foldl_cons];refine Off.form S _ a ⟨h.defers,by rw[pR];exact h.size,fun t ht=>?_⟩;by_cases hst:s=t
  ·subst hst;have hz:=h.size;simp only[Act.put,Array.getElem?_setIfInBounds,if_true,Array.getD_eq_getD_getElem?]
   split
   ·next hlt=>
    have:s<a.tmps.size:=by omega
    rw[Array.getElem?_eq_getElem this];rfl
   ·next hlt=>rw[Array.getElem?_eq_none (by omega)]
  ·rw[h.same t (by simp only[List.mem_cons,not_or];exact⟨fun e=>hst e.symm,ht⟩)];simp[Act.put,hst]
theorem Off.forms{S:List Nat}{a0 a:Act}(h:Off S a0 a):∃ f:Nat→Value,a=S.foldl (fun b s=>b.put (some s) (f s)) a0∧∀ s,f s=a.eval (.tmp s) :=
 ⟨fun s=>a.tmps.getD s undef,Off.form S a0 a h,fun _=>rfl⟩
theorem aA{a:Act}{t:Nat}{v:Value}(h:a.eval (.tmp t)=v):a.tmps[t]?.getD undef=v:=by
 rw[← h];simp[Act.eval]
def PT(T:List (Nat×Nat×Value))(zl:Array Bool)(a:Act):Prop:=∀ e∈T,Up zl e.1→a.eval (.tmp e.2.1)=e.2.2
theorem pk{T:List (Nat×Nat×Value)}{zl:Array Bool}{a:Act}(hp:PT T zl a)(n:Nat){i s:Nat}{v:Value}(h:T[n]?=some (i,s,v))(hu:Up zl i):a.eval (.tmp s)=v:=hp (i,s,v) (List.mem_of_getElem? h) hu
theorem ud{zl:Array Bool}{o:Oper}(zd:∀ e∈o.after,Region.binds .any e=true→Up zl e.on)(i:Nat)(hm:{ on:=i,ground:=.data }∈o.after:=by simp):Up zl i:=zd _ hm rfl
theorem PT.start(T:List (Nat×Nat×Value))(n:Nat)(a:Act):PT T (Array.replicate n false) a:=fun _ _ h=>absurd h (Up.none _ _)
theorem PT.step{T:List (Nat×Nat×Value)}{zl:Array Bool}{a:Act}(h:PT T zl a){i s:Nat}{v:Value}(hi:i<zl.size)(hs:s<a.tmps.size)(h1:∀ e∈T,e.2.1=s→e.2.2=v)(h2:∀ e∈T,e.1=i→e.2.1=s):PT T (zl.setIfInBounds i true) (a.put (some s) v):=by
 intro e he hu;by_cases hes:s=e.2.1
 ·rw[← hes,hG _ _ hs,h1 e he hes.symm]
 ·rw[jQ _ _ hes];rcases(Up.set hi).1 hu with hu | hu
  ·exact absurd (h2 e he hu).symm hes
  ·exact h e he hu
theorem PT.skip{T:List (Nat×Nat×Value)}{zl:Array Bool}{a:Act}(h:PT T zl a){i:Nat}(hi:i<zl.size)(h1:∀ e∈T,e.1≠i):PT T (zl.setIfInBounds i true) a:=by
 intro e he hu;rcases(Up.set hi).1 hu with hu | hu
 ·exact absurd hu (h1 e he)
 ·exact h e he hu
theorem jL{zl:Array Bool}{i j:Nat}(hi:i<zl.size)(h:Up (zl.setIfInBounds i true) j)(hne:j≠i):Up zl j:=((Up.set hi).1 h).resolve_left hne
theorem eF{zl:Array Bool}{i j:Nat}(hi:i<zl.size)(h:Up zl j):Up (zl.setIfInBounds i true) j:=(Up.set hi).2 (.inr h)
theorem nE{zl:Array Bool}{i:Nat}(hi:i<zl.size):Up (zl.setIfInBounds i true) i:=(Up.set hi).2 (.inl rfl)
theorem gO{zl:Array Bool}{i:Nat}(hun:zl.getD i true=false):¬ Up zl i:=fun h=>by
 have hi:=Up.of_false hun;unfold Up at h;simp[hi]at hun h;rw[hun]at h;cases h
theorem nF{P:Program}{o:Oper}{a:Act}{w w1:World}{K:Act→World→Prop}{Q:Exit→Act→World→Prop}(v:Value)(hr:(execOp a.eval o).run P w=.ok (.value v) w1)(hk:K (a.put o.dst v) w1):o.wp P a w K Q:=by
 unfold Oper.wp;rw[hr];exact hk
theorem oL{P:Program}{o:Oper}{a:Act}{w w1:World}{K:Act→World→Prop}{Q:Exit→Act→World→Prop}(hr:(execOp a.eval o).run P w=.ok .skip w1)(hk:K (a.put o.dst undef) w1):o.wp P a w K Q:=by
 unfold Oper.wp;rw[hr];exact hk
structure Kp(Y:List Nat)(w w':World):Prop where
 os:w'.os=w.os
 tape:w'.tape=w.tape
 output:w'.output=w.output
 size:w.heap.size≤w'.heap.size
 block:∀ k,k<w.heap.size→k∉Y→w'.heap[k]?=w.heap[k]?
theorem Kp.refl(Y:List Nat)(w:World):Kp Y w w:=⟨rfl,rfl,rfl,Nat.le_refl _,fun _ _ _=>rfl⟩
theorem Kp.trans{Y:List Nat}{a b c:World}(h:Kp Y a b)(k:Kp Y b c):Kp Y a c :=
 ⟨k.os.trans h.os,k.tape.trans h.tape,k.output.trans h.output,Nat.le_trans h.size k.size,fun i hi hn=>(k.block i (Nat.lt_of_lt_of_le hi h.size) hn).trans (h.block i hi hn)⟩
theorem Kp.mono{Y Z:List Nat}{a b:World}(h:Kp Y a b)(hs:∀ k∈Y,k<a.heap.size→k∈Z):Kp Z a b :=
 ⟨h.os,h.tape,h.output,h.size,fun i hi hn=>h.block i hi (fun hm=>hn (hs i hm hi))⟩
theorem Kp.of_below{Y:List Nat}{a b:World}(h:Below a.heap.size a b):Kp Y a b:=⟨h.os,h.tape,h.output,h.size,fun i hi _=>h.block i hi⟩
theorem Kp.below{Y:List Nat}{a b:World}{B:Nat}(h:Kp Y a b)(hB:∀ k∈Y,B≤k)(hs:B≤a.heap.size):Below B a b :=
 ⟨h.os,h.tape,h.output,h.size,fun i hi=>h.block i (Nat.lt_of_lt_of_le hi hs) (fun hm=>absurd (hB i hm) (by omega))⟩
theorem Kp.alloc{Y:List Nat}{a b:World}(h:Kp Y a b)(o:Obj):Kp Y a (b.alloc o):=h.trans (Kp.of_below ((Below.refl _ b).alloc (Nat.le_refl _) o))
theorem Kp.drew{Y:List Nat}{a b:World}(h:Kp Y a b):Kp Y a b.drew:=h.trans (Kp.of_below (Below.refl _ b).drew)
theorem Kp.set{Y:List Nat}{a b:World}(h:Kp Y a b){r:Nat}(hr:r∈Y∨a.heap.size≤r)(i:Nat)(u:Value):Kp Y a (b.setCell ⟨r,i,none⟩ u) :=
 ⟨h.os,h.tape,h.output,by rw[World.size_setCell];exact h.size,fun k hk hn=>(Below.heap_setCell b ⟨r,i,none⟩ u k (fun e=>by
  have e':k=r:=e;rcases hr with hr | hr
  ·exact hn (e' ▸ hr)
  ·omega)).trans (h.block k hk hn)⟩
theorem Kp.grown{Y:List Nat}{a b c:World}(h:Kp Y a b){row:Option Nat}(hg:b.grownBy c row)(hr:∀ g,row=some g→g∈Y∨a.heap.size≤g):Kp Y a c :=
 ⟨hg.os.trans h.os,hg.tape.trans h.tape,hg.output.trans h.output,Nat.le_trans h.size hg.size,fun k hk hn=>(hg.block k (Nat.lt_of_lt_of_le hk h.size) (fun e=>by
  rcases hr k e.symm with h1 | h1
  ·exact hn h1
  ·omega)).trans (h.block k hk hn)⟩
theorem Kp.andThen{Y Z:List Nat}{a b c:World}(h:Kp Y a b)(k:Kp Z b c)(hz:∀ g∈Z,g∈Y∨a.heap.size≤g):Kp Y a c :=
 ⟨k.os.trans h.os,k.tape.trans h.tape,k.output.trans h.output,Nat.le_trans h.size k.size,fun i hi hn=>(k.block i (Nat.lt_of_lt_of_le hi h.size) (fun hm=>by
  rcases hz i hm with h1 | h1
  ·exact hn h1
  ·omega)).trans (h.block i hi hn)⟩
theorem Kp.lies{Y:List Nat}{a b:World}(h:Kp Y a b){g:Nat}{t:TypeId}{cs:Array Value}(hl:Lies a g t cs)(hn:g∉Y):Lies b g t cs:=(h.block g hl.lt hn).trans hl
theorem Kp.cell{Y:List Nat}{a b:World}(h:Kp Y a b){g i:Nat}(hg:g<a.heap.size)(hn:g∉Y):b.cell? ⟨g,i,none⟩=a.cell? ⟨g,i,none⟩:=World.cell?_of_block (w:=a) (a:=⟨g,i,none⟩) (h.block g hg hn)
structure Only(m:Nat)(w w':World):Prop where
 os:w'.os=w.os
 tape:w'.tape=w.tape
 output:w'.output=w.output
 size:w'.heap.size=w.heap.size
 block:∀ k,k≠m→w'.heap[k]?=w.heap[k]?
theorem Only.kp{m:Nat}{w w':World}(h:Only m w w'):Kp [m] w w':=⟨h.os,h.tape,h.output,by rw[h.size];exact Nat.le_refl _,fun k _ hn=>h.block k (fun e=>hn (by rw[e];exact .head _))⟩
def gE(ops:Array Oper):Bool:=(List.range ops.size).all fun i=>((ops[i]?).map fun o=>o.after.all fun e=>!Region.binds .any e||decide (e.on<i)).getD true
theorem iT{ops:Array Oper}(h:gE ops=true){i:Nat}{o:Oper}(ho:ops[i]?=some o):∀ e∈o.after,Region.binds .any e=true→e.on<i:=by
 intro e he hb;have hlt:i<ops.size:=(Array.getElem?_eq_some_iff.1 ho).1;have:=List.all_eq_true.1 h i (List.mem_range.2 hlt);rw[ho]at this;simp only[Option.map_some,Option.getD_some,Array.all_eq_true_iff_forall_mem]at this;have h1:=this e he;rw[hb]at h1;exact of_decide_eq_true h1
theorem uEV{ops:Array Oper}(hb:gE ops=true){zl:Array Bool}(hs:zl.size=ops.size)(hr:Region.ready .any ops zl=[]):∀ i,i<ops.size→Up zl i:=by
 intro i
 induction i using Nat.strongRecOn with
 | _ i ih=>
  intro hi;cases hu:zl.getD i true
  ·exfalso
   have ho:ops[i]?=some ops[i]:=Array.getElem?_eq_getElem hi;have:i∈Region.ready .any ops zl:=mem_ready.2 ⟨hu,ops[i],ho,fun e he hd=>ih e.on (iT hb ho e he hd) (Nat.lt_trans (iT hb ho e he hd) hi)⟩;rw[hr]at this;cases this
  ·have hi':i<zl.size:=by omega
   unfold Up;simp only[Array.getD_eq_getD_getElem?,Array.getElem?_eq_getElem hi',Option.getD_some]at hu ⊢;exact hu
theorem uU{P:Program}{ops:Array Oper}{Q:Exit→Act→World→Prop}(hb:gE ops=true)(I:Array Bool→Act→World→Prop)
  (hstep:∀ zl a w i o,zl.size=ops.size→I zl a w→zl.getD i true=false→ops[i]?=some o→(∀ e∈o.after,Region.binds .any e=true→Up zl e.on)→wpOp P ops Q i (I (zl.setIfInBounds i true)) a w)
  (hdone:∀ zl a w,I zl a w→(∀ i,i<ops.size→Up zl i)→Q .normal a w) :
  ∀ (fuel:Nat) (zl:Array Bool) (a:Act) (w:World),zl.size=ops.size→xN zl≤fuel→I zl a w→wpAny P .any ops Q fuel zl a w
 | 0,zl,a,w,hs,hf,hI=>by
  have hr:Region.ready .any ops zl=[]:=by
   refine List.eq_nil_iff_forall_not_mem.2 (fun i hi=>?_);have h1:=(mem_ready.1 hi).1;rw[wA (by omega) i]at h1;cases h1
  exact⟨hr,hdone zl a w hI (uEV hb hs hr)⟩
 | fuel+1,zl,a,w,hs,hf,hI=>by
  refine⟨fun hr=>hdone zl a w hI (uEV hb hs hr),fun i hi=>?_⟩;obtain⟨h1,o,ho,zd⟩:=mem_ready.1 hi;refine wpOp_mono (fun a' w' h'=>uU hb I hstep hdone fuel _ a' w' (by rw[Array.size_setIfInBounds];exact hs) (by have:=tE h1;omega) h') (hstep zl a w i o hs hI h1 ho zd)
theorem fL{P:Program}{ops:Array Oper}{Q:Exit→Act→World→Prop}{id:Nat}{a:Act}{w:World}(hm:P.follows .mixedOrders=true)(hb:gE ops=true)(F:Act→Prop)(I:Act→Array Bool→Act→World→Prop)(hF:F a)
  (h0:I a (Array.replicate ops.size false) a w.drew)
  (hstep:∀ a0,F a0→∀ zl a w i o,zl.size=ops.size→I a0 zl a w→zl.getD i true=false→ops[i]?=some o→(∀ e∈o.after,Region.binds .any e=true→Up zl e.on)→wpOp P ops Q i (I a0 (zl.setIfInBounds i true)) a w)
  (hdone:∀ zl a' w',I a zl a' w'→(∀ i,i<ops.size→Up zl i)→Q .normal a' w'):(Code.region id ops true).wp P Q a w :=
 wp_region_any hm (uU hb (I a) (hstep a hF) hdone ops.size _ a _ (by simp) (by rw[mJ];exact Nat.le_refl _) h0)
theorem fY{w:World}{b n sz:Nat}{te tb:TypeId}(ht:te≠tb){v:Value}{xs:List Value}(h:w.ownsRow b te sz v n xs){bx:Nat}{cs:Array Value}(hl:Lies w bx tb cs):some bx≠v.ownBlock:=fun e=>by
 rcases h.2 with⟨rfl,_⟩ | ⟨g,cap,cur,rfl,_,hg,_⟩
 ·simp[Value.ownBlock]at e
 ·simp[Value.ownBlock]at e;subst e;unfold Lies at hl;rw[hg]at hl;injection hl with hl;injection hl with _ hl _;exact ht hl
theorem nC{w:World}{b n sz:Nat}{te tb:TypeId}(ht:te≠tb){v:Value}{xs:List Value}(h:w.ownsRow b te sz v n xs){bx:Nat}{cs:Array Value}(hl:Lies w bx tb cs)(i:Nat)(u:Value):(w.setCell ⟨bx,i,none⟩ u).ownsRow b te sz v n xs:=by
 have hg:w.grownBy (w.setCell ⟨bx,i,none⟩ u) (some bx):=⟨rfl,rfl,rfl,by rw[World.size_setCell];exact Nat.le_refl _,fun j _ hne=>Below.heap_setCell w ⟨bx,i,none⟩ u j (fun e=>hne (congrArg some e))⟩
 exact World.ownsRow.kept h hg (.inr (fun e=>fY ht h hl e.symm))
theorem Lies.grownA{w w':World}{g:Nat}{t:TypeId}{cs:Array Value}{row:Option Nat}(h:Lies w g t cs)(hg:w.grownBy w' row)(hr:some g≠row):Lies w' g t cs:=(hg.block g h.lt hr).trans h
theorem bI{w:World}{g:Nat}{t:TypeId}{cs:Array Value}(h:Lies w g t cs){b:Nat}(hb:g≠b)(i:Nat)(u:Value):Lies (w.setCell ⟨b,i,none⟩ u) g t cs:=(Below.heap_setCell w ⟨b,i,none⟩ u g hb).trans h
structure GA(S:List Nat)(T:List (Nat×Nat×Value))(Y:List Nat)(X:World)(il ib sb ia sa is bx ci:Nat)(te tb:TypeId)(z:Array Value)(base sz n:Nat)(v0:Value)(xs news:List Value)(a0:Act)(zl:Array Bool)(a:Act)(w:World):Prop where
 off:Off S a0 a
 pt:PT T zl a
 kp:Kp Y X w
 dp:Up zl ia→Up zl il∧Up zl ib
 nb:Up zl ib→¬ Up zl ia→∃ g,a.eval (.tmp sb)=.slice (some ⟨g,0,none⟩) 1 1∧Lies w g te news.toArray
 o1:¬ Up zl ia→w.ownsRow base te sz v0 n xs
 o2:Up zl ia→w.ownsRow base te sz (a.eval (.tmp sa)) (n+1) (xs++news)
 b1:¬ Up zl is→Lies w bx tb z
 b2:Up zl is→Up zl ia∧Lies w bx tb (z.setIfInBounds ci (a.eval (.tmp sa)))
def okA(nums:List (Nat×Nat))(S:List Nat)(ib sb ia sa is N:Nat):Bool :=
 nums.all (fun e=>e.2 != sa&&e.2 != sb&&e.1 != ib&&e.1 != ia&&e.1 != is&&S.contains e.2&&decide (e.2<N))&&decide (nums.Pairwise (fun p q=>p.1≠q.1∧p.2≠q.2))&&ib != ia&&ib != is&&ia != is&&sa != sb&&S.contains sa&&S.contains sb&&decide (sa<N)&&decide (sb<N)
structure GAk(S:List Nat)(T:List (Nat×Nat×Value))(Y:List Nat)(ib sb ia sa is bx:Nat)(te tb:TypeId)(v0:Value)(N:Nat):Prop where
 num:okA (T.map fun e=>(e.1,e.2.1)) S ib sb ia sa is N=true
 ty:te≠tb
 row:∀ g,v0.ownBlock=some g→g∈Y
 box:bx∈Y
section
variable {S:List Nat} {T:List (Nat×Nat×Value)} {Y:List Nat} {X w:World} {il ib sb ia sa is bx ci:Nat} {te tb:TypeId} {z:Array Value} {base sz n N:Nat} {v0:Value} {xs news:List Value} {a0 a:Act} {zl:Array Bool} {ops:Array Oper} {Q:Exit→Act→World→Prop} {o:Oper}
theorem GAk.parts(hk:GAk S T Y ib sb ia sa is bx te tb v0 N):(∀ e∈T,e.2.1≠sa∧e.2.1≠sb∧e.1≠ib∧e.1≠ia∧e.1≠is∧e.2.1∈S∧e.2.1<N)∧T.Pairwise (fun p q=>p.1≠q.1∧p.2.1≠q.2.1)∧(ib≠ia∧ib≠is∧ia≠is∧sa≠sb∧sa∈S∧sb∈S∧sa<N∧sb<N):=by
 have hn:=hk.num;simp only[okA,Bool.and_eq_true,List.all_eq_true,bne_iff_ne,decide_eq_true_eq,List.contains_iff_mem,List.pairwise_map,List.mem_map,forall_exists_index,and_imp,forall_apply_eq_imp_iff₂]at hn;obtain⟨⟨⟨⟨⟨⟨⟨⟨⟨h1,h2⟩,h3⟩,h4⟩,h5⟩,h6⟩,h7⟩,h8⟩,h9⟩,h10⟩:=hn;refine⟨fun e he=>?_,h2,h3,h4,h5,h6,h7,h8,h9,h10⟩;obtain⟨⟨⟨⟨⟨⟨g1,g2⟩,g3⟩,g4⟩,g5⟩,g6⟩,g7⟩:=h1 e he;exact⟨g1,g2,g3,g4,g5,g6,g7⟩
theorem GAk.row_of(hk:GAk S T Y ib sb ia sa is bx te tb v0 N){e:Nat×Nat×Value}(he:e∈T):e.2.1≠sa∧e.2.1≠sb∧e.1≠ib∧e.1≠ia∧e.1≠is∧e.2.1∈S∧e.2.1<N:=hk.parts.1 e he
theorem GAk.ne(hk:GAk S T Y ib sb ia sa is bx te tb v0 N):ib≠ia∧ib≠is∧ia≠is∧sa≠sb∧sa∈S∧sb∈S∧sa<N∧sb<N:=hk.parts.2.2
theorem GAk.uniq(hk:GAk S T Y ib sb ia sa is bx te tb v0 N){e e':Nat×Nat×Value}(he:e∈T)(he':e'∈T)(hs:e.1=e'.1∨e.2.1=e'.2.1):e=e':=by
 by_cases heq:e=e'
 ·exact heq
 ·exfalso
  have h2:=hk.parts.2.1;have key:∀ l:List (Nat×Nat×Value),l.Pairwise (fun p q=>p.1≠q.1∧p.2.1≠q.2.1)→∀ x∈l,∀ y∈l,x≠y→x.1≠y.1∧x.2.1≠y.2.1:=by
   intro l
   induction l with
   | nil=>intro _ x hx;cases hx
   | cons c l ih=>
    intro hp x hx y hy hne;rw[List.pairwise_cons]at hp;rcases List.mem_cons.1 hx with ex | hx <;> rcases List.mem_cons.1 hy with ey | hy
    ·exact absurd (ex.trans ey.symm) hne
    ·rw[ex];exact hp.1 y hy
    ·rw[ey];exact⟨fun e=>(hp.1 x hx).1 e.symm,fun e=>(hp.1 x hx).2 e.symm⟩
    ·exact ih hp.2 x hx y hy hne
  have:=key T h2 e he e' he' heq;rcases hs with hs | hs
  ·exact this.1 hs
  ·exact this.2 hs
theorem GA.unl(hI:GA S T Y X il ib sb ia sa is bx ci te tb z base sz n v0 xs news a0 zl a w)(hun:zl.getD il true=false):Lies w bx tb z :=
 hI.b1 (fun h=>gO hun (hI.dp (hI.b2 h).1).1)
theorem GA.start(a:Act)(m:Nat)(hk:Kp Y X w)(ho:w.ownsRow base te sz v0 n xs)(hl:Lies w bx tb z):GA S T Y X il ib sb ia sa is bx ci te tb z base sz n v0 xs news a (Array.replicate m false) a w :=
 ⟨Off.refl _ _,PT.start _ _ _,hk,fun h=>absurd h (Up.none _ _),fun h=>absurd h (Up.none _ _),fun _=>ho,fun h=>absurd h (Up.none _ _),fun _=>hl,fun h=>absurd h (Up.none _ _)⟩
theorem bY(hk:GAk S T Y ib sb ia sa is bx te tb v0 N)(hI:GA S T Y X il ib sb ia sa is bx ci te tb z base sz n v0 xs news a0 zl a w)(hN:N≤a0.tmps.size){i s:Nat}{v:Value}(he:(i,s,v)∈T)(hun:zl.getD i true=false)(ho:ops[i]?=some o)(hg:o.guard=none)(hd:o.dst=some s)
  (hr:(execOp a.eval o).run Tryz.prog w=.ok (.value v) w):wpOp Tryz.prog ops Q i (GA S T Y X il ib sb ia sa is bx ci te tb z base sz n v0 xs news a0 (zl.setIfInBounds i true)) a w:=by
 have hi:=Up.of_false hun;obtain⟨h1,h2,h3,h4,h5,h6,h7⟩:=hk.row_of he;refine gD ho hg (nF v hr ?_);rw[hd];have hia:∀ {k},k≠i→(Up (zl.setIfInBounds i true) k↔Up zl k):=fun hne=>⟨fun h=>jL hi h hne,fun h=>eF hi h⟩
 have ea:(a.put (some s) v).eval (.tmp sa)=a.eval (.tmp sa):=jQ _ _ h1;have eb:(a.put (some s) v).eval (.tmp sb)=a.eval (.tmp sb):=jQ _ _ h2;refine⟨hI.off.put h6 v,hI.pt.step hi (by rw[hI.off.size];exact Nat.lt_of_lt_of_le h7 hN) (fun e' he' hs=>by rw[hk.uniq he' he (.inr hs)]) (fun e' he' hs=>by rw[hk.uniq he' he (.inl hs)]),hI.kp,fun h=>⟨eF hi (hI.dp (jL hi h (Ne.symm h4))).1,eF hi (hI.dp (jL hi h (Ne.symm h4))).2⟩,?_,?_,?_,?_,?_⟩
 ·rw[eb,hia (Ne.symm h3),hia (Ne.symm h4)];exact hI.nb
 ·rw[hia (Ne.symm h4)];exact hI.o1
 ·rw[ea,hia (Ne.symm h4)];exact hI.o2
 ·rw[hia (Ne.symm h5)];exact hI.b1
 ·rw[ea,hia (Ne.symm h5),hia (Ne.symm h4)];exact hI.b2
theorem sZ(hk:GAk S T Y ib sb ia sa is bx te tb v0 N)(hI:GA S T Y X il ib sb ia sa is bx ci te tb z base sz n v0 xs news a0 zl a w)(hN:N≤a0.tmps.size)(hun:zl.getD ib true=false)(ho:ops[ib]?=some o)(hg:o.guard=none)(hd:o.dst=some sb)
  (hr:(execOp a.eval o).run Tryz.prog w=.ok (.value (.slice (some ⟨w.heap.size,0,none⟩) 1 1)) (w.alloc (.cells news.toArray te))):wpOp Tryz.prog ops Q ib (GA S T Y X il ib sb ia sa is bx ci te tb z base sz n v0 xs news a0 (zl.setIfInBounds ib true)) a w:=by
 have hi:=Up.of_false hun;have hna:¬ Up zl ia:=fun h=>gO hun (hI.dp h).2
 obtain⟨n1,n2,n3,n4,n5,n6,n7,n8⟩:=hk.ne;refine gD ho hg (nF _ hr ?_);rw[hd];have hia:∀ {k},k≠ib→(Up (zl.setIfInBounds ib true) k↔Up zl k):=fun hne=>⟨fun h=>jL hi h hne,fun h=>eF hi h⟩
 have ea:(a.put (some sb) (.slice (some ⟨w.heap.size,0,none⟩) 1 1)).eval (.tmp sa)=a.eval (.tmp sa):=jQ _ _ (Ne.symm n4);have hs:sb<a.tmps.size:=by rw[hI.off.size];omega
 refine⟨hI.off.put n6 _,hI.pt.step hi hs (fun e' he' hs'=>absurd hs' (hk.row_of he').2.1) (fun e' he' hs'=>absurd hs' (hk.row_of he').2.2.1),hI.kp.alloc _,fun h=>absurd (jL hi h (Ne.symm n1)) hna,?_,?_,?_,?_,?_⟩
 ·exact fun _ _=>⟨w.heap.size,hG _ _ hs,Lies.new _ _ _⟩
 ·rw[hia (Ne.symm n1)];exact fun h=>World.ownsRow.alloc (hI.o1 h) _
 ·rw[hia (Ne.symm n1)];exact fun h=>absurd h hna
 ·rw[hia (Ne.symm n2)];exact fun h=>(hI.b1 h).alloc _
 ·rw[hia (Ne.symm n2)];exact fun h=>absurd (hI.b2 h).1 hna
theorem uCU(hk:GAk S T Y ib sb ia sa is bx te tb v0 N)(hI:GA S T Y X il ib sb ia sa is bx ci te tb z base sz n v0 xs news a0 zl a w)(hN:N≤a0.tmps.size)(hun:zl.getD ia true=false)(ho:ops[ia]?=some o)(hg:o.guard=none)(hd:o.dst=some sa)(hll:Up zl il)(hb:Up zl ib)
  (t:TypeId) (so:Nat) (hop:o.op=.call { callee:=.builtin .append,args:=#[.tmp so,.tmp sb],argTypes:=#[t,t] }) (hv:a.eval (.tmp so)=v0)
  (i0:TypeInfo) (zv:Value) (bytes:Nat) (ht:Tryz.prog.underlying t=some (.slice te)) (hi0:Tryz.prog.info? te=some i0) (hz:i0.zero=some zv) (hsize:i0.size=sz) (hby:i0.bytes=bytes) (hzs:zv.cells.size=sz) (hsz:0<sz)
  (hl:news.length=sz) (h1:∀ u∈news,u.oneCell'=true) (h63:n+1≤maxLen) (hbytes:(n+1)*bytes≤140737488355328) (hbase:base≤w.heap.size) :
  wpOp Tryz.prog ops Q ia (GA S T Y X il ib sb ia sa is bx ci te tb z base sz n v0 xs news a0 (zl.setIfInBounds ia true)) a w:=by
 have hi:=Up.of_false hun;have hna:=gO hun;have hns:¬ Up zl is:=fun h=>hna (hI.b2 h).1
 obtain⟨n1,n2,n3,n4,n5,n6,n7,n8⟩:=hk.ne;obtain⟨g,e1,hL⟩:=hI.nb hb hna;have hown:=hI.o1 hna;refine gD ho hg (wp_append_own w (.tmp so) (.tmp sb) t hop base te i0 zv sz bytes ht hi0 hz hsize hby hzs hsz v0 n xs hv hown ⟨g,0,none⟩ 1 1 news e1 (by rw[Nat.one_mul];exact hl) (fun j u hj=>?_) h1 h63 hbytes hbase ?_)
 ·have hc:=hL.cell j;rw[List.getElem?_toArray,hj]at hc;have e:(⟨g,0,none⟩:Addr).add j=⟨g,j,none⟩:=by cases j <;> simp[Addr.add]
  rw[e];exact hc
 intro v' w' hown' hgrow _;rw[hd];have hia:∀ {k},k≠ia→(Up (zl.setIfInBounds ia true) k↔Up zl k):=fun hne=>⟨fun h=>jL hi h hne,fun h=>eF hi h⟩
 have hs:sa<a.tmps.size:=by rw[hI.off.size];omega
 refine⟨hI.off.put n5 _,hI.pt.step hi hs (fun e' he' hs'=>absurd hs' (hk.row_of he').1) (fun e' he' hs'=>absurd hs' (hk.row_of he').2.2.2.1),hI.kp.grown hgrow (fun g hg=>.inl (hk.row g hg)),fun _=>⟨eF hi hll,eF hi hb⟩,?_,?_,?_,?_,?_⟩
 ·exact fun _ h=>absurd (nE hi) h
 ·exact fun h=>absurd (nE hi) h
 ·intro _;rw[hG _ _ hs];exact hown'
 ·rw[hia (Ne.symm n3)];exact fun h=>(hI.b1 h).grownA hgrow (fY hk.ty hown (hI.b1 h))
 ·rw[hia (Ne.symm n3)];exact fun h=>absurd h hns
theorem tA(hk:GAk S T Y ib sb ia sa is bx te tb v0 N)(hI:GA S T Y X il ib sb ia sa is bx ci te tb z base sz n v0 xs news a0 zl a w)(hun:zl.getD is true=false)(ho:ops[is]?=some o)(hg:o.guard=none)(hd:o.dst=none)(ha:Up zl ia)
  (hr:Lies w bx tb z→(∃ g c,a.eval (.tmp sa)=.slice (some ⟨g,0,none⟩) (n+1) c)→(execOp a.eval o).run Tryz.prog w=.ok .skip (w.setCell ⟨bx,ci,none⟩ (a.eval (.tmp sa)))):wpOp Tryz.prog ops Q is (GA S T Y X il ib sb ia sa is bx ci te tb z base sz n v0 xs news a0 (zl.setIfInBounds is true)) a w:=by
 have hi:=Up.of_false hun;have hns:=gO hun;obtain⟨n1,n2,n3,n4,n5,n6,n7,n8⟩:=hk.ne;have hl:=hI.b1 hns;have hown:=hI.o2 ha;obtain⟨g,c,hsl⟩:∃ g c,a.eval (.tmp sa)=.slice (some ⟨g,0,none⟩) (n+1) c:=by
  rcases hown.2 with⟨_,h0⟩ | ⟨g,cap,cur,e,_⟩
  ·omega
  ·exact⟨g,cap,e⟩
 refine gD ho hg (oL (hr hl ⟨g,c,hsl⟩) ?_);rw[hd];show GA S T Y X il ib sb ia sa is bx ci te tb z base sz n v0 xs news a0 _ a _;have hia:∀ {k},k≠is→(Up (zl.setIfInBounds is true) k↔Up zl k):=fun hne=>⟨fun h=>jL hi h hne,fun h=>eF hi h⟩
 refine⟨hI.off,hI.pt.skip hi (fun e' he'=>(hk.row_of he').2.2.2.2.1),hI.kp.set (.inl hk.box) _ _,fun _=>⟨eF hi (hI.dp ha).1,eF hi (hI.dp ha).2⟩,?_,?_,?_,?_,?_⟩
 ·rw[hia n3];exact fun _ h=>absurd ha h
 ·rw[hia n3];exact fun h=>absurd ha h
 ·rw[hia n3];exact fun _=>nC hk.ty hown hl _ _
 ·exact fun h=>absurd (nE hi) h
 ·exact fun _=>⟨eF hi ha,hl.put _ _⟩
end
end Go.Proofs.YtmgjidnalpgegaaGreatDoor
