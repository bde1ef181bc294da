/-
  Lemmas of ParseCalls: PlBr PlCa RkR ParseCallsW.
-/
import Derived.Test.YtmgjidnalpgegaaGreatDoorPk28
set_option maxHeartbeats 100000000
namespace Go.Proofs.YtmgjidnalpgegaaGreatDoor
open Go.RowKit
theorem kA{P:List Tok->Nat->Out}{sg:List Bs}{L:List Tok}{c:Nat}{t:Tree}{e:Tok}{c1:Nat}(he:e.kind=0)(h:P L c=.ok t [e] c1):bL P sg L c=.ok t [e] c1:=by
 unfold bL;rw[h];show dX P sg 1 t [e] c1=_;unfold dX;have:dB sg (hd [e])=false:=by show dB sg e=false;unfold dB;rw[he];rfl
 rw[this];rfl
theorem zR{P:List Tok->Nat->Out}{L:List Tok}{c:Nat}{t:Tree}{e:Tok}{c1:Nat}(ha:bD L=0)(he:e.kind=0)(h:P L c=.ok t [e] c1):eD P L c=.ok t [e] c1:=by
 have h1:cP (bM P) L c=.ok t [e] c1:=by
  unfold cP bM;rw[ha,List.drop_zero,h];show (match fQ 1 t [e] c1 with|.bad e p=>Out.bad e p | .ok t ts1 c1=>_)=_;unfold fQ;have:isS (hd [e]) [37]=false:=by show isS e [37]=false;unfold isS;rw[he];rfl
  rw[this];rfl
 unfold eD;exact kA he (kA he (kA he (kA he (kA he h1))))
theorem lF{W:List Tok->Nat->Out}{f:Nat}{l:List Tree}{ts ts1:List Tok}{c c1:Nat}{x:Tree}(hf:0<f)(h:iP W ts c=.ok x ts1 c1)(h1:isS (hd ts1) [41]=false)(h2:isS (hd ts1) [44]=true)(hl:l.length<31):bN W f l ts c=bN W (f-1) (l++[x]) ts1.tail c1:=by
 obtain⟨f,rfl⟩:∃ k,f=k+1:=⟨f-1,by omega⟩
 rw[show f+1-1=f from rfl];show (match iP W ts c with
  | .bad e p=>fT.bad e p
  | .ok x ts1 c1=>
   if isS (hd ts1) [41] then fT.ok (l++[x]) ts1 c1
   else if isS (hd ts1) [44] then if 32<=l.length+1 then fT.bad 10 (hd ts1).place else bN W f (l++[x]) ts1.tail c1
   else fT.bad 6 (hd ts1).place)=_
 rw[h];dsimp only;rw[h1,h2,if_neg (by decide),if_pos rfl,if_neg (by omega)]
theorem tF{W:List Tok->Nat->Out}{f:Nat}{l:List Tree}{ts ts1:List Tok}{c c1:Nat}{x:Tree}(hf:0<f)(h:iP W ts c=.ok x ts1 c1)(h1:isS (hd ts1) [41]=true):bN W f l ts c=.ok (l++[x]) ts1 c1:=by
 obtain⟨f,rfl⟩:∃ k,f=k+1:=⟨f-1,by omega⟩
 show (match iP W ts c with
  | .bad e p=>fT.bad e p
  | .ok x ts1 c1=>
   if isS (hd ts1) [41] then fT.ok (l++[x]) ts1 c1
   else if isS (hd ts1) [44] then if 32<=l.length+1 then fT.bad 10 (hd ts1).place else bN W f (l++[x]) ts1.tail c1
   else fT.bad 6 (hd ts1).place)=_
 rw[h];dsimp only;rw[h1,if_pos rfl]
theorem qV{ax:Ax}{s:Bs}{t:Tree}{ts:List Tok}(h:Operand ax s t ts)(k c:Nat)(y:Tok)(Y1:List Tok)(hy:isS y [41]=true\/isS y [44]=true)(hS:EndR (fun x z=>x=z) Y1 Y1):iP (bY 64 ax 1) (ts.map (aU k)++y::Y1) c=.ok t (y::Y1) (c+t.size):=by
 unfold iP;rw[(h.first k _).1,(h.first k _).2];exact h.read k 64 1 c y Y1 (by omega) (by omega) hy hS
theorem tE{W:List Tok->Nat->Out}{y:Tok}(R:List Tok)(c:Nat)(hy:isS y [44]=true\/isS y [41]=true):iP W (y::R) c=.ok fS (y::R) (c+1):=by
 unfold iP;rw[show (isS (hd (y::R)) [44]||isS (hd (y::R)) [41])=true by
  show (isS y [44]||isS y [41])=true;rcases hy with h|h <;> rw[h] <;> simp,if_pos rfl]
def pR:List Bs:=[[102,46,120],[70,46,88],[70,46,120]]
abbrev fxB:Bs:=[70,46,88]
theorem uER{nm:Bs}(hn:nm∈pR)(r:Bs):bK (nm++40::r) 0=kO ⟨3,nm,0⟩ (bK (40::r) 3):=by
 have key:∀ (c d e:UInt8),nm=[c,d,e]->c≠32->bE (c::d::e::40::r)=(3,[c,d,e],3)->bK (nm++40::r) 0=kO ⟨3,nm,0⟩ (bK (40::r) 3):=fun c d e he oj ht=>by
  subst he;show bK (c::d::e::40::r) 0=_;rw[hG c _ 0 oj (by rw[ht];exact Nat.succ_ne_zero _),ht];rfl
 simp only[pR,ym,List.not_mem_nil,or_false]at hn;rcases hn with rfl|rfl|rfl
 all_goals
  refine key _ _ _ rfl (by decide) ?_;unfold bE;rw[jP _ _ (by decide) (by decide)];rfl
theorem uKH{W:Nat->List Tok->Nat->Out}{ax:Ax}{nm:Bs}(hn:nm∈pR){R ts1:List Tok}{c c1:Nat}{l:List Tree}(h41:isS (hd R) [41]=false)(h:bN (W 1) (R.length+2) [] R c=.ok l ts1 c1):fI W ax 0 (⟨3,nm,0⟩::⟨5,[40],3⟩::R) c=.ok (eF fxB l) ts1.tail (c1+1):=by
 simp only[pR,ym,List.not_mem_nil,or_false]at hn;rcases hn with rfl|rfl|rfl
 all_goals
  show (match (if isS (hd R) [41]=true then fT.ok [] R c else bN (W 1) (R.length+2) [] R c) with
   | .bad e p=>Out.bad e p
   | .ok l ts1 c1=>Out.ok (eF fxB l) ts1.tail (c1+1))=_
  rw[h41,if_neg (by decide),h]
theorem oQ{ax:Ax}{nm T:Bs}(hn:nm∈pR){R0:List Tok}{l:List Tree}{q:Nat}(kb:jH T=.ok (⟨3,nm,0⟩::⟨5,[40],3⟩::R0))(h41:isS (hd (R0++[bA T.length])) [41]=false)
  (jp:bN (bY 64 ax 1) ((R0++[bA T.length]).length+2) [] (R0++[bA T.length]) 0=.ok l [⟨5,[41],q⟩,bA T.length] (bH l)) (hc:cK (eF fxB l)=0):aR ax T=.ok (eF fxB l):=by
 have hp:=uKH (W:=bY 64 ax) (ax:=ax) hn h41 jp;have hw:bY 65 ax 0 ((⟨3,nm,0⟩::⟨5,[40],3⟩::R0)++[bA T.length]) 0=.ok (eF fxB l) [bA T.length] (bH l+1):=zR (P:=fI (bY 64 ax) ax 0) rfl rfl hp;have dz:(eF fxB l).size<=256:=by
  unfold cK at hc;by_cases h:256<(eF fxB l).size
  ·rw[if_pos h]at hc;cases hc
  omega
 have dz:bH l+1<=256:=dz;unfold aR;rw[kb];show eS ax _=_;unfold eS;rw[hw];dsimp only;rw[if_neg (fun h=>h rfl),if_neg (by omega),if_neg (fun h=>h hc)]
theorem nP{T:Bs}{ts A B:List Tok}(h:jH T=.ok ts)(e:ts++[bA T.length]=A++B)(hB:B≠[]):EndR (fun x z=>x=z) B B:=by
 obtain⟨h1,h2⟩:=uJ h;rw[e]at h1;refine h1.behind (fun t ht=>h2 t ?_);have h3:A <+: ts:=by
  have h4:A <+: ts++[bA T.length]:=⟨B,e.symm⟩
  obtain⟨C,hC⟩:=h4;have hBC:C=B:=List.append_cancel_left (hC.trans e);subst hBC;rcases List.eq_nil_or_concat C with hc|⟨D,d,hc⟩
  ·exact absurd hc hB
  rw[hc,List.concat_eq_append,<- List.append_assoc]at hC;exact⟨D,(List.append_inj_left' hC rfl)⟩
 exact h3.subset ht
theorem uAD{ax:Ax}(ha:lU ax){s t:Bs}{x y:Tree}(hx:aR ax s=.ok x)(hy:aR ax t=.ok y)(hs:s.count 40<50)(ht:t.count 40<50) :
  (cK (eF fxB [x,y])=0->aR ax ([102,46,120]++40::(s++44::(t++[41])))=.ok (eF fxB [x,y])) /\
  (cK (eF fxB [x,fS,y])=0->aR ax ([70,46,88]++40::(s++44::44::(t++[41])))=.ok (eF fxB [x,fS,y])) /\
  (cK (eF fxB [fS,x,y,fS])=0->aR ax ([70,46,120]++40::44::(s++32::44::32::(t++[44,41])))=.ok (eF fxB [fS,x,y,fS])):=by
 obtain⟨ts,hS⟩:=kU ha hx hs;obtain⟨us,hU⟩:=kU ha hy ht;have h41:Stp 41:=.inr (.inl rfl);have h44:Stp 44:=.inr (.inr rfl);have oj:Stp 32:=.inl rfl;refine⟨fun hc=>?_,fun hc=>?_,fun hc=>?_⟩
 ·have kb:jH ([102,46,120]++40::(s++44::(t++[41])))=.ok (⟨3,[102,46,120],0⟩::⟨5,[40],3⟩::(ts.map (aU 4)++⟨5,[44],4+s.length⟩::(us.map (aU (4+s.length+1))++[⟨5,[41],4+s.length+1+t.length⟩]))):=by
   unfold jH;rw[uER (by decide),cB 40 _ 3 (.inl rfl),fC hS h44 _ (3+1),cB 44 _ _ (.inr (.inr rfl)),fC hU h41 [] _,cB 41 [] _ (.inr (.inl rfl)),gZ];rfl
  have hE:=fun A B=>nP (A:=A) (B:=B) kb
  generalize hT:([102,46,120]++40::(s++44::(t++[41])):Bs)=T at *;have E1:=hE (⟨3,[102,46,120],0⟩::⟨5,[40],3⟩::(ts.map (aU 4)++[⟨5,[44],4+s.length⟩])) (us.map (aU (4+s.length+1))++⟨5,[41],4+s.length+1+t.length⟩::[bA T.length]) (by simp) (by simp);have E2:EndR (fun x z=>x=z) [bA T.length] [bA T.length]:=.one (mA _ _ rfl rfl rfl rfl) rfl;refine oQ (q:=4+s.length+1+t.length) (by decide) kb ?_ ?_ hc
  ·rw[List.append_assoc];exact(hS.first 4 _).2
  rw[show (ts.map (aU 4)++(⟨5,[44],4+s.length⟩:Tok)::(us.map (aU (4+s.length+1))++[⟨5,[41],4+s.length+1+t.length⟩]))++[bA T.length]=ts.map (aU 4)++⟨5,[44],4+s.length⟩::(us.map (aU (4+s.length+1))++⟨5,[41],4+s.length+1+t.length⟩::[bA T.length]) by simp];rw[lF (by omega) (qV hS 4 0 _ _ (.inr rfl) E1) rfl rfl (Nat.lt_of_sub_pos (by simp)),List.tail_cons,tF (by simp only[yl,yi];omega) (qV hU _ _ _ _ (.inl rfl) E2) rfl];show fT.ok [x,y] _ _=fT.ok [x,y] _ (x.size+(y.size+0));rw[show 0+x.size+y.size=x.size+(y.size+0) by omega]
 ·have kb:jH ([70,46,88]++40::(s++44::44::(t++[41])))=.ok (⟨3,[70,46,88],0⟩::⟨5,[40],3⟩::(ts.map (aU 4)++⟨5,[44],4+s.length⟩::⟨5,[44],4+s.length+1⟩::(us.map (aU (4+s.length+1+1))++[⟨5,[41],4+s.length+1+1+t.length⟩]))):=by
   unfold jH;rw[uER (by decide),cB 40 _ 3 (.inl rfl),fC hS h44 _ (3+1),cB 44 _ _ (.inr (.inr rfl)),cB 44 _ _ (.inr (.inr rfl)),fC hU h41 [] _,cB 41 [] _ (.inr (.inl rfl)),gZ];rfl
  have hE:=fun A B=>nP (A:=A) (B:=B) kb
  generalize hT:([70,46,88]++40::(s++44::44::(t++[41])):Bs)=T at *;have E1:=hE (⟨3,[70,46,88],0⟩::⟨5,[40],3⟩::(ts.map (aU 4)++[⟨5,[44],4+s.length⟩])) (⟨5,[44],4+s.length+1⟩::(us.map (aU (4+s.length+1+1))++⟨5,[41],4+s.length+1+1+t.length⟩::[bA T.length])) (by simp) (by simp);have E2:EndR (fun x z=>x=z) [bA T.length] [bA T.length]:=.one (mA _ _ rfl rfl rfl rfl) rfl;refine oQ (q:=4+s.length+1+1+t.length) (by decide) kb ?_ ?_ hc
  ·rw[List.append_assoc];exact(hS.first 4 _).2
  rw[show (ts.map (aU 4)++(⟨5,[44],4+s.length⟩:Tok)::⟨5,[44],4+s.length+1⟩::(us.map (aU (4+s.length+1+1))++[⟨5,[41],4+s.length+1+1+t.length⟩]))++[bA T.length]=ts.map (aU 4)++⟨5,[44],4+s.length⟩::⟨5,[44],4+s.length+1⟩::(us.map (aU (4+s.length+1+1))++⟨5,[41],4+s.length+1+1+t.length⟩::[bA T.length]) by simp];rw[lF (by omega) (qV hS 4 0 _ _ (.inr rfl) E1) rfl rfl (Nat.lt_of_sub_pos (by simp)),List.tail_cons,lF (by simp only[yl,yi];omega) (tE _ _ (.inl rfl)) rfl rfl (Nat.lt_of_sub_pos (by simp)),List.tail_cons,tF (by simp only[yl,yi];omega) (qV hU _ _ _ _ (.inl rfl) E2) rfl];show fT.ok [x,fS,y] _ _=fT.ok [x,fS,y] _ (x.size+(1+(y.size+0)));rw[show 0+x.size+1+y.size=x.size+(1+(y.size+0)) by omega]
 have kb:jH ([70,46,120]++40::44::(s++32::44::32::(t++[44,41])))=.ok (⟨3,[70,46,120],0⟩::⟨5,[40],3⟩::⟨5,[44],4⟩::(ts.map (aU 5)++⟨5,[44],5+s.length+1⟩::(us.map (aU (5+s.length+1+1+1))++[⟨5,[44],5+s.length+1+1+1+t.length⟩,⟨5,[41],5+s.length+1+1+1+t.length+1⟩]))):=by
  unfold jH;rw[uER (by decide),cB 40 _ 3 (.inl rfl),cB 44 _ _ (.inr (.inr rfl)),fC hS oj _ (3+1+1),gO,cB 44 _ _ (.inr (.inr rfl)),gO,fC hU h44 _ _,cB 44 _ _ (.inr (.inr rfl)),cB 41 [] _ (.inr (.inl rfl)),gZ];rfl
 have hE:=fun A B=>nP (A:=A) (B:=B) kb
 generalize hT:([70,46,120]++40::44::(s++32::44::32::(t++[44,41])):Bs)=T at *;have E1:=hE (⟨3,[70,46,120],0⟩::⟨5,[40],3⟩::⟨5,[44],4⟩::(ts.map (aU 5)++[⟨5,[44],5+s.length+1⟩])) (us.map (aU (5+s.length+1+1+1))++⟨5,[44],5+s.length+1+1+1+t.length⟩::⟨5,[41],5+s.length+1+1+1+t.length+1⟩::[bA T.length]) (by simp) (by simp);have E2:=hE (⟨3,[70,46,120],0⟩::⟨5,[40],3⟩::⟨5,[44],4⟩::(ts.map (aU 5)++⟨5,[44],5+s.length+1⟩::(us.map (aU (5+s.length+1+1+1))++[⟨5,[44],5+s.length+1+1+1+t.length⟩]))) (⟨5,[41],5+s.length+1+1+1+t.length+1⟩::[bA T.length]) (by simp) (by simp);refine oQ (q:=5+s.length+1+1+1+t.length+1) (by decide) kb rfl ?_ hc
 rw[show ((⟨5,[44],4⟩:Tok)::(ts.map (aU 5)++(⟨5,[44],5+s.length+1⟩:Tok)::(us.map (aU (5+s.length+1+1+1))++[⟨5,[44],5+s.length+1+1+1+t.length⟩,⟨5,[41],5+s.length+1+1+1+t.length+1⟩])))++[bA T.length]=⟨5,[44],4⟩::(ts.map (aU 5)++⟨5,[44],5+s.length+1⟩::(us.map (aU (5+s.length+1+1+1))++⟨5,[44],5+s.length+1+1+1+t.length⟩::⟨5,[41],5+s.length+1+1+1+t.length+1⟩::[bA T.length])) by simp]
 rw[lF (by omega) (tE _ _ (.inl rfl)) rfl rfl (Nat.lt_of_sub_pos (by simp)),List.tail_cons,lF (by simp only[yl,yi];omega) (qV hS 5 _ _ _ (.inr rfl) E1) rfl rfl (Nat.lt_of_sub_pos (by simp)),List.tail_cons,lF (by simp only[yl,yi];omega) (qV hU _ _ _ _ (.inr rfl) E2) rfl rfl (Nat.lt_of_sub_pos (by simp)),List.tail_cons,tF (by simp only[yl,yi];omega) (tE _ _ (.inr rfl)) rfl];show fT.ok [fS,x,y,fS] _ _=fT.ok [fS,x,y,fS] _ (1+(x.size+(y.size+(1+0))));rw[show 0+1+x.size+y.size+1=1+(x.size+(y.size+(1+0))) by omega]
theorem built3(c1 c2 c3:List Value)(mn:c1.length=22)(rs:c2.length=22)(h3':c3.length=22):Tryz.prog.builtSlice 41 3 [(0,.agg c1.toArray),(1,.agg c2.toArray),(2,.agg c3.toArray)]=some (c1++(c2++c3)).toArray:=by
 obtain⟨i,z,h1,h2,h3,h4⟩:=jQ;unfold Program.builtSlice;rw[h1];simp only[h3,h2];rw[if_neg (by decide),gN _ _ (0*22) 22 c1 mn 0 _ rfl (by simp),gN _ _ (1*22) 22 c2 rs 1 _ rfl (by simp[mn]),gN _ _ (2*22) 22 c3 h3' 2 [] rfl (by simp[mn,rs])];show some _=some _;simp[mn,rs,List.take_append,List.drop_append,List.take_of_length_le,List.drop_eq_nil_of_le]
theorem built4(c1 c2 c3 c4:List Value)(mn:c1.length=22)(rs:c2.length=22)(h3':c3.length=22)(h4':c4.length=22):Tryz.prog.builtSlice 41 4 [(0,.agg c1.toArray),(1,.agg c2.toArray),(2,.agg c3.toArray),(3,.agg c4.toArray)]=some (c1++(c2++(c3++c4))).toArray:=by
 obtain⟨i,z,h1,h2,h3,h4⟩:=jQ;unfold Program.builtSlice;rw[h1];simp only[h3,h2];rw[if_neg (by decide),gN _ _ (0*22) 22 c1 mn 0 _ rfl (by simp),gN _ _ (1*22) 22 c2 rs 1 _ rfl (by simp[mn]),gN _ _ (2*22) 22 c3 h3' 2 _ rfl (by simp[mn,rs]),gN _ _ (3*22) 22 c4 h4' 3 [] rfl (by simp[mn,rs,h3'])];show some _=some _;simp[mn,rs,h3',List.take_append,List.drop_append,List.take_of_length_le,List.drop_eq_nil_of_le]
theorem uHA{ops:Array Oper}{rest:List Oper}{o:Oper}{a:Act}{w:World}{Q:Exit->Act->World->Prop}(hg:o.guard=none)(x y z:Go.Operand)(ho:o.op=.buildSlice 39 3 #[(0,x),(1,y),(2,z)])(c1 c2 c3:List Value)(hx:a.eval x=.agg c1.toArray)(hy:a.eval y=.agg c2.toArray)(hz:a.eval z=.agg c3.toArray)(h1:c1.length=22)(h2:c2.length=22)(h3:c3.length=22)
  (N:Nat) (hN:w.heap.size=N) (d:Option Tmp) (hd:o.dst=d) (h:wpList Tryz.prog ops Q rest (a.put d (.slice (some ⟨N,0,none⟩) 3 3)) (w.alloc (.cells (c1++(c2++c3)).toArray 41))):wpList Tryz.prog ops Q (o::rest) a w :=
 Great.wpList_buildSliceTo hg 39 41 3 #[(0,x),(1,y),(2,z)] ho N hN d hd nU (c1++(c2++c3)).toArray (by simp only[List.map_toArray,List.map_cons,List.map_nil,hx,hy,hz];exact built3 c1 c2 c3 h1 h2 h3) h
theorem uHB{ops:Array Oper}{rest:List Oper}{o:Oper}{a:Act}{w:World}{Q:Exit->Act->World->Prop}(hg:o.guard=none)(x y z u:Go.Operand)(ho:o.op=.buildSlice 39 4 #[(0,x),(1,y),(2,z),(3,u)])(c1 c2 c3 c4:List Value)(hx:a.eval x=.agg c1.toArray)(hy:a.eval y=.agg c2.toArray)(hz:a.eval z=.agg c3.toArray)(hu:a.eval u=.agg c4.toArray)(h1:c1.length=22)(h2:c2.length=22)(h3:c3.length=22)(h4:c4.length=22)
  (N:Nat) (hN:w.heap.size=N) (d:Option Tmp) (hd:o.dst=d) (h:wpList Tryz.prog ops Q rest (a.put d (.slice (some ⟨N,0,none⟩) 4 4)) (w.alloc (.cells (c1++(c2++(c3++c4))).toArray 41))):wpList Tryz.prog ops Q (o::rest) a w :=
 Great.wpList_buildSliceTo hg 39 41 4 #[(0,x),(1,y),(2,z),(3,u)] ho N hN d hd nU (c1++(c2++(c3++c4))).toArray (by simp only[List.map_toArray,List.map_cons,List.map_nil,hx,hy,hz,hu];exact built4 c1 c2 c3 c4 h1 h2 h3 h4) h
theorem law_leaf{qa qb:Nat}{ax:Ax}{w W:World}(h:LSt ax qa qb w W){x:Nat}(hx:qb<x)(hxW:x<=W.heap.size)(hd:NodeH) :
  ∃ Cw:List Value,(bC hd none 0 0)=Cw.toArray/\Cw.length=22/\Cw.toArray.all (·.oneCell')=true /\
   LSt ax qa qb w (World.setCells (W.alloc (.cells aA.toArray 41)) W.heap.size 0 Cw) /\
   NSt qb W.heap.size (.mk hd []) x (World.setCells (W.alloc (.cells aA.toArray 41)) W.heap.size 0 Cw) /\
   (∀ q t x,NSt qb q t x W->NSt qb q t x (World.setCells (W.alloc (.cells aA.toArray 41)) W.heap.size 0 Cw)) /\
   World.there (W.alloc (.cells aA.toArray 41)) W.heap.size 0 Cw.toArray.size:=by
 have fb:(bC hd none 0 0).toList.length=22:=rfl;have hb:Below W.heap.size W (World.setCells (W.alloc (.cells aA.toArray 41)) W.heap.size 0 (bC hd none 0 0).toList):=cU (aQ (.inr zr) _ 0 ((Kp.refl _ _).alloc _));exact⟨(bC hd none 0 0).toList,rfl,fb,dG _ _ _ _,h.next hb,⟨hx,hxW,_,fb,(Lies.new W 41 aA.toArray).putAll (by rw[fb];rfl),_,_,rfl,.inl rfl⟩,fun q t x hn=>hn.next hb,cH fb⟩
theorem uGY(W:World)(xs Cw:List Value):Below W.heap.size W (World.setCells ((W.alloc (.cells xs.toArray 41)).alloc (.cells aA.toArray 41)) (W.alloc (.cells xs.toArray 41)).heap.size 0 Cw) :=
 have hbA:Below W.heap.size W (W.alloc (.cells xs.toArray 41)):=(zp _)
 hbA.trans ((cU (aQ (.inr zr) _ 0 ((Kp.refl _ _).alloc _))).mono hbA.size)
theorem uHO{qa qb q x:Nat}{ax:Ax}{w W0 W:World}{hd:NodeH}{l0 l:List Tree}(h0:LSt ax qa qb w W0)(hb:Below W0.heap.size W0 W)(hq:W0.heap.size<=q)(hN:NSt qb q (.mk hd l0) x W)(xs:List Value)(hk:KCells W0 (List.range x) xs l)(c:Nat) :
  LSt ax qa qb w ((W.alloc (.cells xs.toArray 41)).setCell ⟨q,21,none⟩ (.slice (some ⟨W.heap.size,0,none⟩) l.length c)) /\
   NSt qb q (.mk hd l) x ((W.alloc (.cells xs.toArray 41)).setCell ⟨q,21,none⟩ (.slice (some ⟨W.heap.size,0,none⟩) l.length c)):=by
 have hxq:=hN.2.1;obtain⟨h1,h2,C,h3,h4,A,cp,h5,h6⟩:=hN;have hqW:q<W.heap.size:=h4.lt;have hbA:Below W.heap.size W (W.alloc (.cells xs.toArray 41)):=(zp _);have je:Below W0.heap.size W0 ((W.alloc (.cells xs.toArray 41)).setCell ⟨q,21,none⟩ (.slice (some ⟨W.heap.size,0,none⟩) l.length c)):=(hb.trans (hbA.mono hb.size)).setCell (p:=⟨q,21,none⟩) hq _;refine⟨h0.next je,h1,h2,(bC hd (some ⟨W.heap.size,0,none⟩) l.length c).toList,rfl,?_,_,_,rfl,?_⟩
 ·have hl:=(h4.next hbA).put 21 (.slice (some ⟨W.heap.size,0,none⟩) l.length c);rw[h5]at hl;exact hl
 have hl:Lies ((W.alloc (.cells xs.toArray 41)).setCell ⟨q,21,none⟩ (.slice (some ⟨W.heap.size,0,none⟩) l.length c)) W.heap.size 41 xs.toArray:=aK (Lies.new W 41 xs.toArray) (b:=q) (by omega) 21 _;refine .inr ⟨W.heap.size,rfl,by intro hm;have:=yg.1 hm;omega,hl.lt,KCells.at hl 0 (hk.kp (Kp.of_below je)) (fun j _=>?_)⟩;rw[Nat.zero_mul,Nat.zero_add];simp
set_option maxRecDepth 1000000 in
theorem calls_any(s t:Bs)(A B:Option Addr)(ca cb:Nat)(ids jds:List IdR)(u:Nat)(w:World)(hT:Tab w)(hA:mR w A ids)(hB:mR w B jds)(hn:ids.length<=maxLen)(hm:jds.length<=maxLen)(hf:∀ y∈ids,y.fits)(hg:∀ y∈jds,y.fits)(el:s.length+t.length<=9223372036854775807)(hu:u<=255) :
  Calls Tryz.prog 7 #[.string ⟨s.toArray⟩,.string ⟨t.toArray⟩,.slice A ids.length ca,.slice B jds.length cb,.int .u8 (u:Int)] w fun e w'=>e=.returned (.bool true)/\Below w.heap.size w w':=by
 have CA:=zh (tH w hT);have HA:=zh hA;have HB:=zh hB;have HFt:=zh (And.intro hf hg);have HT:=zh hT;have uj:=zh (And.intro hn hm);have hcat:¬ 9223372036854775807<s.length+t.length:=by omega
 clear hT hA hB hf hg hn hm el
 go_enter Tryz.func7,Tryz.ntmps7
 go_wp2_with fail
 refine CA.out.mono ?_;rintro e W1 ⟨rfl,af⟩;have CX:=zh (wS A B ca cb ids jds W1 (HT.out.next af) (mH HA.out af) (mH HB.out af) uj.out.1 uj.out.2 HFt.out.1 HFt.out.2 w af HT.out.lt);clear af CA HA HB HT HFt uj
 go_wp2_with fail
 refine CX.out.mono ?_;rintro e W2 ⟨⟨u1,rfl⟩,bf,hcx⟩;have CX2:=zh hcx;clear hcx bf CX
 go_wp2_with fail
 refine CX2.out.mono ?_;rintro e W3 ⟨⟨u2,rfl⟩,bu,rp⟩;have au:=zh bu;have zz:=zh rp;clear rp bu CX2;generalize W1.heap.size=qa at *;generalize W2.heap.size=qb at *;have oe:(s++t).length=s.length+t.length:=yl;by_cases tu:1500<s.length+t.length\/200<ids.length\/200<jds.length
 ·have CG:=zh (kQ (s++t) A B none ids.length jds.length 0 ca cb 0 W3 true (by rw[oe];simp;omega));clear oe
  go_wp2_with fail
  refine CG.out.mono ?_;rintro e W4 ⟨rfl,i9⟩;rw[i9];clear i9 CG
  go_wp2_with fail
  go_ret
  exact⟨rfl,au.out⟩
 have CG:=zh (kQ (s++t) A B none ids.length jds.length 0 ca cb 0 W3 false (by rw[oe];simp;omega));have HSm:Hid (s.length+t.length<=1500/\ids.length<=200/\jds.length<=200):=zh (by omega);have rv:=zh (zz.out (by omega) (by omega));have CB1:=zh (iZ s W3 (by omega));have CB2:=zh (iZ t W3 (by omega));clear tu oe zz
 go_wp2_with fail
 refine CG.out.mono ?_;rintro e W4 ⟨rfl,i9⟩;rw[i9];clear i9 CG
 go_wp2_with fail
 refine CB1.out.mono ?_;rintro e W4 ⟨rfl,i9⟩;rw[<- i9];clear i9 CB1;obtain⟨n1,av⟩:∃ n,s.count 40=n:=⟨_,rfl⟩
 obtain⟨n2,ep⟩:∃ n,t.count 40=n:=⟨_,rfl⟩
 rw[av];rw[ep]at CB2;by_cases h50:50<=n1
 ·have h50i:(50:Int)<=(n1:Int):=by omega
  go_wp2_with fail
  go_ret
  exact⟨rfl,au.out⟩
 have h50i:¬ (50:Int)<=(n1:Int):=by omega
 go_wp2_with fail
 refine CB2.out.mono ?_;rintro e W4 ⟨rfl,i9⟩;rw[<- i9];clear i9 CB2;by_cases h51:50<=n2
 ·have h51i:(50:Int)<=(n2:Int):=by omega
  go_wp2_with fail
  go_ret
  exact⟨rfl,au.out⟩
 have h51i:¬ (50:Int)<=(n2:Int):=by omega
 have oh:Hid (s.count 40<50/\t.count 40<50):=zh (by omega);clear h50 h51 av ep au;have qh:=zh rv.out;clear rv;obtain⟨W4,i9⟩:∃ W,W=W3:=⟨_,rfl⟩
 subst i9;obtain⟨ax,hax⟩:∃ ax:Ax,ax=⟨fR ids,fR jds⟩:=⟨_,rfl⟩
 have hok:lU ax:=by rw[hax];exact yI ids jds
 rw[<- hax]at qh;clear hax;have rr:=zh hok;have CF:=zh (fun W S hL hs=>uBG ax hok qa qb w W S hL hs);obtain⟨t1,p1,e1,jq⟩:∃ t1 p1 e1,nO (aR ax s)=t1/\uCT (aR ax s)=p1/\uCS (aR ax s)=e1:=⟨_,_,_,rfl,rfl,rfl⟩
 obtain⟨t2,p2,e2,j7⟩:∃ t1 p1 e1,nO (aR ax t)=t1/\uCT (aR ax t)=p1/\uCS (aR ax t)=e1:=⟨_,_,_,rfl,rfl,rfl⟩
 have de:=zh jq;have ce:=zh j7;clear jq j7 hok;have vv:Hid (qb<W4.heap.size):=zh qh.out.qs
 go_wp2_with fail
 refine(CF.out W4 (s) qh.out (by have:=HSm.out;omega)).mono ?_;rintro e' Wq ⟨hL,hN,hs,dz,C,rfl,hC,ec,hk⟩;rw[de.out.1]at hk dz;rw[de.out.2.1,de.out.2.2];obtain⟨-,z2,z3,z4⟩:=nX hL qh.out.qs hs hC hk;have HZ:=zh (And.intro z3 (And.intro z2 (And.intro dz trivial)));have qo:Hid (World.there (Wq.alloc (.cells aA.toArray 41)) Wq.heap.size 0 C.toArray.size):=zh (cH hC);have dx:=zh ec;have HSW1:Hid (W4.heap.size<=Wq.heap.size):=zh hs;have zi:(Tryz.prog.info? 41).map (·.size)=some C.toArray.size:=by rw[yd,hC];exact aE
 clear z2 z3 z4 hL hN hs hC ec hk dz qh;simp only[aA]at HZ
 go_upto_region 8 with(first |(refine yq rfl 41 (.tmp 15) (.tmp 60) rfl Wq.heap.size 0 C.toArray rfl rfl qo.out zi dx.out ?_;change wpList _ _ _ _ _ (World.setCells _ Wq.heap.size 0 C);generalize World.setCells _ _ _ _=W5 at HZ ⊢))
 have HL5:=zh HZ.out.1;have jf:=zh HZ.out.2.1;have vr:=zh HZ.out.2.2.1;clear HZ qo dx zi;generalize Wq.heap.size=g1 at *;generalize W4.heap.size=x1 at *;have uo:Hid (x1<=W5.heap.size):=zh (by obtain⟨D,_,hl,_⟩:=jf.out.cells;have:=hl.lt;have:=HSW1.out;omega)
 go_wp2_with fail
 refine(CF.out W5 (t) HL5.out (by have:=HSm.out;omega)).mono ?_;rintro e' Wq ⟨hL,hN,hs,dz,C,rfl,hC,ec,hk⟩;rw[ce.out.1]at hk dz;rw[ce.out.2.1,ce.out.2.2];obtain⟨-,z2,z3,z4⟩:=nX hL HL5.out.qs hs hC hk;have hWs:W5.heap.size<=Wq.heap.size:=hs;have HZ:=zh (And.intro z3 (And.intro z2 (And.intro dz (And.intro (z4 _ _ _ (hN _ _ _ jf.out)) trivial))));have qo:Hid (World.there (Wq.alloc (.cells aA.toArray 41)) Wq.heap.size 0 C.toArray.size):=zh (cH hC);have dx:=zh ec;have HSW2:Hid (W5.heap.size<=Wq.heap.size):=zh hs;have zi:(Tryz.prog.info? 41).map (·.size)=some C.toArray.size:=by rw[yd,hC];exact aE
 clear z2 z3 z4 hL hN hs hC ec hk dz HL5 jf hWs;simp only[aA]at HZ
 go_upto_region 9 with(first |(refine yq rfl 41 (.tmp 18) (.tmp 68) rfl Wq.heap.size 0 C.toArray rfl rfl qo.out zi dx.out ?_;change wpList _ _ _ _ _ (World.setCells _ Wq.heap.size 0 C);generalize World.setCells _ _ _ _=W6 at HZ ⊢))
 have HL6:=zh HZ.out.1;have ft:=zh HZ.out.2.1;have HT2:=zh HZ.out.2.2.1;have jf:=zh HZ.out.2.2.2.1;clear HZ qo dx zi;generalize Wq.heap.size=g2 at *;generalize W5.heap.size=x2 at *;have HXG:Hid (x1<=W6.heap.size):=zh (by obtain⟨D,_,hl,_⟩:=ft.out.cells;have h1:=hl.lt;have:=HSW2.out;have:=uo.out;omega);obtain⟨Cm,en,hm22,tj,hmL,hmN,hmP,hmT⟩:=law_leaf HL6.out vv.out HXG.out ⟨9,aC,[],aG,aG,0⟩;have fh:Hid ((#[.int .i64 9,.int .i64 0,.int .i64 0,.int .i64 0,.string ⟨#[]⟩,.bool false,.int .i64 0,.string ⟨#[]⟩,.int .i64 0,.int .i64 0,.int .i64 0,.int .i64 0,.bool false,.bool false,.int .i64 0,.int .i64 0,.int .i64 0,.int .i64 0,.bool false,.bool false,.int .i64 0,.slice none 0 0]:Array Value)=Cm.toArray):=zh en;have HWM:=zh (And.intro hmL (And.intro hmN (And.intro (hmP _ _ _ jf.out) (And.intro (hmP _ _ _ ft.out) hmT))));have HONM:=zh tj
 have HINM:Hid ((Tryz.prog.info? 41).map (·.size)=some Cm.toArray.size):=zh (by rw[yd,hm22];exact aE);clear en hm22 tj hmL hmN hmP hmT jf ft HL6;simp only[aA]at HWM
 go_upto_region 10 with(first |(refine yq rfl 41 (.tmp 21) (.tmp 71) rfl W6.heap.size 0 Cm.toArray rfl (congrArg Value.agg fh.out) HWM.out.2.2.2.2 HINM.out HONM.out ?_;change wpList _ _ _ _ _ (World.setCells _ W6.heap.size 0 Cm);generalize World.setCells _ _ _ _=W7 at HWM ⊢;dsimp only[Act.put]))
 rw[fh.out];have uz:=zh HWM.out.1;obtain⟨Dm,hDm,hlm,Am,cpm,lg,hkm⟩:=HWM.out.2.1.cells;obtain⟨D1,hD1,kn,A1,cp1,eu,dc⟩:=HWM.out.2.2.1.cells;obtain⟨D2,hD2,hl2,A2,cp2,fi,fg⟩:=HWM.out.2.2.2.1.cells;clear HWM fh HINM HONM;have hxg:=HXG.out;clear HXG;generalize W6.heap.size=gm at *;have q1:=fun {xs:List Value} {l:List Tree} (h:KCells W7 (List.range x1) xs l)=>uBD hD1 eu (dc x1 zr) h
 have q2:=fun {xs:List Value} {l:List Tree} (h:KCells W7 (List.range x1) xs l)=>uBD hD2 fi (fg x1 uo.out) h
 have qm:=fun {xs:List Value} {l:List Tree} (h:KCells W7 (List.range x1) xs l)=>uBD (t:=fS) hDm lg (hkm x1 zr) h
 have nil7:KCells W7 (List.range x1) [] []:=rfl;have k0:KCells W7 (List.range x1) (D1++D2) [t1,t2]:=by have h:=q1 (q2 nil7);rwa [List.append_nil]at h
 have k1:KCells W7 (List.range x1) (D1++(Dm++D2)) [t1,fS,t2]:=by have h:=q1 (qm (q2 nil7));rwa [List.append_nil]at h
 have k2:KCells W7 (List.range x1) (Dm++(D1++(D2++Dm))) [fS,t1,t2,fS]:=by have h:=qm (q1 (q2 (qm nil7)));rwa [List.append_nil]at h
 have fz:=zh (And.intro k1 k2);clear q1 q2 qm nil7 k1 k2 dc fg hkm;obtain⟨Cw,hCw,hw22,hw1,hwL,hwN,-,hwT⟩:=uBH uz.out vv.out (by have h1:=hlm.lt;omega) ⟨4,aC,fxB,aG,aG,0⟩ [t1,t2] (D1++D2) k0 2;have HCW:Hid ((#[.int .i64 4,.int .i64 0,.int .i64 0,.int .i64 0,.string ⟨#[]⟩,.bool false,.int .i64 0,.string ⟨#[70,46,88]⟩,.int .i64 0,.int .i64 0,.int .i64 0,.int .i64 0,.bool false,.bool false,.int .i64 0,.int .i64 0,.int .i64 0,.int .i64 0,.bool false,.bool false,.int .i64 0,.slice (some ⟨W7.heap.size,0,none⟩) 2 2]:Array Value)=Cw.toArray):=zh hCw;have ot:=zh (And.intro hwL (And.intro hwN (And.intro (uGY W7 (D1++D2) Cw) (And.intro (show W7.heap.size<=(W7.alloc (.cells (D1++D2).toArray 41)).heap.size by rw[World.size_alloc];exact Nat.le_succ _) (And.intro hwT ((Lies.new (W7.alloc (.cells (D1++D2).toArray 41)) 41 aA.toArray).putAll (vs:=Cw) (by rw[hw22];rfl)))))))
 have yo:=zh hw1;have c7:Hid ((Tryz.prog.info? 41).map (·.size)=some Cw.toArray.size):=zh (by rw[yd,hw22];exact aE);have fp:=zh (dW eu);have ct:=zh (dW fi);have HIM:=zh (dW lg);have HRA1:=zh kn.rangeL;have HRA2:=zh hl2.rangeL;have lz:=zh hD1;have HD2:=zh hD2;have HDM:=zh hDm;have HLA1:=zh kn;have HLA2:=zh hl2;have HLAM:=zh hlm;clear hCw hwL hwN hwT hw1 k0 eu fi lg kn hl2 hlm hD1 hD2 hDm;simp only[aA]at ot
 go_upto_region 11 with(first |(refine yr rfl 41 (.tmp 15) rfl g1 0 rfl D1 _ HRA1.out Tryz.underlying41 rfl fp.out ?_) |(refine yr rfl 41 (.tmp 18) rfl g2 0 rfl D2 _ HRA2.out Tryz.underlying41 rfl ct.out ?_) |(refine mQ rfl (.tmp 72) (.tmp 73) rfl D1 D2 rfl rfl lz.out HD2.out W7.heap.size rfl (some 74) rfl ?_;generalize World.alloc W7 _=W8 at ot ⊢) |(refine yq rfl 41 (.tmp 22) (.tmp 75) rfl W8.heap.size 0 Cw.toArray rfl (congrArg Value.agg HCW.out) ot.out.2.2.2.2.1 c7.out yo.out ?_;change wpList _ _ _ _ _ (World.setCells _ W8.heap.size 0 Cw);generalize World.setCells _ _ _ _=W9 at ot ⊢;dsimp only[Act.put]))
 have kw:=zh ot.out.1;have m6:=zh ot.out.2.1;have vh:=zh ot.out.2.2.1;rw[HCW.out];have hg3:W7.heap.size<=W8.heap.size:=ot.out.2.2.2.1;have HLW:=zh ot.out.2.2.2.2.2;clear ot HRA1 HRA2 c7 yo uo;generalize W8.heap.size=g3 at *;have t9:=zh hg3;clear hg3;have hls:s.length<=1500:=by have:=HSm.out;omega
 have hlt:t.length<=1500:=by have:=HSm.out;omega
 go_upto_block 0 with fail
 clear hcat;obtain⟨rm,hrm⟩:∃ rm:Int,(u:Int) % 3=rm:=⟨_,rfl⟩
 rw[hrm];have lk:Hid (rm=0\/rm=1\/rm=2):=zh (by omega);clear hrm;have HPL:Hid (aR ax s=.ok t1->aR ax t=.ok t2->t1.right 6=true/\t2.right 6=true):=zh (fun h1 h2=>by
  obtain⟨ts,o1⟩:=kU rr.out h1 oh.out.1;obtain⟨us,o2⟩:=kU rr.out h2 oh.out.2;exact⟨o1.right,o2.right⟩)
 have HCP:=zh (fun(h1:aR ax s=.ok t1) (h2:aR ax t=.ok t2)=>uAD rr.out h1 h2 oh.out.1 oh.out.2);have HFx:Hid (bR fxB=true):=zh (by decide)
 go_cut [23] (fun v wx=>∃ (L:List Tree) (S:Bs),v=.string ⟨S.toArray⟩/\Hid (LSt ax qa qb w wx)/\Hid (NSt qb g3 (.mk ⟨4,aC,fxB,aG,aG,0⟩ L) x1 wx)/\Hid (S.length<=4000)/\Hid ((eF fxB L).size<=1000)/\Hid (aR ax s=.ok t1->aR ax t=.ok t2->(eF fxB L).right 6=true/\(cK (eF fxB L)=0->aR ax S=.ok (eF fxB L))))
 case first=>
  rcases lk.out with hk|hk|hk
  ·have b1:(rm==1)=false:=by rw[hk];rfl
   have b2:(rm==2)=false:=by rw[hk];rfl
   clear hk
   go_wp2_with fail
   go_meet
   exact⟨[t1,t2],_,rfl,kw,m6,zh (by simp;omega),zh (by have:=vr.out;have:=HT2.out;show t1.size+(t2.size+0)+1<=1000;omega),zh (fun h1 h2=>⟨mM HFx.out (by simp[bP,gA (HPL.out h1 h2).1 4,gA (HPL.out h1 h2).2 4]) (by simp) (by simp),fun hc=>(HCP.out h1 h2).1 hc⟩)⟩
  ·have b1:(rm==1)=true:=by rw[hk];rfl
   have b2:(rm==2)=false:=by rw[hk];rfl
   have iz:=fz.out.1;have hset:=uHO uz.out vh.out t9.out m6.out (D1++(Dm++D2)) iz 3;have sj:=zh hset;have HY:Hid ((W9.alloc (.cells (D1++(Dm++D2)).toArray 41)).cell? ⟨g3,21,none⟩=some (.slice (some ⟨W7.heap.size,0,none⟩) 2 2)/\(W9.alloc (.cells (D1++(Dm++D2)).toArray 41)).frozen? ⟨g3,21,none⟩=false):=zh (by
    have h:=(HLW.out.alloc (.cells (D1++(Dm++D2)).toArray 41))
    exact⟨by rw[h.cell 21,<- HCW.out];rfl,h.frozen 21⟩)
   have HRAD1:=zh ((HLA1.out.next vh.out).rangeL);have HRAD2:=zh ((HLA2.out.next vh.out).rangeL);have HRADm:=zh ((HLAM.out.next vh.out).rangeL);clear hset iz hk
   go_wp2_with (first |(refine yr rfl 41 (.tmp 15) rfl g1 0 rfl D1 _ HRAD1.out Tryz.underlying41 rfl fp.out ?_) |(refine yr rfl 41 (.tmp 21) rfl gm 0 rfl Dm _ HRADm.out Tryz.underlying41 rfl HIM.out ?_) |(refine yr rfl 41 (.tmp 18) rfl g2 0 rfl D2 _ HRAD2.out Tryz.underlying41 rfl ct.out ?_) |(refine uHA rfl (.tmp 87) (.tmp 88) (.tmp 89) rfl D1 Dm D2 rfl rfl rfl lz.out HDM.out HD2.out W9.heap.size rfl (some 90) rfl ?_;generalize World.alloc W9 _=W10 at sj HY ⊢;have y21:=HY.out.1;have yf21:=HY.out.2))
   go_meet
   exact⟨[t1,fS,t2],_,rfl,zh sj.out.1,zh sj.out.2,zh (by simp;omega),zh (by have:=vr.out;have:=HT2.out;show t1.size+(1+(t2.size+0))+1<=1000;omega),zh (fun h1 h2=>⟨mM HFx.out (by simp[bP,gA (HPL.out h1 h2).1 4,gA (HPL.out h1 h2).2 4,pD]) (by simp) (by simp),fun hc=>(HCP.out h1 h2).2.1 hc⟩)⟩
  have b1:(rm==1)=false:=by rw[hk];rfl
  have b2:(rm==2)=true:=by rw[hk];rfl
  have iz:=fz.out.2;have hset:=uHO uz.out vh.out t9.out m6.out (Dm++(D1++(D2++Dm))) iz 4;have sj:=zh hset;have HY:Hid ((W9.alloc (.cells (Dm++(D1++(D2++Dm))).toArray 41)).cell? ⟨g3,21,none⟩=some (.slice (some ⟨W7.heap.size,0,none⟩) 2 2)/\(W9.alloc (.cells (Dm++(D1++(D2++Dm))).toArray 41)).frozen? ⟨g3,21,none⟩=false):=zh (by
   have h:=(HLW.out.alloc (.cells (Dm++(D1++(D2++Dm))).toArray 41))
   exact⟨by rw[h.cell 21,<- HCW.out];rfl,h.frozen 21⟩)
  have HRAD1:=zh ((HLA1.out.next vh.out).rangeL);have HRAD2:=zh ((HLA2.out.next vh.out).rangeL);have HRADm:=zh ((HLAM.out.next vh.out).rangeL);clear hset iz hk
  go_wp2_with (first |(refine yr rfl 41 (.tmp 15) rfl g1 0 rfl D1 _ HRAD1.out Tryz.underlying41 rfl fp.out ?_) |(refine yr rfl 41 (.tmp 21) rfl gm 0 rfl Dm _ HRADm.out Tryz.underlying41 rfl HIM.out ?_) |(refine yr rfl 41 (.tmp 18) rfl g2 0 rfl D2 _ HRAD2.out Tryz.underlying41 rfl ct.out ?_) |(refine uHB rfl (.tmp 100) (.tmp 101) (.tmp 102) (.tmp 103) rfl Dm D1 D2 Dm rfl rfl rfl rfl HDM.out lz.out HD2.out HDM.out W9.heap.size rfl (some 104) rfl ?_;generalize World.alloc W9 _=W10 at sj HY ⊢;have y21:=HY.out.1;have yf21:=HY.out.2))
  go_meet
  exact⟨[fS,t1,t2,fS],_,rfl,zh sj.out.1,zh sj.out.2,zh (by simp;omega),zh (by have:=vr.out;have:=HT2.out;show 1+(t1.size+(t2.size+(1+0)))+1<=1000;omega),zh (fun h1 h2=>⟨mM HFx.out (by simp[bP,gA (HPL.out h1 h2).1 4,gA (HPL.out h1 h2).2 4,pD]) (by simp) (by simp),fun hc=>(HCP.out h1 h2).2.2 hc⟩)⟩
 case rest=>
 obtain⟨L,S,rfl,HL8,m6,HSl,cr,HPx⟩:=hcut;clear kw fz vh t9 HLW HLA1 HLA2 HLAM lz HD2 HDM fp ct HIM HCP HPL lk HFx;obtain⟨Dw,hDw,hlw,Aw,cpw,si,tv⟩:=m6.out.cells;have HRW:=zh hlw.rangeL;have HIW:=zh (dW si);have HTW:Hid (TreeIn wc (eF fxB L) Dw.toArray):=zh ⟨Aw,cpw,si,(tv 0 (zm _)).anti (fun y hy=>by cases hy)⟩;have ez:=zh HL8.out.bel;clear hDw hlw si tv;by_cases lf:e1=0
 rotate_left
 ·have xe:((e1:Int) != 0)=true:=by simp;omega
  have ye:((e1:Int)==0)=false:=by simp;omega
  clear lf
  go_wp2_with fail
  go_ret
  exact⟨rfl,ez.out⟩
 by_cases sr:e2=0
 rotate_left
 ·have xe0:((e1:Int) != 0)=false:=by rw[lf];rfl
  have ye0:((e1:Int)==0)=true:=by rw[lf];rfl
  have xe:((e2:Int) != 0)=true:=by simp;omega
  have ye:((e2:Int)==0)=false:=by simp;omega
  clear lf sr
  go_wp2_with fail
  go_ret
  exact⟨rfl,ez.out⟩
 have xe0:((e1:Int) != 0)=false:=by rw[lf];rfl
 have ye0:((e1:Int)==0)=true:=by rw[lf];rfl
 have xe:((e2:Int) != 0)=false:=by rw[sr];rfl
 have ye:((e2:Int)==0)=true:=by rw[sr];rfl
 have HF1:Hid (aR ax s=.ok t1):=zh (by
  obtain⟨r1,r2,r3⟩:=de.out;rcases mE ax rr.out s with⟨t',h⟩|⟨e',p',h,h0⟩
  ·rw[h]at r1 ⊢;rw[<- r1];rfl
  rw[h]at r3;exact absurd (r3.trans lf) h0)
 have mj:Hid (aR ax t=.ok t2):=zh (by
  obtain⟨r1,r2,r3⟩:=ce.out;rcases mE ax rr.out t with⟨t',h⟩|⟨e',p',h,h0⟩
  ·rw[h]at r1 ⊢;rw[<- r1];rfl
  rw[h]at r3;exact absurd (r3.trans sr) h0)
 clear lf sr de ce;have HRT:Hid ((eF fxB L).right 6=true):=zh (HPx.out HF1.out mj.out).1;have HCK:=zh (xV (eF fxB L) Dw.toArray wc HRT.out (by have:=cr.out;omega) HTW.out)
 go_wp2_with (first |(refine aL (Eq.trans (aH rfl rfl rfl rfl) rfl) 41 (.tmp 22) rfl g3 0 rfl Dw _ HRW.out Tryz.underlying41 rfl HIW.out ?_))
 refine HCK.out.mono ?_;rintro e' W9 ⟨rfl,fe⟩;have kw:=zh (HL8.out.next fe);have mx:=zh (m6.out.next fe);have fw:=zh kw.out.bel;clear fe HCK HL8 m6 ez HTW HRW;obtain⟨cc,u6⟩:∃ c,cK (eF fxB L)=c:=⟨_,rfl⟩
 rw[u6];by_cases rz:cc=0
 rotate_left
 ·have xc:((cc:Int) != 0)=true:=by simp;omega
  have yc:((cc:Int)==0)=false:=by simp;omega
  clear rz
  go_wp2_with fail
  go_ret
  exact⟨rfl,fw.out⟩
 have HF3:Hid (aR ax S=.ok (eF fxB L)):=zh ((HPx.out HF1.out mj.out).2 (u6.trans rz));have xc:((cc:Int) != 0)=false:=by rw[rz];rfl
 have yc:((cc:Int)==0)=true:=by rw[rz];rfl
 have ev:Hid (nO (aR ax S)=eF fxB L/\uCT (aR ax S)=0/\uCS (aR ax S)=0):=zh (by rw[HF3.out];exact⟨rfl,rfl,rfl⟩);clear rz u6 HF1 mj HF3 fw
 go_wp2_with fail
 refine(CF.out W9 (S) kw.out (by have:=HSl.out;omega)).mono ?_;rintro e' Wq ⟨hL,hN,hs,dz,C,rfl,hC,ec,hk⟩;rw[ev.out.1]at hk dz;rw[ev.out.2.1,ev.out.2.2];obtain⟨-,z2,z3,z4⟩:=nX hL kw.out.qs hs hC hk;have hWs:W9.heap.size<=Wq.heap.size:=hs;have HZ:=zh (And.intro z3 (And.intro z2 (And.intro dz (And.intro (z4 _ _ _ (hN _ _ _ mx.out)) trivial))));have qo:Hid (World.there (Wq.alloc (.cells aA.toArray 41)) Wq.heap.size 0 C.toArray.size):=zh (cH hC);have dx:=zh ec;have HSW3:Hid (W9.heap.size<=Wq.heap.size):=zh hs;have zi:(Tryz.prog.info? 41).map (·.size)=some C.toArray.size:=by rw[yd,hC];exact aE
 clear z2 z3 z4 hL hN hs hC ec hk dz kw mx hWs;simp only[aA]at HZ
 go_upto_region 22 with(first |(refine yq rfl 41 (.tmp 24) (.tmp 128) rfl Wq.heap.size 0 C.toArray rfl rfl qo.out zi dx.out ?_;change wpList _ _ _ _ _ (World.setCells _ Wq.heap.size 0 C);generalize World.setCells _ _ _ _=W10 at HZ ⊢))
 have po:=zh HZ.out.1;have m6:=zh HZ.out.2.1;have HT3:=zh HZ.out.2.2.1;have mx:=zh HZ.out.2.2.2.1;clear HZ qo dx zi;generalize Wq.heap.size=g4 at *;obtain⟨Dw,hDw,hlw,Aw,cpw,si,tv⟩:=mx.out.cells;obtain⟨Dv,hDv,hlv,Av,cpv,hcv,hkv⟩:=m6.out.cells;have HRW:=zh hlw.rangeL;have HIW:=zh (dW si);have HRV:=zh hlv.rangeL;have HIV:=zh (dW hcv);have HSM:=zh (dI 1000 (by decide) (eF fxB L) (eF fxB L) Dv.toArray Dw.toArray W10 cr.out ⟨Av,cpv,hcv,(hkv 0 (zm _)).anti (fun y hy=>by cases hy)⟩ ⟨Aw,cpw,si,(tv 0 (zm _)).anti (fun y hy=>by cases hy)⟩);rw[eB]at HSM;have ez:=zh po.out.bel;clear hDw hlw si tv hDv hlv hcv hkv
 go_wp2_with (first |(refine aL (Eq.trans (aH rfl rfl rfl rfl) rfl) 41 (.tmp 24) rfl g4 0 rfl Dv _ HRV.out Tryz.underlying41 rfl HIV.out ?_) |(refine aL (Eq.trans (aH rfl rfl rfl rfl) rfl) 41 (.tmp 22) rfl g3 0 rfl Dw _ HRW.out Tryz.underlying41 rfl HIW.out ?_))
 refine HSM.out.mono ?_;rintro e' W11 ⟨rfl,lu⟩;have t5:=zh (ez.out.trans (lu.mono ez.out.size));clear lu
 go_wp2_with fail
 go_ret
 exact⟨rfl,t5.out⟩
end Go.Proofs.YtmgjidnalpgegaaGreatDoor
