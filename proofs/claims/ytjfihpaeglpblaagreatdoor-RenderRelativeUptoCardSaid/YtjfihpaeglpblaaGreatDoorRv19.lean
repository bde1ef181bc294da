/-
  Lemmas, part 19: TokK Rr1 Rr6 Rr2 Rr3 Rr4 Rr5 Rr7 Rr8 Rr9 TokL.
-/
import Derived.Laws.AppendOwnNone
import Derived.Test.YtjfihpaeglpblaaGreatDoorRv17
import Derived.Test.YtjfihpaeglpblaaGreatDoorRv18
set_option maxHeartbeats 100000000
set_option maxRecDepth 1000000
namespace Go.Proofs.YtjfihpaeglpblaaGreatDoor
open Go.RowKit
theorem yC:(Tryz.prog.info? 85).map (fun i=>(i.zero,i.size,i.bytes))=some (some (.agg #[vI 0,vS #[],vI 0]),3,32):=by kernel_rfl
theorem sD:(Tryz.prog.info? 64).map (fun i=>(i.zero,i.size,i.bytes))=some (some (.agg #[vI 0,vS #[],vI 0]),3,32):=by kernel_rfl
def eY(t:RTok):List Value:=[vI t.kind,vT t.text,vI t.place]
theorem jO(t:RTok):∀ u∈eY t,u.oneCell'=true:=by
 intro u hu;simp only[eY,ym,List.not_mem_nil,or_false]at hu;rcases hu with rfl|rfl|rfl <;> rfl
def cN(ts:List RTok):List Value:=ts.flatMap eY
theorem pM(ts:List RTok)(t:RTok):cN (ts++[t])=cN ts++eY t:=by simp[cN]
theorem rowK_get(ts:List RTok)(j:Nat)(h:j<ts.length):(cN ts)[j*3]?=some (vI ts[j].kind)/\(cN ts)[j*3+1]?=some (vS (ts[j].text.toArray))/\(cN ts)[j*3+2]?=some (vI ts[j].place):=by
 induction ts generalizing j with
 |nil=>simp at h
 |cons t ts ih=>
  have e:cN (t::ts)=eY t++cN ts:=by simp[cN]
  have hl:(eY t).length=3:=rfl;cases j with
  |zero=>rw[e];exact⟨rfl,rfl,rfl⟩
  |succ j=>
   have:=ih j (by simpa using h);rw[e];rw[List.getElem?_append_right (by omega),List.getElem?_append_right (by omega),List.getElem?_append_right (by omega),hl];rw[show (j+1)*3-3=j*3 by omega,show (j+1)*3+1-3=j*3+1 by omega,show (j+1)*3+2-3=j*3+2 by omega];simpa using this
theorem zC(ts:List RTok):(cN ts).length=ts.length*3:=by
 induction ts with
 |nil=>rfl
 |cons t ts ih=>rw[show cN (t::ts)=eY t++cN ts by simp[cN],yl,ih];simp[eY];omega
theorem yQ{w:World}{base:Nat}{e:TypeId}{A:Option Addr}{cap:Nat}{ts:List RTok}(h:w.ownsRow base e 3 (.slice A ts.length cap) ts.length (cN ts)):RIn w A ts:=by
 intro hp;rcases h.2 with⟨_,h0⟩|⟨g,o5,cur,hv,_⟩
 ·omega
 injection hv with hA hn hc;subst hA hc;have hlt:=(h.lt g rfl).2;refine⟨g,0,rfl,hlt,fun j hj=>?_⟩;obtain⟨h1,h2,h3⟩:=rowK_get ts j hj;refine⟨?_,?_,?_⟩
 ·rw[Nat.zero_add,h.cellAt _ (by omega)];exact h1
 ·rw[Nat.zero_add,h.cellAt _ (by omega)];exact h2
 rw[Nat.zero_add,h.cellAt _ (by omega)];exact h3
theorem qR:∀ (a b:List RTok),cN (a++b)=cN a++cN b:=fun a b=>by simp[cN]
theorem zG(ts:List RTok):∀ u∈cN ts,u.oneCell'=true:=by
 intro u hu;unfold cN at hu;obtain⟨t,_,ht⟩:=List.mem_flatMap.1 hu;exact jO t u ht
theorem aU{ops:Array Oper}{rest:List Oper}{o:Oper}{a:Act}{w:World}{Q:Exit->Act->World->Prop}(pr:o.guard=none)(s x:Operand)(ho:o.op=.call { callee:=.builtin .append,args:=#[s,x],argTypes:=#[81,81] })
  (base b2:Nat) (v1 v2:Value) (lk fd:List RTok) (hs:a.eval s=v1) (ct:w.ownsRow base 85 3 v1 lk.length (cN lk)) (hx:a.eval x=v2) (ik:w.ownsRow b2 85 3 v2 fd.length (cN fd)) (hn:lk.length+fd.length<=1000000) (du:base<=w.heap.size)
  (h:∀ A' c' w',w'.ownsRow base 85 3 (.slice A' (lk++fd).length c') (lk++fd).length (cN (lk++fd))->w.grownBy w' v1.ownBlock->wpList Tryz.prog ops Q rest (a.put o.dst (.slice A' (lk++fd).length c')) w'):wpList Tryz.prog ops Q (o::rest) a w:=by
 obtain⟨i1,gi,gz0,gz1,gz2⟩:=info_parts yC;have e1:=qR lk fd;have e2:(lk++fd).length=lk.length+fd.length:=yl;rcases ik.2 with⟨rfl,h0⟩|⟨g,cap,cur,rfl,hb,hh,dv,im,rv,hc4⟩
 ·have pz:fd=[]:=List.eq_nil_of_length_eq_zero h0;subst pz;rw[List.append_nil]at h;obtain⟨A',c',rfl⟩:=aV ct;refine wpList_append_own_none (P:=Tryz.prog) pr s x 81 ho base 85 i1 3 Tryz.underlying81 gi _ _ _ hs ct hx ?_;exact h A' c' w ct ⟨rfl,rfl,rfl,zr,fun _ _ _=>rfl⟩
 refine wpList_append_own (P:=Tryz.prog) w pr s x 81 ho base 85 i1 (.agg #[vI 0,vS #[],vI 0]) 3 32 Tryz.underlying81 gi gz0 gz1 gz2 rfl (by decide) v1 lk.length (cN lk) hs ct ⟨g,0,none⟩ fd.length cap (cN fd) hx (zC fd) (fun j u hj=>?_) (zG fd) (by unfold maxLen;omega) (by omega) du (fun v' w' k1 k2 _=>?_)
 ·have:=ik.cells (g:=g) rfl j u hj;exact this
 rw[<- e1,<- e2]at k1;obtain⟨A',c',rfl⟩:=aV k1;exact h A' c' w' k1 k2
def ltr(i:Nat):UInt8:=UInt8.ofNat (65+i)
theorem alpha_at:∀ i,i<26->((([65,66,67,68,69,70,71,72,73,74,75,76,77,78,79,80,81,82,83,84,85,86,87,88,89,90]:Bs).drop i).take 1)=[UInt8.ofNat (65+i)]:=by decide
theorem deci_at:∀ i,i<10->((([48,49,50,51,52,53,54,55,56,57]:Bs).drop i).take 1)=[UInt8.ofNat (48+i)]:=by decide
theorem lD(i:Nat)(w:World)(h:i<26) :
  Calls Tryz.prog 233 #[vI (i:Int)] w fun e w'=>e=.returned (vS ([ltr i].toArray))/\w'=w:=by
 have HA:Hid (_=[ltr i]):=zh (alpha_at i h);have hw:IntKind.i64.wrap ((i:Int)+1)=(i:Int)+1:=IntWalk.i64_in _ (by omega)
 go_in
 go_wp2_with fail
 go_ret
 refine⟨?_,rfl⟩;rw[<- HA.out];simp[go_sem]
theorem lE:∀ (b n:Nat),n<=b->n<=1000000->∀ (w:World),
  Calls Tryz.prog 198 #[vI (n:Int)] w fun e w'=>e=.returned (vT (Lib.decDigits n))/\w'=w:=by
 intro b
 induction b with
 |zero=>
  intro n hb _ w;obtain rfl:n=0:=by omega
  have HE:Hid (Lib.decDigits 0=[48]):=zh (Lib.decDigits_one (by decide))
  go_in
  go_wp2_with fail
  go_ret
  refine⟨?_,rfl⟩;rw[HE.out];rfl
 |succ b ih=>
  intro n hb hn w;rcases Nat.lt_or_ge n 10 with hlt|hge
  ·have HE:=zh ((deci_at n hlt).trans (Lib.decDigits_one hlt).symm);have hw:IntKind.i64.wrap ((n:Int)+1)=(n:Int)+1:=IntWalk.i64_in _ (by omega);have hi:(n:Int)<10:=by omega
   clear ih
   go_in
   go_wp2_with fail
   go_ret
   refine⟨?_,rfl⟩;rw[<- HE.out];simp[go_sem]
  have C1:=zh (fun W=>ih (n / 10) (by omega) (by omega) W);have C2:=zh (fun W=>ih (n % 10) (by omega) (by omega) W);have HE:Hid (Lib.decDigits (n / 10)++Lib.decDigits (n % 10)=Lib.decDigits n):=zh (by
   rw[Lib.decDigits_one (by omega:n % 10<10)]
   conv=>rhs;rw[Lib.decDigits,dif_neg (by omega)])
  have hq:(n:Int).tdiv 10=((n / 10:Nat):Int):=by rw[Int.tdiv_eq_ediv_of_nonneg (by omega)];omega
  have hr:(n:Int).tmod 10=((n % 10:Nat):Int):=by rw[Int.tmod_eq_emod_of_nonneg (by omega)];omega
  have hwq:IntKind.i64.wrap ((n / 10:Nat):Int)=((n / 10:Nat):Int):=IntWalk.i64_in _ (by omega);have xz:=bM (n / 10) 6 (by omega);have se:=bM (n % 10) 6 (by omega);have hge':(10:Int)<=(n:Int):=by omega
  generalize n / 10=a at *;generalize n % 10=c at *;generalize Lib.decDigits a=P at *;generalize Lib.decDigits c=Q at *;generalize Lib.decDigits n=R at *;have k1:¬ 9223372036854775807<P.length+Q.length:=by omega
  clear ih hb
  go_in
  go_wp2_with (first |(with_reducible refine(C1.out _).mono ?_;rintro e wx ⟨rfl,rfl⟩) |(with_reducible refine(C2.out _).mono ?_;rintro e wx ⟨rfl,rfl⟩))
  go_ret
  exact⟨congrArg (fun l:Bs=>Ending.returned (vT l)) HE.out,rfl⟩
theorem oB(n:Nat)(w:World)(hn:n<702) :
  Calls Tryz.prog 197 #[vI (n:Int)] w fun e w'=>e=.returned (vT (dT (n+1)))/\w'=w:=by
 have h1:¬ (n:Int)<0:=by omega
 have h2:¬ (18277:Int)<(n:Int):=by omega
 rcases Nat.lt_or_ge n 26 with hlt|hge
 ·have C1:=zh (fun W=>lD n W hlt);have HE:Hid ([ltr n]=dT (n+1)):=zh (by
   rw[eV (n+1) (by omega),show (n+1-1) / 26=0 by omega,show (n+1-1) % 26=n by omega,fP,List.nil_append];rfl)
  have hi:(n:Int)<26:=by omega
  go_in
  go_wp2_with (first |(with_reducible refine(C1.out _).mono ?_;rintro e wx ⟨rfl,rfl⟩))
  go_ret
  exact⟨congrArg (fun l:Bs=>Ending.returned (vT l)) HE.out,rfl⟩
 have C1:=zh (fun W=>lD ((n-26) / 26) W (by omega));have C2:=zh (fun W=>lD ((n-26) % 26) W (by omega));have HE:Hid ([ltr ((n-26) / 26)]++[ltr ((n-26) % 26)]=dT (n+1)):=zh (by
  rw[eV (n+1) (by omega),eV ((n+1-1) / 26) (by omega),show ((n+1-1) / 26-1) / 26=0 by omega,show ((n+1-1) / 26-1) % 26=(n-26) / 26 by omega,show (n+1-1) % 26=(n-26) % 26 by omega,fP,List.nil_append];rfl)
 have hw:IntKind.i64.wrap ((n:Int)-26)=((n-26:Nat):Int):=by rw[IntWalk.i64_in _ (by omega)];omega
 have hq:((n-26:Nat):Int).tdiv 26=(((n-26) / 26:Nat):Int):=by rw[Int.tdiv_eq_ediv_of_nonneg (by omega)];omega
 have hr:((n-26:Nat):Int).tmod 26=(((n-26) % 26:Nat):Int):=by rw[Int.tmod_eq_emod_of_nonneg (by omega)];omega
 have hwq:IntKind.i64.wrap (((n-26) / 26:Nat):Int)=(((n-26) / 26:Nat):Int):=IntWalk.i64_in _ (by omega);have hi:¬ (n:Int)<26:=by omega
 have hj:(n:Int)<702:=by omega
 generalize (n-26) / 26=a at *;generalize (n-26) % 26=c at *;generalize n-26=d at *;generalize dT (n+1)=R at *
 go_in
 go_wp2_with (first |(with_reducible refine(C1.out _).mono ?_;rintro e wx ⟨rfl,rfl⟩) |(with_reducible refine(C2.out _).mono ?_;rintro e wx ⟨rfl,rfl⟩))
 go_ret
 exact⟨congrArg (fun l:Bs=>Ending.returned (vT l)) HE.out,rfl⟩
theorem lF(row col:Nat)(fr fc:Bool)(w:World)(hr:row<=9999998)(hc:col<=18277) :
  Calls Tryz.prog 196 #[.agg #[vI (row:Int),vI (col:Int),.bool fr,.bool fc]] w fun e w'=>e=.returned (.bool true)/\Below w.heap.size w w':=by
 have HB:Hid (Below w.heap.size w (w.alloc (.cells #[vI (row:Int),vI (col:Int),.bool fr,.bool fc] 143))):=zh ((Below.refl _ w).alloc zr _);have h1:(0:Int)<=(row:Int):=by omega
 have h2:(row:Int)<=9999998:=by omega
 have h3:(0:Int)<=(col:Int):=by omega
 have h4:(col:Int)<=18277:=by omega
 go_in
 go_wp2_with fail
 go_ret
 exact⟨rfl,HB.out⟩
def MkR(w:World)(row col:Int)(fr fc:Bool)(w':World):Prop:=w.heap.size<w'.heap.size/\w'.cell? ⟨w.heap.size,0,none⟩=some (vI row)/\w'.cell? ⟨w.heap.size,1,none⟩=some (vI col)/\w'.cell? ⟨w.heap.size,2,none⟩=some (.bool fr)/\w'.cell? ⟨w.heap.size,3,none⟩=some (.bool fc)/\Below w.heap.size w w'
theorem MkR.start(w:World)(row col:Int)(fr fc:Bool):MkR w row col fr fc (w.alloc (.cells #[vI row,vI col,.bool fr,.bool fc] 143)):=⟨by simp,by simp,by simp,by simp,by simp,(Below.refl _ w).alloc zr _⟩
theorem MkR.next{w w' w'':World}{row col:Int}{fr fc:Bool}(h:MkR w row col fr fc w')(hb:Below w'.heap.size w' w''):MkR w row col fr fc w'':=by
 obtain⟨h1,h2,h3,h4,h5,h6⟩:=h;exact⟨yu h1 hb.size,(hb.cell (p:=⟨w.heap.size,0,none⟩) h1).trans h2,(hb.cell (p:=⟨w.heap.size,1,none⟩) h1).trans h3,(hb.cell (p:=⟨w.heap.size,2,none⟩) h1).trans h4,(hb.cell (p:=⟨w.heap.size,3,none⟩) h1).trans h5,h6.trans (hb.mono (Nat.le_of_lt h1))⟩
theorem uCE(row col:Nat)(fr fc:Bool)(w:World)(hr:row<=400)(hc:col<=400) :
  Calls Tryz.prog 143 #[.agg #[vI (row:Int),vI (col:Int),.bool fr,.bool fc]] w fun e w'=>e=.returned (vT (jC row col fr fc))/\Below w.heap.size w w':=by
 have T0:=zh (MkR.start w row col fr fc);have CR:=zh (fun W=>lF row col fr fc W (by omega) (by omega));have CL:=zh (fun W=>oB col W (by omega));have CN:Hid (∀ W,Calls Tryz.prog 198 #[vI ((row:Int)+1)] W fun e w'=>e=.returned (vT (Lib.decDigits (row+1)))/\w'=W):=zh (fun W=>lE _ (row+1) zr (by omega) W);have HE:Hid (qY fc++(dT (col+1)++(qY fr++Lib.decDigits (row+1)))=jC row col fr fc):=zh rfl;have hwr:IntKind.i64.wrap ((row:Int)+1)=(row:Int)+1:=IntWalk.i64_in _ (by omega);have zu:=gB (col+1) (by omega);have hd4:=bM (row+1) 6 (by omega);generalize jC row col fr fc=M at *;generalize dT (col+1)=L at *;generalize Lib.decDigits (row+1)=D at *;have k1:¬ 9223372036854775807<L.length+1:=by omega
 have k2:¬ 9223372036854775807<L.length+1+1:=by omega
 have k3:¬ 9223372036854775807<L.length+1+1+D.length:=by omega
 have k4:¬ 9223372036854775807<L.length+1+D.length:=by omega
 have k5:¬ 9223372036854775807<L.length+D.length:=by omega
 clear hr hc;obtain⟨g0,g1,g2,g3,g4,g5⟩:=T0.out
 go_in
 go_upto_region 1 with fail
 generalize w.alloc (.cells #[vI (row:Int),vI (col:Int),.bool fr,.bool fc] 143)=W at *
 go_wp2_with fail
 refine(CR.out _).mono ?_;rintro e W2 ⟨rfl,hb⟩;have T2:=zh (T0.out.next hb);clear g0 g1 g2 g3 g4 g5 T0 hb;obtain⟨g0,g1,g2,g3,g4,g5⟩:=T2.out;cases fr <;> cases fc
 all_goals go_wp2_with (first |(with_reducible refine(CL.out _).mono ?_;rintro e wx ⟨rfl,rfl⟩) |(with_reducible refine(CN.out _).mono ?_;rintro e wx ⟨rfl,rfl⟩))
 all_goals go_ret
 all_goals
  refine⟨?_,g5⟩;rw[<- HE.out];simp[qY]
theorem qH(l:List IdR)(hd:l.Nodup)(x:IdR):(x∉l/\bC l x=-1)\/∃ k:Nat,∃ hk:k<l.length,l[k]=x/\bC l x=(k:Int):=by
 by_cases h:x∈l
 ·obtain⟨k,hk,rfl⟩:=List.getElem_of_mem h;exact .inr ⟨k,hk,rfl,lU hd hk⟩
 exact .inl ⟨h,lC h⟩
def TwoId(w:World)(x y:IdR)(w':World):Prop:=w.heap.size<w'.heap.size/\w.heap.size+1<w'.heap.size/\w'.cell? ⟨w.heap.size,0,none⟩=some (vI x.a)/\w'.cell? ⟨w.heap.size,1,none⟩=some (vI x.n)/\w'.cell? ⟨w.heap.size+1,0,none⟩=some (vI y.a)/\w'.cell? ⟨w.heap.size+1,1,none⟩=some (vI y.n)/\Below w.heap.size w w'
theorem TwoId.start(w:World)(x y:IdR):TwoId w x y ((w.alloc (.cells #[vI x.a,vI x.n] 27)).alloc (.cells #[vI y.a,vI y.n] 27)):=by
 have h1:=(Lies.new w 27 #[vI x.a,vI x.n]).alloc (.cells #[vI y.a,vI y.n] 27);have h2:=Lies.new (w.alloc (.cells #[vI x.a,vI x.n] 27)) 27 #[vI y.a,vI y.n];rw[World.size_alloc]at h2;exact⟨h1.lt,h2.lt,h1.cell 0,h1.cell 1,h2.cell 0,h2.cell 1,((Below.refl _ w).alloc zr _).alloc (by rw[World.size_alloc];omega) _⟩
theorem TwoId.next{w w' w'':World}{x y:IdR}(h:TwoId w x y w')(hb:Below w'.heap.size w' w''):TwoId w x y w'':=by
 obtain⟨h1,h2,h3,h4,h5,h6,h7⟩:=h;exact⟨yu h1 hb.size,yu h2 hb.size,(hb.cell (p:=⟨w.heap.size,0,none⟩) h1).trans h3,(hb.cell (p:=⟨w.heap.size,1,none⟩) h1).trans h4,(hb.cell (p:=⟨w.heap.size+1,0,none⟩) h2).trans h5,(hb.cell (p:=⟨w.heap.size+1,1,none⟩) h2).trans h6,h7.trans (hb.mono (by omega))⟩
theorem uFI{ids:List IdR}{fl:List Bool}(hl:ids.length=fl.length)(f k:Nat)(hf:f<=k)(hk:k<ids.length):aG ((ids.drop f).take (k+1-f)) ((fl.drop f).take (k+1-f))=aG ((ids.drop f).take (k-f)) ((fl.drop f).take (k-f))++(if fl[k]'(by omega) then [ids[k]] else []):=by
 have h:=kZ (ids.drop f) (fl.drop f) (k-f) (by simp[hl]) (by rw[yk];omega);rw[show k-f+1=k+1-f by omega]at h;rw[h];simp only[List.getElem_drop,show f+(k-f)=k by omega]
theorem xB(q base:Nat)(ids:List IdR)(fl:List Bool)(v1 v2:Value)(x y:IdR)(w:World)(hM:RfMk q base ids fl v1 v2 w)(hle:ids.length=fl.length)(hn:ids.length<=300)(hd:ids.Nodup) :
  Calls Tryz.prog 200 #[vP q 0,idV x,idV y] w fun e w'=>∃ A c,e=.returned (.slice A (aP (some (ids,fl)) x y).length c)/\w'.ownsRow w.heap.size 27 2 (.slice A (aP (some (ids,fl)) x y).length c) (aP (some (ids,fl)) x y).length (aJ (aP (some (ids,fl)) x y))/\Below w.heap.size w w':=by
 have T0:=zh (TwoId.start w x y);obtain⟨L,hL⟩:=zD (aP (some (ids,fl)) x y)
 have HL:=zh hL;rw[<- hL];clear hL;have HM:=zh hM;have HS:=zh (And.intro hle (And.intro hn hd));have C1:Hid (∀ W,Below w.heap.size w W->Calls Tryz.prog 130 #[vP q 0,.agg #[vI x.a,vI x.n]] W fun e w'=>e=.returned (vI (bC ids x))/\Below W.heap.size W w'):=zh (fun W h=>gR q base ids fl v1 v2 x W (hM.next h) (by omega));have C2:Hid (∀ W,Below w.heap.size w W->Calls Tryz.prog 130 #[vP q 0,.agg #[vI y.a,vI y.n]] W fun e w'=>e=.returned (vI (bC ids y))/\Below W.heap.size W w'):=zh (fun W h=>gR q base ids fl v1 v2 y W (hM.next h) (by omega));have sh:=zh (qH ids hd x);have qd:=zh (qH ids hd y);generalize bC ids x=px at *;generalize bC ids y=py at *;clear hM hle hn hd;obtain⟨g0,g1,g2,g3,g4,g5,g6⟩:=T0.out
 go_in
 go_upto_region 1 with fail
 generalize (w.alloc (.cells #[vI x.a,vI x.n] 27)).alloc (.cells #[vI y.a,vI y.n] 27)=W at *
 go_cut [7,8] (fun va vb wx=>va=vI px/\vb=vI py/\Hid (TwoId w x y wx))
 case first=>
  go_region_held3 (fun w'=>w.heap.size<w'.heap.size/\w.heap.size+1<w'.heap.size/\w'.cell? ⟨w.heap.size,0,none⟩=some (vI x.a)/\w'.cell? ⟨w.heap.size,1,none⟩=some (vI x.n)/\w'.cell? ⟨w.heap.size+1,0,none⟩=some (vI y.a)/\w'.cell? ⟨w.heap.size+1,1,none⟩=some (vI y.n)/\Below w.heap.size w w')
   (first|exact T0.out|exact(TwoId.next T0.out zB.drew) |(go_split_ands;exact(TwoId.next (w:=w) ⟨by assumption,by assumption,by assumption,by assumption,by assumption,by assumption,by assumption⟩ hb))|assumption)
   (first
    |(go_at_call 130;(with_reducible refine(C1.out _ ?hbw).mono ?_);(case hbw=>(first|assumption |(go_split_ands;assumption)));rintro e wx ⟨rfl,hb⟩)
    |(go_at_call 130;(with_reducible refine(C2.out _ ?hbw).mono ?_);(case hbw=>(first|assumption |(go_split_ands;assumption)));rintro e wx ⟨rfl,hb⟩))
  all_goals go_wp2_with fail
  all_goals go_meet
  all_goals refine⟨rfl,rfl,zh ?_⟩
  all_goals first|assumption |(go_split_ands;exact⟨by assumption,by assumption,by assumption,by assumption,by assumption,by assumption,by assumption⟩)
 case rest=>
 obtain⟨rfl,rfl,hT⟩:=hcut;clear g0 g1 g2 g3 g4 g5 g6 T0 C1 C2;have bm:=zh hT.out.2.2.2.2.2.2;clear hT;by_cases kz:0<=px/\0<=py
 ·obtain⟨kx,qc,ex,rfl⟩:=sh.out.resolve_left (fun h=>by omega);obtain⟨ky,uc,ey,rfl⟩:=qd.out.resolve_left (fun h=>by omega);have af:=HL.out;rw[<- ex,<- ey,rM HS.out.2.2 qc uc]at af;have bi:=zh af;clear af ex ey sh qd HL;have hn3:=HS.out.2.1;have hle:=HS.out.1;rcases Nat.lt_or_ge ky kx with hgt|hgt
  case' inl=>
   have hz:(ky:Int)<(kx:Int):=by omega
   have aw:Hid (L=aG ((ids.drop ky).take (kx+1-ky)) ((fl.drop ky).take (kx+1-ky))):=zh (by
    have h:=bi.out;rw[Nat.min_eq_right (by omega),Nat.max_eq_left (by omega)]at h;exact h)
   have vk:ky<=kx:=by omega
   have ol:¬ (kx:Int)<0:=by omega
   have bk:¬ (ky:Int)<0:=by omega
   have pd:=qc;have ua:=uc;clear qc uc;obtain⟨l,rfl⟩:=zD kx
   obtain⟨f,rfl⟩:=zD ky
  case' inr=>
   have hz:(kx:Int)<=(ky:Int):=by omega
   have aw:Hid (L=aG ((ids.drop kx).take (ky+1-kx)) ((fl.drop kx).take (ky+1-kx))):=zh (by
    have h:=bi.out;rw[Nat.min_eq_left (by omega),Nat.max_eq_right (by omega)]at h;exact h)
   have vk:kx<=ky:=by omega
   have ol:¬ (kx:Int)<0:=by omega
   have bk:¬ (ky:Int)<0:=by omega
   have ua:=qc;have pd:=uc;clear qc uc;obtain⟨f,rfl⟩:=zD kx
   obtain⟨l,rfl⟩:=zD ky
  all_goals
   clear bi kz;have HSu:Hid (∀ k,f<=k->∀ (hk:k<ids.length) (en:k<fl.length),aG ((ids.drop f).take (k+1-f)) ((fl.drop f).take (k+1-f))=aG ((ids.drop f).take (k-f)) ((fl.drop f).take (k-f))++(if fl[k] then [ids[k]] else [])):=zh (fun k hf hk _=>uFI hle f k hf hk);have sw:Hid (∀ k,(aG ((ids.drop f).take (k-f)) ((fl.drop f).take (k-f))).length<=300):=zh (fun k=>yv (dA _ _) (by rw[zc,yk];omega));have HFl:Hid (f<=l/\l<ids.length):=zh ⟨vk,pd⟩;clear vk pd ua hgt
   go_upto_region 7 with fail
   clear hz ol bk
   go_wp2_with fail
   go_loopw [9,10] (fun v9 v10 wr=>∃ k:Nat,f<=k/\k<=l+1/\v10=vI (k:Int)/\Hid (wr.ownsRow w.heap.size 27 2 v9 (aG ((ids.drop f).take (k-f)) ((fl.drop f).take (k-f))).length (aJ (aG ((ids.drop f).take (k-f)) ((fl.drop f).take (k-f)))))/\Hid (Below w.heap.size w wr)) (fun _ v _=>l+1-(intOf v).toNat)
   case atStart=>exact⟨f,zr,by have:=HFl.out;omega,rfl,zh (by rw[Nat.sub_self];exact⟨by simp[aG,aJ],.inl ⟨rfl,by simp[aG]⟩⟩),bm⟩
   case round=>
    obtain⟨k,hfk,hk,rfl,hO,hB⟩:=hrel;have kj:=zh (HM.out.next hB.out);obtain⟨A1,co,rfl⟩:=aV kj.out.r1;obtain⟨A2,di,rfl⟩:=aV kj.out.r2;have a0:=kj.out.ax.cell 0;have a1:=kj.out.ax.cell 1;simp only[za,zb,zf]at a0 a1;have si:(k:Int)<=301:=by have:=HFl.out;omega
    by_cases hlt:k<=l
    ·have ix:(k:Int)<=(l:Int):=by omega
     have eh:k<ids.length:=by have:=HFl.out;omega
     have hkj:(k:Int)<(ids.length:Int):=by omega
     have en:k<fl.length:=by rw[<- hle];exact eh
     obtain⟨g1,c1,hv1,_,i5⟩:=kj.out.r1.form (by omega);cases hv1;obtain⟨g2,c2,hv2,_,lw⟩:=kj.out.r2.form (by omega);cases hv2;have hc:wr.cell? ⟨g2,k,none⟩=some (.bool fl[k]):=by
      rw[kj.out.r2.cellAt k (by omega),List.getElem?_map,List.getElem?_eq_getElem en];rfl
     have rt:=zh (HSu.out k hfk eh en);have hrg:=iD kj.out.r1 k eh;have d0:wr.cell? ⟨g1,k*2,none⟩=some (vI ids[k].a):=hrg 0 _ rfl;have d1:wr.cell? ⟨g1,k*2+1,none⟩=some (vI ids[k].n):=hrg 1 _ rfl;clear hrg;generalize ids[k]=x at *;generalize fl[k]=c at *;obtain⟨xa,xn⟩:=x;dsimp only at d0 d1;have HLk:=zh (sw.out k);generalize jy:aG ((ids.drop f).take (k-f)) ((fl.drop f).take (k-f))=acc at *;clear jy;cases c
     ·go_wp2_with fail
      go_roundw
      case rel=>exact⟨k+1,by omega,by omega,by go_num,by rw[rt.out];simp only[Bool.false_eq_true,if_false,List.append_nil];exact hO,hB⟩
      case measure=>first |(simp[intOf];done) |(simp[intOf];omega)
     have HOa:=zh (hO.out.alloc (.cells #[vI xa,vI xn] 27));have cv:Hid (w.heap.size<=(wr.alloc (.cells #[vI xa,vI xn] 27)).heap.size):=zh (by rw[World.size_alloc];exact Nat.le_succ_of_le hB.out.size);have HLz:=zh (Lies.new wr 27 #[vI xa,vI xn])
     go_wp2_with (at_builtin;refine jI rfl _ _ rfl w.heap.size acc.length _ _ rfl HOa.out (by have:=HLk.out;omega) cv.out wr.heap.size ⟨xa,xn⟩ rfl HLz.out ?_;intro A4 c4 w4 k4 g4;have K4:=zh k4;have G4:=zh g4;clear k4 g4)
     go_roundw
     case rel=>
      have hbw:Below w.heap.size w w4:=(hB.out.alloc hB.out.size _).trans (aO HOa.out G4.out cv.out);refine⟨k+1,by omega,by omega,by go_num,?_,zh hbw⟩;rw[rt.out];simp only[if_true];rw[gZ,yl];exact K4
     case measure=>first |(simp[intOf];done) |(simp[intOf];omega)
    obtain rfl:k=l+1:=by omega
    go_wp2_with fail
    go_ret
    rw[<- aw.out]at hO;obtain⟨A3,c3,rfl⟩:=aV hO.out;exact⟨A3,c3,rfl,hO.out,hB.out⟩
 have oj:Hid (L=[]):=zh (by
  rw[HL.out];refine jN ?_;rcases sh.out with⟨h,_⟩|⟨k,_,_,h⟩
  ·exact .inl h
  rcases qd.out with⟨h',_⟩|⟨k',_,_,h'⟩
  ·exact .inr h'
  exact absurd ⟨by omega,by omega⟩ kz)
 have hcase:px<0\/0<=px/\py<0:=by omega
 clear HL sh qd kz;rcases hcase with h1|⟨h1,h2⟩
 all_goals go_wp2_with fail
 all_goals go_ret
 all_goals
  have hL:=oj.out;subst hL;exact⟨none,0,rfl,⟨rfl,.inl ⟨rfl,rfl⟩⟩,bm.out⟩
def AxQ(W:World):Option Nat->AxV->Prop
 |none,none=>True
 |some b,some (ids,fl)=>ids.length=fl.length/\ids.length<=300/\(∀ y∈ids,y.fits)/\ids.Nodup/\∃ base v1 v2,RfMk b base ids fl v1 v2 W
 |_,_=>False
theorem AxQ.next{W W':World}{p:Option Nat}{A:AxV}(h:AxQ W p A)(hb:Below W.heap.size W W'):AxQ W' p A:=by
 match p,A,h with
 |none,none,_=>trivial
 |some b,some (ids,fl),⟨h1,h2,h3,h4,base,v1,v2,h5⟩=>exact⟨h1,h2,h3,h4,base,v1,v2,h5.next hb⟩
theorem vW(x:IdR)(w:World) :
  Calls Tryz.prog 47 #[idV x] w fun e w'=>e=.returned (.bool (decide (x=id0)))/\Below w.heap.size w w':=by
 obtain⟨xa,xn⟩:=x;by_cases h1:xa=0
 ·subst h1;by_cases h2:xn=0
  ·subst h2;have HB:Hid (Below w.heap.size w (w.alloc (.cells #[vI 0,vI 0] 27))):=zh ((Below.refl _ w).alloc zr _);have HE:Hid (decide ((⟨0,0⟩:IdR)=id0)=true):=zh (decide_eq_true rfl);generalize decide ((⟨0,0⟩:IdR)=id0)=d at *
   go_in
   go_wp2_with fail
   go_ret
   exact⟨by(rw[HE.out]) <;> rfl,HB.out⟩
  have HB:Hid (Below w.heap.size w (w.alloc (.cells #[vI 0,vI xn] 27))):=zh ((Below.refl _ w).alloc zr _);have HE:Hid (decide ((⟨0,xn⟩:IdR)=id0)=false):=zh (decide_eq_false (fun e=>h2 (by injection e)));generalize decide ((⟨0,xn⟩:IdR)=id0)=d at *;have h2b:(xn==0)=false:=by simp[h2]
  go_in
  go_wp2_with fail
  go_ret
  exact⟨by(rw[HE.out]) <;> rfl,HB.out⟩
 have HB:Hid (Below w.heap.size w (w.alloc (.cells #[vI xa,vI xn] 27))):=zh ((Below.refl _ w).alloc zr _);have HE:Hid (decide ((⟨xa,xn⟩:IdR)=id0)=false):=zh (decide_eq_false (fun e=>h1 (by injection e)));generalize decide ((⟨xa,xn⟩:IdR)=id0)=d at *;have h1b:(xa==0)=false:=by simp[h1]
 go_in
 go_wp2_with fail
 go_ret
 exact⟨by(rw[HE.out]) <;> rfl,HB.out⟩
theorem gD(p:Option Nat)(A:AxV)(x:IdR)(w:World)(hA:AxQ w p A) :
  Calls Tryz.prog 20 #[.pointer (ptr p),idV x] w fun e w'=>e=.returned (vI (aI A x))/\Below w.heap.size w w':=by
 have af:Hid (Below w.heap.size w (w.alloc (.cells #[vI x.a,vI x.n] 27))):=zh ((Below.refl _ w).alloc zr _)
 match p,A,hA with
 |none,none,_=>
  unfold ptr aI
  go_in
  go_wp2_with fail
  go_ret
  exact⟨rfl,af.out⟩
 |some q,some (ids,fl),⟨hl,hn,_,_,base,v1,v2,hM⟩=>
 unfold ptr;rw[show aI (some (ids,fl)) x=bC (aG ids fl) x from rfl];obtain⟨W1,an⟩:=zD (w.alloc (.cells #[vI x.a,vI x.n] 27))
 have am:=zh an;have jc:=zL an;have ab:Below w.heap.size w W1:=by rw[an];exact(zp _)
 have bi:=zh ab;have CO:=zh (uCJ q base ids fl v1 v2 W1 (hM.next ab) hl hn);have ja:Hid ((aG ids fl).length<=300):=zh (yv (dA _ _) hn);clear an ab hM hl hn af;generalize aG ids fl=l at *
 go_in
 go_upto_region 1 with fail
 rw[<- am.out];generalize hq:w.heap.size=qb at *;clear am
 go_wp2_with fail
 refine CO.out.mono ?_;rintro e W2 ⟨A,cap,rfl,hM2,hb2⟩;have HM:=zh hM2;have HL:=zh (jc.out.next hb2);have HB:=zh (bi.out.trans (hb2.mono (by rw[<- hq];exact bi.out.size)));have HQ2:Hid (qb<=W2.heap.size):=zh (by rw[<- hq];have:=bi.out.size;have:=hb2.size;omega);clear hM2 hb2 jc CO bi;obtain⟨n,dx⟩:=zD l.length
 have HN:=zh dx;rw[<- dx]at HM ⊢;clear dx
 go_wp2_with fail
 go_loopw [6] (fun v wr=>∃ k:Nat,k<=n/\v=vI (k:Int)/\Hid (x∉l.take k)/\Hid (Below W2.heap.size W2 wr)) (fun v _=>n-(intOf v).toNat)
 case atStart=>exact⟨0,zm _,rfl,zh (by simp),zh zB⟩
 case round=>
  obtain⟨k,hk,rfl,mf,pm⟩:=hrel;have kj:=zh (aD pm.out HM.out);have si:(k:Int)<=300:=by have:=ja.out;have:=HN.out;omega
  by_cases hlt:k<n
  ·have ix:(k:Int)<(n:Int):=by omega
   have kq:k<l.length:=by rw[<- HN.out];exact hlt
   obtain⟨g,o5,hv,mw,hgl⟩:=kj.out.form (by omega);cases hv;have j6:=iD kj.out k kq;have d0:wr.cell? ⟨g,k*2,none⟩=some (vI l[k].a):=j6 0 _ rfl;have d1:wr.cell? ⟨g,k*2+1,none⟩=some (vI l[k].n):=j6 1 _ rfl;clear j6;obtain⟨y,hy⟩:=zE (l[k])
   rw[hy]at d0 d1;have HY:=zh hy;clear hy;obtain⟨b,hb⟩:=zE (decide (y=x))
   have ln:=zh hb;clear hb;have hLr:=HL.out.next pm.out;have x0:=hLr.cell 0;have x1:=hLr.cell 1;simp only[za,zb,zf]at x0 x1;have hxl:=hLr.lt;clear hLr;obtain⟨Wr,hWr⟩:=zD wr
   subst hWr
   go_upto_region 7 with fail
   go_cut [34] (fun v wx=>v=.bool b/\Hid (Below Wr.heap.size Wr wx))
   case first=>
    obtain⟨ya,yn⟩:=y;obtain⟨xa,xn⟩:=x;dsimp only at d0 d1 x0 x1;have hB2:=ln.out;by_cases h1:ya=xa
    ·subst h1;by_cases h2:yn=xn
     ·subst h2;have HE:Hid (b=true):=zh (by rw[<- hB2];simp);clear hB2 ln
      go_region
      all_goals go_wp2_with fail
      all_goals go_meet
      all_goals exact⟨by rw[HE.out],zh zB.drew⟩
     have HE:Hid (b=false):=zh (by rw[<- hB2];simp[h2]);have h2b:(yn==xn)=false:=by simp[h2]
     clear hB2 ln
     go_region
     all_goals go_wp2_with fail
     all_goals go_meet
     all_goals exact⟨by rw[HE.out],zh zB.drew⟩
    have HE:Hid (b=false):=zh (by rw[<- hB2];simp[h1]);have h1b:(ya==xa)=false:=by simp[h1]
    clear hB2 ln
    go_region
    all_goals go_wp2_with fail
    all_goals go_meet
    all_goals exact⟨by rw[HE.out],zh zB.drew⟩
   case rest=>
    obtain⟨rfl,jo⟩:=hcut;have nn:=zh (zU pm.out jo.out);clear jo d0 d1 x0 x1;cases b
    ·have uv:y≠x:=of_decide_eq_false ln.out
     go_wp2_with fail
     go_roundw
     case rel=>exact⟨k+1,by omega,by go_num,zh (by rw[yw kq,HY.out,List.mem_append,not_or];exact⟨mf.out,fun h=>uv (yf.1 h).symm⟩),nn⟩
     case measure=>first |(simp[intOf];done) |(simp[intOf];omega)
    have uv:y=x:=of_decide_eq_true ln.out
    go_wp2_with fail
    go_ret
    exact⟨by rw[show bC l x=(k:Int) from(gP x l 0 k mf.out (by rw[List.getElem?_eq_getElem kq,HY.out,uv])).trans (by rw[Nat.zero_add])];rfl,by first|exact HB.out.trans (nn.out.mono HQ2.out) |(rw[hq];exact HB.out.trans (nn.out.mono HQ2.out))⟩
  obtain rfl:k=n:=by omega
  go_wp2_with fail
  go_ret
  exact⟨by rw[show bC l x=-1 from eW x l 0 (by have:=mf.out;rwa [HN.out,List.take_length]at this)];rfl,by first|exact HB.out.trans (pm.out.mono HQ2.out) |(rw[hq];exact HB.out.trans (pm.out.mono HQ2.out))⟩
def TwoEl(w:World)(B g j:Nat)(x y:IdR)(w':World):Prop:=g<w'.heap.size/\w'.cell? ⟨g,0,none⟩=some (vI x.a)/\w'.cell? ⟨g,1,none⟩=some (vI x.n)/\w'.cell? ⟨g,j*2,none⟩=some (vI y.a)/\w'.cell? ⟨g,j*2+1,none⟩=some (vI y.n)/\B<=w'.heap.size/\Below B w w'
theorem TwoEl.next{w w' w'':World}{B g j:Nat}{x y:IdR}(h:TwoEl w B g j x y w')(hb:Below w'.heap.size w' w''):TwoEl w B g j x y w'':=by
 obtain⟨h1,h2,h3,h4,h5,h6,h7⟩:=h;exact⟨yu h1 hb.size,(hb.cell (p:=⟨g,0,none⟩) h1).trans h2,(hb.cell (p:=⟨g,1,none⟩) h1).trans h3,(hb.cell (p:=⟨g,j*2,none⟩) h1).trans h4,(hb.cell (p:=⟨g,j*2+1,none⟩) h1).trans h5,yv h6 hb.size,h7.trans (hb.mono h6)⟩
def uDU:Option (Int×Int)->Value
 |none=>.tuple #[vI (-1),vI (-1)]
 |some (x,y)=>.tuple #[vI x,vI y]
theorem mQ{A:AxV}{a b:IdR}(h:aP A a b=[]):cO A a b=none:=by
 unfold cO;rw[h]
theorem kM{A:AxV}{a b:IdR}(m:Nat)(x0 y0:IdR)(h:(aP A a b).length=m+1)(h0:(aP A a b)[0]?=some x0)(h1:(aP A a b)[m]?=some y0):cO A a b=(if eX A a b then some (aI A y0,aI A x0) else some (aI A x0,aI A y0)):=by
 unfold cO;generalize aP A a b=L at *
 match L,h with
 |x::r,h=>
  dsimp only;have e:(x::r).getLast (by simp)=y0:=by
   rw[List.getLast_eq_getElem];have hm:(x::r).length-1=m:=by rw[h];rfl
   have h2:(x::r)[(x::r).length-1]?=some y0:=by rw[hm];exact h1
   exact(List.getElem?_eq_some_iff.1 h2).2
  have e0:x=x0:=Option.some.inj h0;rw[e,e0]
theorem vN(p:Option Nat)(A:AxV)(x y:IdR)(w:World)(hA:AxQ w p A) :
  Calls Tryz.prog 145 #[.pointer (ptr p),idV x,idV y] w fun e w'=>e=.returned (uDU (cO A x y))/\Below w.heap.size w w':=by
 have T0:=zh (TwoId.start w x y)
 match p,A,hA with
 |none,none,_=>
  unfold ptr;obtain⟨v,hv⟩:=zD (uDU (cO none x y))
  have HV:Hid (v=.tuple #[vI (-1),vI (-1)]):=zh hv;rw[<- hv];clear hv
  go_in
  go_wp2_with fail
  refine yt (results_tmp2 rfl _ _ _) rfl ?_;exact⟨by(rw[HV.out]) <;> rfl,T0.out.2.2.2.2.2.2⟩
 |some q,some (ids,fl),sx=>
 obtain⟨hl,hn,hf,hd,base,v1,v2,hM⟩:=id sx;unfold ptr;have CB:=zh (fun W h=>xB q base ids fl v1 v2 x y W (hM.next h) hl hn hd);have CP:Hid (∀ z W,Below w.heap.size w W->Calls Tryz.prog 20 #[vP q 0,idV z] W fun e w'=>e=.returned (vI (aI (some (ids,fl)) z))/\Below W.heap.size W w'):=zh (fun z W h=>gD (some q) (some (ids,fl)) z W (AxQ.next (p:=some q) (A:=some (ids,fl)) sx h));have F1:Hid (∀ W,Below w.heap.size w W->Calls Tryz.prog 130 #[vP q 0,.agg #[vI x.a,vI x.n]] W fun e w'=>e=.returned (vI (bC ids x))/\Below W.heap.size W w'):=zh (fun W h=>gR q base ids fl v1 v2 x W (hM.next h) (by omega))
 have F2:Hid (∀ W,Below w.heap.size w W->Calls Tryz.prog 130 #[vP q 0,.agg #[vI y.a,vI y.n]] W fun e w'=>e=.returned (vI (bC ids y))/\Below W.heap.size W w'):=zh (fun W h=>gR q base ids fl v1 v2 y W (hM.next h) (by omega));have HNil:=zh (mQ (A:=some (ids,fl)) (a:=x) (b:=y));have HSome:=zh (kM (A:=some (ids,fl)) (a:=x) (b:=y));have HBh:Hid (eX (some (ids,fl)) x y=decide (bC ids y<bC ids x)):=zh rfl;have nn:Hid ((aP (some (ids,fl)) x y).length<=300):=zh (by
  unfold aP;dsimp only
  split
  ·exact zm _
  exact yv (dA _ _) (by rw[zc,yk];omega))
 obtain⟨v,hv⟩:=zD (uDU (cO (some (ids,fl)) x y))
 have HV:=zh hv;rw[<- hv];generalize cO (some (ids,fl)) x y=E at *;generalize aP (some (ids,fl)) x y=L at *;generalize eX (some (ids,fl)) x y=bh at *;generalize aI (some (ids,fl))=P at *;generalize bC ids x=px at *;generalize bC ids y=py at *;clear hl hn hf hd hM hv sx hA;obtain⟨g0,g1,g2,g3,g4,g5,g6⟩:=T0.out
 go_in
 go_upto_region 1 with fail
 generalize (w.alloc (.cells #[vI x.a,vI x.n] 27)).alloc (.cells #[vI y.a,vI y.n] 27)=W at *
 go_wp2_with fail
 refine(CB.out _ g6).mono ?_;rintro e W2 ⟨B,c,rfl,ho,hb2⟩;clear g0 g1 g2 g3 g4 g5 g6;have HT:=zh (T0.out.next hb2);have HO:=zh ho;clear ho hb2 T0 CB;obtain⟨n,hn⟩:=zD L.length
 have HN:=zh hn;rw[<- hn]at HO ⊢;clear hn;rcases Nat.eq_zero_or_pos n with ol|ol
 ·subst ol;have HE:Hid (v=.tuple #[vI (-1),vI (-1)]):=zh (by rw[HV.out,HNil.out (List.eq_nil_of_length_eq_zero HN.out.symm)];rfl);clear HV
  go_wp2_with fail
  refine yt (results_tmp2 rfl _ _ _) rfl ?_;exact⟨by(rw[HE.out]) <;> rfl,HT.out.2.2.2.2.2.2⟩
 obtain⟨m,t7⟩:∃ m,n=m+1:=⟨n-1,by omega⟩
 have hL:L.length=m+1:=HN.out.symm.trans t7;obtain⟨x0,hx0⟩:=zE (L[0])
 obtain⟨y0,hy0⟩:=zE (L[m])
 have HE:=zh (HSome.out m x0 y0 hL (by rw[List.getElem?_eq_getElem (by omega),hx0]) (by rw[List.getElem?_eq_getElem (by omega),hy0]));obtain⟨g,o5,hv,mw,hgl⟩:=HO.out.form (by omega);cases hv;have fq:=iD HO.out 0 (by omega);have fh:=iD HO.out m (by omega);rw[hx0]at fq;rw[hy0]at fh;have T1:Hid (TwoEl w w.heap.size g m x0 y0 W2):=zh ⟨hgl,fq 0 _ rfl,fq 1 _ rfl,fh 0 _ rfl,fh 1 _ rfl,HT.out.2.2.2.2.2.2.size,HT.out.2.2.2.2.2.2⟩;have hm3:(m:Int)<300:=by have:=nn.out;omega
 have vr:IntKind.i64.wrap ((n:Int)-1)=(m:Int):=by rw[IntWalk.i64_in _ (by omega)];omega
 have hw2:(m:Int)<(n:Int):=by omega
 have hw3:¬ (n:Int)=0:=by omega
 have hw4:((n:Int)==0)=false:=by simp;omega
 have hw5:(0:Int)<(n:Int):=by omega
 have C1:Hid (∀ W,Below w.heap.size w W->Calls Tryz.prog 20 #[vP q 0,.agg #[vI x0.a,vI x0.n]] W fun e w'=>e=.returned (vI (P x0))/\Below W.heap.size W w'):=zh (CP.out x0);have C2:Hid (∀ W,Below w.heap.size w W->Calls Tryz.prog 20 #[vP q 0,.agg #[vI y0.a,vI y0.n]] W fun e w'=>e=.returned (vI (P y0))/\Below W.heap.size W w'):=zh (CP.out y0);clear hx0 hy0 fq fh HSome HNil CP mw hgl nn;clear hL;clear t7;generalize P x0=a0 at *;generalize P y0=a1 at *
 go_upto_region 6 with fail
 obtain⟨e0,e1,e2,e3,e4,e5,e6⟩:=T1.out
 go_cut [9,10] (fun va vb wx=>va=vI a0/\vb=vI a1/\Hid (Below W2.heap.size W2 wx))
 case first=>
  go_region_held3 (fun w'=>g<w'.heap.size/\w'.cell? ⟨g,0,none⟩=some (vI x0.a)/\w'.cell? ⟨g,1,none⟩=some (vI x0.n)/\w'.cell? ⟨g,m*2,none⟩=some (vI y0.a)/\w'.cell? ⟨g,m*2+1,none⟩=some (vI y0.n)/\w.heap.size<=w'.heap.size/\Below w.heap.size w w'/\Below W2.heap.size W2 w')
   (first|exact⟨e0,e1,e2,e3,e4,e5,e6,Below.refl _ _⟩ |(obtain⟨z0,z1,z2,z3,z4,z5,z6⟩:=TwoEl.next T1.out (Below.refl _ W2).drew;exact⟨z0,z1,z2,z3,z4,z5,z6,(Below.refl _ W2).drew⟩) |(go_split_ands;(obtain⟨z0,z1,z2,z3,z4,z5,z6⟩:=TwoEl.next (w:=w) ⟨by assumption,by assumption,by assumption,by assumption,by assumption,by assumption,by assumption⟩ hb;exact⟨z0,z1,z2,z3,z4,z5,z6,Below.trans (by assumption) (Below.mono hb (Below.size (by assumption)))⟩))|assumption)
   (first
    |(go_at_call 20;(with_reducible refine(C1.out _ ?hbw).mono ?_);(case hbw=>(first|assumption |(go_split_ands;assumption)));rintro e wx ⟨rfl,hb⟩)
    |(go_at_call 20;(with_reducible refine(C2.out _ ?hbw).mono ?_);(case hbw=>(first|assumption |(go_split_ands;assumption)));rintro e wx ⟨rfl,hb⟩))
  all_goals go_wp2_with fail
  all_goals go_meet
  all_goals refine⟨rfl,rfl,zh ?_⟩
  all_goals first|assumption |(go_split_ands;assumption)
 case rest=>
 obtain⟨rfl,rfl,bv⟩:=hcut;clear e0 e1 e2 e3 e4 e5 e6 C1 C2 T1 HO vr hw2 hw3 hw4 hw5 ol;have HT3:=zh (HT.out.next bv.out);clear HT bv;by_cases hlt:py<px
 ·obtain rfl:bh=true:=HBh.out.trans (decide_eq_true hlt);obtain⟨g0,g1,g2,g3,g4,g5,g6⟩:=HT3.out
  go_upto_region 7 with fail
  go_cut [39] (fun va wx=>va=.bool true/\Hid (Below w.heap.size w wx))
  case first=>
   go_region_held3 (fun w'=>w.heap.size<w'.heap.size/\w.heap.size+1<w'.heap.size/\w'.cell? ⟨w.heap.size,0,none⟩=some (vI x.a)/\w'.cell? ⟨w.heap.size,1,none⟩=some (vI x.n)/\w'.cell? ⟨w.heap.size+1,0,none⟩=some (vI y.a)/\w'.cell? ⟨w.heap.size+1,1,none⟩=some (vI y.n)/\Below w.heap.size w w')
    (first|exact HT3.out|exact(TwoId.next HT3.out zB.drew) |(go_split_ands;exact(TwoId.next (w:=w) ⟨by assumption,by assumption,by assumption,by assumption,by assumption,by assumption,by assumption⟩ hb))|assumption)
    (first
     |(go_at_call 130;(with_reducible refine(F1.out _ ?hbw).mono ?_);(case hbw=>(first|assumption |(go_split_ands;assumption)));rintro e wx ⟨rfl,hb⟩)
     |(go_at_call 130;(with_reducible refine(F2.out _ ?hbw).mono ?_);(case hbw=>(first|assumption |(go_split_ands;assumption)));rintro e wx ⟨rfl,hb⟩))
   all_goals go_wp2_with fail
   all_goals go_meet
   all_goals refine⟨by first|rfl|exact congrArg Value.bool (decide_eq_false hlt)|exact congrArg Value.bool (decide_eq_true hlt)|exact congrArg Value.bool (decide_eq_false (by omega)),zh ?_⟩
   all_goals first|assumption |(go_split_ands;assumption)
  case rest=>
  obtain⟨rfl,na⟩:=hcut;clear g0 g1 g2 g3 g4 g5 g6 HT3 F1 F2 HBh
  go_wp2_with fail
  refine yt (results_tmp2 rfl _ _ _) rfl ?_;exact⟨by(rw[HV.out,HE.out]) <;> rfl,na.out⟩
 obtain rfl:bh=false:=HBh.out.trans (decide_eq_false hlt);have hge:px<=py:=by omega
 obtain⟨g0,g1,g2,g3,g4,g5,g6⟩:=HT3.out
 go_upto_region 7 with fail
 go_cut [39] (fun va wx=>va=.bool false/\Hid (Below w.heap.size w wx))
 case first=>
  go_region_held3 (fun w'=>w.heap.size<w'.heap.size/\w.heap.size+1<w'.heap.size/\w'.cell? ⟨w.heap.size,0,none⟩=some (vI x.a)/\w'.cell? ⟨w.heap.size,1,none⟩=some (vI x.n)/\w'.cell? ⟨w.heap.size+1,0,none⟩=some (vI y.a)/\w'.cell? ⟨w.heap.size+1,1,none⟩=some (vI y.n)/\Below w.heap.size w w')
   (first|exact HT3.out|exact(TwoId.next HT3.out zB.drew) |(go_split_ands;exact(TwoId.next (w:=w) ⟨by assumption,by assumption,by assumption,by assumption,by assumption,by assumption,by assumption⟩ hb))|assumption)
   (first
    |(go_at_call 130;(with_reducible refine(F1.out _ ?hbw).mono ?_);(case hbw=>(first|assumption |(go_split_ands;assumption)));rintro e wx ⟨rfl,hb⟩)
    |(go_at_call 130;(with_reducible refine(F2.out _ ?hbw).mono ?_);(case hbw=>(first|assumption |(go_split_ands;assumption)));rintro e wx ⟨rfl,hb⟩))
  all_goals go_wp2_with fail
  all_goals go_meet
  all_goals refine⟨by first|rfl|exact congrArg Value.bool (decide_eq_false hlt)|exact congrArg Value.bool (decide_eq_true hlt)|exact congrArg Value.bool (decide_eq_false (by omega)),zh ?_⟩
  all_goals first|assumption |(go_split_ands;assumption)
 case rest=>
 obtain⟨rfl,na⟩:=hcut;clear g0 g1 g2 g3 g4 g5 g6 HT3 F1 F2 HBh
 go_wp2_with fail
 refine yt (results_tmp2 rfl _ _ _) rfl ?_;exact⟨by(rw[HV.out,HE.out]) <;> rfl,na.out⟩
theorem wB(n m:Nat):bB n m true=Lib.decDigits (n+1):=rfl
theorem kC(n:Nat):bB n n false=[]:=by unfold bB;rw[if_neg (by decide),if_pos rfl]
theorem tJ(n m:Nat)(h:n<m):bB n m false=[91,45]++(Lib.decDigits (m-n)++[93]):=by
 unfold bB;rw[if_neg (by decide),if_neg (by omega)];have e:(n:Int)-(m:Int)=-((m-n:Nat):Int):=by omega
 rw[e,Lib.itoa_neg _ (by omega)];rfl
theorem tK(n m:Nat)(h:m<n):bB n m false=[91]++(Lib.decDigits (n-m)++[93]):=by
 unfold bB;rw[if_neg (by decide),if_neg (by omega)];have e:(n:Int)-(m:Int)=((n-m:Nat):Int):=by omega
 rw[e,Lib.itoa_nonneg];rfl
theorem lX(n m:Nat)(b:Bool)(hn:n<=400)(hm:m<=400):(bB n m b).length<=20:=by
 cases b
 ·rcases Nat.lt_trichotomy n m with h|h|h
  ·rw[tJ n m h];have:=bM (m-n) 6 (by omega);simp;omega
  ·subst h;rw[kC];simp
  rw[tK n m h];have:=bM (n-m) 6 (by omega);simp;omega
 rw[wB];exact yv (bM (n+1) 6 (by omega)) (by omega)
theorem vQ(n m:Nat)(b:Bool)(w:World)(hn:n<=400)(hm:m<=400) :
  Calls Tryz.prog 199 #[vI (n:Int),.bool b,vI (m:Int)] w fun e w'=>e=.returned (vT (bB n m b))/\w'=w:=by
 cases b
 ·rcases Nat.lt_trichotomy n m with h|h|h
  ·have CN:Hid (∀ W,Calls Tryz.prog 198 #[vI ((m-n:Nat):Int)] W fun e w'=>e=.returned (vT (Lib.decDigits (m-n)))/\w'=W):=zh (fun W=>lE _ (m-n) zr (by omega) W);have hw:IntKind.i64.wrap ((m:Int)-(n:Int))=((m-n:Nat):Int):=by rw[IntWalk.i64_in _ (by omega)];omega
   have hl:=bM (m-n) 6 (by omega);have HE:=zh (tJ n m h);have cy:¬ (n:Int)=(m:Int):=by omega
   have hlt:(n:Int)<(m:Int):=by omega
   have hnb:((n:Int)==(m:Int))=false:=by simp;omega
   generalize bB n m false=R at *;generalize m-n=d at *;generalize Lib.decDigits d=D at *;have k1:¬ 9223372036854775807<D.length+1+1:=by omega
   have k2:¬ 9223372036854775807<D.length+1+1+1:=by omega
   clear h
   go_in
   go_wp2_with (with_reducible refine(CN.out _).mono ?_;rintro e wx ⟨rfl,rfl⟩)
   go_ret
   refine⟨?_,rfl⟩;rw[HE.out];simp
  ·subst h;have HE:=zh (kC n);generalize bB n n false=R at *
   go_in
   go_wp2_with fail
   go_ret
   exact⟨by(rw[HE.out]) <;> rfl,rfl⟩
  have CN:Hid (∀ W,Calls Tryz.prog 198 #[vI ((n-m:Nat):Int)] W fun e w'=>e=.returned (vT (Lib.decDigits (n-m)))/\w'=W):=zh (fun W=>lE _ (n-m) zr (by omega) W);have hw:IntKind.i64.wrap ((n:Int)-(m:Int))=((n-m:Nat):Int):=by rw[IntWalk.i64_in _ (by omega)];omega
  have hl:=bM (n-m) 6 (by omega);have HE:=zh (tK n m h);have cy:¬ (n:Int)=(m:Int):=by omega
  have hlt:(m:Int)<=(n:Int):=by omega
  have hnb:((n:Int)==(m:Int))=false:=by simp;omega
  generalize bB n m false=R at *;generalize n-m=d at *;generalize Lib.decDigits d=D at *;have k1:¬ 9223372036854775807<D.length+1:=by omega
  have k2:¬ 9223372036854775807<D.length+1+1:=by omega
  clear h
  go_in
  go_wp2_with (with_reducible refine(CN.out _).mono ?_;rintro e wx ⟨rfl,rfl⟩)
  go_ret
  refine⟨?_,rfl⟩;rw[HE.out];simp
 have CN:Hid (∀ W,Calls Tryz.prog 198 #[vI ((n:Int)+1)] W fun e w'=>e=.returned (vT (Lib.decDigits (n+1)))/\w'=W):=zh (fun W=>lE _ (n+1) zr (by omega) W);have hw:IntKind.i64.wrap ((n:Int)+1)=(n:Int)+1:=IntWalk.i64_in _ (by omega);have HE:=zh (wB n m);generalize bB n m true=R at *
 go_in
 go_wp2_with (with_reducible refine(CN.out _).mono ?_;rintro e wx ⟨rfl,rfl⟩)
 go_ret
 exact⟨by(rw[HE.out]) <;> rfl,rfl⟩
theorem iW(row col r c:Nat)(fr fc:Bool)(w:World)(hr:row<=400)(hc:col<=400)(hr':r<=400)(xh:c<=400) :
  Calls Tryz.prog 144 #[.agg #[vI (row:Int),vI (col:Int),.bool fr,.bool fc],vI (r:Int),vI (c:Int)] w fun e w'=>e=.returned (vT (82::(bB row r fr++67::bB col c fc)))/\Below w.heap.size w w':=by
 have T0:=zh (MkR.start w row col fr fc);have CR:=zh (fun W=>lF row col fr fc W (by omega) (by omega));have CR2:=zh (fun W=>lF r c false false W (by omega) (by omega));have C1:=zh (fun W=>vQ row r fr W hr hr');have C2:=zh (fun W=>vQ col c fc W hc xh);have l1:=lX row r fr hr hr';have l2:=lX col c fc hc xh;generalize bB row r fr=X at *;generalize bB col c fc=Y at *;have k1:¬ 9223372036854775807<X.length+1:=by omega
 have k2:¬ 9223372036854775807<X.length+1+1:=by omega
 have k3:¬ 9223372036854775807<X.length+1+1+Y.length:=by omega
 have k4:¬ 9223372036854775807<1+X.length:=by omega
 have k5:¬ 9223372036854775807<1+X.length+1:=by omega
 have k6:¬ 9223372036854775807<1+X.length+1+Y.length:=by omega
 have k7:¬ 9223372036854775807<X.length+1+(Y.length+1):=by omega
 have k8:¬ 9223372036854775807<X.length+1+1+(Y.length+1):=by omega
 clear hr hc hr' xh;obtain⟨g0,g1,g2,g3,g4,g5⟩:=T0.out
 go_in
 go_upto_region 1 with fail
 generalize w.alloc (.cells #[vI (row:Int),vI (col:Int),.bool fr,.bool fc] 143)=W at *
 go_wp2_with fail
 refine(CR.out _).mono ?_;rintro e W2 ⟨rfl,hb⟩;have T2:=zh (T0.out.next hb);clear g0 g1 g2 g3 g4 g5 T0 hb
 go_wp2_with fail
 refine(CR2.out _).mono ?_;rintro e W3 ⟨rfl,hb⟩;have T3:=zh (T2.out.next hb);clear T2 hb;obtain⟨g0,g1,g2,g3,g4,g5⟩:=T3.out
 go_upto_region 3 with fail
 go_cut [6] (fun va wx=>va=vT (82::(X++67::Y))/\Hid (Below w.heap.size w wx))
 case first=>
  go_region_held3 (fun w'=>w.heap.size<w'.heap.size/\w'.cell? ⟨w.heap.size,0,none⟩=some (vI (row:Int))/\w'.cell? ⟨w.heap.size,1,none⟩=some (vI (col:Int))/\w'.cell? ⟨w.heap.size,2,none⟩=some (.bool fr)/\w'.cell? ⟨w.heap.size,3,none⟩=some (.bool fc)/\Below w.heap.size w w')
   (first|exact T3.out|exact(MkR.next T3.out zB.drew)|assumption)
   (first
    |(go_at_call 199;(with_reducible refine(C1.out _).mono ?_);rintro e wx ⟨rfl,rfl⟩)
    |(go_at_call 199;(with_reducible refine(C2.out _).mono ?_);rintro e wx ⟨rfl,rfl⟩))
  all_goals go_wp2_with fail
  all_goals go_meet
  all_goals refine⟨by simp,zh ?_⟩
  all_goals first|assumption |(go_split_ands;assumption)
 case rest=>
 obtain⟨rfl,hb⟩:=hcut;clear g0 g1 g2 g3 g4 g5
 go_wp2_with fail
 go_ret
 exact⟨rfl,hb.out⟩
def TkO(w w':World)(e:Ending)(ts:List RTok):Prop:=∃ A c,e=.returned (.slice A ts.length c)/\w'.ownsRow w.heap.size 85 3 (.slice A ts.length c) ts.length (cN ts)/\Below w.heap.size w w'
def Say.r:Say->Int
 | .plain=>-1
 | .seen r _=>(r:Int)
def Say.c:Say->Int
 | .plain=>0
 | .seen _ c=>(c:Int)
def Say.ok:Say->Prop
 | .plain=>True
 | .seen r c=>r<=400/\c<=400
def tT(p q:Option Nat)(v:Say):Value:=.agg #[.pointer (ptr p),.pointer (ptr q),vI v.r,vI v.c]
theorem aS(k:Int)(s:Bs)(w:World) :
  Calls Tryz.prog 82 #[vI k,vT s] w fun e w'=>TkO w w' e [tk k s]:=by
 have HO:Hid ((w.alloc (.cells #[vI k,vT s,vI 0] 85)).ownsRow w.heap.size 85 3 (.slice (some ⟨w.heap.size,0,none⟩) 1 1) 1 (cN [tk k s])):=zh ⟨rfl,.inr ⟨_,1,#[vI k,vT s,vI 0],rfl,zr,heap_alloc_new _ _,zr,by unfold maxLen;omega,rfl,rfl⟩⟩;have HB:Hid (Below w.heap.size w (w.alloc (.cells #[vI k,vT s,vI 0] 85))):=zh ((Below.refl _ w).alloc zr _)
 go_in
 go_wp2_with fail
 go_ret
 exact⟨_,_,rfl,HO.out,HB.out⟩
theorem gE(w:World) :
  Calls Tryz.prog 80 #[] w fun e w'=>TkO w w' e dC:=by
 have CK:Hid (∀ W,Calls Tryz.prog 82 #[vI 6,vS #[35,82,69,70,33]] W fun e w'=>TkO W w' e dC):=zh (fun W=>aS 6 [35,82,69,70,33] W);generalize dC=g at *
 go_in
 go_wp2_with fail
 refine(CK.out _).mono ?_;rintro e W2 ⟨A,c,rfl,ho,hb⟩;have HO:=zh ho;have HB:=zh hb;clear ho hb
 go_wp2_with fail
 go_ret
 exact⟨A,c,rfl,HO.out,HB.out⟩
theorem pL(p q:Option Nat)(v:Say)(row col:Nat)(fr fc:Bool)(w:World)(hr:row<=400)(hc:col<=400)(hv:v.ok) :
  Calls Tryz.prog 81 #[tT p q v,.agg #[vI (row:Int),vI (col:Int),.bool fr,.bool fc]] w fun e w'=>TkO w w' e [cE v row col fr fc]:=by
 have af:Hid (Below w.heap.size w ((w.alloc (.cells #[.pointer (ptr p),.pointer (ptr q),vI v.r,vI v.c] 84)).alloc (.cells #[vI (row:Int),vI (col:Int),.bool fr,.bool fc] 143))):=zh (((Below.refl _ w).alloc zr _).alloc (by rw[World.size_alloc];omega) _);unfold tT;generalize ptr p=P at *;generalize ptr q=Q at *;cases v with
 |plain=>
  have CT:=zh (fun W=>uCE row col fr fc W hr hc);have CK:Hid (∀ W,Calls Tryz.prog 82 #[vI 4,vT (jC row col fr fc)] W fun e w'=>TkO W w' e [cE .plain row col fr fc]):=zh (fun W=>aS 4 _ W);generalize [cE .plain row col fr fc]=g at *;generalize jC row col fr fc=M at *;clear hr hc hv;dsimp only[Say.r,Say.c]at af ⊢
  go_in
  go_wp2_with fail
  refine(CT.out _).mono ?_;rintro e W2 ⟨rfl,hb2⟩;have aw:=zT af hb2;clear hb2
  go_wp2_with fail
  refine(CK.out _).mono ?_;rintro e W3 ⟨A,c,rfl,ho,bv⟩;have HO:=zh (aM ho aw.out.size);have bf:=zT aw bv;clear ho bv
  go_wp2_with fail
  go_ret
  exact⟨A,c,rfl,HO.out,bf.out⟩
 |seen r c=>
  have CT:=zh (fun W=>iW row col r c fr fc W hr hc hv.1 hv.2);have CK:Hid (∀ W,Calls Tryz.prog 82 #[vI 3,vT (82::(bB row r fr++67::bB col c fc))] W fun e w'=>TkO W w' e [cE (.seen r c) row col fr fc]):=zh (fun W=>aS 3 _ W);generalize [cE (.seen r c) row col fr fc]=g at *;generalize (82::(bB row r fr++67::bB col c fc))=M at *;have fq:¬ (r:Int)<0:=by omega
  clear hr hc hv;dsimp only[Say.r,Say.c]at af ⊢
  go_in
  go_wp2_with fail
  refine(CT.out _).mono ?_;rintro e W2 ⟨rfl,hb2⟩;have aw:=zT af hb2;clear hb2
  go_wp2_with fail
  refine(CK.out _).mono ?_;rintro e W3 ⟨A,c,rfl,ho,bv⟩;have HO:=zh (aM ho aw.out.size);have bf:=zT aw bv;clear ho bv
  go_wp2_with fail
  go_ret
  exact⟨A,c,rfl,HO.out,bf.out⟩
theorem zH(p q:Option Nat)(v:Say)(row:Nat)(fx:Bool)(w:World)(hr:row<=400)(hv:v.ok) :
  Calls Tryz.prog 147 #[tT p q v,vI (row:Int),.bool fx] w fun e w'=>TkO w w' e [cX v row fx]:=by
 have af:Hid (Below w.heap.size w (w.alloc (.cells #[.pointer (ptr p),.pointer (ptr q),vI v.r,vI v.c] 84))):=zh ((Below.refl _ w).alloc zr _);unfold tT;generalize ptr p=P at *;generalize ptr q=Q at *;cases v with
 |plain=>
  have CN:Hid (∀ W,Calls Tryz.prog 198 #[vI ((row:Int)+1)] W fun e w'=>e=.returned (vT (Lib.decDigits (row+1)))/\w'=W):=zh (fun W=>lE _ (row+1) zr (by omega) W);have hw:IntKind.i64.wrap ((row:Int)+1)=(row:Int)+1:=IntWalk.i64_in _ (by omega);have hl:=bM (row+1) 6 (by omega);cases fx
  ·have CK:Hid (∀ W,Calls Tryz.prog 82 #[vI 1,vT (Lib.decDigits (row+1))] W fun e w'=>TkO W w' e [cX .plain row false]):=zh (fun W=>aS 1 _ W);generalize [cX .plain row false]=g at *;generalize Lib.decDigits (row+1)=M at *;clear hr hv;dsimp only[Say.r,Say.c]at af ⊢
   go_in
   go_wp2_with (with_reducible refine(CN.out _).mono ?_;rintro e wx ⟨rfl,rfl⟩)
   refine(CK.out _).mono ?_;rintro e W3 ⟨A,c,rfl,ho,bv⟩;have HO:=zh (aM ho af.out.size);have bf:=zT af bv;clear ho bv
   go_wp2_with fail
   go_ret
   exact⟨A,c,rfl,HO.out,bf.out⟩
  have CK:Hid (∀ W,Calls Tryz.prog 82 #[vI 4,vT (36::Lib.decDigits (row+1))] W fun e w'=>TkO W w' e [cX .plain row true]):=zh (fun W=>aS 4 _ W);generalize [cX .plain row true]=g at *;generalize Lib.decDigits (row+1)=M at *;have k1:¬ 9223372036854775807<M.length+1:=by omega
  have k2:¬ 9223372036854775807<1+M.length:=by omega
  clear hr hv;dsimp only[Say.r,Say.c]at af ⊢
  go_in
  go_wp2_with (with_reducible refine(CN.out _).mono ?_;rintro e wx ⟨rfl,rfl⟩)
  refine(CK.out _).mono ?_;rintro e W3 ⟨A,c,rfl,ho,bv⟩;have HO:=zh (aM ho af.out.size);have bf:=zT af bv;clear ho bv
  go_wp2_with fail
  go_ret
  exact⟨A,c,rfl,HO.out,bf.out⟩
 |seen r c=>
  have CT:Hid (∀ W,Calls Tryz.prog 144 #[.agg #[vI (row:Int),vI (c:Int),.bool fx,.bool false],vI (r:Int),vI (c:Int)] W fun e w'=>e=.returned (vT ((82::bB row r fx)++[67]))/\Below W.heap.size W w'):=zh (fun W=>by
   have h:=iW row c r c fx false W hr hv.2 hv.1 hv.2;rw[kC]at h;exact h)
  have CK:Hid (∀ W,Calls Tryz.prog 82 #[vI 3,vT (82::bB row r fx)] W fun e w'=>TkO W w' e [cX (.seen r c) row fx]):=zh (fun W=>aS 3 _ W);have hl:=lX row r fx hr hv.1;generalize [cX (.seen r c) row fx]=g at *;have se:(82::bB row r fx).length<=21:=by simp;omega
  clear hl;generalize (82::bB row r fx)=M at *;have fq:(0:Int)<=(r:Int):=by omega
  have hw:IntKind.i64.wrap ((M.length:Int)+1-1)=(M.length:Int):=by rw[IntWalk.i64_in _ (by omega)];omega
  clear hr hv;dsimp only[Say.r,Say.c]at af ⊢
  go_in
  go_wp2_with fail
  refine(CT.out _).mono ?_;rintro e W2 ⟨rfl,hb2⟩;have aw:=zT af hb2;clear hb2
  go_wp2_with fail
  refine(CK.out _).mono ?_;rintro e W3 ⟨A,c,rfl,ho,bv⟩;have HO:=zh (aM ho aw.out.size);have bf:=zT aw bv;clear ho bv
  go_wp2_with fail
  go_ret
  exact⟨A,c,rfl,HO.out,bf.out⟩
theorem qM(p q:Option Nat)(v:Say)(col:Nat)(fx:Bool)(w:World)(hr:col<=400)(hv:v.ok) :
  Calls Tryz.prog 146 #[tT p q v,vI (col:Int),.bool fx] w fun e w'=>TkO w w' e [cW v col fx]:=by
 have af:Hid (Below w.heap.size w (w.alloc (.cells #[.pointer (ptr p),.pointer (ptr q),vI v.r,vI v.c] 84))):=zh ((Below.refl _ w).alloc zr _);unfold tT;generalize ptr p=P at *;generalize ptr q=Q at *;cases v with
 |plain=>
  have CN:Hid (∀ W,Calls Tryz.prog 197 #[vI (col:Int)] W fun e w'=>e=.returned (vT (dT (col+1)))/\w'=W):=zh (fun W=>oB col W (by omega));have hl:=gB (col+1) (by omega);cases fx
  ·have CK:Hid (∀ W,Calls Tryz.prog 82 #[vI 3,vT (dT (col+1))] W fun e w'=>TkO W w' e [cW .plain col false]):=zh (fun W=>aS 3 _ W);generalize [cW .plain col false]=g at *;generalize dT (col+1)=M at *;clear hr hv;dsimp only[Say.r,Say.c]at af ⊢
   go_in
   go_wp2_with (with_reducible refine(CN.out _).mono ?_;rintro e wx ⟨rfl,rfl⟩)
   refine(CK.out _).mono ?_;rintro e W3 ⟨A,c,rfl,ho,bv⟩;have HO:=zh (aM ho af.out.size);have bf:=zT af bv;clear ho bv
   go_wp2_with fail
   go_ret
   exact⟨A,c,rfl,HO.out,bf.out⟩
  have CK:Hid (∀ W,Calls Tryz.prog 82 #[vI 4,vT (36::dT (col+1))] W fun e w'=>TkO W w' e [cW .plain col true]):=zh (fun W=>aS 4 _ W);generalize [cW .plain col true]=g at *;generalize dT (col+1)=M at *;have k1:¬ 9223372036854775807<M.length+1:=by omega
  have k2:¬ 9223372036854775807<1+M.length:=by omega
  clear hr hv;dsimp only[Say.r,Say.c]at af ⊢
  go_in
  go_wp2_with (with_reducible refine(CN.out _).mono ?_;rintro e wx ⟨rfl,rfl⟩)
  refine(CK.out _).mono ?_;rintro e W3 ⟨A,c,rfl,ho,bv⟩;have HO:=zh (aM ho af.out.size);have bf:=zT af bv;clear ho bv
  go_wp2_with fail
  go_ret
  exact⟨A,c,rfl,HO.out,bf.out⟩
 |seen r c=>
  have CT:Hid (∀ W,Calls Tryz.prog 144 #[.agg #[vI (r:Int),vI (col:Int),.bool false,.bool fx],vI (r:Int),vI (c:Int)] W fun e w'=>e=.returned (vT (82::(67::bB col c fx)))/\Below W.heap.size W w'):=zh (fun W=>by
   have h:=iW r col r c false fx W hv.1 hr hv.1 hv.2;rw[kC]at h;exact h)
  have CK:Hid (∀ W,Calls Tryz.prog 82 #[vI 3,vT (67::bB col c fx)] W fun e w'=>TkO W w' e [cW (.seen r c) col fx]):=zh (fun W=>aS 3 _ W);have hl:=lX col c fx hr hv.2;generalize [cW (.seen r c) col fx]=g at *;have se:(67::bB col c fx).length<=21:=by simp;omega
  clear hl;generalize (67::bB col c fx)=M at *;have fq:(0:Int)<=(r:Int):=by omega
  clear hr hv;dsimp only[Say.r,Say.c]at af ⊢
  go_in
  go_wp2_with fail
  refine(CT.out _).mono ?_;rintro e W2 ⟨rfl,hb2⟩;have aw:=zT af hb2;clear hb2
  go_wp2_with fail
  refine(CK.out _).mono ?_;rintro e W3 ⟨A,c,rfl,ho,bv⟩;have HO:=zh (aM ho aw.out.size);have bf:=zT aw bv;clear ho bv
  go_wp2_with fail
  go_ret
  exact⟨A,c,rfl,HO.out,bf.out⟩
theorem pD{w w':World}{b n sz:Nat}{te:TypeId}{v v2:Value}{xs:List Value}(h:w.ownsRow b te sz v2 n xs)(hg:w.grownBy w' v.ownBlock)(hn:∀ g,v2.ownBlock=some g->v.ownBlock≠some g):w'.ownsRow b te sz v2 n xs :=
 bV h ((Kp.refl v.ownBlock.toList w).grown hg (fun y hy=>.inl (by rw[hy];exact .head _))) (fun g jk hm=>hn g jk (by simpa using hm))
def mO:AxV->Prop
 |none=>True
 |some (ids,fl)=>ids.length=fl.length/\ids.length<=300/\(∀ y∈ids,y.fits)/\ids.Nodup
theorem AxQ.av{W:World}{p:Option Nat}{A:AxV}(h:AxQ W p A):mO A:=by
 match p,A,h with
 |none,none,_=>trivial
 |some b,some (ids,fl),⟨h1,h2,h3,h4,_⟩=>exact⟨h1,h2,h3,h4⟩
theorem AxF.av{W:World}{p:Option Nat}{A:AxV}(h:AxF W p A):mO A:=by
 match p,A,h with
 |none,none,_=>trivial
 |some b,some (ids,fl),⟨h1,h2,h3,h4,_⟩=>exact⟨h1,h2,h3,h4⟩
theorem vE{ids:List IdR}{fl:List Bool}(he:ids.length=fl.length)(x k:Nat):∀ y∈aG ((ids.drop x).take k) ((fl.drop x).take k),y∈aG ids fl:=by
 intro y hy;have h1:y∈aG (ids.drop x) (fl.drop x):=by
  rw[cY (ids.drop x) (fl.drop x) k (by simp[he])];exact List.mem_append_left _ hy
 rw[cY ids fl x he];exact List.mem_append_right _ h1
theorem vJ{A:AxV}(hA:mO A)(a b:IdR):∀ z∈aP A a b,∃ n:Nat,n<=300/\aI A z=(n:Int):=by
 match A,hA with
 |none,_=>intro z hz;cases hz
 |some (ids,fl),⟨h1,h2,h3,h4⟩=>
  intro z hz;have hl:z∈aG ids fl:=by
   unfold aP at hz;dsimp only at hz
   split at hz
   ·cases hz
   exact vE h1 _ _ z hz
  obtain⟨k,hk,rfl⟩:=List.getElem_of_mem hl;have hd:(aG ids fl).Nodup:=by
   have hs:∀ (r:List IdR) (s:List Bool),r.Nodup->(aG r s).Nodup:=by
    intro r
    induction r with
    |nil=>intro s _;cases s <;> simp[aG]
    |cons u r ih=>
     intro s hn;cases s with
     |nil=>simp[aG]
     |cons c s=>
      rw[List.nodup_cons]at hn;unfold aG
      split
      ·rw[List.nodup_cons];exact⟨fun hm=>hn.1 (dM _ _ _ hm),ih s hn.2⟩
      exact ih s hn.2
   exact hs ids fl h4
  refine⟨k,?_,?_⟩
  ·have:=dA ids fl;omega
  show bC (aG ids fl) _=_;exact lU hd hk
theorem cI{A:AxV}(hA:mO A)(a b:IdR):cO A a b=none\/∃ n m:Nat,n<=300/\m<=300/\cO A a b=some ((n:Int),(m:Int)):=by
 rcases Nat.eq_zero_or_pos (aP A a b).length with h0|h0
 ·exact .inl (mQ (List.eq_nil_of_length_eq_zero h0))
 obtain⟨m,hm⟩:∃ m,(aP A a b).length=m+1:=⟨(aP A a b).length-1,by omega⟩
 have hp:=vJ hA a b;have e:=kM m ((aP A a b)[0]'(by omega)) ((aP A a b)[m]'(by omega)) hm (List.getElem?_eq_getElem _) (List.getElem?_eq_getElem _);obtain⟨n1,k1,e1⟩:=hp _ (List.getElem_mem (by omega:0<(aP A a b).length));obtain⟨n2,k2,e2⟩:=hp _ (List.getElem_mem (by omega:m<(aP A a b).length));rw[e1,e2]at e
 right
 rw[e]
 split
 ·exact⟨n2,n1,k2,k1,rfl⟩
 exact⟨n1,n2,k1,k2,rfl⟩
end Go.Proofs.YtjfihpaeglpblaaGreatDoor
