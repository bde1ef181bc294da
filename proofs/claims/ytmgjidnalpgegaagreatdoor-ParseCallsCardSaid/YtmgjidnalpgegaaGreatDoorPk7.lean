/-
  Lemmas, part 7: Par1 Par2 Par3 Par4 PaE PaF PaI PaT Par5 Addr1 Num11 Addr3.
-/
import Derived.Test.YtmgjidnalpgegaaGreatDoorPk6
set_option maxHeartbeats 100000000
namespace Go.Proofs.YtmgjidnalpgegaaGreatDoor
open Go.RowKit
structure Env where
 r:Nat
 g:Nat
 cap:Nat
 L:List Tok
 pa:Option Nat
 pb:Option Nat
 sg:Nat
 ax:Ax
 lo:Nat
def Env.X(E:Env):List Nat:=E.r::(E.pa.toList++E.pb.toList)
abbrev tkV(t:Tok):Value:=.agg #[.int .i64 t.kind,.string ⟨t.text.toArray⟩,.int .i64 t.place]
abbrev rdC(E:Env)(k op nd pl er:Nat):Array Value:=#[.slice (some ⟨E.g,0,none⟩) E.L.length E.cap,.int .i64 (k:Int),.int .i64 (op:Int),.int .i64 (nd:Int),.pointer (ptr E.pa),.pointer (ptr E.pb),.map (some E.sg),.int .i64 (pl:Int),.int .i64 (er:Int)]
def TokIn(W:World)(g:Nat)(L:List Tok):Prop:=g<W.heap.size/\∀ j (h:j<L.length),W.cell? ⟨g,j*3,none⟩=some (.int .i64 L[j].kind)/\W.cell? ⟨g,j*3+1,none⟩=some (.string ⟨L[j].text.toArray⟩)/\W.cell? ⟨g,j*3+2,none⟩=some (.int .i64 L[j].place)
theorem TokIn.kp{Y:List Nat}{W W':World}{g:Nat}{L:List Tok}(h:TokIn W g L)(hk:Kp Y W W')(hn:g∉Y):TokIn W' g L :=
 ⟨yu h.1 hk.size,fun j hj=>⟨(hk.cell h.1 hn).trans (h.2 j hj).1,(hk.cell h.1 hn).trans (h.2 j hj).2.1,(hk.cell h.1 hn).trans (h.2 j hj).2.2⟩⟩
def jM(l:List Bs):Array MapEntry:=(l.mapIdx (fun i s=>{ key:=.string ⟨s.toArray⟩,val:=.bool true,born:=i:MapEntry })).toArray
def eU:List (List Bs):=[rL,pE,gR,qK,oN,gR]
def yB(q:Nat):Array MapEntry:=#[⟨.int .i64 0,.map (some (q+1)),0⟩,⟨.int .i64 1,.map (some (q+2)),1⟩,⟨.int .i64 2,.map (some (q+3)),2⟩,⟨.int .i64 3,.map (some (q+4)),3⟩,⟨.int .i64 4,.map (some (q+5)),4⟩,⟨.int .i64 5,.map (some (q+6)),5⟩]
structure SgIn(W:World)(q:Nat):Prop where
 out:W.heap[q]?=some (.map (yB q) 6)
 ins:∀ i (h:i<eU.length),∃ c,W.heap[q+1+i]?=some (.map (jM eU[i]) c)
theorem SgIn.kp{Y:List Nat}{W W':World}{q:Nat}(h:SgIn W q)(hk:Kp Y W W')(hn:∀ i,i<=6->q+i∉Y):SgIn W' q:=by
 refine⟨(hk.block q (zk.1 h.out).1 (hn 0 (by decide))).trans h.out,fun i hi=>?_⟩;obtain⟨c,hc⟩:=h.ins i hi;have h6:i<6:=hi;refine⟨c,(hk.block _ (zk.1 hc).1 ?_).trans hc⟩;have:=hn (1+i) (by omega);rw[<- Nat.add_assoc]at this;exact this
theorem AxIn.kp{Y:List Nat}{W W':World}{p:Option Nat}{l:List IdR}(h:AxIn W p l)(hk:Kp Y W W')(hn:∀ y∈Y,some y≠p/\∃ t cs,Lies W y t cs/\t≠34/\t≠4):AxIn W' p l:=by
 cases p with
 |none=>exact h
 |some b=>
  have hb:b∉Y:=fun hm=>(hn b hm).1 rfl
  have ho:∀ {base n sz:Nat} {te:TypeId} {v:Value} {xs:List Value},te=34\/te=4->W.ownsRow base te sz v n xs->W'.ownsRow base te sz v n xs:=by
   intro base n sz te v xs ht hv;refine kD hv hk (fun g hg hm=>?_);obtain⟨_,t,cs,hl,h1,h2⟩:=hn g hm;refine gT (tb:=t) (by rcases ht with e|e <;> rw[e];exact Ne.symm h1;exact Ne.symm h2) hv hl hg.symm
  rcases h with⟨base,ids,fl,v1,v2,⟨h1,h2,h3⟩,h4⟩|⟨base,⟨v1,v2,v3,v4,m,h1,h2⟩⟩
  ·exact .inl ⟨base,ids,fl,v1,v2,⟨hk.lies h1 hb,ho (.inl rfl) h2,ho (.inr rfl) h3⟩,h4⟩
  exact .inr ⟨base,⟨v1,v2,v3,v4,m,hk.lies h1 hb,ho (.inl rfl) h2⟩⟩
theorem AxIn.box{W:World}{p:Option Nat}{l:List IdR}(h:AxIn W p l):∀ b,p=some b->∃ cs,Lies W b 82 cs:=by
 intro b e;subst e;rcases h with⟨base,ids,fl,v1,v2,⟨h1,_,_⟩,_⟩|⟨base,⟨v1,v2,v3,v4,m,h1,_⟩⟩
 ·exact⟨_,h1⟩
 exact⟨_,h1⟩
structure Env.ok(E:Env):Prop where
 gx:E.g∉E.X
 sx:∀ i,i<=6->E.sg+i∉E.X
 lo:∀ x∈E.X,E.lo<=x
 tb:0<E.lo
 ra:∀ b,E.pa=some b->b≠E.r
 rb:∀ b,E.pb=some b->b≠E.r
 ab:∀ b,E.pa=some b->E.pb≠some b
structure InE(E:Env)(k op nd pl er:Nat)(W:World):Prop where
 rd:Lies W E.r 66 (rdC E k op nd pl er)
 tk:TokIn W E.g E.L
 ar:AxIn W E.pa E.ax.rows
 ac:AxIn W E.pb E.ax.cols
 sg:SgIn W E.sg
 tb:Tab W
 lo:E.lo<=W.heap.size
theorem InE.next{E:Env}{k op nd pl er:Nat}{W W':World}(h:InE E k op nd pl er W)(hb:Below W.heap.size W W'):InE E k op nd pl er W':=by
 have hk:Kp [] W W':=Kp.of_below hb;exact⟨h.rd.next hb,h.tk.kp hk (by simp),h.ar.kp hk (fun y hy=>by cases hy),h.ac.kp hk (fun y hy=>by cases hy),h.sg.kp hk (fun _ _=>by simp),h.tb.next hb,yv h.lo hb.size⟩
theorem InE.wrote{E:Env}(hE:E.ok){k op nd pl er k' op' nd' pl' er':Nat}{W W':World}(h:InE E k op nd pl er W)(hk:Kp [E.r] W W')(hr:Lies W' E.r 66 (rdC E k' op' nd' pl' er')):InE E k' op' nd' pl' er' W':=by
 have hx:E.r∈E.X:=.head _;have hrl:=h.rd;refine⟨hr,h.tk.kp hk (fun hm=>hE.gx (by rw[yf.1 hm];exact hx)),h.ar.kp hk (fun y hy=>?_),h.ac.kp hk (fun y hy=>?_),h.sg.kp hk (fun i hi hm=>hE.sx i hi (by rw[yf.1 hm];exact hx)),h.tb.below (hk.below (B:=E.lo) (fun y hy=>by rw[yf.1 hy];exact hE.lo _ hx) h.lo) hE.tb,yv h.lo hk.size⟩
 ·rw[yf.1 hy];exact⟨fun e=>hE.ra _ e.symm rfl,_,_,hrl,by decide,by decide⟩
 rw[yf.1 hy];exact⟨fun e=>hE.rb _ e.symm rfl,_,_,hrl,by decide,by decide⟩
def Env.at(E:Env)(k:Nat):Tok:=hd (E.L.drop k)
theorem Env.at_lt(E:Env){k:Nat}(h:k<E.L.length):E.at k=E.L[k]:=by
 unfold Env.at hd;rw[yx h];rfl
set_option maxRecDepth 100000 in
theorem cE(E:Env)(k op nd pl er:Nat)(w:World)(hI:InE E k op nd pl er w)(hk:k<E.L.length) :
  Calls Tryz.prog 25 #[.pointer (some ⟨E.r,0,none⟩)] w fun e w'=>e=.returned (tkV (E.at k))/\Below w.heap.size w w':=by
 rw[E.at_lt hk];obtain⟨c0,c1,c2⟩:=hI.tk.2 k hk;have r0:=hI.rd.cell 0;have r1:=hI.rd.cell 1;simp only[za,zb,zf]at r0 r1;have hrs:=hI.rd.lt;have hgs:=hI.tk.1;generalize E.L[k]=t at *;obtain⟨tk,tx,tp⟩:=t;dsimp only at c0 c1 c2 ⊢;have lh:(k:Int)<(E.L.length:Int):=by omega
 generalize E.L.length=n at *;generalize E.g=g at *;generalize E.r=r at *;clear hI;have eo:Hid (Below w.heap.size w (w.alloc (.cells #[.int .i64 0,.string ⟨#[]⟩,.int .i64 0] 70))):=zh ((Below.refl _ w).alloc zr _);have de:=zh (Lies.new w 70 #[.int .i64 0,.string ⟨#[]⟩,.int .i64 0])
 go_enter Tryz.func25,Tryz.ntmps25
 go_upto_region 1 with fail
 have d0:=(eo.out.cell (p:=⟨g,k*3,none⟩) hgs).trans c0;have d1:=(eo.out.cell (p:=⟨g,k*3+1,none⟩) hgs).trans c1;have d2:=(eo.out.cell (p:=⟨g,k*3+2,none⟩) hgs).trans c2;have s0:=(eo.out.cell (p:=⟨r,0,none⟩) hrs).trans r0;have s1:=(eo.out.cell (p:=⟨r,1,none⟩) hrs).trans r1;generalize w.alloc (.cells #[.int .i64 0,.string ⟨#[]⟩,.int .i64 0] 70)=W1 at *;generalize fa:w.heap.size=q at *;have HQ:=zh fa;have hrq:r≠q:=by omega
 have hgq:g≠q:=by omega
 clear fa c0 c1 c2 r0 r1 hrs hgs;have x0:=de.out.cell 0;have x1:=de.out.cell 1;have x2:=de.out.cell 2;have f0:=de.out.frozen 0;have f1:=de.out.frozen 1;have f2:=de.out.frozen 2;simp only[za,zb,zf]at x0 x1 x2
 go_region
 all_goals go_wp2_with fail
 all_goals refine yt (v:=.agg #[.int .i64 tk,.string ⟨tx.toArray⟩,.int .i64 tp]) (by simp[results,Tryz.results25,go_sem,x0,x1,x2]) rfl ?_
 all_goals refine⟨rfl,?_⟩
 all_goals rw[HQ.out]
 all_goals exact((eo.out.drew.setCell (p:=⟨q,0,none⟩) (Nat.le_refl q) _).setCell (p:=⟨q,1,none⟩) (Nat.le_refl q) _).setCell (p:=⟨q,2,none⟩) (Nat.le_refl q) _
def Env.nx(E:Env)(k:Nat):Tok:=nxt (E.L.drop k)
theorem Env.nx_lt(E:Env){k:Nat}(h:k+1<E.L.length):E.nx k=E.L[k+1]:=by
 unfold Env.nx nxt;rw[yx (by omega:k<E.L.length),yx h]
theorem Env.nx_end(E:Env){k:Nat}(h:k<E.L.length)(h2:¬ k+1<E.L.length):E.nx k=E.L[k]:=by
 unfold Env.nx nxt;rw[yx h,List.drop_of_length_le (by omega:E.L.length<=k+1)];rfl
set_option maxRecDepth 100000 in
theorem uHR(E:Env)(k op nd pl er:Nat)(w:World)(hI:InE E k op nd pl er w)(hk:k<E.L.length)(hL:E.L.length<=1000000) :
  Calls Tryz.prog 115 #[.pointer (some ⟨E.r,0,none⟩)] w fun e w'=>e=.returned (tkV (E.nx k))/\Below w.heap.size w w':=by
 obtain⟨j,hj,hjk⟩:∃ j,j<E.L.length/\j=if k+1<E.L.length then k+1 else k:=by
  split
  ·exact⟨k+1,by omega,rfl⟩
  exact⟨k,hk,rfl⟩
 have mi:E.nx k=E.L[j]:=by
  by_cases h:k+1<E.L.length
  ·rw[if_pos h]at hjk;subst hjk;exact E.nx_lt h
  rw[if_neg h]at hjk;subst hjk;exact E.nx_end hk h
 rw[mi];obtain⟨c0,c1,c2⟩:=hI.tk.2 j hj;have r0:=hI.rd.cell 0;have r1:=hI.rd.cell 1;simp only[za,zb,zf]at r0 r1;have hrs:=hI.rd.lt;have hgs:=hI.tk.1;clear mi;generalize E.L[j]=t at *;obtain⟨tk,tx,tp⟩:=t;dsimp only at c0 c1 c2 ⊢;generalize E.L.length=n at *;generalize E.g=g at *;generalize E.r=r at *;clear hI;have eo:Hid (Below w.heap.size w (w.alloc (.cells #[.int .i64 0,.string ⟨#[]⟩,.int .i64 0] 70))):=zh ((Below.refl _ w).alloc zr _);have de:=zh (Lies.new w 70 #[.int .i64 0,.string ⟨#[]⟩,.int .i64 0])
 go_enter Tryz.func115,Tryz.ntmps115
 go_upto_region 1 with fail
 have d0:=(eo.out.cell (p:=⟨g,j*3,none⟩) hgs).trans c0;have d1:=(eo.out.cell (p:=⟨g,j*3+1,none⟩) hgs).trans c1;have d2:=(eo.out.cell (p:=⟨g,j*3+2,none⟩) hgs).trans c2;have s0:=(eo.out.cell (p:=⟨r,0,none⟩) hrs).trans r0;have s1:=(eo.out.cell (p:=⟨r,1,none⟩) hrs).trans r1;generalize w.alloc (.cells #[.int .i64 0,.string ⟨#[]⟩,.int .i64 0] 70)=W1 at *;generalize fa:w.heap.size=q at *;have HQ:=zh fa;have hrq:r≠q:=by omega
 have hgq:g≠q:=by omega
 clear fa c0 c1 c2 r0 r1 hrs hgs;have x0:=de.out.cell 0;have x1:=de.out.cell 1;have x2:=de.out.cell 2;have f0:=de.out.frozen 0;have f1:=de.out.frozen 1;have f2:=de.out.frozen 2;simp only[za,zb,zf]at x0 x1 x2;by_cases hlt:k+1<n
 ·rw[if_pos hlt]at hjk;subst hjk;have hd:decide ((k:Int)+1<(n:Int))=true:=decide_eq_true (by omega);have hlti:(k:Int)+1<(n:Int):=by omega
  have ol:(k:Int)<=1000000:=by omega
  go_quiet (fail)
  have co:Hid (Below q w (W1.drewN nq)):=zh (below_drewN eo.out nq);have ce:Hid (Lies (W1.drewN nq) q 70 #[.int .i64 0,.string ⟨#[]⟩,.int .i64 0]):=zh de.out;have e0:(W1.drewN nq).cell? ⟨g,(k+1)*3,none⟩=some (.int .i64 tk):=d0;have e1:(W1.drewN nq).cell? ⟨g,(k+1)*3+1,none⟩=some (.string ⟨tx.toArray⟩):=d1;have e2:(W1.drewN nq).cell? ⟨g,(k+1)*3+2,none⟩=some (.int .i64 tp):=d2;have t0:(W1.drewN nq).cell? ⟨r,0,none⟩=_:=s0;have t1:(W1.drewN nq).cell? ⟨r,1,none⟩=_:=s1;generalize W1.drewN nq=W2 at *;clear d0 d1 d2 s0 s1 eo de x0 x1 x2 f0 f1 f2;have x0:=ce.out.cell 0;have x1:=ce.out.cell 1;have x2:=ce.out.cell 2;have f0:=ce.out.frozen 0;have f1:=ce.out.frozen 1;have f2:=ce.out.frozen 2;simp only[za,zb,zf]at x0 x1 x2
  go_upto_region 2 with fail
  go_region
  all_goals go_wp2_with fail
  all_goals refine yt (v:=.agg #[.int .i64 tk,.string ⟨tx.toArray⟩,.int .i64 tp]) (by simp[results,Tryz.results115,go_sem,x0,x1,x2]) rfl ?_
  all_goals refine⟨rfl,?_⟩
  all_goals rw[HQ.out]
  all_goals exact((co.out.drew.setCell (p:=⟨q,0,none⟩) (Nat.le_refl q) _).setCell (p:=⟨q,1,none⟩) (Nat.le_refl q) _).setCell (p:=⟨q,2,none⟩) (Nat.le_refl q) _
 rw[if_neg hlt]at hjk;subst hjk;have hd:decide ((j:Int)+1<(n:Int))=false:=decide_eq_false (by omega);have hlti:¬ (j:Int)+1<(n:Int):=by omega
 have lh:(j:Int)<(n:Int):=by omega
 have ol:(j:Int)<=1000000:=by omega
 go_quiet (fail)
 have co:Hid (Below q w (W1.drewN nq)):=zh (below_drewN eo.out nq);have ce:Hid (Lies (W1.drewN nq) q 70 #[.int .i64 0,.string ⟨#[]⟩,.int .i64 0]):=zh de.out;have e0:(W1.drewN nq).cell? ⟨g,j*3,none⟩=some (.int .i64 tk):=d0;have e1:(W1.drewN nq).cell? ⟨g,j*3+1,none⟩=some (.string ⟨tx.toArray⟩):=d1;have e2:(W1.drewN nq).cell? ⟨g,j*3+2,none⟩=some (.int .i64 tp):=d2;have t0:(W1.drewN nq).cell? ⟨r,0,none⟩=_:=s0;have t1:(W1.drewN nq).cell? ⟨r,1,none⟩=_:=s1;generalize W1.drewN nq=W2 at *;clear d0 d1 d2 s0 s1 eo de x0 x1 x2 f0 f1 f2;have x0:=ce.out.cell 0;have x1:=ce.out.cell 1;have x2:=ce.out.cell 2;have f0:=ce.out.frozen 0;have f1:=ce.out.frozen 1;have f2:=ce.out.frozen 2;simp only[za,zb,zf]at x0 x1 x2
 go_upto_region 3 with fail
 go_region
 all_goals go_wp2_with fail
 all_goals refine yt (v:=.agg #[.int .i64 tk,.string ⟨tx.toArray⟩,.int .i64 tp]) (by simp[results,Tryz.results115,go_sem,x0,x1,x2]) rfl ?_
 all_goals refine⟨rfl,?_⟩
 all_goals rw[HQ.out]
 all_goals exact((co.out.drew.setCell (p:=⟨q,0,none⟩) (Nat.le_refl q) _).setCell (p:=⟨q,1,none⟩) (Nat.le_refl q) _).setCell (p:=⟨q,2,none⟩) (Nat.le_refl q) _
set_option maxRecDepth 100000 in
theorem dF(t:Tok)(s:Bs)(w:World) :
  Calls Tryz.prog 114 #[tkV t,.string ⟨s.toArray⟩] w fun e w'=>e=.returned (.bool (isS t s))/\Below w.heap.size w w':=by
 obtain⟨tk,tx,tp⟩:=t;have hB:Below w.heap.size w (w.alloc (.cells #[.int .i64 tk,.string ⟨tx.toArray⟩,.int .i64 tp] 70)):=(Below.refl _ w).alloc zr _;have HB:=zh hB;unfold isS;dsimp only;by_cases h:tk=5
 ·subst h;clear hB
  go_enter Tryz.func114,Tryz.ntmps114
  go_wp2_with fail
  go_ret
  exact⟨by simp,HB.out⟩
 have hb:((tk:Int)==5)=false:=by simp;omega
 have hd:decide (tk=5)=false:=decide_eq_false h;clear hB h;rw[hd]
 go_enter Tryz.func114,Tryz.ntmps114
 go_wp2_with fail
 go_ret
 exact⟨by simp,HB.out⟩
theorem mN(k:Int)(s:ByteArray)(p:Int)(W:World):(Instr.field 70 (.agg #[.int .i64 k,.string s,.int .i64 p]) 0).run Tryz.prog W=.ok (.int .i64 k) W:=by kernel_rfl
theorem nS(k:Int)(s:ByteArray)(p:Int)(W:World):(Instr.field 70 (.agg #[.int .i64 k,.string s,.int .i64 p]) 1).run Tryz.prog W=.ok (.string s) W:=by kernel_rfl
theorem tok_f2(k:Int)(s:ByteArray)(p:Int)(W:World):(Instr.field 70 (.agg #[.int .i64 k,.string s,.int .i64 p]) 2).run Tryz.prog W=.ok (.int .i64 p) W:=by kernel_rfl
def Step(E:Env)(w:World)(k op nd pl er:Nat)(v:Value)(e:Ending)(w':World):Prop:=e=.returned v/\InE E k op nd pl er w'/\Kp [E.r] w w'
set_option maxRecDepth 100000 in
theorem fB(E:Env)(hE:E.ok)(k op nd pl er er':Nat)(w:World)(hI:InE E k op nd pl er w)(hk:k<E.L.length) :
  Calls Tryz.prog 26 #[.pointer (some ⟨E.r,0,none⟩),.int .i64 (er':Int)] w (Step E w k op nd (E.at k).place er' (.bool false)):=by
 have CT:=zh (cE E k op nd pl er w hI hk);have HI:=zh hI;have HP:Hid (∀ W',Kp [E.r] w W'->Lies W' E.r 66 (rdC E k op nd (E.at k).place er')->Step E w k op nd (E.at k).place er' (.bool false) (.returned (.bool false)) W'):=zh (fun W' h1 h2=>⟨rfl,hI.wrote hE h1 h2,h1⟩);clear hI;generalize E.at k=t at *;obtain⟨tk,tx,tp⟩:=t;dsimp only[tkV]at CT HP ⊢;generalize hr:E.r=r at *;have hf2:=tok_f2
 go_enter Tryz.func26,Tryz.ntmps26
 go_wp2_with fail
 refine CT.out.mono ?_;rintro e w1 ⟨rfl,hb⟩;have ee:Hid (Kp [r] w w1):=zh (Kp.of_below hb);have de:Hid (Lies w1 r 66 (rdC E k op nd pl er)):=zh (by rw[<- hr];exact HI.out.rd.next hb);have x7:=de.out.cell 7;have x8:=de.out.cell 8;have f7:=de.out.frozen 7;have f8:=de.out.frozen 8;simp only[za,zb,zf]at x7 x8;clear hb CT
 go_wp2_with fail
 go_ret
 refine HP.out _ ((ee.out.set (.inl (.head _)) 7 _).set (.inl (.head _)) 8 _) ?_;exact((de.out.put 7 _).put 8 _)
set_option maxRecDepth 100000 in
theorem lQ(E:Env)(hE:E.ok)(k op nd pl er:Nat)(s:Bs)(w:World)(hI:InE E k op nd pl er w)(hk:k<E.L.length)(hL:E.L.length<=1000000)(hs:isS (E.at k) s=true) :
  Calls Tryz.prog 125 #[.pointer (some ⟨E.r,0,none⟩),.string ⟨s.toArray⟩] w (Step E w (k+1) op nd pl er (.bool true)):=by
 have CT:=zh (cE E k op nd pl er w hI hk);have CS:=zh (fun W=>dF (E.at k) s W);rw[hs]at CS;have HI:=zh hI;have HP:Hid (∀ W',Kp [E.r] w W'->Lies W' E.r 66 (rdC E (k+1) op nd pl er)->Step E w (k+1) op nd pl er (.bool true) (.returned (.bool true)) W'):=zh (fun W' h1 h2=>⟨rfl,hI.wrote hE h1 h2,h1⟩);have ol:(k:Int)<=1000000:=by omega
 clear hI hs;generalize E.at k=t at *;obtain⟨tk,tx,tp⟩:=t;dsimp only[tkV]at CT CS HP ⊢;generalize hr:E.r=r at *
 go_enter Tryz.func125,Tryz.ntmps125
 go_wp2_with fail
 refine CT.out.mono ?_;rintro e w1 ⟨rfl,hb⟩;have ee:Hid (Kp [r] w w1):=zh (Kp.of_below hb);have de:Hid (Lies w1 r 66 (rdC E k op nd pl er)):=zh (by rw[<- hr];exact HI.out.rd.next hb);clear hb CT
 go_wp2_with fail
 refine(CS.out _).mono ?_;rintro e w2 ⟨rfl,hb⟩;have cq:Hid (Kp [r] w w2):=zh (ee.out.trans (Kp.of_below hb));have ce:=zh (de.out.next hb);clear hb CS ee de;have x1:=ce.out.cell 1;have f1:=ce.out.frozen 1;simp only[za,zb,zf]at x1
 go_wp2_with fail
 go_ret
 exact HP.out _ (cq.out.set (.inl (.head _)) 1 _) (ce.out.put 1 _)
theorem vO(E:Env)(hE:E.ok)(k op nd pl er:Nat)(s:Bs)(w:World)(hI:InE E k op nd pl er w)(hk:k<E.L.length)(hs:isS (E.at k) s=false) :
  Calls Tryz.prog 125 #[.pointer (some ⟨E.r,0,none⟩),.string ⟨s.toArray⟩] w (Step E w k op nd (E.at k).place 6 (.bool false)):=by
 have CT:=zh (cE E k op nd pl er w hI hk);have CS:=zh (fun W=>dF (E.at k) s W);have CW:=zh (fun W h=>fB E hE k op nd pl er 6 W h hk);rw[hs]at CS;have HI:=zh hI;have HP:Hid (∀ W W',Kp [E.r] w W->Step E W k op nd (E.at k).place 6 (.bool false) (.returned (.bool false)) W'->Step E w k op nd (E.at k).place 6 (.bool false) (.returned (.bool false)) W'):=zh (fun W W' h1 h2=>⟨rfl,h2.2.1,h1.trans h2.2.2⟩);clear hI hs;generalize E.at k=t at *;obtain⟨tk,tx,tp⟩:=t;dsimp only[tkV]at CT CS HP CW ⊢
 go_enter Tryz.func125,Tryz.ntmps125
 go_wp2_with fail
 refine CT.out.mono ?_;rintro e w1 ⟨rfl,hb⟩;have ee:Hid (Kp [E.r] w w1):=zh (Kp.of_below hb);have fp:=zh (HI.out.next hb);clear hb CT
 go_wp2_with fail
 refine(CS.out _).mono ?_;rintro e w2 ⟨rfl,hb⟩;have cq:Hid (Kp [E.r] w w2):=zh (ee.out.trans (Kp.of_below hb));have ct:=zh (fp.out.next hb);clear hb CS ee fp HI
 go_wp2_with fail
 refine(CW.out _ ct.out).mono ?_;rintro e w3 ⟨rfl,h1,h2⟩;have HS:=zh (HP.out _ _ cq.out ⟨rfl,h1,h2⟩);clear h1 h2
 go_wp2_with fail
 go_ret
 exact HS.out
theorem Step.from{E:Env}{w w1:World}{k op nd pl er:Nat}{v:Value}{e:Ending}{w':World}(h:Step E w1 k op nd pl er v e w')(hk:Kp [E.r] w w1):Step E w k op nd pl er v e w':=⟨h.1,h.2.1,hk.trans h.2.2⟩
set_option maxRecDepth 100000 in
theorem wY(E:Env)(hE:E.ok)(k op nd pl er:Nat)(w:World)(hI:InE E k op nd pl er w)(hk:k<E.L.length)(hL:E.L.length<=1000000)(hs:isS (E.at k) [40]=true)(ho:op<64) :
  Calls Tryz.prog 121 #[.pointer (some ⟨E.r,0,none⟩)] w (Step E w (k+1) (op+1) nd pl er (.bool true)):=by
 have CT:=zh (fun W h=>lQ E hE k (op+1) nd pl er [40] W h hk hL hs);have HP:Hid (∀ W',Kp [E.r] w W'->Lies W' E.r 66 (rdC E k (op+1) nd pl er)->InE E k (op+1) nd pl er W'):=zh (fun W' h1 h2=>hI.wrote hE h1 h2);have HF:Hid (∀ w1 v e w',Kp [E.r] w w1->Step E w1 (k+1) (op+1) nd pl er v e w'->Step E w (k+1) (op+1) nd pl er v e w'):=zh (fun w1 v e w' h1 h2=>h2.from h1);have hR:=hI.rd;have hoi:¬ (64:Int)<=(op:Int):=by omega
 have hoj:(op:Int)<=64:=by omega
 clear hs ho;generalize hr:E.r=r at *;have HR:=zh hR;have x2:=HR.out.cell 2;have f2:=HR.out.frozen 2;simp only[za,zb,zf]at x2;clear hR hI
 go_enter Tryz.func121,Tryz.ntmps121
 go_wp2_with fail
 have ee:Hid (Kp [r] w (w.setCell ⟨r,2,none⟩ (.int .i64 ((op:Int)+1)))):=zh ((Kp.refl _ w).set (.inl (.head _)) 2 _);have fp:Hid (InE E k (op+1) nd pl er (w.setCell ⟨r,2,none⟩ (.int .i64 ((op:Int)+1)))):=zh (HP.out _ ee.out (HR.out.put 2 _));refine(CT.out _ fp.out).mono ?_;rintro e w2 ⟨rfl,h1,h2⟩;have HS:=zh (HF.out _ (.bool true) (.returned (.bool true)) _ ee.out ⟨rfl,h1,h2⟩);clear h1 h2 ee fp CT HP HF HR x2 f2
 go_wp2_with fail
 go_ret
 exact HS.out
theorem tU(E:Env)(hE:E.ok)(k op nd pl er:Nat)(w:World)(hI:InE E k op nd pl er w)(hk:k<E.L.length)(ho:64<=op)(ho2:op<=1000) :
  Calls Tryz.prog 121 #[.pointer (some ⟨E.r,0,none⟩)] w (Step E w k op nd (E.at k).place 8 (.bool false)):=by
 have CW:=zh (fB E hE k op nd pl er 8 w hI hk);have hR:=hI.rd;have hoi:(64:Int)<=(op:Int):=by omega
 have x2:=hR.cell 2;simp only[za,zb,zf]at x2;clear hR hI ho
 go_enter Tryz.func121,Tryz.ntmps121
 go_wp2_with fail
 refine CW.out.mono ?_;rintro e w2 ⟨rfl,h1,h2⟩;have HS:Hid (Step E w k op nd (E.at k).place 8 (.bool false) (.returned (.bool false)) w2):=zh ⟨rfl,h1,h2⟩;clear h1 h2 CW x2
 go_wp2_with fail
 go_ret
 exact HS.out
set_option maxRecDepth 100000 in
theorem xG(E:Env)(hE:E.ok)(k op nd pl er:Nat)(w:World)(hI:InE E k (op+1) nd pl er w)(hk:k<E.L.length)(hL:E.L.length<=1000000)(hs:isS (E.at k) [41]=true)(ho:op<=64) :
  Calls Tryz.prog 122 #[.pointer (some ⟨E.r,0,none⟩)] w (Step E w (k+1) op nd pl er (.bool true)):=by
 have CT:=zh (fun W h=>lQ E hE k op nd pl er [41] W h hk hL hs);have HP:Hid (∀ W',Kp [E.r] w W'->Lies W' E.r 66 (rdC E k op nd pl er)->InE E k op nd pl er W'):=zh (fun W' h1 h2=>hI.wrote hE h1 h2);have HF:Hid (∀ w1 v e w',Kp [E.r] w w1->Step E w1 (k+1) op nd pl er v e w'->Step E w (k+1) op nd pl er v e w'):=zh (fun w1 v e w' h1 h2=>h2.from h1);have hR:=hI.rd;have hoj:(op:Int)<=64:=by omega
 have nh:(((op+1:Nat):Int))-1=(op:Int):=by omega
 clear hs ho;generalize hr:E.r=r at *;have HR:=zh hR;have x2:=HR.out.cell 2;have f2:=HR.out.frozen 2;simp only[za,zb,zf]at x2;clear hR hI
 go_enter Tryz.func122,Tryz.ntmps122
 go_wp2_with fail
 have ee:Hid (Kp [r] w (w.setCell ⟨r,2,none⟩ (.int .i64 (op:Int)))):=zh ((Kp.refl _ w).set (.inl (.head _)) 2 _);have fp:Hid (InE E k op nd pl er (w.setCell ⟨r,2,none⟩ (.int .i64 (op:Int)))):=zh (HP.out _ ee.out (HR.out.put 2 _));refine(CT.out _ fp.out).mono ?_;rintro e w2 ⟨rfl,h1,h2⟩;have HS:=zh (HF.out _ (.bool true) (.returned (.bool true)) _ ee.out ⟨rfl,h1,h2⟩);clear h1 h2 ee fp CT HP HF HR x2 f2
 go_wp2_with fail
 go_ret
 exact HS.out
abbrev bC(h:NodeH)(A:Option Addr)(n c:Nat):Array Value:=#[.int .i64 h.kind,.int .i64 h.v.kind,.int .i64 h.v.mant,.int .i64 h.v.exp,.string ⟨h.v.text.toArray⟩,.bool h.v.truth,.int .i64 h.v.fault,.string ⟨h.name.toArray⟩,
 .int .i64 h.a.row.a,.int .i64 h.a.row.n,.int .i64 h.a.col.a,.int .i64 h.a.col.n,.bool h.a.fr,.bool h.a.fc,.int .i64 h.b.row.a,.int .i64 h.b.row.n,.int .i64 h.b.col.a,.int .i64 h.b.col.n,.bool h.b.fr,.bool h.b.fc,.int .i64 h.rows,.slice A n c]
abbrev dO(h:NodeH)(A:Option Addr)(n c:Nat):Value:=.agg (bC h A n c)
mutual
def NodeAt(W:World)(X:List Nat)(g o:Nat):Tree->Prop
 | .mk h l=>∃ A c,(∀ j,j<22->W.cell? ⟨g,o+j,none⟩=(bC h A l.length c)[j]?)/\(l=[]\/∃ g',A=some ⟨g',0,none⟩/\g'∉X/\g'<W.heap.size/\KidsAt W X g' 0 l)
def KidsAt(W:World)(X:List Nat)(g:Nat):Nat->List Tree->Prop
 |_,[]=>True
 |i,t::r=>NodeAt W X g (i*22) t/\KidsAt W X g (i+1) r
end
def KidsOk(W:World)(X:List Nat)(A:Option Addr)(l:List Tree):Prop:=l=[]\/∃ g',A=some ⟨g',0,none⟩/\g'∉X/\g'<W.heap.size/\KidsAt W X g' 0 l
mutual
theorem NodeAt.kp{W W':World}{X:List Nat}(hk:Kp X W W'){g o:Nat}(hg:g<W.heap.size)(hx:g∉X):∀ {t:Tree},NodeAt W X g o t->NodeAt W' X g o t
 | .mk h l,hn=>by
  obtain⟨A,c,h1,h2⟩:=hn;refine⟨A,c,fun j hj=>(hk.cell hg hx).trans (h1 j hj),?_⟩;rcases h2 with h2|⟨g',e,h3,h4,h5⟩
  ·exact .inl h2
  exact .inr ⟨g',e,h3,yu h4 hk.size,KidsAt.kp hk h4 h3 h5⟩
theorem KidsAt.kp{W W':World}{X:List Nat}(hk:Kp X W W'){g:Nat}(hg:g<W.heap.size)(hx:g∉X):∀ {l:List Tree} {i:Nat},KidsAt W X g i l->KidsAt W' X g i l
 | [],_,_=>trivial
 |_::_,_,hn=>⟨NodeAt.kp hk hg hx hn.1,KidsAt.kp hk hg hx hn.2⟩
end
theorem KidsOk.kp{W W':World}{X:List Nat}(hk:Kp X W W'){A:Option Addr}{l:List Tree}(h:KidsOk W X A l):KidsOk W' X A l:=by
 rcases h with h2|⟨g',e,h3,h4,h5⟩
 ·exact .inl h2
 exact .inr ⟨g',e,h3,yu h4 hk.size,KidsAt.kp hk h4 h3 h5⟩
theorem xT{ty:TypeId}{bx:Nat}:∀ (r:List Value) (i:Nat) (W:World) (cs:Array Value),Lies W bx ty cs->i+r.length=cs.size->Lies (W.setCells bx i r) bx ty (cs.toList.take i++r).toArray
 | [],i,_,cs,h,hl=>by
  have:(cs.toList.take i++[]).toArray=cs:=by
   rw[List.append_nil,List.take_of_length_le (by simp at hl;simp;omega)]
  rw[this];exact h
 |v::r,i,_,cs,h,hl=>by
  have h1:=xT r (i+1) _ _ (h.put i v) (by simp at hl ⊢;omega);have hi:i<cs.toList.length:=by simp at hl ⊢;omega
  have e:((cs.setIfInBounds i v).toList.take (i+1)++r).toArray=(cs.toList.take i++v::r).toArray:=by
   congr 1
   rw[Array.toList_setIfInBounds,yw (by simpa using hi),List.getElem_set_self,List.take_set_of_le zr];simp
  rw[<- e];exact h1
theorem aQ{Y:List Nat}{a:World}{bx:Nat}(hb:bx∈Y\/a.heap.size<=bx):∀ (r:List Value) (i:Nat) {W:World},Kp Y a W->Kp Y a (W.setCells bx i r)
 | [],_,_,h=>h
 |v::r,i,_,h=>aQ hb r (i+1) (h.set hb i v)
theorem fK{bx g:Nat}{t:TypeId}{cs:Array Value}(hb:g≠bx):∀ (r:List Value) (i:Nat) {W:World},Lies W g t cs->Lies (W.setCells bx i r) g t cs
 | [],_,_,h=>h
 |v::r,i,_,h=>fK hb r (i+1) (aK h hb i v)
theorem Lies.range{w:World}{b:Nat}{t:TypeId}{C:Array Value}(h:Lies w b t C):w.rangeAt b 0 C.toList:=fun j v hv=>by
 rw[Nat.zero_add,h.cell j];simpa using hv
theorem Lies.thereA{w:World}{b:Nat}{t:TypeId}{C:Array Value}(h:Lies w b t C):w.there b 0 C.size:=fun j hj=>
 ⟨by rw[Nat.zero_add,h.cell j,Array.getElem?_eq_getElem hj];rfl,h.frozen _⟩
theorem Lies.putAll{w:World}{b:Nat}{t:TypeId}{C:Array Value}(h:Lies w b t C){vs:List Value}(hl:vs.length=C.size):Lies (w.setCells b 0 vs) b t vs.toArray:=by
 have:=xT vs 0 w C h (by omega);simpa using this
abbrev aA:List Value:=[.int .i64 0,.int .i64 0,.int .i64 0,.int .i64 0,.string ⟨#[]⟩,.bool false,.int .i64 0,.string ⟨#[]⟩,.int .i64 0,.int .i64 0,.int .i64 0,.int .i64 0,.bool false,.bool false,.int .i64 0,.int .i64 0,.int .i64 0,.int .i64 0,.bool false,.bool false,.int .i64 0,.slice none 0 0]
abbrev zM:Array Value:=#[.int .i64 0,.int .i64 0,.int .i64 0,.int .i64 0,.string ⟨#[]⟩,.bool false,.int .i64 0,.string ⟨#[]⟩,.int .i64 0,.int .i64 0,.int .i64 0,.int .i64 0,.bool false,.bool false,.int .i64 0,.int .i64 0,.int .i64 0,.int .i64 0,.bool false,.bool false,.int .i64 0,.slice none 0 0]
theorem bB:aA.toArray.all (·.oneCell')=true:=by simp[aA,Value.oneCell']
theorem aE:(Tryz.prog.info? 41).map (·.size)=some 22:=by kernel_rfl
theorem fv{C:List Value}(h:C.length=22):(Tryz.prog.info? 41).map (·.size)=some C.toArray.size:=by rw[yd,h];exact aE
set_option maxRecDepth 100000 in
theorem iJ(E:Env)(hE:E.ok)(k op nd pl er:Nat)(cs:List Value)(fb:cs.length=22)(h1:cs.toArray.all (·.oneCell')=true)(w:World)(hI:InE E k op nd pl er w)(hn:nd<=1000000) :
  Calls Tryz.prog 48 #[.pointer (some ⟨E.r,0,none⟩),.agg cs.toArray] w (Step E w k op (nd+1) pl er (.agg (if 256<nd+1 then aA.toArray else cs.toArray))):=by
 have hP:∀ W',Kp [E.r] w W'->Lies W' E.r 66 (rdC E k op (nd+1) pl er)->∀ v,Step E w k op (nd+1) pl er v (.returned v) W':=fun W' h1 h2 v=>⟨rfl,hI.wrote hE h1 h2,h1⟩
 have HP:=zh hP;have hR:=zh hI.rd;have hrs:=hI.rd.lt;have hni:(nd:Int)<=1000000:=by omega
 clear hP hI;generalize hr:E.r=r at *;have H22:=zh fb;have H1:=zh h1;clear fb h1
 go_enter Tryz.func48,Tryz.ntmps48
 go_upto_region 1 with fail
 have ee:Hid (Kp [r] w ((w.alloc (.cells cs.toArray 41)).alloc (.cells aA.toArray 41))):=zh (((Kp.refl _ w).alloc _).alloc _);have de:Hid (Lies ((w.alloc (.cells cs.toArray 41)).alloc (.cells aA.toArray 41)) r 66 (rdC E k op nd pl er)):=zh ((hR.out.alloc _).alloc _);have jf:Hid (Lies ((w.alloc (.cells cs.toArray 41)).alloc (.cells aA.toArray 41)) w.heap.size 41 cs.toArray):=zh ((Lies.new w _ _).alloc _);have HZ1:Hid (Lies ((w.alloc (.cells cs.toArray 41)).alloc (.cells aA.toArray 41)) (w.heap.size+1) 41 aA.toArray):=zh (by
  have h:=Lies.new (w.alloc (.cells cs.toArray 41)) 41 aA.toArray;rw[World.size_alloc]at h;exact h)
 clear hR;simp only[aA]at ee de jf HZ1;generalize (w.alloc (.cells cs.toArray 41)).alloc (.cells zM 41)=W1 at ee de jf HZ1 ⊢;have hqr:w.heap.size≠r:=by omega
 have hqr2:w.heap.size+1≠r:=by omega
 generalize fa:w.heap.size=q at hqr hqr2 jf HZ1 ⊢;rw[fa]at hrs;have qw:=zh fa;clear fa;have x3:=de.out.cell 3;have f3:=de.out.frozen 3;simp only[za,zb,zf]at x3
 go_upto_region 2 with fail
 have cq:Hid (Kp [r] w (W1.setCell ⟨r,3,none⟩ (.int .i64 ((nd:Int)+1)))):=zh (ee.out.set (.inl (.head _)) 3 _);have ce:Hid (Lies (W1.setCell ⟨r,3,none⟩ (.int .i64 ((nd:Int)+1))) r 66 (rdC E k op (nd+1) pl er)):=zh (de.out.put 3 _);have ft:=zh (aK jf.out hqr 3 (.int .i64 ((nd:Int)+1)));have rn:=zh (aK HZ1.out hqr2 3 (.int .i64 ((nd:Int)+1)));generalize W1.setCell ⟨r,3,none⟩ (.int .i64 ((nd:Int)+1))=W2 at *;clear ee de jf HZ1 x3 f3;have x3:=ce.out.cell 3;simp only[za,zb,zf]at x3;have HL:Hid (W2.rangeAt q 0 cs):=zh (by simpa using ft.out.range);have HT:Hid (W2.there (q+1) 0 22):=zh rn.out.thereA;have zi:(Tryz.prog.info? 41).map (·.size)=some cs.length:=by rw[H22.out];exact aE
 by_cases tu:256<nd+1
 ·have hbi:(256:Int)<(nd:Int)+1:=by omega
  rw[if_pos tu];have ig:=zh (aQ (bx:=q+1) (.inr (by rw[qw.out];exact Nat.le_succ _)) aA 0 cq.out);have ev:=zh (fK (Ne.symm hqr2) aA 0 ce.out);have HZ3:=zh (rn.out.putAll (vs:=aA) rfl)
  go_wp2_with (first |(refine yq rfl 41 (.tmp 4) (.tmp 17) rfl (q+1) 0 aA.toArray rfl rfl HT.out aE bB ?_;change wpList _ _ _ _ _ (W2.setCells (q+1) 0 aA);generalize W2.setCells (q+1) 0 aA=W3 at ig ev HZ3 ⊢))
  exact yt (results_cell_row rfl _ _ (q+1) _ _ _ _ rfl HZ3.out Tryz.underlying41 rfl aE) rfl (HP.out _ ig.out ev.out _)
 have hbi:¬ (256:Int)<(nd:Int)+1:=by omega
 rw[if_neg tu];have ig:=zh (aQ (bx:=q+1) (.inr (by rw[qw.out];exact Nat.le_succ _)) cs 0 cq.out);have ev:=zh (fK (Ne.symm hqr2) cs 0 ce.out);have HZ3:=zh (rn.out.putAll (vs:=cs) H22.out)
 go_wp2_with (first |(refine yr rfl 41 (.tmp 3) rfl q 0 rfl cs _ HL.out Tryz.underlying41 rfl zi ?_) |(refine yq rfl 41 (.tmp 4) (.tmp 18) rfl (q+1) 0 cs.toArray rfl rfl (by rw[yd,H22.out];exact HT.out) (by rw[yd];exact zi) H1.out ?_;change wpList _ _ _ _ _ (W2.setCells (q+1) 0 cs);generalize W2.setCells (q+1) 0 cs=W3 at ig ev HZ3 ⊢))
 exact yt (results_cell_row rfl _ _ (q+1) _ _ _ _ rfl HZ3.out Tryz.underlying41 rfl (by rw[yd];exact zi)) rfl (HP.out _ ig.out ev.out _)
abbrev arV(a b:Cor):Value:=.agg #[.int .i64 a.row.a,.int .i64 a.row.n,.int .i64 a.col.a,.int .i64 a.col.n,.bool a.fr,.bool a.fc,.int .i64 b.row.a,.int .i64 b.row.n,.int .i64 b.col.a,.int .i64 b.col.n,.bool b.fr,.bool b.fc]
set_option maxRecDepth 100000 in
theorem eql_area(a b a2 b2:Cor)(w:World):(binOp .eql 38 (arV a b) (arV a2 b2)).run Tryz.prog w=.ok (.bool (decide (a=a2)&&decide (b=b2))) w:=by
 obtain⟨⟨x0,x1⟩,⟨x2,x3⟩,x4,x5⟩:=a;obtain⟨⟨x6,x7⟩,⟨x8,x9⟩,xa,xb⟩:=b;obtain⟨⟨y0,y1⟩,⟨y2,y3⟩,y4,y5⟩:=a2;obtain⟨⟨y6,y7⟩,⟨y8,y9⟩,ya,yb⟩:=b2;dsimp only[arV]
 go_simp
 by_cases h0:x0=y0
 case neg=>simp[h0]
 by_cases h1:x1=y1
 case neg=>simp[h0,h1]
 by_cases h2:x2=y2
 case neg=>simp[h0,h1,h2]
 by_cases h3:x3=y3
 case neg=>simp[h0,h1,h2,h3]
 by_cases h4:x4=y4
 case neg=>simp[h0,h1,h2,h3,h4]
 by_cases h5:x5=y5
 case neg=>simp[h0,h1,h2,h3,h4,h5]
 by_cases h6:x6=y6
 case neg=>simp[h0,h1,h2,h3,h4,h5,h6]
 by_cases h7:x7=y7
 case neg=>simp[h0,h1,h2,h3,h4,h5,h6,h7]
 by_cases h8:x8=y8
 case neg=>simp[h0,h1,h2,h3,h4,h5,h6,h7,h8]
 by_cases h9:x9=y9
 case neg=>simp[h0,h1,h2,h3,h4,h5,h6,h7,h8,h9]
 by_cases ha:xa=ya
 case neg=>simp[h0,h1,h2,h3,h4,h5,h6,h7,h8,h9,ha]
 by_cases hb:xb=yb
 case neg=>simp[h0,h1,h2,h3,h4,h5,h6,h7,h8,h9,ha,hb]
 simp[h0,h1,h2,h3,h4,h5,h6,h7,h8,h9,ha,hb]
set_option maxRecDepth 100000 in
theorem neq_area(a b a2 b2:Cor)(w:World):(binOp .neq 38 (arV a b) (arV a2 b2)).run Tryz.prog w=.ok (.bool (!(decide (a=a2)&&decide (b=b2)))) w:=by
 obtain⟨⟨x0,x1⟩,⟨x2,x3⟩,x4,x5⟩:=a;obtain⟨⟨x6,x7⟩,⟨x8,x9⟩,xa,xb⟩:=b;obtain⟨⟨y0,y1⟩,⟨y2,y3⟩,y4,y5⟩:=a2;obtain⟨⟨y6,y7⟩,⟨y8,y9⟩,ya,yb⟩:=b2;dsimp only[arV]
 go_simp
 by_cases h0:x0=y0
 case neg=>simp[h0]
 by_cases h1:x1=y1
 case neg=>simp[h0,h1]
 by_cases h2:x2=y2
 case neg=>simp[h0,h1,h2]
 by_cases h3:x3=y3
 case neg=>simp[h0,h1,h2,h3]
 by_cases h4:x4=y4
 case neg=>simp[h0,h1,h2,h3,h4]
 by_cases h5:x5=y5
 case neg=>simp[h0,h1,h2,h3,h4,h5]
 by_cases h6:x6=y6
 case neg=>simp[h0,h1,h2,h3,h4,h5,h6]
 by_cases h7:x7=y7
 case neg=>simp[h0,h1,h2,h3,h4,h5,h6,h7]
 by_cases h8:x8=y8
 case neg=>simp[h0,h1,h2,h3,h4,h5,h6,h7,h8]
 by_cases h9:x9=y9
 case neg=>simp[h0,h1,h2,h3,h4,h5,h6,h7,h8,h9]
 by_cases ha:xa=ya
 case neg=>simp[h0,h1,h2,h3,h4,h5,h6,h7,h8,h9,ha]
 by_cases hb:xb=yb
 case neg=>simp[h0,h1,h2,h3,h4,h5,h6,h7,h8,h9,ha,hb]
 simp[h0,h1,h2,h3,h4,h5,h6,h7,h8,h9,ha,hb]
theorem neq_val(a b:Val)(w:World):(binOp .neq 32 (.agg #[.int .i64 a.kind,.int .i64 a.mant,.int .i64 a.exp,.string ⟨a.text.toArray⟩,.bool a.truth,.int .i64 a.fault]) (.agg #[.int .i64 b.kind,.int .i64 b.mant,.int .i64 b.exp,.string ⟨b.text.toArray⟩,.bool b.truth,.int .i64 b.fault])).run Tryz.prog w=.ok (.bool (!cS a b)) w:=by
 obtain⟨x0,x1,x2,x3,x4,x5⟩:=a;obtain⟨y0,y1,y2,y3,y4,y5⟩:=b;unfold cS;dsimp only
 go_simp
 by_cases h0:x0=y0
 case neg=>simp[h0]
 by_cases h1:x1=y1
 case neg=>simp[h0,h1]
 by_cases h2:x2=y2
 case neg=>simp[h0,h1,h2]
 by_cases h3:x3=y3
 case neg=>simp[h0,h1,h2,h3]
 by_cases h4:x4=y4
 case neg=>simp[h0,h1,h2,h3,h4]
 by_cases h5:x5=y5
 case neg=>simp[h0,h1,h2,h3,h4,h5]
 simp[h0,h1,h2,h3,h4,h5]
theorem jX:(Tryz.prog.info? 32).map (·.size)=some 6:=by kernel_rfl
theorem jW:(Tryz.prog.info? 38).map (·.size)=some 12:=by kernel_rfl
def NodeIn(W:World)(g o:Nat)(h:NodeH)(A:Option Addr)(n c:Nat):Prop:=g<W.heap.size/\∀ j,j<22->W.cell? ⟨g,o+j,none⟩=(bC h A n c)[j]?
theorem NodeIn.kp{W W':World}{g o:Nat}{h:NodeH}{A:Option Addr}{n c:Nat}(hn:NodeIn W g o h A n c)(hk:Kp [] W W'):NodeIn W' g o h A n c :=
 ⟨yu hn.1 hk.size,fun j hj=>(hk.cell hn.1 (by simp)).trans (hn.2 j hj)⟩
theorem NodeIn.sub{W:World}{g o:Nat}{h:NodeH}{A:Option Addr}{n c:Nat}(hn:NodeIn W g o h A n c)(j:Nat)(cs:List Value)(hj:j+cs.length<=22)(hs:((bC h A n c).toList.drop j).take cs.length=cs):W.rangeAt g (o+j) cs:=fun k v hv=>by
 have hk:k<cs.length:=(List.getElem?_eq_some_iff.1 hv).1;have key:=List.getElem?_take_of_lt (l:=(bC h A n c).toList.drop j) hk;rw[hs,hv,List.getElem?_drop]at key;rw[show o+j+k=o+(j+k) by omega,hn.2 (j+k) (by omega),key];simp
def TreeIn(W:World)(t:Tree)(cs:Array Value):Prop:=∃ A cp,cs=bC t.h A t.l.length cp/\KidsOk W [] A t.l
theorem TreeIn.kp{W W':World}{t:Tree}{cs:Array Value}(h:TreeIn W t cs)(hk:Kp [] W W'):TreeIn W' t cs:=by
 obtain⟨A,cp,h1,h2⟩:=h;exact⟨A,cp,h1,h2.kp hk⟩
theorem KidsAt.get{W:World}{X:List Nat}{g:Nat}:∀ {l:List Tree} {j:Nat} (i:Nat) (hi:i<l.length),KidsAt W X g j l->NodeAt W X g ((j+i)*22) l[i]
 | [],_,_,hi,_=>absurd hi (by simp)
 |t::r,j,0,_,h=>h.1
 |t::r,j,i+1,hi,h=>by
  have:=KidsAt.get (l:=r) (j:=j+1) i (by simpa using hi) h.2;rw[show j+(i+1)=j+1+i by omega];exact this
theorem jR{W:World}{A:Option Addr}{l:List Tree}(h:KidsOk W [] A l)(i:Nat)(hi:i<l.length):∃ g ci,A=some ⟨g,0,none⟩/\(ci:List Value).length=22/\∀ W',Kp [] W W'->W'.rangeAt g (i*22) ci/\TreeIn W' l[i] ci.toArray:=by
 rcases h with h|⟨g,hA,hx,hg,hk⟩
 ·subst h;exact absurd hi (by simp)
 have hn:=KidsAt.get i hi hk;rw[Nat.zero_add]at hn;generalize l[i]=t at *;cases t with
 |mk th tl=>
  obtain⟨A2,c2,h1,h2⟩:=hn;refine⟨g,(bC th A2 tl.length c2).toList,hA,rfl,fun W' jn=>⟨fun j v hv=>?_,⟨A2,c2,rfl,KidsOk.kp jn h2⟩⟩⟩;have hj:j<22:=(List.getElem?_eq_some_iff.1 hv).1;rw[jn.cell hg (by simp),h1 j hj];rw[<- hv];simp
theorem oA:∀ {l l':List Tree},l.length=l'.length->(jL l l'=true↔∀ i (h:i<l.length) (h':i<l'.length),l[i].same l'[i]=true)
 | [],[],_=>by simp[jL]
 | [],_::_,h=>by simp at h
 |_::_,[],h=>by simp at h
 |t::r,t'::r',h=>by
  have ih:=oA (l:=r) (l':=r') (by simpa using h);unfold jL;rw[yh,ih];constructor
  ·rintro⟨h1,h2⟩ i hi hi';cases i with
   |zero=>exact h1
   |succ i=>exact h2 i (by simpa using hi) (by simpa using hi')
  intro h1;exact⟨h1 0 (by simp) (by simp),fun i hi hi'=>h1 (i+1) (by simpa using hi) (by simpa using hi')⟩
theorem yA:∀ {l l':List Tree},l.length≠l'.length->jL l l'=false
 | [],[],h=>absurd rfl h
 | [],_::_,_=>by simp[jL]
 |_::_,[],_=>by simp[jL]
 |t::r,t'::r',h=>by
  unfold jL;rw[yA (l:=r) (l':=r') (by simpa using h),Bool.and_false]
theorem iN{t:Tree}{i:Nat}(hi:i<t.l.length):(t.l[i]).size<t.size:=by
 cases t with
 |mk h l=>
  show l[i].size<bH l+1;have key:∀ (l:List Tree) (i:Nat) (hi:i<l.length),l[i].size<=bH l:=by
   intro l
   induction l with
   |nil=>intro i hi;exact absurd hi (by simp)
   |cons u r ih=>
    intro i hi;unfold bH;cases i with
    |zero=>simp only[List.getElem_cons_zero];omega
    |succ i=>have:=ih i (by simpa using hi);simp only[List.getElem_cons_succ];omega
  have:=key l i hi;omega
theorem Lies.sub{w:World}{b:Nat}{t:TypeId}{C:Array Value}(h:Lies w b t C)(o:Nat)(cs:List Value)(hs:(C.toList.drop o).take cs.length=cs):w.rangeAt b o cs:=fun j v hv=>by
 have hj:j<cs.length:=(List.getElem?_eq_some_iff.1 hv).1;have key:=List.getElem?_take_of_lt (l:=C.toList.drop o) hj;rw[hs,hv,List.getElem?_drop]at key;rw[h.cell,key];simp
theorem dK:∀ (l:List Tree),l.length<=bH l
 | []=>zm _
 |t::r=>by
  have:=dK r;have h1:1<=t.size:=by cases t;unfold Tree.size;omega
  unfold bH;rw[yi];omega
theorem qJ{P:Program}{w:World}(mty kt et:TypeId){d:TypeDesc}(r clock:Nat)(es:Array MapEntry)(s val:Value)(hm:P.underlying mty=some (.map kt et))(hk:P.underlying kt=some d)(hs:MapKept.IsKey d s)(hb:w.heap[r]?=some (.map es clock))(hf:Instr.findNow d s es.toList 0=some none) :
  (Instr.mapUpdate mty (.map (some r)) s val).run P w=.ok () { w with heap:=w.heap.setIfInBounds r (.map (es.push { key:=s,val:=val,born:=clock }) (clock+1)) }:=by
 have hc:(Instr.checkKey false 10000 kt s).run P w=.ok () w:=MapKept.run_checkKey hk hs false 9999;simp[Instr.mapUpdate,run_underlying hm,MapKept.run_getObj_map hb,hc,MapKept.run_findKey hk hf,MapKept.run_setObj_map _ hb,Result.andThen]
def cZ(W:World)(q:Nat)(es:Array MapEntry)(c:Nat):World:={ W with heap:=W.heap.setIfInBounds q (.map es c) }
theorem nR(W:World)(q:Nat)(es:Array MapEntry)(c:Nat):(cZ W q es c).heap.size=W.heap.size:=Array.size_setIfInBounds ..
theorem pJ{B q:Nat}{W:World}(h:B<=q)(es:Array MapEntry)(c:Nat):Below B W (cZ W q es c) :=
 ⟨rfl,rfl,rfl,by rw[nR];exact zr,fun k hk=>Array.getElem?_setIfInBounds_ne (by omega)⟩
theorem sF{W:World}{q:Nat}(h:q<W.heap.size)(es:Array MapEntry)(c:Nat):(cZ W q es c).heap[q]?=some (.map es c):=by
 show (W.heap.setIfInBounds _ _)[_]?=_;rw[Array.getElem?_setIfInBounds_self_of_lt h]
theorem pC{W:World}{q b:Nat}(h:b≠q)(es:Array MapEntry)(c:Nat):(cZ W q es c).heap[b]?=W.heap[b]?:=by
 show (W.heap.setIfInBounds _ _)[_]?=_;rw[Array.getElem?_setIfInBounds_ne (Ne.symm h)]
theorem bV{P:Program}{ops:Array Oper}{rest:List Oper}{op:Oper}{a:Act}{w:World}{Q:Exit->Act->World->Prop}(hgd:op.guard=none)(mty:TypeId)(m k v:Operand)(ho:op.op=.insert mty m k v){W':World}(hr:(Instr.mapUpdate mty (a.eval m) (a.eval k) (a.eval v)).run P w=.ok () W')(h:wpList P ops Q rest (a.put op.dst undef) W'):wpList P ops Q (op::rest) a w :=
 wpList_plain hgd fun K hK=>by
  unfold Oper.wp execOp;simp only[ho,Sem.run_bind,hr,Sem.run_pure,Result.andThen_ok];exact hK _ _ h
structure SM(q:Nat)(es:Array MapEntry)(c:Nat)(done:List (List Bs))(w W:World):Prop where
 size:W.heap.size=q+1+done.length
 out:W.heap[q]?=some (.map es c)
 ins:∀ i (h:i<done.length),W.heap[q+1+i]?=some (.map (jM done[i]) done[i].length)
 bel:Below q w W
theorem SM.zero(w:World):SM w.heap.size #[] 0 [] w (w.alloc (.map #[] 0)) :=
 ⟨by rw[World.size_alloc];rfl,heap_alloc_new w _,fun i h=>absurd h (Nat.not_lt_zero _),(Below.refl _ w).alloc zr _⟩
theorem SM.new{q c:Nat}{es:Array MapEntry}{done:List (List Bs)}{w W:World}(h:SM q es c done w W):SM q es c (done++[[]]) w (W.alloc (.map #[] 0)):=by
 obtain⟨h1,h2,h3,h4⟩:=h;have hs:(W.alloc (.map #[] 0)).heap.size=W.heap.size+1:=World.size_alloc ..;refine⟨by rw[hs,h1,yl];rfl,?_,fun i hi=>?_,h4.alloc (by omega) _⟩
 ·rw[Below.heap_alloc _ _ _ (by omega)];exact h2
 rw[yl]at hi;simp only[List.length_singleton]at hi;by_cases hd:i<done.length
 ·rw[Below.heap_alloc _ _ _ (by omega),List.getElem_append_left hd];exact h3 i hd
 have hid:i=done.length:=by omega
 subst hid;rw[<- h1,heap_alloc_new];simp[jM]
theorem SM.putO{q c:Nat}{es:Array MapEntry}{done:List (List Bs)}{w W:World}(h:SM q es c done w W)(es':Array MapEntry)(c':Nat):SM q es' c' done w (cZ W q es' c'):=by
 obtain⟨h1,h2,h3,h4⟩:=h;refine⟨by rw[nR];exact h1,sF (by omega) _ _,fun i hi=>?_,h4.trans (pJ zr _ _)⟩;rw[pC (by omega)];exact h3 i hi
theorem uGK(l:List Bs)(s:Bs):(jM l).push { key:=.string ⟨s.toArray⟩,val:=.bool true,born:=l.length }=jM (l++[s]):=by
 simp[jM,List.mapIdx_append]
theorem SM.putI{q c:Nat}{es:Array MapEntry}{done:List (List Bs)}{l:List Bs}{w W:World}(h:SM q es c (done++[l]) w W)(s:Bs):SM q es c (done++[l++[s]]) w (cZ W (q+1+done.length) ((jM l).push { key:=.string ⟨s.toArray⟩,val:=.bool true,born:=l.length }) (l.length+1)):=by
 obtain⟨h1,h2,h3,h4⟩:=h;rw[yl]at h1;simp only[List.length_singleton]at h1;refine⟨by rw[nR,yl];exact h1,by rw[pC (by omega)];exact h2,fun i hi=>?_,h4.trans (pJ (by omega) _ _)⟩;rw[yl]at hi;simp only[List.length_singleton]at hi;by_cases hd:i<done.length
 ·have:=h3 i (by rw[yl];omega);rw[pC (by omega),this,List.getElem_append_left hd,List.getElem_append_left hd]
 have hid:i=done.length:=by omega
 subst hid;rw[sF (by omega),uGK];simp
theorem uSgI:Tryz.prog.underlying 89=some (.map 9 4):=by kernel_rfl
theorem uSgO:Tryz.prog.underlying 63=some (.map 3 89):=by kernel_rfl
theorem uInt:Tryz.prog.underlying 3=some (.int .i64):=by kernel_rfl
theorem SM.runI{q c:Nat}{es:Array MapEntry}{done:List (List Bs)}{l:List Bs}{w W:World}(h:SM q es c (done++[l]) w W)(s:Bs){b:Nat}(hb:b=q+1+done.length)(hf:Instr.findNow .string (.string ⟨s.toArray⟩) (jM l).toList 0=some none) :
  (Instr.mapUpdate 89 (.map (some b)) (.string ⟨s.toArray⟩) (.bool true)).run Tryz.prog W=.ok () (cZ W (q+1+done.length) ((jM l).push { key:=.string ⟨s.toArray⟩,val:=.bool true,born:=l.length }) (l.length+1)):=by
 subst hb;have:=h.ins done.length (by rw[yl];simp);rw[List.getElem_append_right zr]at this;simp at this;exact qJ _ _ _ _ _ _ _ _ uSgI Tryz.underlying9 trivial this hf
theorem SM.runO{q c:Nat}{es:Array MapEntry}{done:List (List Bs)}{w W:World}(h:SM q es c done w W)(j:Int)(b:Nat)(hf:Instr.findNow (.int .i64) (.int .i64 j) es.toList 0=some none) :
  (Instr.mapUpdate 63 (.map (some q)) (.int .i64 j) (.map (some b))).run Tryz.prog W=.ok () (cZ W q (es.push { key:=.int .i64 j,val:=.map (some b),born:=c }) (c+1)) :=
 qJ _ _ _ _ _ _ _ _ uSgO uInt rfl h.out hf
theorem SM.done{w W:World}(h:SM w.heap.size (yB w.heap.size) 6 eU w W):SgIn W w.heap.size :=
 ⟨h.out,fun i hi=>⟨_,h.ins i hi⟩⟩
set_option maxRecDepth 100000 in
theorem uDA(w:World):Calls Tryz.prog 23 #[] w fun e w'=>e=.returned (.map (some w.heap.size))/\SgIn w' w.heap.size/\Below w.heap.size w w':=by
 have HP:Hid (∀ W',SM w.heap.size (yB w.heap.size) 6 eU w W'->SgIn W' w.heap.size/\Below w.heap.size w W'):=zh (fun W' h=>⟨h.done,h.bel⟩);have S0:=zh (SM.zero w);have hmm:=@run_makeMap Tryz.prog;generalize hq:w.heap.size=q at *;have HQ:=zh hq
 go_enter Tryz.func23,Tryz.ntmps23
 go_wp2_with (first
  |(refine bV rfl 89 (.tmp 2) (.const (.string ⟨#[61]⟩)) (.const (.bool true)) rfl (SM.runI (done:=([]:List (List Bs))) (l:=([]:List Bs)) S0.out.new [61] (by simp) rfl) ?_;have S1:=zh (SM.putI (done:=([]:List (List Bs))) (l:=([]:List Bs)) S0.out.new [61]);generalize cZ _ _ _ _=W1 at S1 ⊢;clear S0;have S1:Hid (SM q #[] 0 [[[61]]] w W1):=S1)
  |(refine bV rfl 89 (.tmp 2) (.const (.string ⟨#[60,62]⟩)) (.const (.bool true)) rfl (SM.runI (done:=([]:List (List Bs))) (l:=[[61]]) S1.out [60,62] (by simp) rfl) ?_;have S2:=zh (SM.putI (done:=([]:List (List Bs))) (l:=[[61]]) S1.out [60,62]);generalize cZ _ _ _ _=W2 at S2 ⊢;clear S1;have S2:Hid (SM q #[] 0 [[[61],[60,62]]] w W2):=S2)
  |(refine bV rfl 89 (.tmp 2) (.const (.string ⟨#[60]⟩)) (.const (.bool true)) rfl (SM.runI (done:=([]:List (List Bs))) (l:=[[61],[60,62]]) S2.out [60] (by simp) rfl) ?_;have S3:=zh (SM.putI (done:=([]:List (List Bs))) (l:=[[61],[60,62]]) S2.out [60]);generalize cZ _ _ _ _=W3 at S3 ⊢;clear S2;have S3:Hid (SM q #[] 0 [[[61],[60,62],[60]]] w W3):=S3)
  |(refine bV rfl 89 (.tmp 2) (.const (.string ⟨#[60,61]⟩)) (.const (.bool true)) rfl (SM.runI (done:=([]:List (List Bs))) (l:=[[61],[60,62],[60]]) S3.out [60,61] (by simp) rfl) ?_;have S4:=zh (SM.putI (done:=([]:List (List Bs))) (l:=[[61],[60,62],[60]]) S3.out [60,61]);generalize cZ _ _ _ _=W4 at S4 ⊢;clear S3;have S4:Hid (SM q #[] 0 [[[61],[60,62],[60],[60,61]]] w W4):=S4)
  |(refine bV rfl 89 (.tmp 2) (.const (.string ⟨#[62]⟩)) (.const (.bool true)) rfl (SM.runI (done:=([]:List (List Bs))) (l:=[[61],[60,62],[60],[60,61]]) S4.out [62] (by simp) rfl) ?_;have S5:=zh (SM.putI (done:=([]:List (List Bs))) (l:=[[61],[60,62],[60],[60,61]]) S4.out [62]);generalize cZ _ _ _ _=W5 at S5 ⊢;clear S4;have S5:Hid (SM q #[] 0 [[[61],[60,62],[60],[60,61],[62]]] w W5):=S5)
  |(refine bV rfl 89 (.tmp 2) (.const (.string ⟨#[62,61]⟩)) (.const (.bool true)) rfl (SM.runI (done:=([]:List (List Bs))) (l:=[[61],[60,62],[60],[60,61],[62]]) S5.out [62,61] (by simp) rfl) ?_;have S6:=zh (SM.putI (done:=([]:List (List Bs))) (l:=[[61],[60,62],[60],[60,61],[62]]) S5.out [62,61]);generalize cZ _ _ _ _=W6 at S6 ⊢;clear S5;have S6:Hid (SM q #[] 0 [[[61],[60,62],[60],[60,61],[62],[62,61]]] w W6):=S6)
  |(refine bV rfl 63 (.tmp 1) (.const (.int .i64 0)) (.tmp 3) rfl (SM.runO S6.out 0 (q+1) rfl) ?_;have S7:=zh (SM.putO S6.out ((#[]:Array MapEntry).push { key:=.int .i64 0,val:=.map (some (q+1)),born:=0 }) (0+1));generalize cZ _ _ _ _=W7 at S7 ⊢;clear S6;have S7:Hid (SM q #[⟨.int .i64 0,.map (some (q+1)),0⟩] 1 [[[61],[60,62],[60],[60,61],[62],[62,61]]] w W7):=S7;have z7:W7.heap.size=q+2:=S7.out.size)
  |(refine bV rfl 89 (.tmp 4) (.const (.string ⟨#[38]⟩)) (.const (.bool true)) rfl (SM.runI (done:=[[[61],[60,62],[60],[60,61],[62],[62,61]]]) (l:=([]:List Bs)) S7.out.new [38] (by simp) rfl) ?_;have S8:=zh (SM.putI (done:=[[[61],[60,62],[60],[60,61],[62],[62,61]]]) (l:=([]:List Bs)) S7.out.new [38]);generalize cZ _ _ _ _=W8 at S8 ⊢;clear S7;have S8:Hid (SM q #[⟨.int .i64 0,.map (some (q+1)),0⟩] 1 [[[61],[60,62],[60],[60,61],[62],[62,61]],[[38]]] w W8):=S8)
  |(refine bV rfl 63 (.tmp 1) (.const (.int .i64 1)) (.tmp 5) rfl (SM.runO S8.out 1 (q+2) rfl) ?_;have S9:=zh (SM.putO S8.out ((#[⟨.int .i64 0,.map (some (q+1)),0⟩]:Array MapEntry).push { key:=.int .i64 1,val:=.map (some (q+2)),born:=1 }) (1+1));generalize cZ _ _ _ _=W9 at S9 ⊢;clear S8;have S9:Hid (SM q #[⟨.int .i64 0,.map (some (q+1)),0⟩,⟨.int .i64 1,.map (some (q+2)),1⟩] 2 [[[61],[60,62],[60],[60,61],[62],[62,61]],[[38]]] w W9):=S9;have z9:W9.heap.size=q+3:=S9.out.size)
  |(refine bV rfl 89 (.tmp 6) (.const (.string ⟨#[43]⟩)) (.const (.bool true)) rfl (SM.runI (done:=[[[61],[60,62],[60],[60,61],[62],[62,61]],[[38]]]) (l:=([]:List Bs)) S9.out.new [43] (by simp) rfl) ?_;have S10:=zh (SM.putI (done:=[[[61],[60,62],[60],[60,61],[62],[62,61]],[[38]]]) (l:=([]:List Bs)) S9.out.new [43]);generalize cZ _ _ _ _=W10 at S10 ⊢;clear S9;have S10:Hid (SM q #[⟨.int .i64 0,.map (some (q+1)),0⟩,⟨.int .i64 1,.map (some (q+2)),1⟩] 2 [[[61],[60,62],[60],[60,61],[62],[62,61]],[[38]],[[43]]] w W10):=S10)
  |(refine bV rfl 89 (.tmp 6) (.const (.string ⟨#[45]⟩)) (.const (.bool true)) rfl (SM.runI (done:=[[[61],[60,62],[60],[60,61],[62],[62,61]],[[38]]]) (l:=[[43]]) S10.out [45] (by simp) rfl) ?_;have S11:=zh (SM.putI (done:=[[[61],[60,62],[60],[60,61],[62],[62,61]],[[38]]]) (l:=[[43]]) S10.out [45]);generalize cZ _ _ _ _=W11 at S11 ⊢;clear S10;have S11:Hid (SM q #[⟨.int .i64 0,.map (some (q+1)),0⟩,⟨.int .i64 1,.map (some (q+2)),1⟩] 2 [[[61],[60,62],[60],[60,61],[62],[62,61]],[[38]],[[43],[45]]] w W11):=S11)
  |(refine bV rfl 63 (.tmp 1) (.const (.int .i64 2)) (.tmp 7) rfl (SM.runO S11.out 2 (q+3) rfl) ?_;have S12:=zh (SM.putO S11.out ((#[⟨.int .i64 0,.map (some (q+1)),0⟩,⟨.int .i64 1,.map (some (q+2)),1⟩]:Array MapEntry).push { key:=.int .i64 2,val:=.map (some (q+3)),born:=2 }) (2+1));generalize cZ _ _ _ _=W12 at S12 ⊢;clear S11;have S12:Hid (SM q #[⟨.int .i64 0,.map (some (q+1)),0⟩,⟨.int .i64 1,.map (some (q+2)),1⟩,⟨.int .i64 2,.map (some (q+3)),2⟩] 3 [[[61],[60,62],[60],[60,61],[62],[62,61]],[[38]],[[43],[45]]] w W12):=S12;have z12:W12.heap.size=q+4:=S12.out.size)
  |(refine bV rfl 89 (.tmp 8) (.const (.string ⟨#[42]⟩)) (.const (.bool true)) rfl (SM.runI (done:=[[[61],[60,62],[60],[60,61],[62],[62,61]],[[38]],[[43],[45]]]) (l:=([]:List Bs)) S12.out.new [42] (by simp) rfl) ?_;have S13:=zh (SM.putI (done:=[[[61],[60,62],[60],[60,61],[62],[62,61]],[[38]],[[43],[45]]]) (l:=([]:List Bs)) S12.out.new [42]);generalize cZ _ _ _ _=W13 at S13 ⊢;clear S12;have S13:Hid (SM q #[⟨.int .i64 0,.map (some (q+1)),0⟩,⟨.int .i64 1,.map (some (q+2)),1⟩,⟨.int .i64 2,.map (some (q+3)),2⟩] 3 [[[61],[60,62],[60],[60,61],[62],[62,61]],[[38]],[[43],[45]],[[42]]] w W13):=S13)
  |(refine bV rfl 89 (.tmp 8) (.const (.string ⟨#[47]⟩)) (.const (.bool true)) rfl (SM.runI (done:=[[[61],[60,62],[60],[60,61],[62],[62,61]],[[38]],[[43],[45]]]) (l:=[[42]]) S13.out [47] (by simp) rfl) ?_;have S14:=zh (SM.putI (done:=[[[61],[60,62],[60],[60,61],[62],[62,61]],[[38]],[[43],[45]]]) (l:=[[42]]) S13.out [47]);generalize cZ _ _ _ _=W14 at S14 ⊢;clear S13;have S14:Hid (SM q #[⟨.int .i64 0,.map (some (q+1)),0⟩,⟨.int .i64 1,.map (some (q+2)),1⟩,⟨.int .i64 2,.map (some (q+3)),2⟩] 3 [[[61],[60,62],[60],[60,61],[62],[62,61]],[[38]],[[43],[45]],[[42],[47]]] w W14):=S14)
  |(refine bV rfl 63 (.tmp 1) (.const (.int .i64 3)) (.tmp 9) rfl (SM.runO S14.out 3 (q+4) rfl) ?_;have S15:=zh (SM.putO S14.out ((#[⟨.int .i64 0,.map (some (q+1)),0⟩,⟨.int .i64 1,.map (some (q+2)),1⟩,⟨.int .i64 2,.map (some (q+3)),2⟩]:Array MapEntry).push { key:=.int .i64 3,val:=.map (some (q+4)),born:=3 }) (3+1));generalize cZ _ _ _ _=W15 at S15 ⊢;clear S14;have S15:Hid (SM q #[⟨.int .i64 0,.map (some (q+1)),0⟩,⟨.int .i64 1,.map (some (q+2)),1⟩,⟨.int .i64 2,.map (some (q+3)),2⟩,⟨.int .i64 3,.map (some (q+4)),3⟩] 4 [[[61],[60,62],[60],[60,61],[62],[62,61]],[[38]],[[43],[45]],[[42],[47]]] w W15):=S15;have z15:W15.heap.size=q+5:=S15.out.size)
  |(refine bV rfl 89 (.tmp 10) (.const (.string ⟨#[94]⟩)) (.const (.bool true)) rfl (SM.runI (done:=[[[61],[60,62],[60],[60,61],[62],[62,61]],[[38]],[[43],[45]],[[42],[47]]]) (l:=([]:List Bs)) S15.out.new [94] (by simp) rfl) ?_;have S16:=zh (SM.putI (done:=[[[61],[60,62],[60],[60,61],[62],[62,61]],[[38]],[[43],[45]],[[42],[47]]]) (l:=([]:List Bs)) S15.out.new [94]);generalize cZ _ _ _ _=W16 at S16 ⊢;clear S15;have S16:Hid (SM q #[⟨.int .i64 0,.map (some (q+1)),0⟩,⟨.int .i64 1,.map (some (q+2)),1⟩,⟨.int .i64 2,.map (some (q+3)),2⟩,⟨.int .i64 3,.map (some (q+4)),3⟩] 4 [[[61],[60,62],[60],[60,61],[62],[62,61]],[[38]],[[43],[45]],[[42],[47]],[[94]]] w W16):=S16)
  |(refine bV rfl 63 (.tmp 1) (.const (.int .i64 4)) (.tmp 11) rfl (SM.runO S16.out 4 (q+5) rfl) ?_;have S17:=zh (SM.putO S16.out ((#[⟨.int .i64 0,.map (some (q+1)),0⟩,⟨.int .i64 1,.map (some (q+2)),1⟩,⟨.int .i64 2,.map (some (q+3)),2⟩,⟨.int .i64 3,.map (some (q+4)),3⟩]:Array MapEntry).push { key:=.int .i64 4,val:=.map (some (q+5)),born:=4 }) (4+1));generalize cZ _ _ _ _=W17 at S17 ⊢;clear S16;have S17:Hid (SM q #[⟨.int .i64 0,.map (some (q+1)),0⟩,⟨.int .i64 1,.map (some (q+2)),1⟩,⟨.int .i64 2,.map (some (q+3)),2⟩,⟨.int .i64 3,.map (some (q+4)),3⟩,⟨.int .i64 4,.map (some (q+5)),4⟩] 5 [[[61],[60,62],[60],[60,61],[62],[62,61]],[[38]],[[43],[45]],[[42],[47]],[[94]]] w W17):=S17;have z17:W17.heap.size=q+6:=S17.out.size)
  |(refine bV rfl 89 (.tmp 12) (.const (.string ⟨#[43]⟩)) (.const (.bool true)) rfl (SM.runI (done:=[[[61],[60,62],[60],[60,61],[62],[62,61]],[[38]],[[43],[45]],[[42],[47]],[[94]]]) (l:=([]:List Bs)) S17.out.new [43] (by simp) rfl) ?_;have S18:=zh (SM.putI (done:=[[[61],[60,62],[60],[60,61],[62],[62,61]],[[38]],[[43],[45]],[[42],[47]],[[94]]]) (l:=([]:List Bs)) S17.out.new [43]);generalize cZ _ _ _ _=W18 at S18 ⊢;clear S17;have S18:Hid (SM q #[⟨.int .i64 0,.map (some (q+1)),0⟩,⟨.int .i64 1,.map (some (q+2)),1⟩,⟨.int .i64 2,.map (some (q+3)),2⟩,⟨.int .i64 3,.map (some (q+4)),3⟩,⟨.int .i64 4,.map (some (q+5)),4⟩] 5 [[[61],[60,62],[60],[60,61],[62],[62,61]],[[38]],[[43],[45]],[[42],[47]],[[94]],[[43]]] w W18):=S18)
  |(refine bV rfl 89 (.tmp 12) (.const (.string ⟨#[45]⟩)) (.const (.bool true)) rfl (SM.runI (done:=[[[61],[60,62],[60],[60,61],[62],[62,61]],[[38]],[[43],[45]],[[42],[47]],[[94]]]) (l:=[[43]]) S18.out [45] (by simp) rfl) ?_;have S19:=zh (SM.putI (done:=[[[61],[60,62],[60],[60,61],[62],[62,61]],[[38]],[[43],[45]],[[42],[47]],[[94]]]) (l:=[[43]]) S18.out [45]);generalize cZ _ _ _ _=W19 at S19 ⊢;clear S18;have S19:Hid (SM q #[⟨.int .i64 0,.map (some (q+1)),0⟩,⟨.int .i64 1,.map (some (q+2)),1⟩,⟨.int .i64 2,.map (some (q+3)),2⟩,⟨.int .i64 3,.map (some (q+4)),3⟩,⟨.int .i64 4,.map (some (q+5)),4⟩] 5 [[[61],[60,62],[60],[60,61],[62],[62,61]],[[38]],[[43],[45]],[[42],[47]],[[94]],[[43],[45]]] w W19):=S19)
  |(refine bV rfl 63 (.tmp 1) (.const (.int .i64 5)) (.tmp 13) rfl (SM.runO S19.out 5 (q+6) rfl) ?_;have S20:=zh (SM.putO S19.out ((#[⟨.int .i64 0,.map (some (q+1)),0⟩,⟨.int .i64 1,.map (some (q+2)),1⟩,⟨.int .i64 2,.map (some (q+3)),2⟩,⟨.int .i64 3,.map (some (q+4)),3⟩,⟨.int .i64 4,.map (some (q+5)),4⟩]:Array MapEntry).push { key:=.int .i64 5,val:=.map (some (q+6)),born:=5 }) (5+1));generalize cZ _ _ _ _=W20 at S20 ⊢;clear S19;have S20:Hid (SM q #[⟨.int .i64 0,.map (some (q+1)),0⟩,⟨.int .i64 1,.map (some (q+2)),1⟩,⟨.int .i64 2,.map (some (q+3)),2⟩,⟨.int .i64 3,.map (some (q+4)),3⟩,⟨.int .i64 4,.map (some (q+5)),4⟩,⟨.int .i64 5,.map (some (q+6)),5⟩] 6 [[[61],[60,62],[60],[60,61],[62],[62,61]],[[38]],[[43],[45]],[[42],[47]],[[94]],[[43],[45]]] w W20):=S20;have z20:W20.heap.size=q+7:=S20.out.size))
 go_ret
 exact⟨rfl,HP.out _ S20.out⟩
theorem capVal(c:UInt8)(h:cD c=true):65<=c.toNat/\c.toNat<=90:=by
 unfold cD at h;simpa using h
theorem uEA(l:Bs)(k:Nat)(h:k<l.length):eC (l.take (k+1))=eC (l.take k)*26+(l[k].toNat-65)+1:=by
 rw[yw h,tN]
theorem colOf_bd(l:Bs)(h:∀ c∈l,cD c=true)(k:Nat)(hk:k<=3):eC (l.take k)<=18278:=by
 have st:∀ j,j<l.length->eC (l.take (j+1))<=eC (l.take j)*26+26:=fun j hj=>by
  have:=capVal _ (h l[j] (List.getElem_mem hj));rw[uEA l j hj];omega
 have z:eC (l.take 0)=0:=rfl;have step:∀ j,eC (l.take (j+1))<=eC (l.take j)*26+26:=fun j=>by
  by_cases hj:j<l.length
  ·exact st j hj
  rw[List.take_of_length_le (by omega),List.take_of_length_le (by omega)];omega
 have s0:eC (l.take 1)<=eC (l.take 0)*26+26:=step 0;have s1:eC (l.take 2)<=eC (l.take 1)*26+26:=step 1;have s2:eC (l.take 3)<=eC (l.take 2)*26+26:=step 2;rw[z]at s0
 match k,hk with
 |0,_=>rw[z];omega
 |1,_=>omega
 |2,_=>omega
 |3,_=>omega
structure ItIn(l:Bs)(w:World)(pos:Nat)(wr:World):Prop where
 le:pos<=l.length
 it:wr.heap[w.heap.size]?=some (.stringIter ⟨l.toArray⟩ pos)
 bel:Below w.heap.size w wr
theorem ItIn.start(l:Bs)(w:World):ItIn l w 0 (w.iter ⟨l.toArray⟩ 0) :=
 ⟨zm _,by have:=World.iter_heap w ⟨l.toArray⟩ 0;simpa using this,by unfold World.iter;exact(Below.refl _ w).alloc zr _⟩
theorem ItIn.next{l:Bs}{w wr:World}{pos:Nat}(h:ItIn l w pos wr)(hp:pos<l.length):ItIn l w (pos+1) (wr.iterAt w.heap.size ⟨l.toArray⟩ (pos+1)) :=
 ⟨hp,Lib.iterAt_heap wr _ _ pos _ h.it,Lib.below_iterAt h.bel (k:=w.heap.size) zr ⟨l.toArray⟩ (pos+1)⟩
theorem ItIn.pos{l:Bs}{w wr:World}{pos:Nat}(h:ItIn l w pos wr):wr.iterPos w.heap.size=pos:=by unfold World.iterPos;rw[h.it]
theorem ItIn.run{l:Bs}{w wr:World}{pos:Nat}(h:ItIn l w pos wr)(hp:pos<l.length)(ha:l[pos].toNat<128)(ty:TypeId) :
  (Instr.next (.pointer (some ⟨w.heap.size,0,none⟩)) true ty).run Tryz.prog wr=.ok (.tuple #[.bool true,.int .i64 pos,.int .i32 (l[pos].toNat:Int)]) (wr.iterAt w.heap.size ⟨l.toArray⟩ (pos+1)):=by
 have qu:pos<(ByteArray.mk l.toArray).size:=by simpa [ByteArray.size] using hp
 have hg:(ByteArray.mk l.toArray)[pos]=l[pos]:=zU l pos qu;have:=Lib.run_next_ascii_at (P:=Tryz.prog) wr w.heap.size ⟨l.toArray⟩ pos ty h.it qu (by rw[hg];exact ha);rw[hg]at this;exact this
theorem ItIn.stop{l:Bs}{w wr:World}{pos:Nat}(h:ItIn l w pos wr)(hp:¬ pos<l.length)(ty:TypeId) :
  (Instr.next (.pointer (some ⟨w.heap.size,0,none⟩)) true ty).run Tryz.prog wr=.ok (.tuple #[.bool false]) wr :=
 Lib.run_next_end_at (P:=Tryz.prog) wr w.heap.size ⟨l.toArray⟩ pos ty h.it (by simpa [ByteArray.size] using hp)
theorem uFN(l:Bs)(k:Nat)(h:k<l.length):aY (eG (l.take (k+1)))=10*aY (eG (l.take k))+(l[k].toNat-48):=by
 rw[yw h,uAK];exact mJ _ _
theorem uBS(l:Bs)(h:AllDig l)(h7:l.length<=7)(k:Nat):aY (eG (l.take k))<=9999999:=by
 have hd:Dig (eG (l.take k)):=by
  intro d hd;unfold eG at hd;obtain⟨c,hc,rfl⟩:=yj.1 hd;have:=(dJ c).1 (h c (List.mem_of_mem_take hc));omega
 have h1:=nK _ hd;have h2:(eG (l.take k)).length<=7:=by rw[jV,zc];omega
 have h3:(10:Nat) ^ (eG (l.take k)).length<=10 ^ 7:=Nat.pow_le_pow_right (by omega) h2;omega
theorem Lies.below{w w':World}{g:Nat}{t:TypeId}{cs:Array Value}(h:Lies w g t cs)(hb:Below w.heap.size w w'):Lies w' g t cs:=(hb.block g h.lt).trans h
set_option maxRecDepth 100000 in
theorem uJV(m e:Int)(w:World)(h1:-9223372036854775808<m)(h2:m<=9223372036854775807)(hR:cO m e=true) :
  Calls Tryz.prog 139 #[sV m e] w fun x w'=>x=.returned (sV (-m) e)/\Below w.heap.size w w':=by
 have C:=zh (fun W=>rJ m e W (by omega) h2);rw[hR]at C;have HB:Hid (Below w.heap.size w ((w.alloc (.cells #[.int .i64 m,.int .i64 e] 30)).alloc (.cells #[.int .i64 0,.int .i64 0] 30))):=zh (((Below.refl _ w).alloc zr _).alloc (by simp) _);have T0:Hid (NumIn w m e ((w.alloc (.cells #[.int .i64 m,.int .i64 e] 30)).alloc (.cells #[.int .i64 0,.int .i64 0] 30))):=zh ((NumIn.start w m e).next (zp _));have HL:Hid (Lies ((w.alloc (.cells #[.int .i64 m,.int .i64 e] 30)).alloc (.cells #[.int .i64 0,.int .i64 0] 30)) (w.heap.size+1) 30 #[.int .i64 0,.int .i64 0]):=zh (by have:=Lies.new (w.alloc (.cells #[.int .i64 m,.int .i64 e] 30)) 30 #[.int .i64 0,.int .i64 0];simpa using this);clear hR
 go_enter Tryz.func139,Tryz.ntmps139
 go_wp2_with fail
 refine(C.out _).mono ?_;rintro x w1 ⟨rfl,hb⟩;have nf:=zh (Lies.below HL.out hb);have T1:=zh (T0.out.next hb);clear hb HB HL T0 C;obtain⟨g0,g1,g2,g3⟩:=T1.out;have q0:=nf.out.cell 0;have q1:=nf.out.cell 1;have f0:=nf.out.frozen 0;have f1:=nf.out.frozen 1;have hlt:=nf.out.lt;have eo:=zh g3;simp only[za,zb,zf]at q0 q1
 go_wp2_with fail
 refine yt (v:=.agg #[.int .i64 (-m),.int .i64 e]) (by simp[results,Tryz.results139,go_sem,q0,q1]) rfl ?_;exact⟨rfl,((eo.out.setCell (p:=⟨w.heap.size+1,0,none⟩) (Nat.le_succ _) _).setCell (p:=⟨w.heap.size+1,1,none⟩) (Nat.le_succ _) _)⟩
abbrev kC(row col:Int)(fr fc:Bool):Value:=.agg #[.int .i64 row,.int .i64 col,.bool fr,.bool fc]
theorem Lies.off{w:World}{g:Nat}{t:TypeId}{cs:Array Value}(h:Lies w g t cs){b o:Nat}(hb:g≠b)(u:Value):Lies (w.setCell ⟨b,o,none⟩ u) g t cs :=
 (Below.heap_setCell w ⟨b,o,none⟩ u g hb).trans h
theorem Lies.mark{w:World}{R:Nat}{a b c d:Value}(h:Lies w R 150 #[a,b,c,d]):w.cell? ⟨R,0,none⟩=some a/\w.cell? ⟨R,1,none⟩=some b/\w.cell? ⟨R,2,none⟩=some c/\w.cell? ⟨R,3,none⟩=some d/\w.frozen? ⟨R,0,none⟩=false/\w.frozen? ⟨R,1,none⟩=false/\w.frozen? ⟨R,2,none⟩=false/\w.frozen? ⟨R,3,none⟩=false/\R<w.heap.size:=⟨h.cell 0,h.cell 1,h.cell 2,h.cell 3,h.frozen 0,h.frozen 1,h.frozen 2,h.frozen 3,h.lt⟩
theorem yU(c:UInt8)(h:aJ c=true):(((65<=(c.toNat:Int))/\(c.toNat:Int)<=90)\/((97<=(c.toNat:Int))/\(c.toNat:Int)<=122)):=by
 unfold aJ at h;simp at h;omega
end Go.Proofs.YtmgjidnalpgegaaGreatDoor
