/-
  Lemmas, part 13: ParP ParO PlFo PlSim.
-/
import Derived.Test.YtmgjidnalpgegaaGreatDoorPr12
set_option maxHeartbeats 100000000
namespace Go.Proofs.YtmgjidnalpgegaaGreatDoor
open Go.RowKit
structure GC(ops:Array Oper)(S:List Nat)(T:List (Nat×Nat×Value))(X:World)(R F:World->Prop)(ic is:Nat)(a0:Act)(zl:Array Bool)(a:Act)(w:World):Prop where
 off:Off S a0 a
 pt:PT T zl a
 dn:∀ i o,ops[i]?=some o->Up zl i->∀ e∈o.after,Region.binds .any e=true->Up zl e.on
 w0:¬ Up zl ic->w=X
 w1:Up zl ic->¬ Up zl is->R w
 w2:Up zl is->Up zl ic/\F w
def okC(nums:List (Nat×Nat))(S:List Nat)(is N:Nat):Bool :=
 nums.all (fun e=>e.1 != is&&S.contains e.2&&decide (e.2<N))&&decide (nums.Pairwise (fun p q=>p.1≠q.1/\p.2≠q.2))
def jL(ops:Array Oper):Nat->Nat->Nat->Bool
 |0,a,b=>a==b
 |f+1,a,b=>a==b||((ops[a]?).map fun o=>o.after.any fun e=>Region.binds .any e&&jL ops f e.on b).getD false
section
variable {ops:Array Oper} {S:List Nat} {T:List (Nat×Nat×Value)} {X w:World} {R F:World->Prop} {ic is N:Nat} {a0 a:Act} {zl:Array Bool} {Q:Exit->Act->World->Prop} {o:Oper}
theorem xQ(hk:okC (T.map fun e=>(e.1,e.2.1)) S is N=true){e:Nat×Nat×Value}(he:e∈T):e.1≠is/\e.2.1∈S/\e.2.1<N:=by
 simp only[okC,yh,List.all_eq_true,bne_iff_ne,decide_eq_true_eq,List.contains_iff_mem,yj,forall_exists_index,and_imp,forall_apply_eq_imp_iff₂]at hk;obtain⟨⟨g1,g2⟩,g3⟩:=hk.1 e he;exact⟨g1,g2,g3⟩
theorem oX(hk:okC (T.map fun e=>(e.1,e.2.1)) S is N=true){e e':Nat×Nat×Value}(he:e∈T)(gr:e'∈T)(hs:e.1=e'.1\/e.2.1=e'.2.1):e=e':=by
 by_cases heq:e=e'
 ·exact heq
 exfalso
 simp only[okC,yh,decide_eq_true_eq,List.pairwise_map]at hk;have h2:=hk.2;have key:∀ l:List (Nat×Nat×Value),l.Pairwise (fun p q=>p.1≠q.1/\p.2.1≠q.2.1)->∀ x∈l,∀ y∈l,x≠y->x.1≠y.1/\x.2.1≠y.2.1:=by
  intro l
  induction l with
  |nil=>intro _ x hx;cases hx
  |cons c l ih=>
   intro hp x hx y hy bp;rw[List.pairwise_cons]at hp;rcases ym.1 hx with ex|hx <;> rcases ym.1 hy with ey|hy
   ·exact absurd (ex.trans ey.symm) bp
   ·rw[ex];exact hp.1 y hy
   ·rw[ey];exact⟨fun e=>(hp.1 x hx).1 e.symm,fun e=>(hp.1 x hx).2 e.symm⟩
   exact ih hp.2 x hx y hy bp
 have:=key T h2 e he e' gr heq;rcases hs with hs|hs
 ·exact this.1 hs
 exact this.2 hs
theorem kP(hd:∀ i o,ops[i]?=some o->Up zl i->∀ e∈o.after,Region.binds .any e=true->Up zl e.on):∀ (f a b:Nat),jL ops f a b=true->Up zl a->Up zl b
 |0,a,b,h,hu=>by
  simp only[jL,beq_iff_eq]at h;rw[<- h];exact hu
 |f+1,a,b,h,hu=>by
  simp only[jL,Bool.or_eq_true,beq_iff_eq]at h;rcases h with h|h
  ·rw[<- h];exact hu
  cases ho:ops[a]? with
  |none=>rw[ho]at h;cases h
  |some o=>
   rw[ho]at h;simp only[Option.map_some,Option.getD_some,Array.any_eq_true',yh]at h;obtain⟨e,he,hb,hr⟩:=h;exact kP hd f e.on b hr (hd a o ho hu e he hb)
theorem GC.start(a:Act)(m:Nat)(hX:w=X):GC ops S T X R F ic is a (Array.replicate m false) a w :=
 ⟨Off.refl _ _,PT.start _ _ _,fun _ _ _ h=>absurd h (Up.none _ _),fun _=>hX,fun h=>absurd h (Up.none _ _),fun h=>absurd h (Up.none _ _)⟩
theorem GC.fresh(hI:GC ops S T X R F ic is a0 zl a w){i:Nat}(aa:zl.getD i true=false)(hr:jL ops 40 ic i=true):w=X :=
 hI.w0 (fun h=>gJ aa (kP hI.dn 40 ic i hr h))
theorem GC.dn_set(hI:GC ops S T X R F ic is a0 zl a w){i:Nat}(aa:zl.getD i true=false)(ho:ops[i]?=some o)(zd:∀ e∈o.after,Region.binds .any e=true->Up zl e.on) :
  ∀ j o',ops[j]?=some o'->Up (zl.setIfInBounds i true) j->∀ e∈o'.after,Region.binds .any e=true->Up (zl.setIfInBounds i true) e.on:=by
 intro j o' hj hu e he hb;have hi:=Up.of_false aa;rcases(Up.set hi).1 hu with rfl|hu
 ·rw[ho]at hj;injection hj with hj;subst hj;exact eC hi (zd e he hb)
 exact eC hi (hI.dn j o' hj hu e he hb)
theorem bT(hk:okC (T.map fun e=>(e.1,e.2.1)) S is N=true)(hI:GC ops S T X R F ic is a0 zl a w)(hN:N<=a0.tmps.size){i s:Nat}{v:Value}(he:(i,s,v)∈T)(bp:i≠ic)(aa:zl.getD i true=false)(ho:ops[i]?=some o)(zd:∀ e∈o.after,Region.binds .any e=true->Up zl e.on)(hg:o.guard=none)(hd:o.dst=some s)
  (hr:(execOp a.eval o).run Tryz.prog w=.ok (.value v) w):wpOp Tryz.prog ops Q i (GC ops S T X R F ic is a0 (zl.setIfInBounds i true)) a w:=by
 have hi:=Up.of_false aa;obtain⟨h1,h2,h3⟩:=xQ hk he;refine gC ho hg (mV v hr ?_);rw[hd];have jy:∀ {k},k≠i->(Up (zl.setIfInBounds i true) k↔Up zl k):=fun bp=>⟨fun h=>jO hi h bp,fun h=>eC hi h⟩
 refine⟨hI.off.put h2 v,hI.pt.step hi (by rw[hI.off.size];exact yu h3 hN) (fun e' gr hs=>by rw[oX hk gr he (.inr hs)]) (fun e' gr hs=>by rw[oX hk gr he (.inl hs)]),hI.dn_set aa ho zd,?_,?_,?_⟩
 ·rw[jy (Ne.symm bp)];exact hI.w0
 ·rw[jy (Ne.symm bp),jy (Ne.symm h1)];exact hI.w1
 rw[jy (Ne.symm bp),jy (Ne.symm h1)];exact hI.w2
theorem uFQ(hk:okC (T.map fun e=>(e.1,e.2.1)) S is N=true)(hI:GC ops S T X R F ic is a0 zl a w)(hN:N<=a0.tmps.size){s:Nat}{v:Value}(he:(ic,s,v)∈T)(aa:zl.getD ic true=false)(ho:ops[ic]?=some o)(zd:∀ e∈o.after,Region.binds .any e=true->Up zl e.on)(hg:o.guard=none)(hd:o.dst=some s)(f:FuncId)(xs:Array Value)
  (hr:(execOp a.eval o).run Tryz.prog w=.ok (.enter f xs) w) (hc:Calls Tryz.prog f xs X fun e w1=>e=.returned v/\R w1):wpOp Tryz.prog ops Q ic (GC ops S T X R F ic is a0 (zl.setIfInBounds ic true)) a w:=by
 have hi:=Up.of_false aa;have hX:=hI.w0 (gJ aa);have hns:¬ Up zl is:=fun h=>gJ aa (hI.w2 h).1
 obtain⟨h1,h2,h3⟩:=xQ hk he;refine gC ho hg ?_;unfold Oper.wp;rw[hr,hX];refine hc.mono ?_;rintro e w1 ⟨rfl,hR⟩;show GC ops S T X R F ic is a0 (zl.setIfInBounds ic true) (a.put o.dst v) w1;rw[hd];have jy:∀ {k},k≠ic->(Up (zl.setIfInBounds ic true) k↔Up zl k):=fun bp=>⟨fun h=>jO hi h bp,fun h=>eC hi h⟩
 refine⟨hI.off.put h2 v,hI.pt.step hi (by rw[hI.off.size];exact yu h3 hN) (fun e' gr hs=>by rw[oX hk gr he (.inr hs)]) (fun e' gr hs=>by rw[oX hk gr he (.inl hs)]),hI.dn_set aa ho zd,?_,?_,?_⟩
 ·exact fun h=>absurd (mU hi) h
 ·exact fun _ _=>hR
 rw[jy (Ne.symm h1)];exact fun h=>absurd h hns
theorem zD(hk:okC (T.map fun e=>(e.1,e.2.1)) S is N=true)(hI:GC ops S T X R F ic is a0 zl a w)(bp:is≠ic)(aa:zl.getD is true=false)(ho:ops[is]?=some o)(zd:∀ e∈o.after,Region.binds .any e=true->Up zl e.on)(hg:o.guard=none)(hd:o.dst=none)(hic:Up zl ic)(W':World)
  (hr:R w->(execOp a.eval o).run Tryz.prog w=.ok .skip W') (hF:R w->F W'):wpOp Tryz.prog ops Q is (GC ops S T X R F ic is a0 (zl.setIfInBounds is true)) a w:=by
 have hi:=Up.of_false aa;have hR:=hI.w1 hic (gJ aa);refine gC ho hg (oC (hr hR) ?_);rw[hd];show GC ops S T X R F ic is a0 _ a _;have jy:∀ {k},k≠is->(Up (zl.setIfInBounds is true) k↔Up zl k):=fun bp=>⟨fun h=>jO hi h bp,fun h=>eC hi h⟩
 refine⟨hI.off,hI.pt.skip hi (fun e' gr=>(xQ hk gr).1),hI.dn_set aa ho zd,?_,?_,?_⟩
 ·rw[jy (Ne.symm bp)];exact fun h=>absurd hic h
 ·exact fun _ h=>absurd (mU hi) h
 exact fun _=>⟨eC hi hic,hF hR⟩
theorem pL{id:Nat}{w0:World}(F0:Act->Prop)(S:List Nat)(T:List (Nat×Nat×Value))(X:World)(R F:World->Prop)(ic is:Nat)(hm:Tryz.prog.follows .mixedOrders=true)(hb:gD ops=true)(vk:F0 a)(hX:w0.drew=X)
  (cr:∀ a0,F0 a0->∀ zl a w i o,zl.size=ops.size->GC ops S T X R F ic is a0 zl a w->zl.getD i true=false->ops[i]?=some o->(∀ e∈o.after,Region.binds .any e=true->Up zl e.on)->wpOp Tryz.prog ops Q i (GC ops S T X R F ic is a0 (zl.setIfInBounds i true)) a w)
  (da:∀ zl a' w',GC ops S T X R F ic is a zl a' w'->(∀ i,i<ops.size->Up zl i)->Q .normal a' w'):(Code.region id ops true).wp Tryz.prog Q a w0 :=
 fH hm hb F0 (GC ops S T X R F ic is) vk (GC.start _ _ hX) cr da
end
theorem fU(x y:IdR)(w:World):(binOp .neq 34 (idV x) (idV y)).run Tryz.prog w=.ok (.bool (decide (x≠y))) w:=by
 obtain⟨a,n⟩:=x;obtain⟨a2,n2⟩:=y
 go_simp
 by_cases h0:a=a2
 case neg=>simp[h0]
 by_cases h1:n=n2
 case neg=>simp[h0,h1]
 simp[h0,h1]
theorem tT{ax:Ax}{ts:List Tok}{row col:Bool}{a:Cor}(h:eK ax row col ts=.ok a):(hd ts).kind≠0:=by
 intro h0;unfold eK at h;rw[if_pos (by rw[h0];decide)]at h;cases h
set_option maxRecDepth 100000 in
theorem uHU(E:Env)(hE:E.ok)(he:E.ends)(hL:E.L.length<=1000000)(hT:E.short)(op:Nat):dP E 116 (gK E.ax) op:=by
 intro k nd pl er w hI hk hn;have CC:=zh (fun row col k pl er W h hk=>line_any E hE hL hT row col k op nd pl er W h hk);have CTy:=zh (fun k pl er W h hk hs=>kR E hE k op nd pl er [58] W h hk hL hs);have CTn:=zh (fun k pl er W h hk hs=>tZ E hE k op nd pl er [58] W h hk hs);have CN:=zh (fun k pl er cs fz h1 W h=>gI E hE k op nd pl er cs fz h1 W h (by omega));have bo:=zh ((Fs.start hI).alloc 41 aA.toArray (by decide));have HNE:=zh fU;generalize hO:gK E.ax (E.L.drop k) nd=O;have HO:Hid ((match eK E.ax true true (E.L.drop k) with
  | .error e=>fE e (E.L.drop k)
  | .ok a=>
   if isS (E.at (k+1)) [58] then match eK E.ax (decide (a.row≠id0)) (decide (a.col≠id0)) (E.L.drop (k+2)) with
    | .error e=>fE e (E.L.drop (k+2))
    | .ok b=>.ok (iP 2 a b) (E.L.drop (k+3)) (nd+1)
   else fE 6 (E.L.drop (k+1)))=O):=zh (by
  rw[<- hO];unfold gK;rw[List.tail_drop,List.tail_drop,List.tail_drop];rfl)
 have HF:Hid (k<E.L.length/\nd<=k):=zh ⟨hk,hn⟩;clear hI hO hn;simp only[aA]at bo
 go_enter Tryz.func116,Tryz.ntmps116
 go_upto_region 1 with fail
 generalize World.alloc _ _=W1 at bo ⊢;generalize hq:w.heap.size=q at bo ⊢;have ed:=zh (bo.out.alloc 41 aA.toArray (by decide));have HT:=zh (ed.out.there 0 rfl 22 rfl);have bw:=zh (ed.out.fill hE 0 rfl (cB 2 aG aG) rfl);have fq:=dL 2 aG aG;clear bo ed hq;simp only[List.set_cons_zero]at bw;generalize la:W1.heap.size=q4 at bw HT ⊢
 go_upto_region 3 with(first |(refine yq rfl 41 (.tmp 4) (.tmp 7) rfl q4 0 (cB 2 aG aG).toArray rfl rfl HT.out aF fq ?_;change wpList _ _ _ _ _ (World.setCells _ q4 0 (cB 2 aG aG));generalize World.setCells _ _ _ _=W2 at bw ⊢))
 clear HT fq la
 go_wp2_with fail
 have CC1:=zh (CC.out true true k pl er _ bw.out.ine hk);refine CC1.out.mono ?_;clear CC1;cases hR:eK E.ax true true (E.L.drop k) with
 |error e1=>
  have dc:Hid (O=.bad e1 (E.at k).place):=zh (by rw[<- HO.out,hR];rfl);rintro e w4 ⟨rfl,h1,h2⟩;have ak:=zh (bw.out.step h1 h2);clear h1 h2 bw hR;have x8:=(ak.out.li 0 rfl).cell 8;have xf8:=(ak.out.li 0 rfl).frozen 8;have x9:=(ak.out.li 0 rfl).cell 9;have xf9:=(ak.out.li 0 rfl).frozen 9;have x10:=(ak.out.li 0 rfl).cell 10;have xf10:=(ak.out.li 0 rfl).frozen 10;have x11:=(ak.out.li 0 rfl).cell 11;have xf11:=(ak.out.li 0 rfl).frozen 11;have x12:=(ak.out.li 0 rfl).cell 12;have xf12:=(ak.out.li 0 rfl).frozen 12;have x13:=(ak.out.li 0 rfl).cell 13;have xf13:=(ak.out.li 0 rfl).frozen 13;simp only[za,zb,zf]at x8 x9 x10 x11 x12 x13
  have az:Hid (Fs E w (k) op nd (E.at k).place e1 [(q4,41,(cB 2 aG aG).toArray),(q,41,aA.toArray)] ((((((w4.setCell ⟨q4,8,none⟩ (.int .i64 0)).setCell ⟨q4,9,none⟩ (.int .i64 0)).setCell ⟨q4,10,none⟩ (.int .i64 0)).setCell ⟨q4,11,none⟩ (.int .i64 0)).setCell ⟨q4,12,none⟩ (.bool false)).setCell ⟨q4,13,none⟩ (.bool false))):=zh ((((((ak.out.put hE 0 rfl 8 _).put hE 0 rfl 9 _).put hE 0 rfl 10 _).put hE 0 rfl 11 _).put hE 0 rfl 12 _).put hE 0 rfl 13 _);clear ak;dsimp only[iC]
  go_upto_region 5 with fail
  generalize World.setCell _ _ _=wb at az ⊢;have HT:=zh (az.out.there 1 rfl 22 rfl);have ag:=zh (az.out.fill hE 1 rfl aA rfl)
  go_wp2_with (first |(refine yq rfl 41 (.tmp 2) (.tmp 17) rfl q 0 aA.toArray rfl rfl HT.out aF aW ?_;change wpList _ _ _ _ _ (World.setCells _ q 0 aA);generalize World.setCells _ _ _ _=wz at ag ⊢))
  have HA:=zh (ag.out.li 1 rfl);refine yt (aM rfl rfl HA.out rfl) rfl ?_;rw[dc.out];exact cE ag.out rfl aW (by omega) (by omega) (by have:=HF.out.2;omega)
 |ok a=>
  have dc:Hid ((if isS (E.at (k+1)) [58] then match eK E.ax (decide (a.row≠id0)) (decide (a.col≠id0)) (E.L.drop (k+2)) with
    | .error e=>fE e (E.L.drop (k+2))
    | .ok b=>.ok (iP 2 a b) (E.L.drop (k+3)) (nd+1)
   else fE 6 (E.L.drop (k+1)))=O):=zh (by rw[<- HO.out,hR])
  have dq:=E.more he hk (tT hR);rintro e w4 ⟨rfl,h1,h2⟩;have ak:=zh (bw.out.step h1 h2);clear h1 h2 bw hR HO;obtain⟨⟨xa,xn⟩,⟨ya,yn⟩,mfr,mfc⟩:=a;dsimp only[iC]at dc ⊢;generalize bi:decide ((⟨xa,xn⟩:IdR)≠id0)=row at dc;generalize hcol:decide ((⟨ya,yn⟩:IdR)≠id0)=col at dc;have mi:∀ W,(binOp .neq 34 (.agg #[.int .i64 xa,.int .i64 xn]) (.agg #[.int .i64 0,.int .i64 0])).run Tryz.prog W=.ok (.bool row) W:=fun W=>by have:=HNE.out ⟨xa,xn⟩ id0 W;rw[bi]at this;exact this
  have iu:∀ W,(binOp .neq 34 (.agg #[.int .i64 ya,.int .i64 yn]) (.agg #[.int .i64 0,.int .i64 0])).run Tryz.prog W=.ok (.bool col) W:=fun W=>by have:=HNE.out ⟨ya,yn⟩ id0 W;rw[hcol]at this;exact this
  replace mi:=zh mi;replace iu:=zh iu;clear bi hcol HNE;have az:Hid (Fs E w (k+1) op nd pl er [(q4,41,(cB 2 ⟨⟨xa,xn⟩,⟨ya,yn⟩,mfr,mfc⟩ aG).toArray),(q,41,aA.toArray)] ((((((w4.setCell ⟨q4,8,none⟩ (.int .i64 xa)).setCell ⟨q4,9,none⟩ (.int .i64 xn)).setCell ⟨q4,10,none⟩ (.int .i64 ya)).setCell ⟨q4,11,none⟩ (.int .i64 yn)).setCell ⟨q4,12,none⟩ (.bool mfr)).setCell ⟨q4,13,none⟩ (.bool mfc))):=zh ((((((ak.out.put hE 0 rfl 8 _).put hE 0 rfl 9 _).put hE 0 rfl 10 _).put hE 0 rfl 11 _).put hE 0 rfl 12 _).put hE 0 rfl 13 _);have x8:=(ak.out.li 0 rfl).cell 8;have xf8:=(ak.out.li 0 rfl).frozen 8;have x9:=(ak.out.li 0 rfl).cell 9;have xf9:=(ak.out.li 0 rfl).frozen 9;have x10:=(ak.out.li 0 rfl).cell 10;have xf10:=(ak.out.li 0 rfl).frozen 10;have x11:=(ak.out.li 0 rfl).cell 11;have xf11:=(ak.out.li 0 rfl).frozen 11;have x12:=(ak.out.li 0 rfl).cell 12
  have xf12:=(ak.out.li 0 rfl).frozen 12;have x13:=(ak.out.li 0 rfl).cell 13;have xf13:=(ak.out.li 0 rfl).frozen 13;simp only[za,zb,zf]at x8 x9 x10 x11 x12 x13;clear ak
  go_upto_region 6 with fail
  generalize World.setCell _ _ _=W5 at az ⊢;clear x8 x9 x10 x11 x12 x13 xf8 xf9 xf10 xf11 xf12 xf13;by_cases b1:isS (E.at (k+1)) [58]=true
  ·rw[if_pos b1]at dc;have fm:=E.more he dq (dW b1);have CT1:=zh (CTy.out (k+1) pl er _ az.out.ine dq b1)
   go_wp2_with fail
   refine CT1.out.mono ?_;rintro e w6 ⟨rfl,h1,h2⟩;have al:=zh (az.out.step h1 h2.X);have hq64:w6.heap.size≠q4:=fun e=>by have:=al.out.lt 0 rfl;omega
   clear h1 h2 az CT1;have uu:Below w6.heap.size w6 (w6.alloc (.cells #[.int .i64 0,.int .i64 0] 34)):=(zp _);have HQ6:=zh (al.out.ine.fresh zr).nx;have c9:=zh (al.out.next uu);have f9:=zh (Lies.new w6 34 #[.int .i64 0,.int .i64 0]);clear uu al
   go_upto_region 9 with fail
   generalize World.alloc _ _=W7 at c9 f9 ⊢;generalize w6.heap.size=q6 at f9 HQ6 hq64 ⊢;have x8:=(c9.out.li 0 rfl).cell 8;have x9:=(c9.out.li 0 rfl).cell 9;have x10:=(c9.out.li 0 rfl).cell 10;have x11:=(c9.out.li 0 rfl).cell 11;simp only[za,zb,zf]at x8 x9 x10 x11;have i0:=f9.out.cell 0;have i1:=f9.out.cell 1;simp only[za,zb,zf]at i0 i1;have HSD:Hid (W7.drew.cell? ⟨q4,8,none⟩=some (.int .i64 xa)/\W7.drew.cell? ⟨q4,9,none⟩=some (.int .i64 xn)/\W7.drew.cell? ⟨q4,10,none⟩=some (.int .i64 ya)/\W7.drew.cell? ⟨q4,11,none⟩=some (.int .i64 yn)/\W7.drew.cell? ⟨q6,0,none⟩=some (.int .i64 0)/\W7.drew.cell? ⟨q6,1,none⟩=some (.int .i64 0)):=zh ⟨x8,x9,x10,x11,i0,i1⟩;clear x8 x9 x10 x11 i0 i1;cases hR:eK E.ax row col (E.L.drop (k+2)) with
   |error e1=>
    have gm:Hid (O=.bad e1 (E.at (k+2)).place):=zh (by rw[<- dc.out,hR];rfl);have CC1:=zh (CC.out row col (k+2) pl er W7.drew (c9.out.next (Below.refl _ _).drew).ine fm);rw[hR]at CC1;clear hR dc
    go_cut [5] (fun v wx=>v=.bool false/\Hid (Fs E w (k+2) op nd (E.at (k+2)).place e1 [(q4,41,(cB 2 ⟨⟨xa,xn⟩,⟨ya,yn⟩,mfr,mfc⟩ aG).toArray),(q,41,aA.toArray)] wx))
    case first=>
     obtain⟨x8,x9,x10,x11,i0,i1⟩:=HSD.out;have au:=mi.out;have ew:=iu.out;have HCB:Hid (Calls Tryz.prog 124 #[.pointer (some ⟨E.r,0,none⟩),.bool row,.bool col] W7.drew fun e w1=>e=.returned (.tuple #[.agg #[.int .i64 0,.int .i64 0,.int .i64 0,.int .i64 0,.bool false,.bool false],.bool false])/\Fs E w (k+2) op nd (E.at (k+2)).place e1 [(q4,41,(cB 2 ⟨⟨xa,xn⟩,⟨ya,yn⟩,mfr,mfc⟩ aG).toArray),(q,41,aA.toArray)] w1):=zh (CC1.out.mono (fun e w1 h=>⟨h.1,(c9.out.next (Below.refl _ _).drew).step h.2.1 h.2.2⟩))
     obtain⟨TT,ae⟩:∃ TT:List (Nat×Nat×Value),TT=[(0,24,.pointer (some ⟨E.r,0,none⟩)),(1,25,.pointer (some ⟨q4,8,none⟩)),(2,26,.pointer (some ⟨q4,8,none⟩)),(3,27,.pointer (some ⟨q4,8,none⟩)),(4,28,.agg #[.int .i64 xa,.int .i64 xn]),(5,29,.agg #[.int .i64 0,.int .i64 0]),(6,30,.bool row),(7,31,.pointer (some ⟨q4,8,none⟩)),(8,32,.pointer (some ⟨q4,8,none⟩)),(9,33,.pointer (some ⟨q4,10,none⟩)),(10,34,.agg #[.int .i64 ya,.int .i64 yn]),(11,35,.agg #[.int .i64 0,.int .i64 0]),(12,36,.bool col),(13,37,.tuple #[.agg #[.int .i64 0,.int .i64 0,.int .i64 0,.int .i64 0,.bool false,.bool false],.bool false]),(14,23,.tuple #[.agg #[.int .i64 0,.int .i64 0,.int .i64 0,.int .i64 0,.bool false,.bool false],.bool false]),(15,38,.agg #[.int .i64 0,.int .i64 0,.int .i64 0,.int .i64 0,.bool false,.bool false]),(16,39,.bool false),(17,40,.pointer (some ⟨q4,8,none⟩)),(18,41,.pointer (some ⟨q4,14,none⟩)),(20,5,.bool false)]:=⟨_,rfl⟩
     have am:=zh ae;clear ae;refine pL (fun a0=>48<=a0.tmps.size/\a0.eval (.tmp 0)=.pointer (some ⟨E.r,0,none⟩)/\a0.eval (.tmp 4)=.pointer (some ⟨q4,0,none⟩)/\a0.eval (.tmp 6)=.pointer (some ⟨q6,0,none⟩)) [24,25,26,27,28,29,30,31,32,33,34,35,36,37,23,38,39,40,41,5] TT W7.drew (fun w'=>Fs E w (k+2) op nd (E.at (k+2)).place e1 [(q4,41,(cB 2 ⟨⟨xa,xn⟩,⟨ya,yn⟩,mfr,mfc⟩ aG).toArray),(q,41,aA.toArray)] w') (fun w'=>Fs E w (k+2) op nd (E.at (k+2)).place e1 [(q4,41,(cB 2 ⟨⟨xa,xn⟩,⟨ya,yn⟩,mfr,mfc⟩ aG).toArray),(q,41,aA.toArray)] w') 13 19 (by kernel_rfl) (by kernel_rfl) ⟨by simp,rfl,rfl,rfl⟩ rfl ?_ ?_
     ·rintro a0 ⟨hs,dh,la,mu⟩ zl a1 w1 j o bg hI aa ho zd;have ae:=am.out;subst ae
      have hk:okC (([(0,24,.pointer (some ⟨E.r,0,none⟩)),(1,25,.pointer (some ⟨q4,8,none⟩)),(2,26,.pointer (some ⟨q4,8,none⟩)),(3,27,.pointer (some ⟨q4,8,none⟩)),(4,28,.agg #[.int .i64 xa,.int .i64 xn]),(5,29,.agg #[.int .i64 0,.int .i64 0]),(6,30,.bool row),(7,31,.pointer (some ⟨q4,8,none⟩)),(8,32,.pointer (some ⟨q4,8,none⟩)),(9,33,.pointer (some ⟨q4,10,none⟩)),(10,34,.agg #[.int .i64 ya,.int .i64 yn]),(11,35,.agg #[.int .i64 0,.int .i64 0]),(12,36,.bool col),(13,37,.tuple #[.agg #[.int .i64 0,.int .i64 0,.int .i64 0,.int .i64 0,.bool false,.bool false],.bool false]),(14,23,.tuple #[.agg #[.int .i64 0,.int .i64 0,.int .i64 0,.int .i64 0,.bool false,.bool false],.bool false]),(15,38,.agg #[.int .i64 0,.int .i64 0,.int .i64 0,.int .i64 0,.bool false,.bool false]),(16,39,.bool false),(17,40,.pointer (some ⟨q4,8,none⟩)),(18,41,.pointer (some ⟨q4,14,none⟩)),(20,5,.bool false)]:List (Nat×Nat×Value)).map fun e=>(e.1,e.2.1)) [24,25,26,27,28,29,30,31,32,33,34,35,36,37,23,38,39,40,41,5] 19 48=true:=by rfl
      have hj:=Up.of_false aa;have hj12:j<21:=by rw[bg]at hj;exact hj
      have e0x:a1.eval (.tmp 0)=.pointer (some ⟨E.r,0,none⟩):=(hI.off.eval (by decide)).trans dh;have e4x:a1.eval (.tmp 4)=.pointer (some ⟨q4,0,none⟩):=(hI.off.eval (by decide)).trans la;have e6x:a1.eval (.tmp 6)=.pointer (some ⟨q6,0,none⟩):=(hI.off.eval (by decide)).trans mu;rcases(by omega:j=0\/j=1\/j=2\/j=3\/j=4\/j=5\/j=6\/j=7\/j=8\/j=9\/j=10\/j=11\/j=12\/j=13\/j=14\/j=15\/j=16\/j=17\/j=18\/j=19\/j=20) with rfl|rfl|rfl|rfl|rfl|rfl|rfl|rfl|rfl|rfl|rfl|rfl|rfl|rfl|rfl|rfl|rfl|rfl|rfl|rfl|rfl<;>obtain rfl:=oi ho
      ·exact bT hk hI hs (.head _) (by decide) aa ho zd rfl rfl (by simp[execOp,go_sem,aE e0x])
      ·exact bT hk hI hs (.tail _ (.head _)) (by decide) aa ho zd rfl rfl (by simp[execOp,go_sem,aE e4x])
      ·have d1:=ud zd 1;have p1:=pk hI.pt 1 rfl d1;exact bT hk hI hs (mm 2 rfl) (by decide) aa ho zd rfl rfl (by simp[execOp,go_sem,aE p1])
      ·have d2:=ud zd 2;have p2:=pk hI.pt 2 rfl d2;exact bT hk hI hs (mm 3 rfl) (by decide) aa ho zd rfl rfl (by simp[execOp,go_sem,aE p2])
      ·have d3:=ud zd 3;have p3:=pk hI.pt 3 rfl d3;have r8:=hI.fresh aa (by kernel_rfl);subst r8;exact bT hk hI hs (mm 4 rfl) (by decide) aa ho zd rfl rfl (by simp[execOp,go_sem,aE p3,x8,x9])
      ·have r8:=hI.fresh aa (by kernel_rfl);subst r8;exact bT hk hI hs (mm 5 rfl) (by decide) aa ho zd rfl rfl (by simp[execOp,go_sem,aE e6x,i0,i1])
      ·have d4:=ud zd 4;have p4:=pk hI.pt 4 rfl d4;have d5:=ud zd 5;have p5:=pk hI.pt 5 rfl d5;exact bT hk hI hs (mm 6 rfl) (by decide) aa ho zd rfl rfl (by simp[execOp,go_sem,aE p4,aE p5,au])
      ·exact bT hk hI hs (mm 7 rfl) (by decide) aa ho zd rfl rfl (by simp[execOp,go_sem,aE e4x])
      ·have d7:=ud zd 7;have p7:=pk hI.pt 7 rfl d7;exact bT hk hI hs (mm 8 rfl) (by decide) aa ho zd rfl rfl (by simp[execOp,go_sem,aE p7])
      ·have d8:=ud zd 8;have p8:=pk hI.pt 8 rfl d8;exact bT hk hI hs (mm 9 rfl) (by decide) aa ho zd rfl rfl (by simp[execOp,go_sem,aE p8])
      ·have d9:=ud zd 9;have p9:=pk hI.pt 9 rfl d9;have r8:=hI.fresh aa (by kernel_rfl);subst r8;exact bT hk hI hs (mm 10 rfl) (by decide) aa ho zd rfl rfl (by simp[execOp,go_sem,aE p9,x10,x11])
      ·have r8:=hI.fresh aa (by kernel_rfl);subst r8;exact bT hk hI hs (mm 11 rfl) (by decide) aa ho zd rfl rfl (by simp[execOp,go_sem,aE e6x,i0,i1])
      ·have d10:=ud zd 10;have p10:=pk hI.pt 10 rfl d10;have d11:=ud zd 11;have p11:=pk hI.pt 11 rfl d11;exact bT hk hI hs (mm 12 rfl) (by decide) aa ho zd rfl rfl (by simp[execOp,go_sem,aE p10,aE p11,ew])
      ·have d0:=ud zd 0;have p0:=pk hI.pt 0 rfl d0;have d6:=ud zd 6;have p6:=pk hI.pt 6 rfl d6;have d12:=ud zd 12;have p12:=pk hI.pt 12 rfl d12;exact uFQ hk hI hs (mm 13 rfl) aa ho zd rfl rfl 124 #[.pointer (some ⟨E.r,0,none⟩),.bool row,.bool col] (by simp[go_sem,aE p0,aE p6,aE p12]) (HCB.out)
      ·have d13:=ud zd 13;have p13:=pk hI.pt 13 rfl d13;exact bT hk hI hs (mm 14 rfl) (by decide) aa ho zd rfl rfl (by simp[execOp,go_sem,aE p13])
      ·have d14:=ud zd 14;have p14:=pk hI.pt 14 rfl d14;exact bT hk hI hs (mm 15 rfl) (by decide) aa ho zd rfl rfl (by simp[execOp,go_sem,aE p14])
      ·have d14:=ud zd 14;have p14:=pk hI.pt 14 rfl d14;exact bT hk hI hs (mm 16 rfl) (by decide) aa ho zd rfl rfl (by simp[execOp,go_sem,aE p14])
      ·exact bT hk hI hs (mm 17 rfl) (by decide) aa ho zd rfl rfl (by simp[execOp,go_sem,aE e4x])
      ·have d17:=ud zd 17;have p17:=pk hI.pt 17 rfl d17;exact bT hk hI hs (mm 18 rfl) (by decide) aa ho zd rfl rfl (by simp[execOp,go_sem,aE p17])
      ·have d18:=ud zd 18;have p18:=pk hI.pt 18 rfl d18;have d15:=ud zd 15;have p15:=pk hI.pt 15 rfl d15;exact zD hk hI (by decide) aa ho zd rfl rfl (zd ⟨13,.chain⟩ (by simp) rfl) ((((((w1.setCell ⟨q4,14,none⟩ (.int .i64 0)).setCell ⟨q4,15,none⟩ (.int .i64 0)).setCell ⟨q4,16,none⟩ (.int .i64 0)).setCell ⟨q4,17,none⟩ (.int .i64 0)).setCell ⟨q4,18,none⟩ (.bool false)).setCell ⟨q4,19,none⟩ (.bool false)) (fun hR=>by
        have ld:=zh hR;have y14:=(ld.out.li 0 rfl).cell 14;have yf14:=(ld.out.li 0 rfl).frozen 14;have y15:=(ld.out.li 0 rfl).cell 15;have yf15:=(ld.out.li 0 rfl).frozen 15;have y16:=(ld.out.li 0 rfl).cell 16;have yf16:=(ld.out.li 0 rfl).frozen 16;have y17:=(ld.out.li 0 rfl).cell 17;have yf17:=(ld.out.li 0 rfl).frozen 17;have y18:=(ld.out.li 0 rfl).cell 18;have yf18:=(ld.out.li 0 rfl).frozen 18;have y19:=(ld.out.li 0 rfl).cell 19;have yf19:=(ld.out.li 0 rfl).frozen 19;simp only[za,zb,zf]at y14 y15 y16 y17 y18 y19;simp[execOp,go_sem,aE p18,aE p15,y14,yf14,y15,yf15,y16,yf16,y17,yf17,y18,yf18,y19,yf19]
        ) (fun hR=>(((((((zh hR).out.put hE 0 rfl 14 _).put hE 0 rfl 15 _).put hE 0 rfl 16 _).put hE 0 rfl 17 _).put hE 0 rfl 18 _).put hE 0 rfl 19 _))
      have d16:=ud zd 16;have p16:=pk hI.pt 16 rfl d16;exact bT hk hI hs (mm 19 rfl) (by decide) aa ho zd rfl rfl (by simp[execOp,go_sem,aE p16])
     intro zl a1 w1 hI ap;have ae:=am.out;subst ae;have hF:=(hI.w2 (ap 19 (by decide))).2;have z5:a1.eval (.tmp 5)=.bool false:=hI.pt (20,5,.bool false) (mm 19 rfl) (ap 20 (by decide));obtain⟨ff,rfl,hf⟩:=hI.off.forms;rw[<- hf 5]at z5;clear hI;simp only[List.foldl,Act.put,yz,List.set];rw[z5];simp only[Exit.then]
     go_step
     go_meet
     exact⟨rfl,zh hF⟩
    case rest=>
     obtain⟨rfl,bl⟩:=hcut;clear c9 f9 CC1 HSD HQ6
     go_upto_region 11 with fail
     have HT:=zh (bl.out.there 1 rfl 22 rfl);have ag:=zh (bl.out.fill hE 1 rfl aA rfl)
     go_wp2_with (first |(refine yq rfl 41 (.tmp 2) (.tmp 44) rfl q 0 aA.toArray rfl rfl HT.out aF aW ?_;change wpList _ _ _ _ _ (World.setCells _ q 0 aA);generalize World.setCells _ _ _ _=wz at ag ⊢))
     have HA:=zh (ag.out.li 1 rfl);refine yt (aM rfl rfl HA.out rfl) rfl ?_;rw[gm.out];exact cE ag.out rfl aW (by omega) (by omega) (by have:=HF.out.2;omega)
   |ok b=>
    have gm:Hid (O=.ok (iP 2 ⟨⟨xa,xn⟩,⟨ya,yn⟩,mfr,mfc⟩ b) (E.L.drop (k+3)) (nd+1)):=zh (by rw[<- dc.out,hR]);have t9:=E.more he fm (tT hR);obtain⟨⟨ua,un⟩,⟨va,vn⟩,nfr,nfc⟩:=b;have CC1:=zh (CC.out row col (k+2) pl er W7.drew (c9.out.next (Below.refl _ _).drew).ine fm);rw[hR]at CC1;clear hR dc
    go_cut [5] (fun v wx=>v=.bool true/\Hid (Fs E w (k+3) op nd pl er [(q4,41,(cB 2 ⟨⟨xa,xn⟩,⟨ya,yn⟩,mfr,mfc⟩ ⟨⟨ua,un⟩,⟨va,vn⟩,nfr,nfc⟩).toArray),(q,41,aA.toArray)] wx))
    case first=>
     obtain⟨x8,x9,x10,x11,i0,i1⟩:=HSD.out;have au:=mi.out;have ew:=iu.out;have HCB:Hid (Calls Tryz.prog 124 #[.pointer (some ⟨E.r,0,none⟩),.bool row,.bool col] W7.drew fun e w1=>e=.returned (.tuple #[.agg #[.int .i64 ua,.int .i64 un,.int .i64 va,.int .i64 vn,.bool nfr,.bool nfc],.bool true])/\Fs E w (k+3) op nd pl er [(q4,41,(cB 2 ⟨⟨xa,xn⟩,⟨ya,yn⟩,mfr,mfc⟩ aG).toArray),(q,41,aA.toArray)] w1):=zh (CC1.out.mono (fun e w1 h=>⟨h.1,(c9.out.next (Below.refl _ _).drew).step h.2.1 h.2.2⟩))
     obtain⟨TT,ae⟩:∃ TT:List (Nat×Nat×Value),TT=[(0,24,.pointer (some ⟨E.r,0,none⟩)),(1,25,.pointer (some ⟨q4,8,none⟩)),(2,26,.pointer (some ⟨q4,8,none⟩)),(3,27,.pointer (some ⟨q4,8,none⟩)),(4,28,.agg #[.int .i64 xa,.int .i64 xn]),(5,29,.agg #[.int .i64 0,.int .i64 0]),(6,30,.bool row),(7,31,.pointer (some ⟨q4,8,none⟩)),(8,32,.pointer (some ⟨q4,8,none⟩)),(9,33,.pointer (some ⟨q4,10,none⟩)),(10,34,.agg #[.int .i64 ya,.int .i64 yn]),(11,35,.agg #[.int .i64 0,.int .i64 0]),(12,36,.bool col),(13,37,.tuple #[.agg #[.int .i64 ua,.int .i64 un,.int .i64 va,.int .i64 vn,.bool nfr,.bool nfc],.bool true]),(14,23,.tuple #[.agg #[.int .i64 ua,.int .i64 un,.int .i64 va,.int .i64 vn,.bool nfr,.bool nfc],.bool true]),(15,38,.agg #[.int .i64 ua,.int .i64 un,.int .i64 va,.int .i64 vn,.bool nfr,.bool nfc]),(16,39,.bool true),(17,40,.pointer (some ⟨q4,8,none⟩)),(18,41,.pointer (some ⟨q4,14,none⟩)),(20,5,.bool true)]:=⟨_,rfl⟩
     have am:=zh ae;clear ae;refine pL (fun a0=>48<=a0.tmps.size/\a0.eval (.tmp 0)=.pointer (some ⟨E.r,0,none⟩)/\a0.eval (.tmp 4)=.pointer (some ⟨q4,0,none⟩)/\a0.eval (.tmp 6)=.pointer (some ⟨q6,0,none⟩)) [24,25,26,27,28,29,30,31,32,33,34,35,36,37,23,38,39,40,41,5] TT W7.drew (fun w'=>Fs E w (k+3) op nd pl er [(q4,41,(cB 2 ⟨⟨xa,xn⟩,⟨ya,yn⟩,mfr,mfc⟩ aG).toArray),(q,41,aA.toArray)] w') (fun w'=>Fs E w (k+3) op nd pl er [(q4,41,(cB 2 ⟨⟨xa,xn⟩,⟨ya,yn⟩,mfr,mfc⟩ ⟨⟨ua,un⟩,⟨va,vn⟩,nfr,nfc⟩).toArray),(q,41,aA.toArray)] w') 13 19 (by kernel_rfl) (by kernel_rfl) ⟨by simp,rfl,rfl,rfl⟩ rfl ?_ ?_
     ·rintro a0 ⟨hs,dh,la,mu⟩ zl a1 w1 j o bg hI aa ho zd;have ae:=am.out;subst ae
      have hk:okC (([(0,24,.pointer (some ⟨E.r,0,none⟩)),(1,25,.pointer (some ⟨q4,8,none⟩)),(2,26,.pointer (some ⟨q4,8,none⟩)),(3,27,.pointer (some ⟨q4,8,none⟩)),(4,28,.agg #[.int .i64 xa,.int .i64 xn]),(5,29,.agg #[.int .i64 0,.int .i64 0]),(6,30,.bool row),(7,31,.pointer (some ⟨q4,8,none⟩)),(8,32,.pointer (some ⟨q4,8,none⟩)),(9,33,.pointer (some ⟨q4,10,none⟩)),(10,34,.agg #[.int .i64 ya,.int .i64 yn]),(11,35,.agg #[.int .i64 0,.int .i64 0]),(12,36,.bool col),(13,37,.tuple #[.agg #[.int .i64 ua,.int .i64 un,.int .i64 va,.int .i64 vn,.bool nfr,.bool nfc],.bool true]),(14,23,.tuple #[.agg #[.int .i64 ua,.int .i64 un,.int .i64 va,.int .i64 vn,.bool nfr,.bool nfc],.bool true]),(15,38,.agg #[.int .i64 ua,.int .i64 un,.int .i64 va,.int .i64 vn,.bool nfr,.bool nfc]),(16,39,.bool true),(17,40,.pointer (some ⟨q4,8,none⟩)),(18,41,.pointer (some ⟨q4,14,none⟩)),(20,5,.bool true)]:List (Nat×Nat×Value)).map fun e=>(e.1,e.2.1)) [24,25,26,27,28,29,30,31,32,33,34,35,36,37,23,38,39,40,41,5] 19 48=true:=by rfl
      have hj:=Up.of_false aa;have hj12:j<21:=by rw[bg]at hj;exact hj
      have e0x:a1.eval (.tmp 0)=.pointer (some ⟨E.r,0,none⟩):=(hI.off.eval (by decide)).trans dh;have e4x:a1.eval (.tmp 4)=.pointer (some ⟨q4,0,none⟩):=(hI.off.eval (by decide)).trans la;have e6x:a1.eval (.tmp 6)=.pointer (some ⟨q6,0,none⟩):=(hI.off.eval (by decide)).trans mu;rcases(by omega:j=0\/j=1\/j=2\/j=3\/j=4\/j=5\/j=6\/j=7\/j=8\/j=9\/j=10\/j=11\/j=12\/j=13\/j=14\/j=15\/j=16\/j=17\/j=18\/j=19\/j=20) with rfl|rfl|rfl|rfl|rfl|rfl|rfl|rfl|rfl|rfl|rfl|rfl|rfl|rfl|rfl|rfl|rfl|rfl|rfl|rfl|rfl<;>obtain rfl:=oi ho
      ·exact bT hk hI hs (.head _) (by decide) aa ho zd rfl rfl (by simp[execOp,go_sem,aE e0x])
      ·exact bT hk hI hs (.tail _ (.head _)) (by decide) aa ho zd rfl rfl (by simp[execOp,go_sem,aE e4x])
      ·have d1:=ud zd 1;have p1:=pk hI.pt 1 rfl d1;exact bT hk hI hs (mm 2 rfl) (by decide) aa ho zd rfl rfl (by simp[execOp,go_sem,aE p1])
      ·have d2:=ud zd 2;have p2:=pk hI.pt 2 rfl d2;exact bT hk hI hs (mm 3 rfl) (by decide) aa ho zd rfl rfl (by simp[execOp,go_sem,aE p2])
      ·have d3:=ud zd 3;have p3:=pk hI.pt 3 rfl d3;have r8:=hI.fresh aa (by kernel_rfl);subst r8;exact bT hk hI hs (mm 4 rfl) (by decide) aa ho zd rfl rfl (by simp[execOp,go_sem,aE p3,x8,x9])
      ·have r8:=hI.fresh aa (by kernel_rfl);subst r8;exact bT hk hI hs (mm 5 rfl) (by decide) aa ho zd rfl rfl (by simp[execOp,go_sem,aE e6x,i0,i1])
      ·have d4:=ud zd 4;have p4:=pk hI.pt 4 rfl d4;have d5:=ud zd 5;have p5:=pk hI.pt 5 rfl d5;exact bT hk hI hs (mm 6 rfl) (by decide) aa ho zd rfl rfl (by simp[execOp,go_sem,aE p4,aE p5,au])
      ·exact bT hk hI hs (mm 7 rfl) (by decide) aa ho zd rfl rfl (by simp[execOp,go_sem,aE e4x])
      ·have d7:=ud zd 7;have p7:=pk hI.pt 7 rfl d7;exact bT hk hI hs (mm 8 rfl) (by decide) aa ho zd rfl rfl (by simp[execOp,go_sem,aE p7])
      ·have d8:=ud zd 8;have p8:=pk hI.pt 8 rfl d8;exact bT hk hI hs (mm 9 rfl) (by decide) aa ho zd rfl rfl (by simp[execOp,go_sem,aE p8])
      ·have d9:=ud zd 9;have p9:=pk hI.pt 9 rfl d9;have r8:=hI.fresh aa (by kernel_rfl);subst r8;exact bT hk hI hs (mm 10 rfl) (by decide) aa ho zd rfl rfl (by simp[execOp,go_sem,aE p9,x10,x11])
      ·have r8:=hI.fresh aa (by kernel_rfl);subst r8;exact bT hk hI hs (mm 11 rfl) (by decide) aa ho zd rfl rfl (by simp[execOp,go_sem,aE e6x,i0,i1])
      ·have d10:=ud zd 10;have p10:=pk hI.pt 10 rfl d10;have d11:=ud zd 11;have p11:=pk hI.pt 11 rfl d11;exact bT hk hI hs (mm 12 rfl) (by decide) aa ho zd rfl rfl (by simp[execOp,go_sem,aE p10,aE p11,ew])
      ·have d0:=ud zd 0;have p0:=pk hI.pt 0 rfl d0;have d6:=ud zd 6;have p6:=pk hI.pt 6 rfl d6;have d12:=ud zd 12;have p12:=pk hI.pt 12 rfl d12;exact uFQ hk hI hs (mm 13 rfl) aa ho zd rfl rfl 124 #[.pointer (some ⟨E.r,0,none⟩),.bool row,.bool col] (by simp[go_sem,aE p0,aE p6,aE p12]) (HCB.out)
      ·have d13:=ud zd 13;have p13:=pk hI.pt 13 rfl d13;exact bT hk hI hs (mm 14 rfl) (by decide) aa ho zd rfl rfl (by simp[execOp,go_sem,aE p13])
      ·have d14:=ud zd 14;have p14:=pk hI.pt 14 rfl d14;exact bT hk hI hs (mm 15 rfl) (by decide) aa ho zd rfl rfl (by simp[execOp,go_sem,aE p14])
      ·have d14:=ud zd 14;have p14:=pk hI.pt 14 rfl d14;exact bT hk hI hs (mm 16 rfl) (by decide) aa ho zd rfl rfl (by simp[execOp,go_sem,aE p14])
      ·exact bT hk hI hs (mm 17 rfl) (by decide) aa ho zd rfl rfl (by simp[execOp,go_sem,aE e4x])
      ·have d17:=ud zd 17;have p17:=pk hI.pt 17 rfl d17;exact bT hk hI hs (mm 18 rfl) (by decide) aa ho zd rfl rfl (by simp[execOp,go_sem,aE p17])
      ·have d18:=ud zd 18;have p18:=pk hI.pt 18 rfl d18;have d15:=ud zd 15;have p15:=pk hI.pt 15 rfl d15;exact zD hk hI (by decide) aa ho zd rfl rfl (zd ⟨13,.chain⟩ (by simp) rfl) ((((((w1.setCell ⟨q4,14,none⟩ (.int .i64 ua)).setCell ⟨q4,15,none⟩ (.int .i64 un)).setCell ⟨q4,16,none⟩ (.int .i64 va)).setCell ⟨q4,17,none⟩ (.int .i64 vn)).setCell ⟨q4,18,none⟩ (.bool nfr)).setCell ⟨q4,19,none⟩ (.bool nfc)) (fun hR=>by
        have ld:=zh hR;have y14:=(ld.out.li 0 rfl).cell 14;have yf14:=(ld.out.li 0 rfl).frozen 14;have y15:=(ld.out.li 0 rfl).cell 15;have yf15:=(ld.out.li 0 rfl).frozen 15;have y16:=(ld.out.li 0 rfl).cell 16;have yf16:=(ld.out.li 0 rfl).frozen 16;have y17:=(ld.out.li 0 rfl).cell 17;have yf17:=(ld.out.li 0 rfl).frozen 17;have y18:=(ld.out.li 0 rfl).cell 18;have yf18:=(ld.out.li 0 rfl).frozen 18;have y19:=(ld.out.li 0 rfl).cell 19;have yf19:=(ld.out.li 0 rfl).frozen 19;simp only[za,zb,zf]at y14 y15 y16 y17 y18 y19;simp[execOp,go_sem,aE p18,aE p15,y14,yf14,y15,yf15,y16,yf16,y17,yf17,y18,yf18,y19,yf19]
        ) (fun hR=>(((((((zh hR).out.put hE 0 rfl 14 _).put hE 0 rfl 15 _).put hE 0 rfl 16 _).put hE 0 rfl 17 _).put hE 0 rfl 18 _).put hE 0 rfl 19 _))
      have d16:=ud zd 16;have p16:=pk hI.pt 16 rfl d16;exact bT hk hI hs (mm 19 rfl) (by decide) aa ho zd rfl rfl (by simp[execOp,go_sem,aE p16])
     intro zl a1 w1 hI ap;have ae:=am.out;subst ae;have hF:=(hI.w2 (ap 19 (by decide))).2;have z5:a1.eval (.tmp 5)=.bool true:=hI.pt (20,5,.bool true) (mm 19 rfl) (ap 20 (by decide));obtain⟨ff,rfl,hf⟩:=hI.off.forms;rw[<- hf 5]at z5;clear hI;simp only[List.foldl,Act.put,yz,List.set];rw[z5];simp only[Exit.then]
     go_step
     go_meet
     exact⟨rfl,zh hF⟩
    case rest=>
     obtain⟨rfl,bl⟩:=hcut;clear c9 f9 CC1 HSD HQ6
     go_upto_region 12 with fail
     have CN1:=zh (CN.out (k+3) pl er (cB 2 ⟨⟨xa,xn⟩,⟨ya,yn⟩,mfr,mfc⟩ ⟨⟨ua,un⟩,⟨va,vn⟩,nfr,nfc⟩) rfl (dL 2 ⟨⟨xa,xn⟩,⟨ya,yn⟩,mfr,mfc⟩ ⟨⟨ua,un⟩,⟨va,vn⟩,nfr,nfc⟩) _ bl.out.ine);obtain⟨C,hC,ah,fd,gq⟩:=eO (nd+1) (cB 2 ⟨⟨xa,xn⟩,⟨ya,yn⟩,mfr,mfc⟩ ⟨⟨ua,un⟩,⟨va,vn⟩,nfr,nfc⟩) rfl (dL 2 ⟨⟨xa,xn⟩,⟨ya,yn⟩,mfr,mfc⟩ ⟨⟨ua,un⟩,⟨va,vn⟩,nfr,nfc⟩);rw[hC]at CN1;have yC:=zh ah;have fa:=zh fd;have m8:=zh gq;have ee:=zh (bl.out.range 0 (l:=cB 2 ⟨⟨xa,xn⟩,⟨ya,yn⟩,mfr,mfc⟩ ⟨⟨ua,un⟩,⟨va,vn⟩,nfr,nfc⟩) rfl);clear hC ah fd gq
     go_wp2_with (first |(refine yr rfl 41 (.tmp 4) rfl q4 0 rfl (cB 2 ⟨⟨xa,xn⟩,⟨ya,yn⟩,mfr,mfc⟩ ⟨⟨ua,un⟩,⟨va,vn⟩,nfr,nfc⟩) _ ee.out Tryz.underlying41 rfl aF ?_))
     refine CN1.out.mono ?_;rintro e wn ⟨rfl,au,ew⟩;have ju:=zh (bl.out.step au ew.X);clear au ew CN1 ee bl;have HT:=zh (ju.out.there 1 rfl C.toArray.size (by rw[yd,yC.out];rfl));have ag:=zh (ju.out.fill hE 1 rfl C (by rw[yC.out];rfl));have zi:=fo yC.out
     go_wp2_with (first |(refine yq rfl 41 (.tmp 2) (.tmp 47) rfl q 0 C.toArray rfl rfl HT.out zi fa.out ?_;change wpList _ _ _ _ _ (World.setCells _ q 0 C);generalize World.setCells _ _ _ _=wz at ag ⊢))
     have HA:=zh (ag.out.li 1 rfl);refine yt (aM rfl rfl HA.out (by rw[yd,yC.out])) rfl ?_;rw[gm.out];exact iU (h:=⟨2,aD,[],⟨⟨xa,xn⟩,⟨ya,yn⟩,mfr,mfc⟩,⟨⟨ua,un⟩,⟨va,vn⟩,nfr,nfc⟩,0⟩) ag.out yC.out fa.out (fun hn=>by rw[m8.out hn];rfl) (by omega) (by omega) (by have:=HF.out.2;omega) (by omega) rfl
  have b1':isS (E.at (k+1)) [58]=false:=by simpa using b1
  rw[if_neg b1]at dc;have gm:Hid (O=.bad 6 (E.at (k+1)).place):=zh dc.out.symm;have CT1:=zh (CTn.out (k+1) pl er _ az.out.ine dq b1')
  go_wp2_with fail
  refine CT1.out.mono ?_;rintro e w6 ⟨rfl,h1,h2⟩;have al:=zh (az.out.step h1 h2.X);clear h1 h2 az CT1 dc;have HT:=zh (al.out.there 1 rfl 22 rfl);have ag:=zh (al.out.fill hE 1 rfl aA rfl)
  go_wp2_with (first |(refine yq rfl 41 (.tmp 2) (.tmp 21) rfl q 0 aA.toArray rfl rfl HT.out aF aW ?_;change wpList _ _ _ _ _ (World.setCells _ q 0 aA);generalize World.setCells _ _ _ _=wz at ag ⊢))
  have HA:=zh (ag.out.li 1 rfl);refine yt (aM rfl rfl HA.out rfl) rfl ?_;rw[gm.out];exact cE ag.out rfl aW (by omega) (by omega) (by have:=HF.out.2;omega)
theorem all8(p:UInt8->Bool)(h:(List.range 256).all (fun n=>p (UInt8.ofNat n))=true)(c:UInt8):p c=true:=by
 have:=List.all_eq_true.1 h c.toNat (yg.2 c.toNat_lt)
 rwa [UInt8.ofNat_toNat]at this
theorem lZ(c:UInt8):aB (up c)=aB c:=by
 have:=all8 (fun c=>aB (up c)==aB c) (by decide +kernel) c;simpa using this
theorem pQ(c:UInt8):aJ (up c)=aJ c:=by
 have:=all8 (fun c=>aJ (up c)==aJ c) (by decide +kernel) c;simpa using this
theorem fo_e(c:UInt8):(up c=101\/up c=69)↔(c=101\/c=69):=by
 have:=all8 (fun c=>(up c==101||up c==69)==(c==101||c==69)) (by decide +kernel) c;have h2:(up c==101||up c==69)=(c==101||c==69):=by simpa using this
 have h3:((up c==101||up c==69)=true)↔((c==101||c==69)=true):=by rw[h2]
 simpa using h3
theorem fo_up(c:UInt8):up (up c)=up c:=by
 have:=all8 (fun c=>up (up c)==up c) (by decide +kernel) c;simpa using this
theorem fo_dig_id(c:UInt8)(h:aB c=true):up c=c:=by
 refine pF c ?_;unfold aB at h;unfold iE;simp at h ⊢;omega
theorem fo_eq(c d:UInt8)(hd:aJ d=false):(up c==d)=(c==d):=by
 cases hl:iE c
 ·rw[pF c hl]
 have e1:(up c==d)=false:=by
  rw[beq_eq_false_iff_ne];intro e;rw[<- e,pQ]at hd;unfold aJ at hd;unfold iE at hl;rw[hl]at hd;cases hd
 have e2:(c==d)=false:=by
  rw[beq_eq_false_iff_ne];intro e;rw[<- e]at hd;unfold aJ at hd;unfold iE at hl;rw[hl]at hd;cases hd
 rw[e1,e2]
theorem fo_fold(l:Bs):aO (aO l)=aO l:=by
 unfold aO;rw[List.map_map]
 congr 1
 funext c
 exact fo_up c
theorem sO(l:Bs)(k:Nat)(d:UInt8)(hd:aJ d=false):aX (aO l) k d=aX l k d:=by
 unfold aX aO;rw[List.getElem?_map];cases l[k]? with
 |none=>rfl
 |some c=>
  show (some (up c)==some d)=(some c==some d);have:=fo_eq c d hd;simpa using this
theorem xG(p:UInt8->Bool)(hp:∀ c,p (up c)=p c)(l:Bs):aN p (aO l)=aN p l:=by
 unfold aO
 induction l with
 |nil=>rfl
 |cons c l ih=>simp only[List.map_cons,aN,hp,ih]
theorem kZ(l:Bs)(k:Nat):(aO l).drop k=aO (l.drop k):=by unfold aO;rw[List.map_drop]
theorem uFP(l:Bs)(k:Nat):(aO l).take k=aO (l.take k):=by unfold aO;rw[List.map_take]
theorem uCT(l:Bs)(h:∀ c∈l,aB c=true):aO l=l:=by
 refine tI l (fun c hc=>?_);have:=h c hc;unfold aB at this;unfold iE;simp at this ⊢;omega
theorem uGE(p:UInt8->Bool)(l:Bs)(k:Nat)(hk:k<=aN p l):∀ c∈l.take k,p c=true:=by
 intro c hc;obtain⟨j,hj,rfl⟩:=List.getElem_of_mem hc;rw[List.getElem_take];have:=List.length_take_le' k l;have:=List.length_take_le k l;exact rO p l j (by omega) (by omega)
theorem zB(l:Bs)(k:Nat)(hk:k<=aN aB l):(aO l).take k=l.take k:=by
 rw[uFP];exact uCT _ (uGE aB l k hk)
theorem fo_pow(l:Bs):kN (aO l)=kN l:=by
 cases l with
 |nil=>rfl
 |cons c l=>
  show kN (up c::aO l)=_;unfold kN;dsimp only;rw[sO l 0 43 (by decide),sO l 0 45 (by decide)];simp only[fo_e]
  split
  ·generalize (if (aX l 0 43||aX l 0 45)=true then 1 else 0)=i;rw[kZ,xG aB lZ,eW];by_cases h:aN aB (l.drop i)=0\/i+aN aB (l.drop i)≠l.length
   ·rw[if_pos h,if_pos h]
   rw[if_neg h,if_neg h];have hl:aN aB (l.drop i)=(l.drop i).length:=by
    rw[yk];rcases Nat.lt_or_ge (aN aB (l.drop i)) 1 with h1|h1
    ·exact absurd (.inl (by omega)) h
    by_cases h2:i+aN aB (l.drop i)=l.length
    ·omega
    exact absurd (.inr h2) h
   rw[uCT (l.drop i) (fun c hc=>uGE aB (l.drop i) _ (Nat.le_of_eq hl.symm) c (by rw[List.take_length];exact hc))]
  rfl
theorem fo_numT(l:Bs):nI (aO l)=nI l:=by
 unfold nI;rw[sO l 0 45 (by decide)];dsimp only;generalize (if aX l 0 45=true then 1 else 0)=i;rw[kZ,xG aB lZ,sO l _ 46 (by decide),kZ,xG aB lZ,kZ,fo_pow,kZ,fo_pow];rw[zB (l.drop i) _ zr,zB (l.drop (i+aN aB (l.drop i)+1)) _ zr]
theorem zA(l:Bs):eB (aO l)=eB l:=by
 rw[tQ,tQ];unfold xX;rw[eW,fo_numT]
theorem uW{a b:Bs}(h:aO a=aO b):eB a=eB b:=by rw[<- zA a,<- zA b,h]
theorem lA(l:Bs)(d:UInt8)(hd:aJ d=false):Lib.hasPrefix (aO l) [d]=Lib.hasPrefix l [d]:=by
 rw[lC,lC,sO l 0 d hd]
theorem oM(l:Bs)(d:UInt8)(hd:aJ d=false):Lib.trimPrefix (aO l) [d]=aO (Lib.trimPrefix l [d]):=by
 rw[nL,nL,sO l 0 d hd]
 split
 ·exact kZ l 1
 rfl
theorem yY:∀ k,aO (dD k)=dD k:=by
 intro k
 match k with
 |0=>decide
 |1=>decide
 |2=>decide
 |3=>decide
 |4=>decide
 |5=>decide
 |6=>decide
 |7=>decide
 |8=>decide
 |9=>decide
 |k+10=>rfl
theorem uCU(l:Bs):aO (dK l)=dK l:=by
 unfold dK;cases nV l with
 |none=>rfl
 |some k=>exact yY k
theorem lU{a b:Bs}(h:aO a=aO b):bR a=bR b:=by
 have hl:a.length=b.length:=by have:=congrArg List.length h;rwa [eW,eW]at this
 have bk:∀ l:Bs,l.all aJ=(aO l).all aJ:=fun l=>by
  unfold aO;rw[List.all_map]
  congr 1
  funext c
  exact(pQ c).symm
 unfold bR;rw[hl,bk a,bk b,h]
theorem rR(l:Bs):l.all aB=(aO l).all aB:=by
 unfold aO;rw[List.all_map]
 congr 1
 funext c
 exact(lZ c).symm
theorem fo_adNum(l:Bs):fZ (aO l)=fZ l:=by
 unfold fZ;rw[eW,sO l 0 48 (by decide),<- rR]
 split
 ·rfl
 split
 ·rename_i h
  rw[uCT l (fun c hc=>List.all_eq_true.1 h c hc)]
 rfl
theorem uHM(l:Bs):bR (aO l)=bR l:=lU (fo_fold l)
theorem sN(l:Bs):bA (aO l)=bA l:=by
 unfold bA;dsimp only;rw[oM l 36 (by decide),lA l 36 (by decide)];generalize Lib.trimPrefix l [36]=s;rw[xG aJ pQ,uFP,uHM,kZ,oM _ 36 (by decide),fo_adNum,lA _ 36 (by decide)]
theorem iH{a b:Bs}(h:aO a=aO b):bA a=bA b:=by rw[<- sN a,<- sN b,h]
theorem tU{a b:Bs}(h:aO a=aO b):Lib.hasPrefix a [36]=Lib.hasPrefix b [36]:=by rw[<- lA a 36 (by decide),<- lA b 36 (by decide),h]
theorem yA{a b:Bs}(h:aO a=aO b):aO (Lib.trimPrefix a [36])=aO (Lib.trimPrefix b [36]):=by rw[<- oM a 36 (by decide),<- oM b 36 (by decide),h]
theorem oN{a b:Bs}(h:aO a=aO b):aB (a.headD 0)=aB (b.headD 0):=by
 have:∀ l:Bs,aB (l.headD 0)=aB ((aO l).headD 0):=fun l=>by
  cases l with
  |nil=>rfl
  |cons c l=>exact(lZ c).symm
 rw[this a,this b,h]
def cQ:List Tok->Nat
 | []=>0
 |t::r=>(if isS t [40] then 1 else 0)+cQ r
structure TokR(ρ:Tok->Tok->Prop)(t t':Tok):Prop where
 rel:ρ t t'
 kind:t.kind=t'.kind
 fold:aO t.text=aO t'.text
 same:t.kind=2\/t.kind=5\/t.kind=6->t.text=t'.text
 num:t.kind=1->aX t.text 0 45=false
inductive EndR (ρ:Tok->Tok->Prop):List Tok->List Tok->Prop where
 |one {e e':Tok} (h:TokR ρ e e') (h0:e.kind=0):EndR ρ [e] [e']
 |more {t t':Tok} {ts bf:List Tok} (h:TokR ρ t t') (h0:t.kind≠0) (hm:t.place<=(hd ts).place) (hr:EndR ρ ts bf):EndR ρ (t::ts) (t'::bf)
theorem EndR.hd{ρ:Tok->Tok->Prop}{ts bf:List Tok}(h:EndR ρ ts bf):TokR ρ (hd ts) (hd bf):=by
 cases h with
 |one h h0=>exact h
 |more h h0 hm hr=>exact h
theorem EndR.tail{ρ:Tok->Tok->Prop}{ts bf:List Tok}(h:EndR ρ ts bf)(h0:(Go.Proofs.YtmgjidnalpgegaaGreatDoor.hd ts).kind≠0):EndR ρ ts.tail bf.tail:=by
 cases h with
 |one h h1=>exact absurd h1 h0
 |more h h1 hm hr=>exact hr
theorem EndR.nxt{ρ:Tok->Tok->Prop}{ts bf:List Tok}(h:EndR ρ ts bf):TokR ρ (nxt ts) (nxt bf):=by
 cases h with
 |one h h1=>exact h
 |more h h1 hm hr=>cases hr with
  |one h2 h3=>exact h2
  |more h2 h3 ug hr=>exact h2
theorem EndR.len{ρ:Tok->Tok->Prop}{ts bf:List Tok}(h:EndR ρ ts bf):ts.length=bf.length:=by
 induction h with
 |one h h1=>rfl
 |more h h1 hm hr ih=>simp[ih]
theorem TokR.isS{ρ:Tok->Tok->Prop}{t t':Tok}(h:TokR ρ t t')(s:Bs):isS t s=isS t' s:=by
 unfold Go.Proofs.YtmgjidnalpgegaaGreatDoor.isS;by_cases h5:t.kind=5
 ·rw[h.same (.inr (.inl h5)),h.kind]
 rw[decide_eq_false h5,decide_eq_false (by rw[<- h.kind];exact h5)];rfl
theorem gH{t:Tok}{s:Bs}(h:isS t s=true):t.kind≠0:=by
 unfold isS at h;simp at h;omega
theorem bO(ts:List Tok):cQ ts.tail<=cQ ts:=by
 cases ts with
 |nil=>exact zr
 |cons t r=>exact Nat.le_add_left _ _
theorem tF{ts:List Tok}(h:isS (hd ts) [40]=true):cQ ts=cQ ts.tail+1:=by
 cases ts with
 |nil=>cases h
 |cons t r=>
  have h':isS t [40]=true:=h;show (if isS t [40] then 1 else 0)+cQ r=cQ r+1;rw[h',if_pos rfl,Nat.add_comm]
def Er(B:Prop)(e:Nat):Prop:=e≠0/\e≠5/\e≠7/\(B->e≠8)
theorem er6(B:Prop):Er B 6:=⟨by decide,by decide,by decide,fun _=>by decide⟩
theorem er2(B:Prop):Er B 2:=⟨by decide,by decide,by decide,fun _=>by decide⟩
theorem er14(B:Prop):Er B 14:=⟨by decide,by decide,by decide,fun _=>by decide⟩
theorem er18(B:Prop):Er B 18:=⟨by decide,by decide,by decide,fun _=>by decide⟩
theorem er9(B:Prop):Er B 9:=⟨by decide,by decide,by decide,fun _=>by decide⟩
theorem er10(B:Prop):Er B 10:=⟨by decide,by decide,by decide,fun _=>by decide⟩
def OutR(ρ:Tok->Tok->Prop)(G B:Prop)(d N c:Nat)(o o':Out):Prop :=
 (∃ t ts bf c1,o=.ok t ts c1/\o'=.ok t bf (c1+d)/\EndR ρ ts bf/\cQ ts<=N/\(G->c1=c+t.size/\t.right 6=true)) \/
 (∃ e x y,o=.bad e x.place/\o'=.bad e y.place/\ρ x y/\Er B e)
def PR(ρ:Tok->Tok->Prop)(G B:Prop)(d N:Nat)(P P':List Tok->Nat->Out):Prop:=∀ ts bf c,EndR ρ ts bf->cQ ts<=N->OutR ρ G B d N c (P ts c) (P' bf (c+d))
section
variable {ρ:Tok->Tok->Prop} {G B:Prop} {d N:Nat}
theorem gU{ts bf:List Tok}{e c:Nat}(h:EndR ρ ts bf)(he:Er B e):OutR ρ G B d N c (fE e ts) (fE e bf):=.inr ⟨e,_,_,rfl,rfl,h.hd.rel,he⟩
theorem fC(h:NodeH):NodeH.same h h=true:=by
 unfold NodeH.same;simp[gZ]
theorem size_lit(v:Val):(iK v).size=1:=rfl
theorem uIR{v:Val}(h:cA v false=true)(k:Int):(iK v).right k=true:=by
 have h2:cA v (decide (k=8))=true:=by
  unfold cA at h ⊢;simp only[yh,Bool.or_eq_true,Bool.false_or]at h ⊢;exact⟨h.1,.inr h.2⟩
 have:bE ⟨0,v,[],aG,aG,0⟩ 0 [] k=true:=by
  unfold bE;rw[if_pos rfl,h2,fC];rfl
 show (bE ⟨0,v,[],aG,aG,0⟩ 0 [] k&&bK [] 0)=true;rw[this];rfl
theorem uEK{v:Val}(h1:v.kind≠0)(h2:bV v=true):(iK v).right 8=true:=by
 have h2:cA v (decide ((8:Int)=8))=true:=by
  unfold cA;simp[h1,h2]
 have:bE ⟨0,v,[],aG,aG,0⟩ 0 [] 8=true:=by
  unfold bE;rw[if_pos rfl,h2,fC];rfl
 show (bE ⟨0,v,[],aG,aG,0⟩ 0 [] 8&&bK [] 0)=true;rw[this];rfl
theorem tY{t:Tree}(h:t.right 6=true)(k:Int):t.right k=true:=by
 obtain⟨h',l⟩:=t;have e:∀ k,(Tree.mk h' l).right k=(bE h' l.length (l.map fun t=>t.h.kind) k&&bK l h'.kind):=fun _=>by rw[Tree.right]
 rw[e]at h ⊢;rw[yh]at h ⊢;refine⟨?_,h.2⟩;have h1:=h.1;unfold bE at h1 ⊢;by_cases k0:h'.kind=0
 ·rw[if_pos k0]at h1 ⊢;simp only[yh]at h1 ⊢;refine⟨⟨?_,h1.1.2⟩,h1.2⟩;have h3:=h1.1.1;unfold cA at h3 ⊢;simp only[yh,Bool.or_eq_true]at h3 ⊢;refine⟨h3.1,.inr ?_⟩;rcases h3.2 with h4|h4
  ·simp at h4
  exact h4
 rw[if_neg k0]at h1 ⊢;by_cases k9:h'.kind=9
 ·rw[k9]at h1;simp at h1
 split
 ·rename_i hc;rw[if_pos hc]at h1;exact h1
 rename_i hc
 rw[if_neg hc]at h1
 split
 ·rename_i hc;rw[if_pos hc]at h1;exact h1
 rename_i hc
 rw[if_neg hc]at h1
 split
 ·rename_i hc;rw[if_pos hc]at h1;exact h1
 rename_i hc
 rw[if_neg hc]at h1
 split
 ·rename_i hc;rw[if_pos hc]at h1;exact h1
 rename_i hc
 rw[if_neg hc]at h1
 split
 ·rename_i hc;rw[if_pos hc]at h1;exact h1
 rename_i hc
 rw[if_neg hc]at h1
 split
 ·rename_i hc;rw[if_pos hc]at h1;exact h1
 rename_i hc
 rw[if_neg hc]at h1
 split
 ·rename_i hc;rw[if_pos hc]at h1;exact h1
 rename_i hc
 rw[if_neg hc,if_neg k9]at h1;cases h1
theorem tX{t:Tree}(h:t.right 6=true):t.h.kind≠9:=by
 obtain⟨h',l⟩:=t;intro k9;rw[Tree.right,yh]at h;have h1:=h.1;have k9':h'.kind=9:=k9;unfold bE at h1;rw[k9']at h1;simp at h1
theorem uC(l:List Tree)(x:Tree):bB (l++[x])=bB l+x.size:=by
 induction l with
 |nil=>simp[bB]
 |cons t l ih=>rw[yp,bB,bB,ih];omega
theorem qX(l:List Tree)(x:Tree)(k:Int):bK (l++[x]) k=(bK l k&&((decide (k≠8)||decide (x.h.kind=0))&&x.right k)):=by
 induction l with
 |nil=>simp[bK]
 |cons t l ih=>rw[yp,bK,bK,ih];simp[Bool.and_assoc]
theorem uBE{s:Bs}{t:Tree}(hs:unB s=true)(h:t.right 6=true):(tUn s t).right 6=true/\(tUn s t).size=t.size+1:=by
 refine⟨?_,rfl⟩;have e:bE ⟨5,aD,s,aG,aG,0⟩ 1 [t.h.kind] 6=true:=by
  unfold bE;simp[hs,fC]
 show (bE ⟨5,aD,s,aG,aG,0⟩ 1 [t.h.kind] 6&&((decide ((5:Int)≠8)||decide (t.h.kind=0))&&t.right 5&&bK [] 5))=true;rw[e,tY h 5];rfl
theorem uIP{s:Bs}{t x:Tree}(hs:lS s=true)(h:t.right 6=true)(h2:x.right 6=true):(tBin s t x).right 6=true/\(tBin s t x).size=t.size+x.size+1:=by
 refine⟨?_,by show t.size+(x.size+0)+1=_;omega⟩;have e:bE ⟨6,aD,s,aG,aG,0⟩ 2 [t.h.kind,x.h.kind] 6=true:=by
  unfold bE;simp[hs,fC]
 show (bE ⟨6,aD,s,aG,aG,0⟩ 2 [t.h.kind,x.h.kind] 6&&((decide ((6:Int)≠8)||decide (t.h.kind=0))&&t.right 6&&((decide ((6:Int)≠8)||decide (x.h.kind=0))&&x.right 6&&bK [] 6)))=true;rw[e,h,h2];rfl
theorem qL{t t':Tok}(h:TokR ρ t t'):cM t=cM t':=by
 unfold cM;rw[h.kind,h.fold]
theorem sZ{t t':Tok}(h:TokR ρ t t'):fJ t=fJ t':=by
 unfold fJ;rw[<- h.kind,qL h,h.fold,uW h.fold];by_cases k1:t.kind=1
 ·rw[if_pos k1,if_pos k1]
 rw[if_neg k1,if_neg k1];by_cases k2:t.kind=2
 ·rw[h.same (.inl k2)]
 rw[if_neg k2,if_neg k2];by_cases k6:t.kind=6
 ·rw[h.same (.inr (.inr k6))]
 rw[if_neg k6,if_neg k6]
theorem sY{t:Tok}{e:Nat}(h:fJ t=.error e):Er B e:=by
 unfold fJ at h
 split at h
 ·split at h
  ·injection h with h;rw[<- h];exact er2 B
  cases h
 split at h
 ·split at h
  ·injection h with h;rw[<- h];exact er14 B
  cases h
 split at h
 ·cases h
 split at h
 ·cases h
 injection h with h;rw[<- h];exact er6 B
theorem uAE{l:Bs}{q:Int×Int}(h:eB l=some q):cC q.1 q.2=true/\(aX l 0 45=false->0<=q.1):=by
 have near:∀ {neg:Bool} {n:Nat} {e:Int} {q:Int×Int},fF neg n e=some q->cC q.1 q.2=true/\(neg=false->0<=q.1):=by
  intro neg n e q h;rw[tL neg n e (dJ n e).1 (fR (dJ n e).1 (dJ n e).2).1 (dJ n e).2 (fR (dJ n e).1 (dJ n e).2).2 rfl rfl]at h
  split at h
  ·rename_i hR
   injection h with h;subst h;refine⟨hR,fun hn=>?_⟩;subst hn;exact Int.natCast_nonneg _
  cases h
 rw[tQ]at h;unfold xX at h
 split at h
 ·cases h
 rw[Option.bind_eq_some_iff]at h;obtain⟨x,hx,h⟩:=h;obtain⟨h1,h2⟩:=near h;refine⟨h1,fun h0=>h2 ?_⟩;unfold nI at hx;dsimp only at hx;rw[h0]at hx;simp only[Bool.false_eq_true,if_false]at hx
 split at hx
 ·split at hx
  ·cases hx
  rw[Option.map_eq_some_iff]at hx;obtain⟨p,_,hx⟩:=hx;rw[<- hx]
 split at hx
 ·cases hx
 rw[Option.map_eq_some_iff]at hx;obtain⟨p,_,hx⟩:=hx;rw[<- hx]
theorem wM{m e:Int}(h:cC m e=true):bV (iB m e)=true:=by simp[bV,iB,h]
theorem xU{m e:Int}(h:cC m e=true):cC (-m) e=true:=by
 unfold cC at h ⊢;by_cases h0:m=0
 ·subst h0;exact h
 rw[if_neg h0]at h;rw[if_neg (by omega),Int.natAbs_neg];exact h
theorem pU{t:Tok}{v:Val}(hn:t.kind=1->aX t.text 0 45=false)(h:fJ t=.ok v):t.kind≠0/\cA v false=true/\(t.kind=1->v.kind=1/\bV { v with mant:=-v.mant }=true):=by
 have key:∀ {v:Val},v.kind≠0->bV v=true->0<=v.mant->cA v false=true:=fun h1 h2 h3=>by
  unfold cA;simp[h1,h2,h3]
 unfold fJ at h
 split at h
 ·rename_i k1
  split at h
  ·cases h
  rename_i q hq
  injection h with h;subst h;obtain⟨h1,h2⟩:=uAE hq;exact⟨by omega,key (by show (1:Int)≠0;decide) (wM h1) (h2 (hn k1)),fun _=>⟨rfl,wM (xU h1)⟩⟩
 rename_i k1
 split at h
 ·rename_i k2
  split at h
  ·cases h
  rename_i hl
  injection h with h;subst h;refine⟨by omega,?_,fun h=>absurd h k1⟩;unfold pK;rw[if_neg hl];exact key (by show (2:Int)≠0;decide) (by simp[bV];omega) (by show (0:Int)<=0;decide)
 rename_i k2
 split at h
 ·rename_i k6
  injection h with h;subst h;refine⟨by omega,?_,fun h=>absurd h k1⟩;refine key (by show (4:Int)≠0;decide) ?_ (by show (0:Int)<=0;decide);unfold oB bV;simp
  split <;> omega
 split at h
 ·rename_i ht
  injection h with h;subst h;unfold cM at ht;simp at ht;exact⟨by omega,key (by show (3:Int)≠0;decide) (by simp[bV,lL]) (by show (0:Int)<=0;decide),fun h=>absurd h k1⟩
 cases h
theorem xN:PR ρ G B d N cX cX:=by
 intro ts bf c h hN;unfold cX;have hv:=sZ h.hd;rw[<- hv];cases hl:fJ (hd ts) with
 |error e=>exact gU h (sY hl)
 |ok v=>
  obtain⟨h1,h2,_⟩:=pU h.hd.num hl;exact .inl ⟨_,_,_,_,rfl,by rw[show c+d+1=c+1+d by omega],h.tail h1,yv (bO ts) hN,fun _=>⟨rfl,uIR h2 6⟩⟩
end
end Go.Proofs.YtmgjidnalpgegaaGreatDoor
