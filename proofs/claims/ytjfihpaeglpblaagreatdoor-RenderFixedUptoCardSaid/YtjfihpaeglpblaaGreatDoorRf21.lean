/-
  Lemmas, part 21: Ax6 Ax7 Ax8.
-/
import Derived.Test.YtjfihpaeglpblaaGreatDoorRf15
set_option maxHeartbeats 100000000
set_option maxRecDepth 1000000
namespace Go.Proofs.YtjfihpaeglpblaaGreatDoor
open Go.RowKit
theorem AxFull.next{b base:Nat}{ids:List IdR}{fl:List Bool}{W W':World}(h:AxFull b base ids fl W)(hb:Below W.heap.size W W'):AxFull b base ids fl W':=by
 obtain⟨v1,v2,v4,m,ga,cs,h1,⟨b1,h2⟩,⟨b2,h3⟩,h4,h5,h6,h7,h8⟩:=h.ex;exact⟨v1,v2,v4,m,ga,cs,h1.next hb,⟨b1,aL hb h2⟩,⟨b2,aL hb h3⟩,h4.at (hb.block _ h4.lt),h5.next hb,h6,h7,aL hb h8⟩
def NoAx(W:World)(Y:List Nat):Prop:=∀ y∈Y,y<W.heap.size->∃ t cs,Lies W y t cs/\t≠27/\t≠4/\t≠3/\t≠152
theorem fL{W:World}{b y:Nat}{t t':TypeId}{cs l7:Array Value}(h:Lies W b t cs)(h':Lies W y t' l7)(hn:t'≠t):b≠y:=fun e=>by
 unfold Lies at h h';rw[e,h']at h;injection h with h;injection h with _ h _;exact hn h
theorem NoAx.lies{W:World}{Y:List Nat}{b:Nat}{t:TypeId}{cs:Array Value}(hY:NoAx W Y)(h:Lies W b t cs)(ht:t=3\/t=152):b∉Y:=fun hm=>by
 obtain⟨t',l7,h1,h2,h3,h4,h5⟩:=hY b hm h.lt;refine fL h h1 ?_ rfl;rcases ht with rfl|rfl
 ·exact h4
 exact h5
theorem NoAx.own{W:World}{Y:List Nat}{b n sz:Nat}{te:TypeId}{v:Value}{xs:List Value}(hY:NoAx W Y)(h:W.ownsRow b te sz v n xs)(ht:te=27\/te=4):∀ g,v.ownBlock=some g->g∉Y:=fun g hg hm=>by
 have hlt:=(h.lt g hg).2;obtain⟨t',l7,h1,h2,h3,h4,h5⟩:=hY g hm hlt;rcases h.2 with⟨rfl,_⟩|⟨g1,cap,cur,rfl,_,hh,_⟩
 ·simp[Value.ownBlock]at hg
 simp[Value.ownBlock]at hg;subst hg;have h0:Lies W g1 te cur:=hh;refine fL h0 h1 ?_ rfl;rcases ht with rfl|rfl
 ·exact h2
 exact h3
theorem AxFull.kp{b base:Nat}{ids:List IdR}{fl:List Bool}{Y:List Nat}{W W':World}(h:AxFull b base ids fl W)(hk:Kp Y W W')(hY:NoAx W Y):AxFull b base ids fl W':=by
 obtain⟨v1,v2,v4,m,ga,cs,h1,⟨b1,h2⟩,⟨b2,h3⟩,h4,h5,h6,h7,h8⟩:=h.ex;refine⟨v1,v2,v4,m,ga,cs,hk.lies h1 (hY.lies h1 (.inr rfl)),⟨b1,bL h2 hk (hY.own h2 (.inl rfl))⟩,⟨b2,bL h3 hk (hY.own h3 (.inr rfl))⟩,h4.at (hk.block _ h4.lt (fun hm=>?_)),hk.lies h5 (hY.lies h5 (.inl rfl)),h6,h7,bL h8 hk (hY.own h8 (.inl rfl))⟩;obtain⟨t',l7,g1,_⟩:=hY m hm h4.lt;obtain⟨es,ck,g2,_⟩:=h4;unfold Lies at g1;rw[g1]at g2;cases g2
def AxF(W:World):Option Nat->AxV->Prop
 |none,none=>True
 |some b,some (ids,fl)=>ids.length=fl.length/\ids.length<=300/\(∀ y∈ids,y.fits)/\ids.Nodup/\((∃ base v1 v2,AxRaw b base ids fl v1 v2 W)\/(∃ base,AxFull b base ids fl W))
 |_,_=>False
theorem AxF.kp{W W':World}{p:Option Nat}{A:AxV}{Y:List Nat}(h:AxF W p A)(hk:Kp Y W W')(hY:NoAx W Y):AxF W' p A:=by
 match p,A,h with
 |none,none,_=>trivial
 |some b,some (ids,fl),⟨h1,h2,h3,h4,h5⟩=>
  refine⟨h1,h2,h3,h4,?_⟩;rcases h5 with⟨base,v1,v2,g⟩|⟨base,g⟩
  ·exact .inl ⟨base,v1,v2,hk.lies g.ax (hY.lies g.ax (.inr rfl)),bL g.r1 hk (hY.own g.r1 (.inl rfl)),bL g.r2 hk (hY.own g.r2 (.inr rfl))⟩
  exact .inr ⟨base,g.kp hk hY⟩
theorem AxF.next{W W':World}{p:Option Nat}{A:AxV}(h:AxF W p A)(hb:Below W.heap.size W W'):AxF W' p A:=h.kp (Kp.of_below (Y:=[]) hb) (fun y hy=>by cases hy)
theorem sV(b base:Nat)(ids:List IdR)(fl:List Bool)(w:World)(hR:AxFull b base ids fl w) :
  Calls Tryz.prog 88 #[vP b 0] w fun e w'=>e=.returned (.tuple #[])/\w'=w:=by
 obtain⟨v1,v2,v4,m,ga,cs,hx,_⟩:=hR.ex;have hnq:=neq_some m;have a2:=hx.cell 2;simp only[za,zb,zf]at a2;clear hx
 go_in
 go_wp2_with fail
 (try simp only[Exit.inBlock,Exit.then])
 refine yt (results_none rfl _ _ _) rfl ?_;exact⟨rfl,rfl⟩
theorem oN(b:Nat)(ids:List IdR)(fl:List Bool)(w:World)(h:AxF w (some b) (some (ids,fl))) :
  Calls Tryz.prog 88 #[vP b 0] w fun e w'=>e=.returned (.tuple #[])/\(∃ base,AxFull b base ids fl w')/\Kp [b] w w':=by
 obtain⟨h1,h2,h3,h4,⟨base,v1,v2,g⟩|⟨base,g⟩⟩:=h
 ·refine(vC b base ids fl v1 v2 w g h1 h2 h3 h4).mono ?_;rintro e w' ⟨rfl,h6,h7⟩;exact⟨rfl,⟨_,h6⟩,h7⟩
 refine(sV b base ids fl w g).mono ?_;rintro e w' ⟨rfl,rfl⟩;exact⟨rfl,⟨_,g⟩,Kp.refl _ _⟩
def rV(A:AxV)(x:IdR):Value:=.tuple #[vI (if aF A x<0 then 0 else aF A x),.bool (decide (0<=aF A x))]
theorem pF(ids:List IdR)(fl:List Bool)(x:IdR):rV (some (ids,fl)) x=.tuple #[vI (if bC (aK ids fl) x<0 then 0 else bC (aK ids fl) x),.bool (decide (0<=bC (aK ids fl) x))]:=rfl
theorem dV(p:Option Nat)(A:AxV)(x:IdR)(w:World)(hA:AxF w p A)(hx:x.fits) :
  Calls Tryz.prog 40 #[.pointer (ptr p),idV x] w fun e w'=>e=.returned (rV A x)/\AxF w' p A/\Kp p.toList w w':=by
 have HB:Hid (Below w.heap.size w (w.alloc (.cells #[vI x.a,vI x.n] 27))):=zh ((Below.refl _ w).alloc zr _)
 match p,A,hA with
 |none,none,_=>
  unfold ptr
  go_in
  go_wp2_with fail
  refine yt (results_tmp2 rfl _ _ _) rfl ?_;exact⟨rfl,trivial,Kp.of_below HB.out⟩
 |some b,some (ids,fl),h=>
  obtain⟨hl,hn,hf,hd,_⟩:=id h;have HS:=zh (And.intro hl (And.intro hn (And.intro hf hd)));have CR:=zh (oN b ids fl _ (AxF.next (p:=some b) (A:=some (ids,fl)) h HB.out));have HI:Hid (Lies (w.alloc (.cells #[vI x.a,vI x.n] 27)) w.heap.size 27 #[vI x.a,vI x.n]):=zh (Lies.new _ _ _);have hbw:b<w.heap.size:=by
   obtain⟨_,_,_,_,⟨base,v1,v2,g⟩|⟨base,g⟩⟩:=h
   ·exact g.ax.lt
   obtain⟨_,_,_,_,_,_,g1,_⟩:=g.ex;exact g1.lt
  have wu:=zh hbw;have HX:=zh hx;clear h hl hn hf hd hx hbw;obtain⟨e0,he0⟩:=zD (rV (some (ids,fl)) x)
  have HE:=zh he0;rw[<- he0];clear he0;unfold ptr
  go_in
  go_wp2_with fail
  refine CR.out.mono ?_;rintro e W2 ⟨rfl,⟨base,hF⟩,hk⟩;have gw:Hid (Lies W2 w.heap.size 27 #[vI x.a,vI x.n]):=zh (hk.lies HI.out (by have:=wu.out;simp;omega));have fj:Hid (Kp [b] w W2):=zh ((Kp.of_below HB.out).trans hk);have mj:=zh hF;clear hF hk CR HI HB;obtain⟨W5,dr⟩:∃ W,W=W2.drew:=⟨_,rfl⟩
  have HF5:Hid (AxFull b base ids fl W5):=zh (by rw[dr];exact mj.out.next (Below.refl _ W2).drew);have kw:Hid (Kp [b] w W5):=zh (by rw[dr];exact fj.out.drew);obtain⟨v1,v2,v4,m,ga,cs,h1,⟨b1,h2⟩,⟨b2,h3⟩,h4,h5,h6,h7,-⟩:=mj.out.ex;have hlk:=(h4.at (rfl:W2.drew.heap[m]?=W2.heap[m]?)).look (t:=149) Tryz.underlying149 HS.out.2.2.1 x HX.out;have a2:=h1.cell 2;have x0:=gw.out.cell 0;have x1:=gw.out.cell 1;simp only[za,zb,zf]at a2 x0 x1;have hxl:=gw.out.lt;clear h2 h3 h4 h5 h6 h7 h1 mj fj;dsimp only[idV]at hlk;rcases hlk with⟨hnin,bd⟩|⟨k,hk,un,bd⟩
  ·have HV:Hid (e0=.tuple #[vI 0,.bool false]):=zh (by rw[HE.out,pF,uBA hnin];rfl)
   go_upto_region 4 with fail
   go_cut [6,7] (fun va vb wx=>va=vI 0/\vb=.bool false/\Hid (wx=W5))
   case first=>
    go_region
    all_goals go_wp2_with fail
    all_goals go_meet
    all_goals exact⟨rfl,rfl,zh dr.symm⟩
   case rest=>
   obtain⟨rfl,rfl,hcut⟩:=hcut;obtain rfl:W5=wc:=hcut.out.symm;clear bd a2 x0 x1 dr hcut
   go_wp2_with fail
   refine yt (results_tmp2 rfl _ _ _) rfl ?_;exact⟨by rw[HV.out];rfl,⟨HS.out.1,HS.out.2.1,HS.out.2.2.1,HS.out.2.2.2,.inr ⟨_,HF5.out⟩⟩,kw.out⟩
  have ws:k<fl.length:=by rw[<- HS.out.1];exact hk
  obtain⟨lv,mi⟩:=zE (fl[k])
  have HV:Hid (e0=if lv then .tuple #[vI ((aK (ids.take k) (fl.take k)).length:Int),.bool true] else .tuple #[vI 0,.bool false]):=zh (by
   rw[HE.out,pF,<- un];cases lv with
   |true=>
    rw[uAZ HS.out.1 HS.out.2.2.2 hk mi,if_pos rfl,if_neg (by omega),decide_eq_true (by omega)]
   |false=>
    rw[uAY HS.out.1 HS.out.2.2.2 hk mi];rfl)
  go_upto_region 4 with fail
  go_cut [6,7] (fun va vb wx=>va=vI (k:Int)/\vb=.bool true/\Hid (wx=W5))
  case first=>
   go_region
   all_goals go_wp2_with fail
   all_goals go_meet
   all_goals exact⟨rfl,rfl,zh dr.symm⟩
  case rest=>
  obtain⟨rfl,rfl,hcut⟩:=hcut;obtain rfl:W5=wc:=hcut.out.symm;clear bd a2 x0 x1 hxl dr;obtain⟨v1,v2,v4,m',ga,cs,h1,-,⟨b2,h3⟩,-,h5,h6,h7,-⟩:=HF5.out.ex;obtain⟨g2,cy,rfl,-,li,bp⟩:=fI h3 (by omega);have y0:=bp k (.bool lv) (by simp[dF,ws,mi]);have z0:W5.cell? ⟨ga,k,none⟩=some (vI ((aK (ids.take k) (fl.take k)).length:Int)):=by rw[h5.cell];exact h7 k hk
  have a1:=h1.cell 1;have a3:=h1.cell 3;simp only[za,zb,zf]at a1 a3;have ip:(k:Int)<(ids.length:Int):=by omega
  have hkj:(k:Int)<(fl.length:Int):=by omega
  generalize (aK (ids.take k) (fl.take k)).length=pl at *;clear h1 h3 h5 h6 h7 bp hk ws un mi;cases lv
  ·go_wp2_with fail
   refine yt (results_tmp2 rfl _ _ _) rfl ?_;exact⟨by rw[HV.out];rfl,⟨HS.out.1,HS.out.2.1,HS.out.2.2.1,HS.out.2.2.2,.inr ⟨_,HF5.out⟩⟩,kw.out⟩
  go_wp2_with fail
  refine yt (results_tmp2 rfl _ _ _) rfl ?_;exact⟨by rw[HV.out];rfl,⟨HS.out.1,HS.out.2.1,HS.out.2.2.1,HS.out.2.2.2,.inr ⟨_,HF5.out⟩⟩,kw.out⟩
theorem wV(l:List IdR):∀ u∈aJ l,u.oneCell'=true:=by
 intro u hu;unfold aJ at hu;obtain⟨x,_,hx⟩:=List.mem_flatMap.1 hu;simp only[ym,List.not_mem_nil,or_false]at hx;rcases hx with rfl|rfl <;> rfl
theorem sl_nil(w:World):(binOp .eql 35 (.slice none 0 0) (.slice none 0 0)).run Tryz.prog w=.ok (.bool true) w:=by kernel_rfl
theorem sl_some(a:Addr)(n c:Nat)(w:World):(binOp .eql 35 (.slice (some a) n c) (.slice none 0 0)).run Tryz.prog w=.ok (.bool false) w:=by kernel_rfl
theorem jH:∀ (a b:List IdR),aJ (a++b)=aJ a++aJ b:=fun a b=>by simp[aJ]
theorem oP(g off n c:Nat)(l:List IdR)(w:World)(hl:l.length=n)(hn:n<=300)(hc:∀ j u,(aJ l)[j]?=some u->w.cell? ⟨g,off+j,none⟩=some u) :
  Calls Tryz.prog 244 #[.slice (some ⟨g,off,none⟩) n c] w fun e w'=>∃ A' c',e=.returned (.slice A' n c')/\w'.ownsRow w.heap.size 27 2 (.slice A' n c') n (aJ l)/\Below w.heap.size w w':=by
 have fi:=sl_some ⟨g,off,none⟩ n c;have HC:=zh hc;have HL:=zh hl;clear hc hl;obtain⟨i1,gi,gz0,gz1,gz2⟩:=info_parts qZ;have HO:Hid ((w.alloc (.cells #[] 27)).ownsRow w.heap.size 27 2 (.slice (some ⟨w.heap.size,0,none⟩) 0 0) 0 []):=zh ⟨rfl,.inr ⟨_,0,#[],rfl,zr,heap_alloc_new _ _,zr,by unfold maxLen;omega,rfl,rfl⟩⟩;have HB:Hid (Below w.heap.size w (w.alloc (.cells #[] 27))):=zh ((Below.refl _ w).alloc zr _);have HN:Hid (∀ j u,(aJ l)[j]?=some u->(w.alloc (.cells #[] 27)).cell? ((⟨g,off,none⟩:Addr).add j)=some u):=zh (fun j u hj=>by
  have h0:=HC.out j u hj;have e:(⟨g,off,none⟩:Addr).add j=⟨g,off+j,none⟩:=by cases j <;> simp[Addr.add]
  rw[e];exact(HB.out.cell (p:=⟨g,off+j,none⟩) (dA h0)).trans h0)
 go_in
 go_wp2_with (first |(refine wpList_append_own (P:=Tryz.prog) _ rfl (.tmp 5) (.tmp 6) 35 rfl w.heap.size 27 i1 (.agg #[vI 0,vI 0]) 2 16 Tryz.underlying35 gi gz0 gz1 gz2 rfl (by decide) _ 0 [] rfl HO.out ⟨g,off,none⟩ n c (aJ l) rfl (by rw[fK,HL.out]) HN.out (wV l) (by unfold maxLen;omega) (by omega) HB.out.size (fun v' w' k1 k2 _=>?_);obtain⟨A',c',rfl⟩:=aY k1;have K1:=zh k1;have K2:=zh k2;clear k1 k2))
 go_ret
 have h1:=K1.out;rw[Nat.zero_add,List.nil_append]at h1;have h2:Below w.heap.size w w':=HB.out.grown K2.out HB.out.size (fun k hk=>by injection hk with hk;exact Nat.le_of_eq hk);exact⟨A',c',rfl,h1,h2⟩
theorem oQ(w:World) :
  Calls Tryz.prog 244 #[.slice none 0 0] w fun e w'=>e=.returned (.slice none 0 0)/\Below w.heap.size w w':=by
 have fi:=sl_nil
 go_in
 go_wp2_with fail
 go_ret
 exact⟨rfl,Below.refl _ _⟩
theorem vN{l:List IdR}{lo hi j:Nat}{u:Value}(h:(aJ ((l.take hi).drop lo))[j]?=some u):(aJ l)[lo*2+j]?=some u:=by
 have e1:aJ l=aJ (l.take hi)++aJ (l.drop hi):=by rw[<- jH,List.take_append_drop]
 have e2:aJ (l.take hi)=aJ ((l.take hi).take lo)++aJ ((l.take hi).drop lo):=by rw[<- jH,List.take_append_drop]
 have hj:=(List.getElem?_eq_some_iff.1 h).1;rcases Nat.lt_or_ge lo (l.take hi).length with ji|ji
 ·have e3:(aJ ((l.take hi).take lo)).length=lo*2:=by rw[fK,zc];omega
  rw[e1,List.getElem?_append_left (by rw[e2,yl];omega),e2,List.getElem?_append_right (by omega),e3,Nat.add_sub_cancel_left];exact h
 rw[List.drop_of_length_le ji]at hj;simp[aJ]at hj
theorem yY{ids:List IdR}{fl:List Bool}(hd:ids.Nodup){a b:Nat}(ha:a<ids.length)(hb:b<ids.length):aP (some (ids,fl)) ids[a] ids[b]=aK ((ids.drop (min a b)).take (max a b+1-min a b)) ((fl.drop (min a b)).take (max a b+1-min a b)):=by
 unfold aP;dsimp only;rw[nV hd ha,nV hd hb,if_neg (by omega),show (min (a:Int) (b:Int)).toNat=min a b by omega,show (max (a:Int) (b:Int)).toNat=max a b by omega]
theorem lN{ids:List IdR}{fl:List Bool}{x y:IdR}(h:x∉ids\/y∉ids):aP (some (ids,fl)) x y=[]:=by
 unfold aP;dsimp only;rw[if_pos];rcases h with h|h
 ·rw[mR h];exact .inl (by decide)
 rw[mR h];exact .inr (by decide)
theorem wI(g k j:Nat):(⟨g,k,none⟩:Addr).add j=⟨g,k+j,none⟩:=by
 unfold Addr.add;by_cases e:j=0
 ·simp[e]
 simp[e]
theorem vU(ids:List IdR)(fl:List Bool)(he:ids.length=fl.length)(k:Nat):(aK (ids.take k) (fl.take k)).length<=(aK ids fl).length:=by
 rw[cI ids fl k he,yl];omega
theorem tB{ids:List IdR}{fl:List Bool}(he:ids.length=fl.length){k:Nat}(hk:k<ids.length):(aK (ids.take (k+1)) (fl.take (k+1))).length=(aK (ids.take k) (fl.take k)).length+(if fl[k]'(by omega) then 1 else 0):=by
 have h1:=cI (ids.take (k+1)) (fl.take (k+1)) k (by simp[he]);rw[List.take_take,List.take_take,Nat.min_eq_left (by omega)]at h1;rw[h1,yl]
 congr 1
 rw[yw hk,yw (by omega:k<fl.length),List.drop_left' (by simp;omega),List.drop_left' (by simp;omega)];simp only[aK];cases fl[k]'(by omega) <;> simp
theorem xB{ids:List IdR}{fl:List Bool}(he:ids.length=fl.length){f l:Nat}(hf:f<=l):(aK (ids.take f) (fl.take f)).length<=(aK (ids.take l) (fl.take l)).length:=by
 have h1:=cI (ids.take l) (fl.take l) f (by simp[he]);rw[List.take_take,List.take_take,Nat.min_eq_left hf]at h1;rw[h1,yl];omega
theorem zH{base:Nat}{v4:Value}{lv:List IdR}{W0:World}(h:W0.ownsRow base 27 2 v4 lv.length (aJ lv))(hn:lv.length<=300)(lo hi:Nat)(a b:Int)(ha:a=lo)(hb:b=hi)(ji:lo<=hi)(hhi:hi<=lv.length) :
  ∃ S,(∀ W,(Instr.slice 35 v4 (some (vI a)) (some (vI b)) none).run Tryz.prog W=.ok S W)/\(∀ W,(Instr.sliceAt 35 v4 (some (vI a)) (some (vI b)) none).run Tryz.prog W=.ok S W) /\
   ∀ W,Below W0.heap.size W0 W->Calls Tryz.prog 244 #[S] W fun e w'=>∃ B c,e=.returned (.slice B (hi-lo) c)/\w'.ownsRow W0.heap.size 27 2 (.slice B (hi-lo) c) (hi-lo) (aJ ((lv.take hi).drop lo))/\Below W0.heap.size W0 w':=by
 subst ha hb;have ve:∀ W,(sizeOf (Tryz.prog.elem 35)).run Tryz.prog W=.ok 2 W:=fun W=>by kernel_rfl
 have ah:Tryz.prog.underlying 35=some (.slice (Tryz.prog.elem 35)):=by kernel_rfl
 have hlen:((lv.take hi).drop lo).length=hi-lo:=by rw[yk,zc];omega
 have key:∀ (A:Option Addr) (cap:Nat),v4=.slice A lv.length cap->lv.length<=cap->∀ W,(Instr.slice 35 v4 (some (vI (lo:Int))) (some (vI (hi:Int))) none).run Tryz.prog W=.ok (sliced A lo hi cap 2) W:=fun A cap e hc W=>by
  subst e;rw[run_slice_lh W 35 A lv.length cap ah .i64 .i64 lo hi (by omega) (by omega) (by omega),ve];simp[Result.andThen]
 have at':∀ S,(∀ W,(Instr.slice 35 v4 (some (vI (lo:Int))) (some (vI (hi:Int))) none).run Tryz.prog W=.ok S W)->(∀ W,(Instr.sliceAt 35 v4 (some (vI (lo:Int))) (some (vI (hi:Int))) none).run Tryz.prog W=.ok S W):=fun S hS W=>by
  rw[run_sliceAt_slice W 35 _ _ _ _ ah];exact hS W
 have h2:=h.2;rcases h2 with⟨e1,e2⟩|⟨g,cap,cur,e1,e2,e3,e4,e5,e6,e7⟩
 ·have ed:lv.length=0:=by
   have:=h.1;rw[fK]at this
   simp_all
  have z1:hi=0:=by omega
  have z2:lo=0:=by omega
  subst z1 z2;have hS:=key none 0 (by rw[e1,ed]) (by omega);refine⟨_,hS,at' _ hS,fun W hW=>?_⟩;have e:sliced none 0 0 0 2=.slice none 0 0:=by rfl
  rw[e];refine(oQ W).mono ?_;rintro e w' ⟨rfl,hb⟩;refine⟨none,0,rfl,⟨by simp[aJ],.inl ⟨rfl,by simp⟩⟩,zU hW hb⟩
 have hS:=key (some ⟨g,0,none⟩) cap e1 e4;have e:sliced (some ⟨g,0,none⟩) lo hi cap 2=.slice (some ⟨g,if cap=lo then 0 else lo*2,none⟩) (hi-lo) (cap-lo):=by
  unfold sliced;by_cases hc:cap=lo
  ·rw[if_pos hc,if_pos hc]
  rw[if_neg hc,if_neg hc,Option.map_some,wI,Nat.zero_add]
 rw[e]at hS;refine⟨_,hS,at' _ hS,fun W hW=>?_⟩;refine(oP g _ (hi-lo) (cap-lo) ((lv.take hi).drop lo) W hlen (by omega) (fun j u hj=>?_)).mono ?_
 ·have hp:=vN hj;have hj2:=(List.getElem?_eq_some_iff.1 hj).1;rw[fK,hlen]at hj2;have hc:¬ cap=lo:=by omega
  rw[if_neg hc];obtain⟨g',o5,q1,_,q2,q3⟩:=fI h (by omega);rw[e1]at q1;injection q1 with q1;injection q1 with q1;injection q1 with q1;subst q1;exact(hW.cell (p:=⟨g,lo*2+j,none⟩) q2).trans (q3 _ _ hp)
 rintro e w' ⟨A',c',rfl,ho,hb⟩;exact⟨A',c',rfl,lU ho hW.size,zU hW hb⟩
theorem KIdx.find{W:World}{m:Nat}{ys:List IdR}{t:TypeId}(h:KIdx W m ys)(hu:Tryz.prog.underlying t=some (.map 27 3))(hf:∀ y∈ys,y.fits)(x:IdR)(hx:x.fits) :
  ∃ (k:Nat) (b:Bool),(Instr.lookup t (.map (some m)) (idV x) true).run Tryz.prog W=.ok (.tuple #[vI (k:Int),.bool b]) W/\Hid ((b=false/\k=0/\x∉ys)\/(b=true/\∃ hk:k<ys.length,ys[k]=x)):=by
 rcases h.look hu hf x hx with⟨h1,h2⟩|⟨k,hk,hx,h2⟩
 ·exact⟨0,false,h2,zh (.inl ⟨rfl,rfl,h1⟩)⟩
 exact⟨k,true,h2,zh (.inr ⟨rfl,hk,hx⟩)⟩
theorem jN(p:Option Nat)(A:AxV)(x y:IdR)(w:World)(hA:AxF w p A)(hx:x.fits)(hy:y.fits) :
  Calls Tryz.prog 227 #[.pointer (ptr p),idV x,idV y] w fun e w'=>∃ B c,e=.returned (.slice B (aP A x y).length c)/\w'.ownsRow w.heap.size 27 2 (.slice B (aP A x y).length c) (aP A x y).length (aJ (aP A x y))/\AxF w' p A/\Kp p.toList w w':=by
 have HB:Hid (Below w.heap.size w ((w.alloc (.cells #[vI x.a,vI x.n] 27)).alloc (.cells #[vI y.a,vI y.n] 27))):=zh (((Below.refl _ w).alloc zr _).alloc (by rw[World.size_alloc];omega) _)
 match p,A,hA with
 |none,none,_=>
  unfold ptr;obtain⟨L,hL⟩:=zD (aP none x y)
  have HL:Hid (L=[]):=zh hL;rw[<- hL];clear hL
  go_in
  go_wp2_with fail
  go_ret
  have hL:=HL.out;subst hL;exact⟨none,0,rfl,⟨rfl,.inl ⟨rfl,rfl⟩⟩,trivial,Kp.of_below HB.out⟩
 |some b,some (ids,fl),h=>
  obtain⟨hl,hn,hf,hd,_⟩:=id h;have HS:=zh (And.intro hl (And.intro hn (And.intro hf hd)));have hbw:b<w.heap.size:=by
   obtain⟨_,_,_,_,⟨base,v1,v2,g⟩|⟨base,g⟩⟩:=h
   ·exact g.ax.lt
   obtain⟨_,_,_,_,_,_,g1,_⟩:=g.ex;exact g1.lt
  have wu:=zh hbw;have HF0:=zh (AxF.next (p:=some b) (A:=some (ids,fl)) h HB.out);have HX:=zh hx;have HY:=zh hy;obtain⟨L,hL⟩:=zD (aP (some (ids,fl)) x y)
  have HL:=zh hL;rw[<- hL];obtain⟨nL,hnL⟩:=zD L.length
  have HNl:=zh hnL;rw[<- hnL];clear hnL;clear h hl hn hf hd hx hy hbw hL;unfold ptr
  go_in
  go_upto_region 1 with fail
  have HI0:Hid (Lies ((w.alloc (.cells #[vI x.a,vI x.n] 27)).alloc (.cells #[vI y.a,vI y.n] 27)) w.heap.size 27 #[vI x.a,vI x.n]):=zh ((Lies.new _ _ _).alloc _);have HI1:Hid (Lies ((w.alloc (.cells #[vI x.a,vI x.n] 27)).alloc (.cells #[vI y.a,vI y.n] 27)) (w.heap.size+1) 27 #[vI y.a,vI y.n]):=zh (by
   have h:=Lies.new (w.alloc (.cells #[vI x.a,vI x.n] 27)) 27 #[vI y.a,vI y.n];rw[World.size_alloc]at h;exact h)
  generalize (w.alloc (.cells #[vI x.a,vI x.n] 27)).alloc (.cells #[vI y.a,vI y.n] 27)=W1 at *;have CR:=zh (oN b ids fl _ HF0.out);clear HF0
  go_wp2_with fail
  refine CR.out.mono ?_;rintro e W2 ⟨rfl,⟨base,hF⟩,hk⟩;have sd:Hid (Lies W2 w.heap.size 27 #[vI x.a,vI x.n]):=zh (hk.lies HI0.out (by have:=wu.out;simp;omega));have HY2:Hid (Lies W2 (w.heap.size+1) 27 #[vI y.a,vI y.n]):=zh (hk.lies HI1.out (by have:=wu.out;simp;omega));have fj:Hid (Kp [b] w W2):=zh ((Kp.of_below HB.out).trans hk);have mj:=zh hF;clear hF hk CR HI0 HI1 HB;obtain⟨W3,jk⟩:∃ W,W=W2.drew:=⟨_,rfl⟩
  obtain⟨W4,l8⟩:∃ W,W=W3.drew:=⟨_,rfl⟩
  have HF4:Hid (AxFull b base ids fl W4):=zh (by rw[l8,jk];exact(mj.out.next (Below.refl _ W2).drew).next zB.drew);have fv:Hid (Kp [b] w W4):=zh (by rw[l8,jk];exact fj.out.drew.drew);obtain⟨v1,v2,v4,m,ga,cs,h1,⟨b1,h2⟩,⟨b2,h3⟩,h4,h5,h6,h7,h8⟩:=mj.out.ex;obtain⟨kx,fx,hlx,wm⟩:=(h4.at (rfl:W2.drew.heap[m]?=W2.heap[m]?)).find (t:=149) Tryz.underlying149 HS.out.2.2.1 x HX.out;obtain⟨ky,fy,hly,s5⟩:=(h4.at (rfl:W2.drew.drew.heap[m]?=W2.heap[m]?)).find (t:=149) Tryz.underlying149 HS.out.2.2.1 y HY.out;have a2:=h1.cell 2;have x0:=sd.out.cell 0;have x1:=sd.out.cell 1;simp only[za,zb,zf]at a2 x0 x1;have hxl:=sd.out.lt;have hyl:=HY2.out.lt;dsimp only[idV]at hlx;have HLY:=zh hly;have iu:=zh h1;clear h2 h3 h4 h5 h6 h7 h8 h1 mj fj hly
  go_upto_region 4 with fail
  go_cut [7,8] (fun va vb wx=>va=vI (kx:Int)/\vb=.bool fx/\Hid (wx=W3))
  case first=>
   go_region
   all_goals go_wp2_with fail
   all_goals go_meet
   all_goals exact⟨rfl,rfl,zh jk.symm⟩
  case rest=>
  obtain⟨rfl,rfl,hcut⟩:=hcut;obtain rfl:W3=wc:=hcut.out.symm;clear hlx x0 x1 hxl a2 hyl;have hly:=HLY.out;rw[<- jk]at hly;have ir:=iu.out.next (Below.refl _ W2).drew;have hY2:=HY2.out.next (Below.refl _ W2).drew;rw[<- jk]at ir hY2;have a2:=ir.cell 2;have y0:=hY2.cell 0;have y1:=hY2.cell 1;simp only[za,zb,zf]at a2 y0 y1;have hyl:=hY2.lt;dsimp only[idV]at hly;clear ir hY2 HLY iu hcut sd HY2 jk
  go_upto_region 5 with fail
  go_cut [9,10] (fun va vb wx=>va=vI (ky:Int)/\vb=.bool fy/\Hid (wx=W4))
  case first=>
   go_region
   all_goals go_wp2_with fail
   all_goals go_meet
   all_goals exact⟨rfl,rfl,zh l8.symm⟩
  case rest=>
  obtain⟨rfl,rfl,hcut⟩:=hcut;obtain rfl:W4=wc:=hcut.out.symm;clear hly y0 y1 hyl a2 l8 hcut;by_cases qg:fx=true/\fy=true
  ·obtain⟨rfl,rfl⟩:=qg;obtain⟨-,un,ex⟩:=wm.out.resolve_left (fun h=>by cases h.1);obtain⟨-,hky,ey⟩:=s5.out.resolve_left (fun h=>by cases h.1);have aq:=HL.out;rw[<- ex,<- ey,yY HS.out.2.2.2 un hky]at aq;have bf:=zh aq;clear aq ex ey wm s5 HL;have hlt:∃ f l:Nat,(f=kx/\l=ky/\(kx:Int)<=(ky:Int)\/f=ky/\l=kx/\(ky:Int)<(kx:Int)):=by
    rcases Nat.lt_or_ge ky kx with h|h
    ·exact⟨ky,kx,.inr ⟨rfl,rfl,by omega⟩⟩
    exact⟨kx,ky,.inl ⟨rfl,rfl,by omega⟩⟩
   have hn3:=HS.out.2.1;have hle:=HS.out.1;rcases Nat.lt_or_ge ky kx with hgt|hgt
   case' inl=>
    have hz:(ky:Int)<(kx:Int):=by omega
    have ba:Hid (L=aK ((ids.drop ky).take (kx+1-ky)) ((fl.drop ky).take (kx+1-ky))):=zh (by
     have h:=bf.out;rw[Nat.min_eq_right (by omega),Nat.max_eq_left (by omega)]at h;exact h)
    have hfl:ky<=kx:=by omega
    have o9:=un;have ws:=hky;clear un hky;obtain⟨l,rfl⟩:=zD kx
    obtain⟨f,rfl⟩:=zD ky
   case' inr=>
    have hz:(kx:Int)<=(ky:Int):=by omega
    have ba:Hid (L=aK ((ids.drop kx).take (ky+1-kx)) ((fl.drop kx).take (ky+1-kx))):=zh (by
     have h:=bf.out;rw[Nat.min_eq_left (by omega),Nat.max_eq_right (by omega)]at h;exact h)
    have hfl:kx<=ky:=by omega
    have ws:=un;have o9:=hky;clear un hky;obtain⟨f,rfl⟩:=zD kx
    obtain⟨l,rfl⟩:=zD ky
   all_goals
    clear hlt bf;have hm:=live_mid hle hfl o9;have hs:=tB hle o9;have hp:=xB hle (f:=f) (l:=l+1) (by omega);have hq:=vU ids fl hle (l+1);have hr:=dO ids fl;obtain⟨v1,v2,v4,m',ga,cs,h1,-,⟨b2,h3⟩,-,h5,h6,h7,h8⟩:=HF4.out.ex;obtain⟨g2,cy,rfl,-,li,bp⟩:=fI h3 (by omega);have hklf:l<fl.length:=by omega
    obtain⟨lv,mi⟩:=zE (fl[l]'hklf)
    have r0:=bp l (.bool lv) (by simp[dF,hklf,mi]);have z0:W4.cell? ⟨ga,l,none⟩=some (vI ((aK (ids.take l) (fl.take l)).length:Int)):=by rw[h5.cell];exact h7 l o9
    have z1:W4.cell? ⟨ga,f,none⟩=some (vI ((aK (ids.take f) (fl.take f)).length:Int)):=by rw[h5.cell];exact h7 f ws
    have bi:=zh (ba.out.trans hm.symm);rw[mi]at hs;have a1:=h1.cell 1;have a3:=h1.cell 3;have a4:=h1.cell 4;simp only[za,zb,zf]at a1 a3 a4;have hkfi:(f:Int)<(ids.length:Int):=by omega
    have hkli:(l:Int)<(ids.length:Int):=by omega
    have hklj:(l:Int)<(fl.length:Int):=by omega
    have HP8:=zh h8;clear h1 h3 h5 h6 h7 h8 bp mi hm ba;generalize (aK (ids.take (l+1)) (fl.take (l+1))).length=ce at *;generalize (aK (ids.take l) (fl.take l)).length=cl at *;generalize (aK (ids.take f) (fl.take f)).length=cf at *;have hcw:IntKind.i64.wrap ((cl:Int)+1)=(cl:Int)+1:=IntWalk.i64_in _ (by cases lv <;> simp at hs <;> omega);have lg:Hid (L.length=ce-cf):=zh (by rw[bi.out,yk,zc];omega);have HNL:Hid (nL=ce-cf):=zh (HNl.out.trans lg.out);clear lg;obtain⟨be,hbe,i8⟩:∃ be:Int,(be=if lv then (cl:Int)+1 else (cl:Int))/\be=(ce:Int):=⟨_,rfl,by cases lv <;> simp at hs <;> simp <;> omega⟩
    obtain⟨S,fe,iz,m8⟩:=zH HP8.out (by omega) cf ce (cf:Int) be rfl i8 hp hq;have HCC:Hid (∀ W,Below W4.heap.size W4 W->Calls Tryz.prog 244 #[S] W fun e w'=>∃ B c,e=.returned (.slice B nL c)/\w'.ownsRow W4.heap.size 27 2 (.slice B nL c) nL (aJ L)/\Below W4.heap.size W4 w'):=zh (by
     rw[HNL.out,bi.out];exact m8)
    have hba4:b<W4.heap.size:=yu wu.out fv.out.size;clear m8 HP8 hs hp hq hr i8;subst hbe;cases lv
    all_goals
     simp only[Bool.false_eq_true,if_false,if_true]at fe iz
     go_upto_region 13 with fail
     go_cut [6] (fun v6 wx=>∃ B c,v6=.slice B nL c/\Hid (wx.ownsRow W4.heap.size 27 2 (.slice B nL c) nL (aJ L))/\Hid (Below W4.heap.size W4 wx))
     case first=>
      go_region_with ((go_at_call 244;(with_reducible refine(HCC.out _ ?hbw).mono ?_);(case hbw=>(first|assumption|exact zB.drew |(go_split_ands;assumption)));rintro e wx ⟨B,c,rfl,ho,hb⟩;have HO:=zh ho;have ww:=zh hb))
      all_goals go_wp2_with fail
      all_goals go_meet
      all_goals exact⟨_,_,rfl,HO,ww⟩
     case rest=>
     obtain⟨B,c,rfl,ho,hb⟩:=hcut;clear fe iz HCC
     go_wp2_with fail
     go_ret
     exact⟨B,c,rfl,lU ho.out (by have:=fv.out.size;omega),⟨HS.out.1,HS.out.2.1,HS.out.2.2.1,HS.out.2.2.2,.inr ⟨_,HF4.out.next hb.out⟩⟩,fv.out.trans (Kp.of_below hb.out)⟩
  have qu:Hid (L=[]):=zh (by
   rw[HL.out];refine lN ?_;rcases wm.out with⟨_,_,h⟩|⟨h,_⟩
   ·exact .inl h
   rcases s5.out with⟨_,_,h'⟩|⟨h',_⟩
   ·exact .inr h'
   exact absurd ⟨h,h'⟩ qg)
  clear HL wm s5;cases fx <;> cases fy
  case true.true=>exact absurd ⟨rfl,rfl⟩ qg
  all_goals clear qg
  all_goals go_wp2_with fail
  all_goals go_ret
  all_goals
   have hL:=qu.out;subst hL;obtain rfl:nL=0:=HNl.out;exact⟨none,0,rfl,⟨rfl,.inl ⟨rfl,rfl⟩⟩,⟨HS.out.1,HS.out.2.1,HS.out.2.2.1,HS.out.2.2.2,.inr ⟨_,HF4.out⟩⟩,fv.out⟩
end Go.Proofs.YtjfihpaeglpblaaGreatDoor
