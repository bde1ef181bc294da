/-
  Lemmas, part 23: TokK Rr4 Rr5 Rr8 TokL.
-/
import Derived.Laws.AppendOwnNone
import Derived.Test.YtjfihpaeglpblaaGreatDoorRf20
import Derived.Test.YtjfihpaeglpblaaGreatDoorRf21
set_option maxHeartbeats 100000000
set_option maxRecDepth 1000000
namespace Go.Proofs.YtjfihpaeglpblaaGreatDoor
open Go.RowKit
theorem rA:(Tryz.prog.info? 64).map (fun i=>(i.zero,i.size,i.bytes))=some (some (.agg #[vI 0,vS #[],vI 0]),3,32):=by kernel_rfl
def fM(t:RTok):List Value:=[vI t.kind,vT t.text,vI t.place]
theorem lP(t:RTok):∀ u∈fM t,u.oneCell'=true:=by
 intro u hu;simp only[fM,ym,List.not_mem_nil,or_false]at hu;rcases hu with rfl|rfl|rfl <;> rfl
def jD(ts:List RTok):List Value:=ts.flatMap fM
theorem oE(ts:List RTok)(t:RTok):jD (ts++[t])=jD ts++fM t:=by simp[jD]
theorem rowK_get(ts:List RTok)(j:Nat)(h:j<ts.length):(jD ts)[j*3]?=some (vI ts[j].kind)/\(jD ts)[j*3+1]?=some (vS (ts[j].text.toArray))/\(jD ts)[j*3+2]?=some (vI ts[j].place):=by
 induction ts generalizing j with
 |nil=>simp at h
 |cons t ts ih=>
  have e:jD (t::ts)=fM t++jD ts:=by simp[jD]
  have hl:(fM t).length=3:=rfl;cases j with
  |zero=>rw[e];exact⟨rfl,rfl,rfl⟩
  |succ j=>
   have:=ih j (by simpa using h);rw[e];rw[List.getElem?_append_right (by omega),List.getElem?_append_right (by omega),List.getElem?_append_right (by omega),hl];rw[show (j+1)*3-3=j*3 by omega,show (j+1)*3+1-3=j*3+1 by omega,show (j+1)*3+2-3=j*3+2 by omega];simpa using this
theorem rIn_ownK{w:World}{base:Nat}{e:TypeId}{A:Option Addr}{cap:Nat}{ts:List RTok}(h:w.ownsRow base e 3 (.slice A ts.length cap) ts.length (jD ts)):RIn w A ts:=by
 intro hp;rcases h.2 with⟨_,h0⟩|⟨g,o5,cur,hv,_⟩
 ·omega
 injection hv with hA hn hc;subst hA hc;have hlt:=(h.lt g rfl).2;refine⟨g,0,rfl,hlt,fun j hj=>?_⟩;obtain⟨h1,h2,h3⟩:=rowK_get ts j hj;refine⟨?_,?_,?_⟩
 ·rw[Nat.zero_add,h.cellAt _ (by omega)];exact h1
 ·rw[Nat.zero_add,h.cellAt _ (by omega)];exact h2
 rw[Nat.zero_add,h.cellAt _ (by omega)];exact h3
def AxQ(W:World):Option Nat->AxV->Prop
 |none,none=>True
 |some b,some (ids,fl)=>ids.length=fl.length/\ids.length<=300/\(∀ y∈ids,y.fits)/\ids.Nodup/\∃ base v1 v2,RfMk b base ids fl v1 v2 W
 |_,_=>False
theorem AxQ.next{W W':World}{p:Option Nat}{A:AxV}(h:AxQ W p A)(hb:Below W.heap.size W W'):AxQ W' p A:=by
 match p,A,h with
 |none,none,_=>trivial
 |some b,some (ids,fl),⟨h1,h2,h3,h4,base,v1,v2,h5⟩=>exact⟨h1,h2,h3,h4,base,v1,v2,h5.next hb⟩
theorem pH(p:Option Nat)(A:AxV)(x:IdR)(w:World)(hA:AxQ w p A) :
  Calls Tryz.prog 20 #[.pointer (ptr p),idV x] w fun e w'=>e=.returned (vI (aF A x))/\Below w.heap.size w w':=by
 have aq:Hid (Below w.heap.size w (w.alloc (.cells #[vI x.a,vI x.n] 27))):=zh ((Below.refl _ w).alloc zr _)
 match p,A,hA with
 |none,none,_=>
  unfold ptr aF
  go_in
  go_wp2_with fail
  go_ret
  exact⟨rfl,aq.out⟩
 |some q,some (ids,fl),⟨hl,hn,_,_,base,v1,v2,hM⟩=>
 unfold ptr;rw[show aF (some (ids,fl)) x=bC (aK ids fl) x from rfl];obtain⟨W1,am⟩:=zD (w.alloc (.cells #[vI x.a,vI x.n] 27))
 have al:=zh am;have iu:=zL am;have ab:Below w.heap.size w W1:=by rw[am];exact(zp _)
 have bf:=zh ab;have CO:=zh (uBL q base ids fl v1 v2 W1 (hM.next ab) hl hn);have gx:Hid ((aK ids fl).length<=300):=zh (yv (dO _ _) hn);clear am ab hM hl hn aq;generalize aK ids fl=l at *
 go_in
 go_upto_region 1 with fail
 rw[<- al.out];generalize hq:w.heap.size=qb at *;clear al
 go_wp2_with fail
 refine CO.out.mono ?_;rintro e W2 ⟨A,cap,rfl,hM2,hb2⟩;have HM:=zh hM2;have HL:=zh (iu.out.next hb2);have HB:=zh (bf.out.trans (hb2.mono (by rw[<- hq];exact bf.out.size)));have HQ2:Hid (qb<=W2.heap.size):=zh (by rw[<- hq];have:=bf.out.size;have:=hb2.size;omega);clear hM2 hb2 iu CO bf;obtain⟨n,fi⟩:=zD l.length
 have HN:=zh fi;rw[<- fi]at HM ⊢;clear fi
 go_wp2_with fail
 go_loopw [6] (fun v wr=>∃ k:Nat,k<=n/\v=vI (k:Int)/\Hid (x∉l.take k)/\Hid (Below W2.heap.size W2 wr)) (fun v _=>n-(intOf v).toNat)
 case atStart=>exact⟨0,zm _,rfl,zh (by simp),zh zB⟩
 case round=>
  obtain⟨k,hk,rfl,lp,od⟩:=hrel;have mz:=zh (aL od.out HM.out);have rg:(k:Int)<=300:=by have:=gx.out;have:=HN.out;omega
  by_cases hlt:k<n
  ·have ip:(k:Int)<(n:Int):=by omega
   have kr:k<l.length:=by rw[<- HN.out];exact hlt
   obtain⟨g,o5,hv,mu,hgl⟩:=mz.out.form (by omega);cases hv;have gy:=mQ mz.out k kr;have d0:wr.cell? ⟨g,k*2,none⟩=some (vI l[k].a):=gy 0 _ rfl;have d1:wr.cell? ⟨g,k*2+1,none⟩=some (vI l[k].n):=gy 1 _ rfl;clear gy;obtain⟨y,hy⟩:=zE (l[k])
   rw[hy]at d0 d1;have HY:=zh hy;clear hy;obtain⟨b,hb⟩:=zE (decide (y=x))
   have ig:=zh hb;clear hb;have hLr:=HL.out.next od.out;have x0:=hLr.cell 0;have x1:=hLr.cell 1;simp only[za,zb,zf]at x0 x1;have hxl:=hLr.lt;clear hLr;obtain⟨Wr,hWr⟩:=zD wr
   subst hWr
   go_upto_region 7 with fail
   go_cut [34] (fun v wx=>v=.bool b/\Hid (Below Wr.heap.size Wr wx))
   case first=>
    obtain⟨ya,yn⟩:=y;obtain⟨xa,xn⟩:=x;dsimp only at d0 d1 x0 x1;have hB2:=ig.out;by_cases h1:ya=xa
    ·subst h1;by_cases h2:yn=xn
     ·subst h2;have HE:Hid (b=true):=zh (by rw[<- hB2];simp);clear hB2 ig
      go_region
      all_goals go_wp2_with fail
      all_goals go_meet
      all_goals exact⟨by rw[HE.out],zh zB.drew⟩
     have HE:Hid (b=false):=zh (by rw[<- hB2];simp[h2]);have h2b:(yn==xn)=false:=by simp[h2]
     clear hB2 ig
     go_region
     all_goals go_wp2_with fail
     all_goals go_meet
     all_goals exact⟨by rw[HE.out],zh zB.drew⟩
    have HE:Hid (b=false):=zh (by rw[<- hB2];simp[h1]);have h1b:(ya==xa)=false:=by simp[h1]
    clear hB2 ig
    go_region
    all_goals go_wp2_with fail
    all_goals go_meet
    all_goals exact⟨by rw[HE.out],zh zB.drew⟩
   case rest=>
    obtain⟨rfl,i8⟩:=hcut;have oe:=zh (zU od.out i8.out);clear i8 d0 d1 x0 x1;cases b
    ·have tq:y≠x:=of_decide_eq_false ig.out
     go_wp2_with fail
     go_roundw
     case rel=>exact⟨k+1,by omega,by go_num,zh (by rw[yw kr,HY.out,List.mem_append,not_or];exact⟨lp.out,fun h=>tq (yf.1 h).symm⟩),oe⟩
     case measure=>first |(simp[intOf];done) |(simp[intOf];omega)
    have tq:y=x:=of_decide_eq_true ig.out
    go_wp2_with fail
    go_ret
    exact⟨by rw[show bC l x=(k:Int) from(fX x l 0 k lp.out (by rw[List.getElem?_eq_getElem kr,HY.out,tq])).trans (by rw[Nat.zero_add])];rfl,by first|exact HB.out.trans (oe.out.mono HQ2.out) |(rw[hq];exact HB.out.trans (oe.out.mono HQ2.out))⟩
  obtain rfl:k=n:=by omega
  go_wp2_with fail
  go_ret
  exact⟨by rw[show bC l x=-1 from eN x l 0 (by have:=lp.out;rwa [HN.out,List.take_length]at this)];rfl,by first|exact HB.out.trans (od.out.mono HQ2.out) |(rw[hq];exact HB.out.trans (od.out.mono HQ2.out))⟩
theorem qI{A:AxV}{a b:IdR}(h:aP A a b=[]):dJ A a b=none:=by
 unfold dJ;rw[h]
theorem oM{A:AxV}{a b:IdR}(m:Nat)(x0 y0:IdR)(h:(aP A a b).length=m+1)(h0:(aP A a b)[0]?=some x0)(h1:(aP A a b)[m]?=some y0):dJ A a b=(if gC A a b then some (aF A y0,aF A x0) else some (aF A x0,aF A y0)):=by
 unfold dJ;generalize aP A a b=L at *
 match L,h with
 |x::r,h=>
  dsimp only;have e:(x::r).getLast (by simp)=y0:=by
   rw[List.getLast_eq_getElem];have hm:(x::r).length-1=m:=by rw[h];rfl
   have h2:(x::r)[(x::r).length-1]?=some y0:=by rw[hm];exact h1
   exact(List.getElem?_eq_some_iff.1 h2).2
  have e0:x=x0:=Option.some.inj h0;rw[e,e0]
def Say.ok:Say->Prop
 | .plain=>True
 | .seen r c=>r<=400/\c<=400
def mB:AxV->Prop
 |none=>True
 |some (ids,fl)=>ids.length=fl.length/\ids.length<=300/\(∀ y∈ids,y.fits)/\ids.Nodup
theorem AxF.av{W:World}{p:Option Nat}{A:AxV}(h:AxF W p A):mB A:=by
 match p,A,h with
 |none,none,_=>trivial
 |some b,some (ids,fl),⟨h1,h2,h3,h4,_⟩=>exact⟨h1,h2,h3,h4⟩
theorem uD{ids:List IdR}{fl:List Bool}(he:ids.length=fl.length)(x k:Nat):∀ y∈aK ((ids.drop x).take k) ((fl.drop x).take k),y∈aK ids fl:=by
 intro y hy;have h1:y∈aK (ids.drop x) (fl.drop x):=by
  rw[cI (ids.drop x) (fl.drop x) k (by simp[he])];exact List.mem_append_left _ hy
 rw[cI ids fl x he];exact List.mem_append_right _ h1
theorem uH{A:AxV}(hA:mB A)(a b:IdR):∀ z∈aP A a b,∃ n:Nat,n<=300/\aF A z=(n:Int):=by
 match A,hA with
 |none,_=>intro z hz;cases hz
 |some (ids,fl),⟨h1,h2,h3,h4⟩=>
  intro z hz;have hl:z∈aK ids fl:=by
   unfold aP at hz;dsimp only at hz
   split at hz
   ·cases hz
   exact uD h1 _ _ z hz
  obtain⟨k,hk,rfl⟩:=List.getElem_of_mem hl;have hd:(aK ids fl).Nodup:=by
   have hs:∀ (r:List IdR) (s:List Bool),r.Nodup->(aK r s).Nodup:=by
    intro r
    induction r with
    |nil=>intro s _;cases s <;> simp[aK]
    |cons u r ih=>
     intro s hn;cases s with
     |nil=>simp[aK]
     |cons c s=>
      rw[List.nodup_cons]at hn;unfold aK
      split
      ·rw[List.nodup_cons];exact⟨fun hm=>hn.1 (cX _ _ _ hm),ih s hn.2⟩
      exact ih s hn.2
   exact hs ids fl h4
  refine⟨k,?_,?_⟩
  ·have:=dO ids fl;omega
  show bC (aK ids fl) _=_;exact nV hd hk
theorem dM{A:AxV}(hA:mB A)(a b:IdR):dJ A a b=none\/∃ n m:Nat,n<=300/\m<=300/\dJ A a b=some ((n:Int),(m:Int)):=by
 rcases Nat.eq_zero_or_pos (aP A a b).length with h0|h0
 ·exact .inl (qI (List.eq_nil_of_length_eq_zero h0))
 obtain⟨m,hm⟩:∃ m,(aP A a b).length=m+1:=⟨(aP A a b).length-1,by omega⟩
 have hp:=uH hA a b;have e:=oM m ((aP A a b)[0]'(by omega)) ((aP A a b)[m]'(by omega)) hm (List.getElem?_eq_getElem _) (List.getElem?_eq_getElem _);obtain⟨n1,k1,e1⟩:=hp _ (List.getElem_mem (by omega:0<(aP A a b).length));obtain⟨n2,k2,e2⟩:=hp _ (List.getElem_mem (by omega:m<(aP A a b).length));rw[e1,e2]at e
 right
 rw[e]
 split
 ·exact⟨n2,n1,k2,k1,rfl⟩
 exact⟨n1,n2,k1,k2,rfl⟩
end Go.Proofs.YtjfihpaeglpblaaGreatDoor
