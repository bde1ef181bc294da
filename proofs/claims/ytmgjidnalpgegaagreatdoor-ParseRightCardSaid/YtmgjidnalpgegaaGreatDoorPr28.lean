/-
  Lemmas, part 28: RlI ParseRightW LaidP OpenI.
-/
import Derived.ProofKit
import Derived.OpenShut
import Derived.Lib.LaidTab
import Derived.Deep.DeepHandedRow
import Derived.Test.YtmgjidnalpgegaaGreatDoorCards
import Derived.ShutString
import Derived.Deep.Slices
import Derived.SizedLaws
import Derived.Test.YtmgjidnalpgegaaGreatDoorPr27
set_option maxHeartbeats 100000000
namespace Go.Proofs.YtmgjidnalpgegaaGreatDoor
open Go.RowKit
theorem lH:∀ (l:List IdR) (fl:List Bool),∀ y∈bJ l fl,y∈l
 | [],_,_,h=>by cases h
 |x::r,[],_,h=>by cases h
 |x::r,b::s,y,h=>by
  unfold bJ at h
  split at h
  ·rcases ym.1 h with h|h
   ·exact h ▸ List.mem_cons_self
   exact zg _ (lH r s y h)
  exact zg _ (lH r s y h)
theorem uGT(r c:List IdR)(f g:List Bool):lO ⟨bJ (bU r) f,bJ (bU c) g⟩:=⟨fun _ hx e=>(gV r).2.1 (e ▸ lH _ _ _ hx),fun _ hx e=>(gV c).2.1 (e ▸ lH _ _ _ hx)⟩
theorem AxRaw.axIn{q base:Nat}{acc:List IdR}{fl:List Bool}{v1 v2:Value}{W:World}(h:AxRaw q base acc fl v1 v2 W)(he:acc.length=fl.length)(hl:acc.length<=300)(hf:∀ y∈acc,y.fits)(hn:acc.Nodup):AxIn W (some q) (bJ acc fl) :=
 .inl ⟨base,acc,fl,v1,v2,h,he,hl,hf,hn,rfl⟩
theorem uCX{ax:Ax}(ha:lO ax){s:Bs}{t:Tree}(h:bI ax s=.ok t):t.right 6=true/\dE t=0:=by
 unfold bI at h;cases hl:mX s with
 |error k=>rw[hl]at h;cases h
 |ok ts=>
  rw[hl]at h;have h:eR ax (ts++[cJ s.length])=.ok t:=h;unfold eR at h
  split at h
  ·cases h
  rename_i t1 r c hw
  have h1:=(uM ha (zS hl) hw).2
  split at h
  ·cases h
  split at h
  ·cases h
  split at h
  ·cases h
  rename_i hc
  injection h with h;subst h;exact⟨h1,Classical.byContradiction hc⟩
structure uBW(Y:List Nat)(m:Nat)(l:List IdR)(P:World->Prop):Prop where
 next:∀ W W',P W->Below W.heap.size W W'->P W'
 kp:∀ W W',P W->Kp Y W W'->P W'
 place:∀ W x,P W->Calls Tryz.prog 15 #[.pointer (some ⟨m,0,none⟩),idV x] W fun e w'=>e=.returned (.int .i64 (dO l x))/\Below W.heap.size W w'
theorem wE{Y:List Nat}{m base:Nat}{acc:List IdR}{fl:List Bool}{u1 u2:Value}(he:acc.length=fl.length)(hl:acc.length<=300)(h0:m∉Y)(h1:∀ g,u1.ownBlock=some g->g∉Y)(h2:∀ g,u2.ownBlock=some g->g∉Y):uBW Y m (bJ acc fl) (RfMk m base acc fl u1 u2) :=
 ⟨fun _ _ h hb=>h.next hb,fun _ _ h hk=>h.kp hk h0 h1 h2,fun W x h=>uEP m base acc fl u1 u2 x W h he hl⟩
theorem uGU(A B D:Option Addr)(ca cb cd:Nat)(ids jds dead:List IdR)(w:World)(hT:Tab w)(hA:kF w A ids)(hB:kF w B jds)(hD:kF w D dead)(hn:ids.length<=300)(hm:jds.length<=300)(hd:dead.length<=300)(hf:∀ y∈ids,y.fits)(hg:∀ y∈jds,y.fits)(w0:World)(ct:Below w0.heap.size w0 w)(hT0:0<w0.heap.size) :
  Calls Tryz.prog 10 #[.slice A ids.length ca,.slice D dead.length cd] w fun e w1=>∃ m1,e=.returned (.tuple #[.pointer (some ⟨w.heap.size,0,none⟩),.pointer (some ⟨m1,0,none⟩)])/\Below w.heap.size w w1 /\
   Calls Tryz.prog 10 #[.slice B jds.length cb,.slice D dead.length cd] w1 fun e w2=>∃ m2 ax PX PY,e=.returned (.tuple #[.pointer (some ⟨w1.heap.size,0,none⟩),.pointer (some ⟨m2,0,none⟩)]) /\
    lO ax/\LSt ax w.heap.size w1.heap.size w0 w2/\uBW [w.heap.size,w1.heap.size] m1 ax.rows PX/\PX w2/\uBW [w.heap.size,w1.heap.size] m2 ax.cols PY/\PY w2:=by
 have hle:∀ l:List IdR,l.length=(fT l dead).length:=fun l=>by
  have h:=sC l dead dead.length zr;rw[List.take_length]at h;exact h.symm
 refine(vD A D ca cd ids dead w hA hD hn hd hf).mono ?_;rintro e w1 ⟨m1,c1,b1,v1,v2,u1,u2,rfl,h1⟩;have af:=h1.b;refine⟨m1,rfl,af,?_⟩;refine(vD B D cb cd jds dead w1 (iZ hB af) (iZ hD af) hm hd hg).mono ?_;rintro e w2 ⟨m2,c2,b2,x1,x2,z1,z2,rfl,h2⟩;have ay:=h2.b;obtain⟨p1,-,p3,p4⟩:=gV ids;obtain⟨q1,-,q3,q4⟩:=gV jds;have h1a:AxIn w1 (some w.heap.size) (bJ (bU ids) (fT (bU ids) dead)):=h1.a.axIn (hle _) (by omega) (fun y hy=>hf y (p4 y hy)) p1;have h2a:AxIn w2 (some w1.heap.size) (bJ (bU jds) (fT (bU jds) dead)):=h2.a.axIn (hle _) (by omega) (fun y hy=>hg y (q4 y hy)) q1;have s1:=af.size;have s2:=ay.size;have lt1:=h1.a.ax.lt;have lt2:=h2.a.ax.lt;have lm1:=h1.r.ax.lt;have xy:=h1.mb;have dt:=h1.qm;have ug:=h2.mb;have ls:=h2.qm
 refine⟨m2,⟨bJ (bU ids) (fT (bU ids) dead),bJ (bU jds) (fT (bU jds) dead)⟩,_,_,rfl,uGT _ _ _ _,⟨dM h1a ay,h2a,(hT.next af).next ay,hT0,ct.size,lt1,lt2,(ct.trans (af.mono ct.size)).trans (ay.mono (yv ct.size s1))⟩,
  wE (hle _) (by omega) (by simp;omega) (fun g hg=>?_) (fun g hg=>?_),h1.r.next ay,wE (hle _) (by omega) (by simp;omega) (fun g hg=>?_) (fun g hg=>?_),h2.r⟩
 ·have:=bH h1.r.r1 g hg;simp;omega
 ·have:=bH h1.r.r2 g hg;simp;omega
 ·have:=bH h2.r.r1 g hg;simp;omega
 have:=bH h2.r.r2 g hg;simp;omega
theorem uHQ(ax:Ax)(ha:lO ax)(qa qb:Nat)(w W:World)(s:Bs)(h:LSt ax qa qb w W)(hs:s.length<=50000) :
  Calls Tryz.prog 11 #[.string ⟨s.toArray⟩,.pointer (some ⟨qa,0,none⟩),.pointer (some ⟨qb,0,none⟩)] W fun e W'=>FRes qa qb ax w W (bI ax s) e W'/\Kp [qa,qb] W W':=by
 have hlo:w.heap.size<=W.heap.size:=h.bel.size;have hB:AxB (some qa) (some qb) w.heap.size:=⟨h.tl,fun b e=>(by cases e;exact h.ba),fun b e=>(by cases e;have:=h.ba;have:=h.lt;omega),fun b e e2=>(by cases e;cases e2;exact absurd h.lt (Nat.lt_irrefl _))⟩
 refine(mA ax ha (some qa) (some qb) w.heap.size s W hs h.tb h.a h.b hlo hB).mono ?_;rintro e W' ⟨f1,f2,f3,f5,A,cp,rfl,f4⟩;have f6:(oA (bI ax s)).size<=256:=by
  cases hr:bI ax s with
  |ok t=>exact(f5 t hr).2
  |error x=>show uH.size<=256;decide
 have hk:Kp [qa,qb] W W':=f3;have m4:Below w.heap.size W W':=hk.below (fun k hm=>by simp at hm;have:=h.ba;have:=h.lt;omega) hlo;exact⟨⟨⟨f1,f2,h.tb.below m4 h.tl,h.tl,h.ba,h.lt,yu h.qs hk.size,h.bel.trans m4⟩,fun q t x hn=>hn.kp hk h.lt,hk.size,f6,(aY (oA (bI ax s)).h A (oA (bI ax s)).l.length cp).toList,rfl,rfl,cZ _ _ _ _,A,cp,rfl,f4⟩,hk⟩
mutual
theorem zY{ax:Ax}:∀ (t:Tree),t.live ax->∀ n∈t.pre,n.h.a.live ax/\n.h.b.live ax
 | .mk h l,hl,n,hn=>by
  rw[Tree.pre]at hn;rw[Tree.live]at hl;rcases ym.1 hn with rfl|hn
  ·exact hl.1
  exact vY l hl.2 n hn
theorem vY{ax:Ax}:∀ (l:List Tree),kL ax l->∀ n∈mH l,n.h.a.live ax/\n.h.b.live ax
 | [],_,n,hn=>by rw[mH]at hn;cases hn
 |t::r,hl,n,hn=>by
  rw[mH]at hn;rw[kL]at hl;rcases List.mem_append.1 hn with hn|hn
  ·exact zY t hl.1 n hn
  exact vY r hl.2 n hn
end
theorem vL{l:List IdR}{x:IdR}(h:x∈l):0<=dO l x:=by
 have h1:=pX l x;rcases Int.lt_or_le (dO l x) 0 with h2|h2
 ·exact absurd h (h1.1 h2)
 exact h2
mutual
theorem uFZ:∀ t:Tree,t.pre.length=t.size
 | .mk h l=>by rw[Tree.pre,Tree.size,yi,uAW l]
theorem uAW:∀ l:List Tree,(mH l).length=bB l
 | []=>by rw[mH,bB];rfl
 |t::r=>by rw[mH,bB,yl,uFZ t,uAW r]
end
theorem PCells.corners:∀ {xs:List Value} {l:List Tree},PCells xs l->∀ (i:Nat) (hi:i<l.length),(∀ j v,(cL (l[i]'hi).h.a).toList[j]?=some v->xs[i*22+(8+j)]?=some v)/\(∀ j v,(cL (l[i]'hi).h.b).toList[j]?=some v->xs[i*22+(14+j)]?=some v)
 |xs,[],_,_,hi=>absurd hi (by simp)
 |xs,t::l,⟨c,r,h1,h3,⟨A,cp,h4⟩,h5⟩,0,_=>by
  have hc:c=(aY t.h A t.l.length cp).toList:=by rw[<- h4]
  have key:∀ k v,k<22->(aY t.h A t.l.length cp).toList[k]?=some v->xs[0*22+k]?=some v:=fun k v hk hv=>by
   rw[h1,Nat.zero_mul,Nat.zero_add,List.getElem?_append_left (by omega),hc];exact hv
  refine⟨fun j v hv=>?_,fun j v hv=>?_⟩
  ·match j,hv with
   |0,hv=>exact key 8 v (by decide) hv
   |1,hv=>exact key 9 v (by decide) hv
   |2,hv=>exact key 10 v (by decide) hv
   |3,hv=>exact key 11 v (by decide) hv
   |4,hv=>exact key 12 v (by decide) hv
   |5,hv=>exact key 13 v (by decide) hv
   |j+6,hv=>simp at hv
  match j,hv with
  |0,hv=>exact key 14 v (by decide) hv
  |1,hv=>exact key 15 v (by decide) hv
  |2,hv=>exact key 16 v (by decide) hv
  |3,hv=>exact key 17 v (by decide) hv
  |4,hv=>exact key 18 v (by decide) hv
  |5,hv=>exact key 19 v (by decide) hv
  |j+6,hv=>simp at hv
 |xs,t::l,⟨c,r,h1,h3,_,h5⟩,i+1,hi=>by
  obtain⟨k1,k2⟩:=PCells.corners h5 i (by simpa using hi);have key:∀ k v,r[i*22+k]?=some v->xs[(i+1)*22+k]?=some v:=fun k v hv=>by
   rw[h1,List.getElem?_append_right (by omega),h3,show (i+1)*22+k-22=i*22+k by omega];exact hv
  exact⟨fun j v hv=>key _ _ (k1 j v hv),fun j v hv=>key _ _ (k2 j v hv)⟩
theorem uDV{W:World}{base g cap n:Nat}{xs:List Value}{l:List Tree}(h:W.ownsRow base 41 22 (.slice (some ⟨g,0,none⟩) n cap) n xs)(hp:PCells xs l)(i:Nat)(hi:i<l.length):W.rangeAt g (i*22+8) (cL (l[i]'hi).h.a).toList/\W.rangeAt g (i*22+14) (cL (l[i]'hi).h.b).toList:=by
 obtain⟨k1,k2⟩:=hp.corners i hi;have hc:=h.cells (g:=g) rfl;refine⟨fun j v hv=>?_,fun j v hv=>?_⟩
 ·have:=hc _ _ (k1 j v hv);rw[Addr.add_mid,Nat.zero_add]at this
  rwa [Nat.add_assoc]
 have:=hc _ _ (k2 j v hv);rw[Addr.add_mid,Nat.zero_add]at this
 rwa [Nat.add_assoc]
theorem builtC(a b:Cor):Tryz.prog.builtSlice 36 2 [(0,.agg (cL a)),(1,.agg (cL b))]=some (cL a++cL b):=by kernel_rfl
theorem uCorners:Tryz.prog.underlying 48=some (.slice 36):=by kernel_rfl
theorem zJ:(Tryz.prog.info? 36).map (·.size)=some 6:=by kernel_rfl
theorem wp_bsC{o:Oper}{a:Act}{w:World}{K:Act->World->Prop}{Q:Exit->Act->World->Prop}(x y:Operand)(ho:o.op=.buildSlice 48 2 #[(0,x),(1,y)])(c1 c2:Cor)(hx:a.eval x=.agg (cL c1))(hy:a.eval y=.agg (cL c2))
  (h:K (a.put o.dst (.slice (some ⟨w.heap.size,0,none⟩) 2 2)) (w.alloc (.cells (cL c1++cL c2) 36))):o.wp Tryz.prog a w K Q:=by
 have hf:Tryz.prog.builtSlice 36 2 ((#[(0,x),(1,y)]:Array (Nat×Operand)).map fun(i,x)=>(i,a.eval x)).toList=some (cL c1++cL c2):=by
  simp only[List.map_toArray,List.map_cons,List.map_nil,hx,hy];exact builtC c1 c2
 unfold Program.builtSlice at hf;cases uw:Tryz.prog.info? 36 with
 |none=>simp[uw]at hf
 |some ie=>
  simp only[uw]at hf;cases hz:ie.zero with
  |none=>simp[hz]at hf
  |some z=>
   simp only[hz]at hf;by_cases hc:2*ie.size > 2 ^ 24\/2*ie.size=0
   ·rw[if_pos hc]at hf;cases hf
   rw[if_neg hc]at hf;exact wp_buildSlice 48 36 2 #[(0,x),(1,y)] ho _ ie z uCorners uw hz (fun h'=>hc (Or.inl h')) (fun h'=>hc (Or.inr h')) hf h
theorem zC(ax:Ax)(ha:lO ax)(s:Bs):(∃ t,bI ax s=.ok t)\/(∃ e p,bI ax s=.error (e,p)/\e≠0):=by
 unfold bI;cases hl:mX s with
 |error k=>exact .inr ⟨7,k,rfl,by decide⟩
 |ok ts=>
  obtain⟨f1,f2,_⟩:=oQ s ts hl;have hE:=oL (ρ:=fun x y=>x.place<=s.length/\y.place<=s.length) (e:=cJ s.length) (e':=cJ s.length) id rfl (xD _ _ rfl rfl rfl ⟨zr,zr⟩) ts (fun t ht=>by
   have hp:t.place<=s.length:=by have:=(f1 t ht).hi;omega
   exact⟨(f1 t ht).k0,yB (f1 t ht) _ rfl rfl ⟨hp,hp⟩,hp⟩) f2
  show (∃ t,eR ax (ts++[cJ s.length])=.ok t)\/(∃ e p,eR ax (ts++[cJ s.length])=.error (e,p)/\e≠0);rcases uG ha hE with⟨t,h1,_⟩|⟨k,he,h1,_⟩|⟨k,x,y,h1,_,_,h4⟩
  ·exact .inl ⟨t,h1⟩
  ·exact .inr ⟨k,0,h1,by rcases he with rfl|rfl <;> decide⟩
  exact .inr ⟨k,_,h1,h4.1⟩
theorem uIS(ax:Ax)(ha:lO ax)(s:Bs):∃ (t:Tree) (e p:Nat),(oA (bI ax s)=t/\resP (bI ax s)=p/\resE (bI ax s)=e)/\p<=s.length/\((e=0/\p=0/\t.right 6=true/\t.live ax/\dE t=0)\/(e≠0/\t=uH)):=by
 rcases zC ax ha s with⟨t,h⟩|⟨e,p,h,h0⟩
 ·obtain⟨h1,h2⟩:=uCX ha h;have h3:=xH h;rw[h];exact⟨t,0,0,⟨rfl,rfl,rfl⟩,zm _,.inl ⟨rfl,rfl,h1,h3,h2⟩⟩
 have h1:=uR ax ha s e p h;rw[h];exact⟨uH,e,p,⟨rfl,rfl,rfl⟩,h1,.inr ⟨h0,rfl⟩⟩
set_option maxRecDepth 1000000 in
theorem rightL_any(s:Bs)(A B D:Option Addr)(ca cb cd:Nat)(ids jds dead:List IdR)(w:World)(hT:Tab w)(hA:kF w A ids)(hB:kF w B jds)(hD:kF w D dead)(hf:∀ y∈ids,y.fits)(hg:∀ y∈jds,y.fits) :
  Calls Tryz.prog 3 #[.string ⟨s.toArray⟩,.slice A ids.length ca,.slice B jds.length cb,.slice D dead.length cd] w fun e w'=>e=.returned (.bool true)/\Below w.heap.size w w':=by
 have CA:=zh (uBX w hT);have HA:=zh hA;have HB:=zh hB;have HD:=zh hD;have HFt:=zh (And.intro hf hg);have HT:=zh hT;clear hT hA hB hD hf hg
 go_enter Tryz.func3,Tryz.ntmps3
 go_wp2_with fail
 refine CA.out.mono ?_;rintro e W1 ⟨rfl,af⟩;have s4:=zh (HT.out.next af);have i9:=zh (iZ HA.out af);have dy:=zh (iZ HB.out af);have oq:=zh (iZ HD.out af);have kj:=zh af;clear af CA HA HB HD;by_cases hbig:1500<s.length\/200<ids.length\/200<jds.length\/200<dead.length
 ·have CG:=zh (qK s A B D ids.length jds.length dead.length ca cb cd W1 true (by simp;omega))
  go_wp2_with fail
  refine CG.out.mono ?_;rintro e W2 ⟨rfl,jp⟩;rw[jp];clear jp CG
  go_wp2_with fail
  go_ret
  exact⟨rfl,kj.out⟩
 have CG:=zh (qK s A B D ids.length jds.length dead.length ca cb cd W1 false (by simp;omega));have HSm:Hid (s.length<=1500/\ids.length<=200/\jds.length<=200/\dead.length<=200):=zh (by omega);clear hbig
 go_wp2_with fail
 refine CG.out.mono ?_;rintro e W2 ⟨rfl,jp⟩;rw[jp];clear jp CG;have CX:=zh (uGU A B D ca cb cd ids jds dead W1 s4.out i9.out dy.out oq.out (by have:=HSm.out;omega) (by have:=HSm.out;omega) (by have:=HSm.out;omega) HFt.out.1 HFt.out.2 w kj.out HT.out.lt);clear i9 dy oq s4 kj HFt
 go_wp2_with fail
 refine CX.out.mono ?_;rintro e W2 ⟨m1,rfl,ay,hcx⟩;have CX2:=zh hcx;clear hcx ay CX
 go_wp2_with fail
 refine CX2.out.mono ?_;rintro e W3 ⟨m2,ax,PX,PY,rfl,hok,uj,hPX,hx3,hPY,hy3⟩;have tw:=zh uj;have HPX:=zh hPX;have xw:=zh hPY;have HXY3:=zh (And.intro hx3 hy3);clear uj hPX hPY hx3 hy3 CX2;generalize W1.heap.size=qa at *;generalize W2.heap.size=qb at *;have CF:=zh (fun W S hL hs=>uHQ ax hok qa qb w W S hL hs);obtain⟨t,e,p,i7,hp,hq⟩:=uIS ax hok s;have HQ:=zh hq;have dr:=zh i7;have hpi:(p:Int)<=(s.length:Int):=by omega
 have bg:(s.length:Int)<=1500:=by have:=HSm.out.1;omega
 clear hq i7 hok hp
 go_wp2_with fail
 refine(CF.out W3 s tw.out (by have:=HSm.out;omega)).mono ?_;rintro e' W4 ⟨⟨hL,hN,hs,sj,C,rfl,hC,fd,hk⟩,gy⟩;rw[dr.out.1]at hk sj;rw[dr.out.2.1,dr.out.2.2];obtain⟨z1,z2,z3,-⟩:=law_box hL tw.out.qs hs hC hk;have HZ:=zh (And.intro z3 (And.intro z2 (And.intro sj (And.intro (HPX.out.next _ _ (HPX.out.kp _ _ HXY3.out.1 gy) z1) (xw.out.next _ _ (xw.out.kp _ _ HXY3.out.2 gy) z1)))));have HTh:Hid (World.there (W4.alloc (.cells aA.toArray 41)) W4.heap.size 0 C.toArray.size):=zh (dR hC);have fa:=zh fd;have zi:(Tryz.prog.info? 41).map (·.size)=some C.toArray.size:=by rw[yd,hC];exact aF
 clear z1 z2 z3 hL hN hs hC fd hk sj gy tw HXY3 CF dr;simp only[aA]at HZ
 go_upto_region 8 with(first |(refine yq rfl 41 (.tmp 13) (.tmp 44) rfl W4.heap.size 0 C.toArray rfl rfl HTh.out zi fa.out ?_;change wpList _ _ _ _ _ (World.setCells _ W4.heap.size 0 C);generalize World.setCells _ _ _ _=W5 at HZ ⊢))
 have HL5:=zh HZ.out.1;have mi:=zh HZ.out.2.1;have s4:=zh HZ.out.2.2.1;have HXY5:=zh HZ.out.2.2.2;clear HZ HTh fa zi;generalize W4.heap.size=g1 at *;obtain⟨D1,hD1,hl1,ht1⟩:=mi.out.tree;have hi1:(Tryz.prog.info? 41).map (·.size)=some D1.length:=by rw[hD1];exact aF
 have HRA:=zh hl1.rangeL;have HLD:=zh hl1;have HTI:=zh ht1;have de:=zh HL5.out.bel;clear mi HL5 hD1 hl1 ht1;rcases HQ.out with⟨he0,hp0,hrt,tm,hck⟩|⟨he0,ht0⟩
 rotate_left
 ·have HSM:=zh (dF 1000 (by decide) uH uH D1.toArray aA.toArray W5 (by decide) (by rw[<- ht0];exact HTI.out W5 (Below.refl _ _)) ⟨none,0,rfl,.inl rfl⟩);rw[dS]at HSM;simp only[aA]at HSM;have xe:((e:Int)==0)=false:=by rw[ze];simp;try omega
  have ye:((e:Int) != 0)=true:=by rw[ze];simp;try omega
  have uz:(0:Int)<=(p:Int):=by omega
  clear he0 ht0 HTI HPX xw HXY5 s4 HQ
  go_wp2_with (first |(refine aR (Eq.trans (aH rfl rfl rfl rfl) rfl) 41 (.tmp 13) rfl g1 0 rfl D1 _ HRA.out Tryz.underlying41 rfl hi1 ?_))
  refine HSM.out.mono ?_;rintro e' W6 ⟨rfl,hb6⟩;have tj:=zh (de.out.trans (hb6.mono de.out.size));clear hb6 HSM
  go_wp2_with fail
  go_ret
  exact⟨rfl,tj.out⟩
 have HLv:=zh tm;have CK:=zh (uIL t D1.toArray W5 hrt (by have:=s4.out;omega) (HTI.out W5 (Below.refl _ _)));rw[hck]at CK;have xe:((e:Int)==0)=true:=by rw[ze];simp;try omega
 have ye:((e:Int) != 0)=false:=by rw[ze];simp;try omega
 have xp:((p:Int)==0)=true:=by rw[ze];simp;try omega
 have yp:((p:Int) != 0)=false:=by rw[ze];simp;try omega
 clear he0 hp0 hrt tm hck HQ
 go_wp2_with (first |(refine aR (Eq.trans (aH rfl rfl rfl rfl) rfl) 41 (.tmp 13) rfl g1 0 rfl D1 _ HRA.out Tryz.underlying41 rfl hi1 ?_))
 refine CK.out.mono ?_;rintro e' W6 ⟨rfl,hb6⟩;have CN:=zh (tV 1000 (by decide) t D1.toArray W6 (by have:=s4.out;omega) (HTI.out W6 hb6));have HR6:=zh ((HLD.out.next hb6).rangeL);have HXY6:=zh (And.intro (HPX.out.next _ _ HXY5.out.1 hb6) (xw.out.next _ _ HXY5.out.2 hb6));have tj:=zh (de.out.trans (hb6.mono de.out.size));clear hb6 CK de HXY5 HLD HTI HRA
 go_wp2_with (first |(refine yr rfl 41 (.tmp 13) rfl g1 0 rfl D1 _ HR6.out Tryz.underlying41 rfl hi1 ?_))
 refine CN.out.mono ?_;rintro e' W7 ⟨A7,c7,xs,rfl,ho7,hp7,uu⟩;have uv:=zh hp7;have HXY7:=zh (And.intro (HPX.out.next _ _ HXY6.out.1 uu) (xw.out.next _ _ HXY6.out.2 uu));have HB7:=zh (tj.out.trans (uu.mono tj.out.size));have oy:0<t.size:=by cases t;rw[Tree.size];exact Nat.succ_pos _
 obtain⟨g,cap,hv,nk,km⟩:=ho7.form oy;cases hv;have HO7:=zh ho7;have HPL:=zh (uFZ t);have b6:Hid (∀ n∈t.pre,n.h.a.live ax/\n.h.b.live ax):=zh (zY t HLv.out);obtain⟨n,kx⟩:∃ n,n=t.size:=⟨_,rfl⟩
 have hnb:(n:Int)<=256:=by have:=s4.out;omega
 rw[<- kx]at HO7 HPL ⊢;clear uu ho7 hp7 oy nk km kx CN HR6 HXY6 tj s4 HLv
 go_wp2_with fail
 go_loopw [17] (fun v wr=>∃ i:Nat,i<=n/\v=.int .i64 (i:Int)/\Hid (Below W7.heap.size W7 wr)) (fun v _=>n-(intOf v).toNat)
 case atStart=>exact⟨0,zm _,rfl,zh (Below.refl _ _)⟩
 case round=>
  obtain⟨i,hi,rfl,ka⟩:=hrel;by_cases hlt:i<n
  ·have rt:(i:Int)<(n:Int):=by omega
   have HOr:=zh (cW ka.out HO7.out);have hip:i<t.pre.length:=by rw[HPL.out];exact hlt
   obtain⟨k1,k2⟩:=uDV HOr.out uv.out i hip;obtain⟨n0,hn0⟩:∃ n0,t.pre[i]'hip=n0:=⟨_,rfl⟩
   have tm:=b6.out _ (List.getElem_mem hip);rw[hn0]at k1 k2 tm;obtain⟨pa,hpa⟩:∃ c:Cor,n0.h.a=c:=⟨_,rfl⟩
   obtain⟨pb,hpb⟩:∃ c:Cor,n0.h.b=c:=⟨_,rfl⟩
   rw[hpa]at k1 tm;rw[hpb]at k2 tm;have dz:=zh k1;have bq:=zh k2;have HLc:=zh tm;clear k1 k2 tm hn0 hpa hpb hip;obtain⟨Wd,hWd⟩:∃ Wd,wr.drew=Wd:=⟨_,rfl⟩
   have HWD:=zh hWd;clear hWd;have td:Hid (Below wr.heap.size wr Wd):=zh (by rw[<- HWD.out];exact(Below.refl _ _).drew);have ee:Hid (Wd.rangeAt g (i*22+8) (cL pa).toList/\Wd.rangeAt g (i*22+14) (cL pb).toList):=zh (by
    obtain⟨g',gu,hv,_,km⟩:=HOr.out.form (by omega);cases hv;exact⟨fun j v hv=>(td.out.cell (p:=⟨g,i*22+8+j,none⟩) km).trans (dz.out j v hv),fun j v hv=>(td.out.cell (p:=⟨g,i*22+14+j,none⟩) km).trans (bq.out j v hv)⟩)
   clear dz bq HOr;obtain⟨gc,hgc⟩:∃ gc,Wd.heap.size=gc:=⟨_,rfl⟩
   have HGC:=zh hgc;clear hgc;have HW8:Hid (Lies (Wd.alloc (.cells (cL pa++cL pb) 36)) gc 36 (cL pa++cL pb)):=zh (by rw[<- HGC.out];exact Lies.new _ _ _);have HB8:Hid (Below wr.heap.size wr (Wd.alloc (.cells (cL pa++cL pb) 36))):=zh (td.out.alloc td.out.size _)
   go_upto_region 16 with fail
   go_cut [18] (fun v wx=>v=.slice (some ⟨gc,0,none⟩) 2 2/\Hid (wx=Wd.alloc (.cells (cL pa++cL pb) 36)))
   case first=>
    obtain⟨P0,j4⟩:∃ R:World->Prop,∀ w',R w'↔(w'=Wd):=⟨_,fun _=>Iff.rfl⟩
    have ev:=zh j4;clear j4;obtain⟨P1,nh⟩:∃ R:World->Prop,∀ w',R w'↔(w'=Wd.alloc (.cells (cL pa++cL pb) 36)):=⟨_,fun _=>Iff.rfl⟩
    have j5:=zh nh;clear nh;obtain⟨TT,ae⟩:∃ TT:List (Nat×Nat×Value),TT=[(0,77,.slice (some ⟨g,0,none⟩) n c7),(1,78,.int .i64 (i:Int)),(2,79,.pointer (some ⟨g,i*22,none⟩)),(3,80,.pointer (some ⟨g,i*22+8,none⟩)),(4,81,.pointer (some ⟨g,i*22+8,none⟩)),(5,82,.agg (cL pa)),(6,83,.slice (some ⟨g,0,none⟩) n c7),(7,84,.int .i64 (i:Int)),(8,85,.pointer (some ⟨g,i*22,none⟩)),(9,86,.pointer (some ⟨g,i*22+8,none⟩)),(10,87,.pointer (some ⟨g,i*22+14,none⟩)),(11,88,.agg (cL pb)),(12,89,.slice (some ⟨gc,0,none⟩) 2 2),(13,18,.slice (some ⟨gc,0,none⟩) 2 2)]:=⟨_,rfl⟩
    have am:=zh ae;clear ae;refine bC (fun a0=>130<=a0.tmps.size/\a0.eval (.tmp 16)=.slice (some ⟨g,0,none⟩) n c7/\a0.eval (.tmp 17)=.int .i64 (i:Int)) [77,78,79,80,81,82,83,84,85,86,87,88,89,18] TT [(12,P1)] P0 (by kernel_rfl) (by kernel_rfl) ⟨by simp,rfl,rfl⟩ ((ev.out _).2 HWD.out) ?_ ?_
    ·rintro a0 ⟨hs,hq16,hq17⟩ zl a1 w1 zj o bg hI aa ho zd;have ae:=am.out;subst ae;have hk:okU (([(0,77,.slice (some ⟨g,0,none⟩) n c7),(1,78,.int .i64 (i:Int)),(2,79,.pointer (some ⟨g,i*22,none⟩)),(3,80,.pointer (some ⟨g,i*22+8,none⟩)),(4,81,.pointer (some ⟨g,i*22+8,none⟩)),(5,82,.agg (cL pa)),(6,83,.slice (some ⟨g,0,none⟩) n c7),(7,84,.int .i64 (i:Int)),(8,85,.pointer (some ⟨g,i*22,none⟩)),(9,86,.pointer (some ⟨g,i*22+8,none⟩)),(10,87,.pointer (some ⟨g,i*22+14,none⟩)),(11,88,.agg (cL pb)),(12,89,.slice (some ⟨gc,0,none⟩) 2 2),(13,18,.slice (some ⟨gc,0,none⟩) 2 2)]:List (Nat×Nat×Value)).map fun e=>(e.1,e.2.1)) [77,78,79,80,81,82,83,84,85,86,87,88,89,18] 130=true:=by rfl
     have hj:=Up.of_false aa;have hj12:zj<14:=by rw[bg]at hj;exact hj
     have e16x:a1.eval (.tmp 16)=.slice (some ⟨g,0,none⟩) n c7:=(hI.off.eval (by decide)).trans hq16;have e17x:a1.eval (.tmp 17)=.int .i64 (i:Int):=(hI.off.eval (by decide)).trans hq17;(iterate 13 rcases zq hj12 with hj12|rfl);obtain rfl:=cz hj12;all_goals obtain rfl:=oi ho
     ·exact aQ hk hI hs (.head _) (by simp) aa ho zd (aC rfl) rfl (by simp[execOp,go_sem,aE e16x])
     ·exact aQ hk hI hs (.tail _ (.head _)) (by simp) aa ho zd (aC rfl) rfl (by simp[execOp,go_sem,aE e17x])
     ·have d0:=ud zd 0;have p0:=pk hI.pt 0 rfl d0;have d1:=ud zd 1;have p1:=pk hI.pt 1 rfl d1;exact aQ hk hI hs (mm 2 rfl) (by simp) aa ho zd (aC rfl) rfl (by simp[execOp,go_sem,aE p0,aE p1,rt])
     ·have d2:=ud zd 2;have p2:=pk hI.pt 2 rfl d2;exact aQ hk hI hs (mm 3 rfl) (by simp) aa ho zd (aC rfl) rfl (by simp[execOp,go_sem,aE p2])
     ·have d3:=ud zd 3;have p3:=pk hI.pt 3 rfl d3;exact aQ hk hI hs (mm 4 rfl) (by simp) aa ho zd (aC rfl) rfl (by simp[execOp,go_sem,aE p3])
     ·have d4:=ud zd 4;have p4:=pk hI.pt 4 rfl d4;have hq:w1.rangeAt g (i*22+8) (cL pa).toList:=by
       obtain⟨jj,oo,hP⟩:=hI.low 0 (by simp) (fun m hm=>by obtain rfl:=Option.some.inj hm;kernel_rfl) aa;rcases(by omega:jj=0) with rfl;have hP:P0 w1:=hP;have hW:=(ev.out _).1 hP;subst hW;exact ee.out.1
      exact aQ hk hI hs (mm 5 rfl) (by simp) aa ho zd (aC rfl) rfl (aL 36 (.tmp 81) rfl g (i*22+8) p4 (cL pa).toList _ hq Tryz.underlying36 rfl zJ)
     ·exact aQ hk hI hs (mm 6 rfl) (by simp) aa ho zd (aC rfl) rfl (by simp[execOp,go_sem,aE e16x])
     ·exact aQ hk hI hs (mm 7 rfl) (by simp) aa ho zd (aC rfl) rfl (by simp[execOp,go_sem,aE e17x])
     ·have d6:=ud zd 6;have p6:=pk hI.pt 6 rfl d6;have d7:=ud zd 7;have p7:=pk hI.pt 7 rfl d7;exact aQ hk hI hs (mm 8 rfl) (by simp) aa ho zd (aC rfl) rfl (by simp[execOp,go_sem,aE p6,aE p7,rt])
     ·have d8:=ud zd 8;have p8:=pk hI.pt 8 rfl d8;exact aQ hk hI hs (mm 9 rfl) (by simp) aa ho zd (aC rfl) rfl (by simp[execOp,go_sem,aE p8])
     ·have d9:=ud zd 9;have p9:=pk hI.pt 9 rfl d9;exact aQ hk hI hs (mm 10 rfl) (by simp) aa ho zd (aC rfl) rfl (by simp[execOp,go_sem,aE p9])
     ·have d10:=ud zd 10;have p10:=pk hI.pt 10 rfl d10;have hq:w1.rangeAt g (i*22+14) (cL pb).toList:=by
       obtain⟨jj,oo,hP⟩:=hI.low 0 (by simp) (fun m hm=>by obtain rfl:=Option.some.inj hm;kernel_rfl) aa;rcases(by omega:jj=0) with rfl;have hP:P0 w1:=hP;have hW:=(ev.out _).1 hP;subst hW;exact ee.out.2
      exact aQ hk hI hs (mm 11 rfl) (by simp) aa ho zd (aC rfl) rfl (aL 36 (.tmp 87) rfl g (i*22+14) p10 (cL pb).toList _ hq Tryz.underlying36 rfl zJ)
     ·have d5:=ud zd 5;have p5:=pk hI.pt 5 rfl d5;have d11:=ud zd 11;have p11:=pk hI.pt 11 rfl d11;refine iQ hk hI hs (mm 12 rfl) (by kernel_rfl) [] [] P1 rfl aa ho zd (aC rfl) rfl (fun hP=>?_);have hP:P0 w1:=hP;have hW:=(ev.out _).1 hP;subst hW;refine wp_bsC (.tmp 82) (.tmp 88) rfl pa pb p5 p11 ?_;exact⟨by rw[HGC.out],(j5.out _).2 rfl⟩
     have d12:=ud zd 12;have p12:=pk hI.pt 12 rfl d12;exact aQ hk hI hs (mm 13 rfl) (by simp) aa ho zd (aC rfl) rfl (by simp[execOp,go_sem,aE p12])
    intro zl a1 w1 hI ap;have ae:=am.out;subst ae;have hF:P1 w1:=hI.st.last (fun m hm=>ap m.1 (by simp only[ym,List.not_mem_nil,or_false]at hm;rcases hm with rfl;all_goals simp));have z18:a1.eval (.tmp 18)=.slice (some ⟨gc,0,none⟩) 2 2:=hI.pt (13,18,.slice (some ⟨gc,0,none⟩) 2 2) (mm 13 rfl) (ap 13 (by decide));obtain⟨ff,rfl,hf⟩:=hI.off.forms;rw[<- hf 18]at z18;clear hI;simp only[List.foldl,Act.put,yz,List.set];rw[z18];have ml:=(j5.out _).1 hF;simp only[Exit.then]
    go_step
    go_meet
    exact⟨rfl,zh ml⟩
   case rest=>
    obtain⟨rfl,HWc⟩:=hcut;have HL8:Hid (Lies wc gc 36 (cL pa++cL pb)):=zh (by rw[HWc.out];exact HW8.out);have fv:Hid (Below wr.heap.size wr wc):=zh (by rw[HWc.out];exact HB8.out);have HXc:Hid (PX wc/\PY wc/\Below W7.heap.size W7 wc):=zh ⟨HPX.out.next _ _ (HPX.out.next _ _ HXY7.out.1 ka.out) fv.out,xw.out.next _ _ (xw.out.next _ _ HXY7.out.2 ka.out) fv.out,ka.out.trans (fv.out.mono ka.out.size)⟩;clear HWc HW8 HB8 fv ee td HWD HGC ka
    go_wp2_with fail
    go_loopw [19] (fun v wr=>∃ k:Nat,k<=2/\v=.int .i64 (k:Int)/\Hid (Below wc.heap.size wc wr)) (fun v _=>2-(intOf v).toNat)
    case atStart=>exact⟨0,by omega,rfl,zh (Below.refl _ _)⟩
    case round=>
     obtain⟨k,hk,rfl,lk⟩:=hrel;have HLy:=zh (HL8.out.next lk.out);have HXy:Hid (PX wr/\PY wr):=zh ⟨HPX.out.next _ _ HXc.out.1 lk.out,xw.out.next _ _ HXc.out.2.1 lk.out⟩;rcases(by omega:k=2\/k=0\/k=1) with rfl|hk01
     ·have vz:=zh (HXc.out.2.2.trans (lk.out.mono HXc.out.2.2.size));clear HLy HXy HL8 HXc lk
      go_wp2_with fail
      go_roundw
      case rel=>exact⟨i+1,by omega,by go_num,vz⟩
      case measure=>simp[intOf];omega
     obtain⟨c,hc⟩:∃ c:Cor,(k=0/\c=pa\/k=1/\c=pb):=hk01.elim (fun h=>⟨pa,.inl ⟨h,rfl⟩⟩) (fun h=>⟨pb,.inr ⟨h,rfl⟩⟩)
     have rn:c.live ax:=hc.elim (fun h=>by rw[h.2];exact HLc.out.1) (fun h=>by rw[h.2];exact HLc.out.2);have hcx:∀ W,Lies W gc 36 (cL pa++cL pb)->W.cell? ⟨gc,k*6,none⟩=some (.int .i64 c.row.a)/\W.cell? ⟨gc,k*6+1,none⟩=some (.int .i64 c.row.n)/\W.cell? ⟨gc,k*6+2,none⟩=some (.int .i64 c.col.a)/\W.cell? ⟨gc,k*6+3,none⟩=some (.int .i64 c.col.n):=fun W h=>by
      rcases hc with⟨rfl,rfl⟩|⟨rfl,rfl⟩
      ·exact⟨h.cell 0,h.cell 1,h.cell 2,h.cell 3⟩
      exact⟨h.cell 6,h.cell 7,h.cell 8,h.cell 9⟩
     have HCX:=zh hcx;clear hcx hc;obtain⟨x0,x1,x2,x3⟩:=HCX.out wr HLy.out;have km:=HLy.out.lt;have ja:(k:Int)<2:=by omega
     obtain⟨r1,i7⟩:∃ b,decide (c.row≠id0)=b:=⟨_,rfl⟩
     obtain⟨r2,lh⟩:∃ b,decide (c.col≠id0)=b:=⟨_,rfl⟩
     have N1:∀ w:World,(binOp .neq 34 (idV c.row) (idV id0)).run Tryz.prog w=.ok (.bool r1) w:=fun w=>by rw[fU,i7]
     have N2:∀ w:World,(binOp .neq 34 (idV c.col) (idV id0)).run Tryz.prog w=.ok (.bool r2) w:=fun w=>by rw[fU,lh]
     have HF1:Hid (r1=true->0<=dO ax.rows c.row):=zh (fun h=>rn.1.elim (fun h0=>absurd h0 (by rw[h]at i7;simpa using i7)) vL);have ol:Hid (r2=true->0<=dO ax.cols c.col):=zh (fun h=>rn.2.elim (fun h0=>absurd h0 (by rw[h]at lh;simpa using lh)) vL);have CP1:=zh (HPX.out.place wr c.row HXy.out.1);have CPY:=zh (fun W h=>xw.out.place W c.col h);generalize dO ax.rows c.row=f1 at *;generalize dO ax.cols c.col=f2 at *;clear i7 lh rn hk01;cases r1
     all_goals cases r2
     ·clear CP1 CPY HF1 ol
      go_wp2_with fail
      go_roundw
      case rel=>exact⟨k+1,by omega,by go_num,lk⟩
      case measure=>simp[intOf];omega
     ·clear CP1 HF1
      go_wp2_with fail
      refine(CPY.out wr HXy.out.2).mono ?_;rintro e' wz2 ⟨rfl,xx⟩;have hf2:¬ (f2<0):=by have:=ol.out (by trivial);omega
      have HBz2:=zh (lk.out.trans (xx.mono lk.out.size));clear xx CPY
      go_wp2_with fail
      go_roundw
      case rel=>exact⟨k+1,by omega,by go_num,HBz2⟩
      case measure=>simp[intOf];omega
     ·go_wp2_with fail
      refine CP1.out.mono ?_;rintro e' wz ⟨rfl,ru⟩;have hf1:¬ (f1<0):=by have:=HF1.out (by trivial);omega
      have ou:=zh (lk.out.trans (ru.mono lk.out.size));have HYz:=zh (xw.out.next _ _ HXy.out.2 ru);obtain⟨y0,y1,y2,y3⟩:=HCX.out wz (HLy.out.next ru);have hgz:=(HLy.out.next ru).lt;clear ru CP1 HF1 x0 x1 x2 x3 km;clear CPY ol
      go_wp2_with fail
      go_roundw
      case rel=>exact⟨k+1,by omega,by go_num,ou⟩
      case measure=>simp[intOf];omega
     go_wp2_with fail
     refine CP1.out.mono ?_;rintro e' wz ⟨rfl,ru⟩;have hf1:¬ (f1<0):=by have:=HF1.out (by trivial);omega
     have ou:=zh (lk.out.trans (ru.mono lk.out.size));have HYz:=zh (xw.out.next _ _ HXy.out.2 ru);obtain⟨y0,y1,y2,y3⟩:=HCX.out wz (HLy.out.next ru);have hgz:=(HLy.out.next ru).lt;clear ru CP1 HF1 x0 x1 x2 x3 km
     go_wp2_with fail
     refine(CPY.out wz HYz.out).mono ?_;rintro e' wz2 ⟨rfl,xx⟩;have hf2:¬ (f2<0):=by have:=ol.out (by trivial);omega
     have HBz2:=zh (ou.out.trans (xx.mono ou.out.size));clear xx CPY
     go_wp2_with fail
     go_roundw
     case rel=>exact⟨k+1,by omega,by go_num,HBz2⟩
     case measure=>simp[intOf];omega
  have HB8:=zh (HB7.out.trans (ka.out.mono HB7.out.size));have zz:¬ ((i:Int)<(n:Int)):=by omega
  go_wp2_with fail
  go_ret
  exact⟨rfl,HB8.out⟩
open Go.ChangeShapes Go.WideShapes Go.ChangeAt Go.RowKit
theorem own:ownKnob Tryz.prog.godebug=none:=by kernel_rfl
theorem laidOut:laidOutB Tryz.prog=true:=by kernel_rfl
theorem uP{H:Type}{enc:TypeId×Value->H}{P:Program}{w:World}{base:Nat}{sp:Nat->Bool}{held:Bool}{fuel:Nat}{t e:TypeId}{n:Nat}{cs:List Value}{ss:List Bs}{p:List MemPlace}
  (ht:P.underlying t=some (.array n e)) (he:P.underlying e=some .string) (hce:P.cellsOf e=1) (hct:P.cellsOf t=n)
  (h:DataW.trod enc P w base sp held fuel t cs=some (.agg (ss.map fun s=>.lit (.string s)),p)):cs=ss.map fun s=>Value.string ⟨s.toArray⟩:=by
 cases fuel with
 |zero=>simp[DataW.trod]at h
 |succ fuel=>
  simp only[DataW.trod,ht,hce,hct,Nat.mul_one]at h
  split at h
  ·rename_i hl
   obtain⟨xs,hm,hx⟩:=Option.map_eq_some_iff.1 h;have hxs:xs.map (·.1)=ss.map fun s=>(DataW.lit (.string s):DataW H):=by
    have:=congrArg Prod.fst hx;simpa using this
   have hxl:xs.length=n:=by simpa using Lib.mapM_length hm
   have hzl:ss.length=n:=by
    have:=congrArg List.length hxs;simp at this;omega
   apply List.ext_getElem?;intro i;by_cases hi:i<n
   ·obtain⟨b,hb,hf⟩:=Lib.mapM_at hm i i (by simp[hi]);obtain⟨z,hc,rfl,_⟩:=DataW.trod_string he hf;have h1:cs[i]?=some (.string z):=by
     have:=congrArg (·[0]?) hc;simpa [List.getElem?_take,List.getElem?_drop] using this
    have h2:(xs.map (·.1))[i]?=some (DataW.lit (.string z.data.toList):DataW H):=by simp[hb]
    rw[hxs]at h2;simp only[List.getElem?_map,Option.map_eq_some_iff,DataW.lit.injEq,Lit.string.injEq]at h2;obtain⟨z',hz',j7⟩:=h2;simp[h1,hz',j7]
   rw[List.getElem?_eq_none (by omega),List.getElem?_eq_none (by simp;omega)]
  cases h
theorem zO{P:Program}{w:World}:∀ {laid:List (String×DataW Unit)} {ps:List MemPlace},DataW.LaidVars P w laid ps->∀ {n:String} {d:DataW Unit},(n,d)∈laid ->
  ∃ g t cs fuel p,P.globalNamed n=some g/\(P.globals[g]?).map (·.type)=some t/\w.var? P n=some cs/\DataW.trod (fun _=>()) P w 0 (fun _=>true) false fuel t cs.toList=some (d,p)
 | [],_,_,_,_,hm=>by simp at hm
 |(n',d')::r,ps,h,n,d,hm=>by
  obtain⟨g,t,cs,fuel,p,q,h1,h2,h3,h4,h5,_⟩:=h;rcases ym.1 hm with e|e
  ·injection e with e1 e2;subst e1 e2;exact⟨g,t,cs,fuel,p,h1,h2,h3,h4⟩
  exact zO h5 e
def faultName:String:= "counterpane/value.faultTexts"
theorem gFault:Tryz.prog.globalNamed faultName=some 0:=by kernel_rfl
theorem uCY:(Tryz.prog.globals[0]?).map (·.type)=some 134:=by kernel_rfl
theorem tab_of_laid{laid:List (String×DataW Unit)}{W:World}(h:laidMet Tryz.prog laid W)(hm:(faultName,Rows.laid_counterpane_value_faultTexts)∈laid):Tab W:=by
 obtain⟨ps,hl,_⟩:=h;obtain⟨g,t,cs,fuel,p,h1,h2,h3,h4⟩:=zO hl hm;obtain rfl:=Option.some.inj (gFault.symm.trans h1);obtain rfl:=Option.some.inj (uCY.symm.trans h2);have ik:=uP (ss:=(List.range 10).map dD) Tryz.underlying134 Tryz.underlying9 (by kernel_rfl) (by kernel_rfl) h4;intro i hi;have h5:=World.var?_cell gFault h3 i;rw[h5];have h6:cs[i]?=cs.toList[i]?:=by simp
 rw[h6,ik];simp[hi]
noncomputable def laidWorld (os:Os):World :=
 { World.holding Tryz.prog os ⟨#[],#[],[]⟩ with heap:=(World.holding Tryz.prog os ⟨#[],#[],[]⟩).heap.modify 0 fun
   | .cells _ t frozen=>.cells #[.string ⟨#[]⟩,.string ⟨#[35,68,73,86,47,48,33]⟩,.string ⟨#[35,86,65,76,85,69,33]⟩,.string ⟨#[35,82,69,70,33]⟩,.string ⟨#[35,78,65,77,69,63]⟩,.string ⟨#[35,78,85,77,33]⟩,.string ⟨#[35,78,47,65]⟩,.string ⟨#[35,83,80,73,76,76,33]⟩,.string ⟨#[35,67,73,82,67,33]⟩,.string ⟨#[35,67,65,76,67,33]⟩] t frozen
   |o=>o }
end Go.Proofs.YtmgjidnalpgegaaGreatDoor
namespace Go.Proofs.YtmgjidnalpgegaaGreatDoor
open Go.ChangeShapes Go.WideShapes Go.ChangeAt Go.RowKit
section
variable {H:Type} {enc:TypeId×Value->H} {W:World}
set_option maxRecDepth 100000 in
theorem trod_idR{n:Nat}{c0 c1:Value}{x:DataW H×List MemPlace}(h:DataW.trod enc Tryz.prog W 0 (fun _=>true) true n 34 [c0,c1]=some x) :
  ∃ t:IdR,c0=.int .i64 t.a/\c1=.int .i64 t.n/\t.fits:=by
 obtain⟨xs,k,_,hx,_,hlen,hg⟩:=DataW.trod_struct Tryz.underlying34 h
 match xs,hlen with
 | [y0,y1],_=>
  have g0:DataW.trod enc Tryz.prog W 0 (fun _=>true) true k 3 [c0]=some y0:=by have:=hg 0 _ rfl;simpa [sT] using this
  have g1:DataW.trod enc Tryz.prog W 0 (fun _=>true) true k 3 [c1]=some y1:=by have:=hg 1 _ rfl;simpa [sT] using this
  obtain⟨m,e0,rfl,w0⟩:=DataW.trod_int Tryz.underlying3 g0;obtain⟨p,e2,rfl,w2⟩:=DataW.trod_int Tryz.underlying3 g1;injection e0 with e0;injection e2 with e2;subst e0 e2;exact⟨⟨m,p⟩,rfl,rfl,w0,w2⟩
set_option maxRecDepth 100000 in
theorem in_ids{a:Option Addr}{len cap:Nat}{d:DataW H}{p:List MemPlace}(h:DataW.Trod enc Tryz.prog W 0 (fun _=>true) true 22 (.slice a len cap) d p) :
  ∃ ts:List IdR,ts.length=len/\kF W a ts/\∀ t∈ts,t.fits:=by
 obtain⟨fuel,hf⟩:=h;rcases Go.Deep.open_slice Tryz.underlying22 hf with⟨ik,_⟩|⟨x,l,c,m,n,D,Pl,ik,hb,hl,hm,hmm,hx,hi⟩
 ·simp[Value.cells]at ik;obtain⟨rfl,rfl,rfl⟩:=ik;exact⟨[],rfl,fun h0=>by simp at h0,fun t ht=>by simp at ht⟩
 simp[Value.cells]at ik;obtain⟨rfl,rfl,rfl⟩:=ik;rw[if_pos rfl]at hmm;subst hmm;rw[xI]at hi;obtain⟨g,o,spot⟩:=x;have key:∀ i,i<len->∃ t:IdR,(W.cell? ((⟨g,o,spot⟩:Addr).add (i*2))=some (.int .i64 t.a)/\W.cell? (((⟨g,o,spot⟩:Addr).add (i*2)).add 1)=some (.int .i64 t.n))/\t.fits:=by
  intro i ox;obtain⟨r7,hc,ht'⟩:=hi i (by omega);obtain⟨_,rn,ec⟩:=World.cells?_some hc
  match r7,rn with
  | [c0,c1],_=>
   obtain⟨t,e0,e1,ef⟩:=trod_idR ht';have h0:=ec 0 (by omega);have h1:=ec 1 (by omega);simp only[zb,zf]at h0 h1;refine⟨t,⟨?_,?_⟩,ef⟩
   ·rw[<- e0,<- h0];simp[Addr.add]
   rw[<- e1,<- h1]
 have hch:∃ f:Nat->IdR,∀ i (ox:i<len),(W.cell? ((⟨g,o,spot⟩:Addr).add (i*2))=some (.int .i64 (f i).a)/\W.cell? (((⟨g,o,spot⟩:Addr).add (i*2)).add 1)=some (.int .i64 (f i).n))/\(f i).fits :=
  ⟨fun i=>if h:i<len then Classical.choose (key i h) else ⟨0,0⟩,fun i ox=>by
   have:=Classical.choose_spec (key i ox);simp only[dif_pos ox];exact this⟩
 obtain⟨f,hf2⟩:=hch;refine⟨(List.range len).map f,by simp,fun h0=>?_,fun t ht=>?_⟩
 ·have h0':0<len:=by simpa using h0
  have hsp:spot=none:=by
   have:=(hf2 0 h0').1.1;simpa [Addr.add] using World.cell?_spot this
  subst hsp;have hadd:∀ k j:Nat,(⟨g,k,none⟩:Addr).add j=⟨g,k+j,none⟩:=fun k j=>by
   unfold Addr.add;by_cases e:j=0
   ·simp[e]
   simp[e]
  refine⟨g,o,rfl,?_,fun j hj=>?_⟩
  ·have:=(hf2 0 h0').1.1;rw[hadd]at this;exact tA this
  have hj':j<len:=by simpa using hj
  obtain⟨h1,h2⟩:=(hf2 j hj').1;rw[hadd,hadd]at h2;rw[hadd]at h1;simp only[List.getElem_map,List.getElem_range];exact⟨h1,h2⟩
 obtain⟨i,hi,rfl⟩:=yj.1 ht;exact(hf2 i (yg.1 hi)).2
end
end Go.Proofs.YtmgjidnalpgegaaGreatDoor
