/-
  Lemmas, part 4: Num9 Val7.
-/
import Derived.ArgAppend
import Derived.Test.YtmgjidnalpgegaaGreatDoorPk3
set_option maxHeartbeats 100000000
namespace Go.Proofs.YtmgjidnalpgegaaGreatDoor
open Go.RowKit
def sg(neg:Bool)(n:Nat):Int:=if neg then -(n:Int) else n
theorem pow_bd{x k n:Nat}(hx:0<x)(h:x*10 ^ k=n)(hn:n<=1000000000000000):k<=15:=by
 have h1:10 ^ k<=10 ^ 15:=by
  have:1*10 ^ k<=x*10 ^ k:=Nat.mul_le_mul_right _ hx;have e:(10:Nat) ^ 15=1000000000000000:=by decide
  omega
 have:k<16:=kF (Nat.lt_of_le_of_lt h1 (by decide));omega
theorem uKF(x k:Nat)(e:Int)(hx:0<x):cF (x*10 ^ k) e=cF x (e+k):=by
 induction k generalizing e with
 |zero=>simp
 |succ k ih=>
  have h1:x*10 ^ (k+1)=x*10 ^ k*10:=by rw[Nat.pow_succ,Nat.mul_assoc]
  have hp:0<x*10 ^ k:=Nat.mul_pos hx (Nat.pow_pos (by decide));rw[h1,vD _ e (by omega) (by omega),Nat.mul_div_cancel _ (by decide),ih]
  congr 1
  omega
set_option maxRecDepth 100000 in
theorem uDI(neg:Bool)(n:Nat)(e:Int)(w:World)(hn:n<=1000000000000000)(lf:-3000000<=e)(sr:e<=3000000) :
  Calls Tryz.prog 144 #[.bool neg,.int .u64 (n:Int),.int .i64 e] w fun x w'=>x=.returned (sV (sg neg (cF n e).1) (cF n e).2)/\Below w.heap.size w w':=by
 have hB:Below w.heap.size w (w.alloc (.cells #[.int .i64 0,.int .i64 0] 30)):=(Below.refl _ w).alloc zr _;have HB:=zh hB;have HN:=zh hn;clear hB hn;by_cases h0:n=0
 ·subst h0;have hr:Hid (sV (sg neg (cF 0 e).1) (cF 0 e).2=sV 0 0):=zh (by rw[mL];cases neg <;> rfl);rw[hr.out];clear hr
  go_enter Tryz.func144,Tryz.ntmps144
  go_wp2_with fail
  refine yt (v:=.agg #[.int .i64 0,.int .i64 0]) (by simp[results,Tryz.results144,go_sem]) rfl ?_;exact⟨rfl,(Below.refl _ w).alloc zr _⟩
 have b0:((n:Int)==0)=false:=by rw[beq_eq_false_iff_ne];omega
 have HP:Hid (0<n):=zh (by omega);clear h0;have HQ:Hid (∀ x k:Nat,0<x->x*10 ^ k=n->cF n e=cF x (e+k)):=zh (fun x k h1 h2=>by rw[<- h2];exact uKF x k e h1);generalize cF n e=r at *
 go_enter Tryz.func144,Tryz.ntmps144
 go_wp2_with fail
 go_loop [1,2] (fun v x=>∃ (y k:Nat),v=.int .u64 y/\x=.int .i64 (e+k)/\Hid (0<y)/\Hid (y*10 ^ k=n)) (fun v _=>(intOf v).toNat)
 case atStart=>exact⟨n,0,rfl,by simp,HP,zh (by simp)⟩
 case round=>
  obtain⟨y,k,rfl,rfl,hy,hq⟩:=hrel;have hk:=pow_bd hy.out hq.out HN.out;by_cases hm:y % 10=0
  ·have bm:((y:Int) % 10==0)=true:=by rw[beq_iff_eq];omega
   have hw:Hid (IntKind.u64.wrap ((y:Int) / 10)=((y / 10:Nat):Int)):=zh (by
    have h1:y*1<=y*10 ^ k:=Nat.mul_le_mul_left _ (Nat.pow_pos (by decide));rw[nT _ (by have:=hq.out;have:=HN.out;omega)];omega)
   have hy2:Hid (0<y / 10):=zh (by have:=hy.out;omega);have ma:Hid (y / 10*10 ^ (k+1)=n):=zh (by
    rw[<- hq.out,Nat.pow_succ,Nat.mul_comm (10 ^ k) 10,<- Nat.mul_assoc];congr 1;omega)
   have fg:Hid (e+(k:Int)+1=e+((k+1:Nat):Int)):=zh (by omega);have hlt:Hid (y / 10<y):=zh (by have:=hy.out;omega);clear hm
   go_wp2_with fail
   go_round
   case rel=>exact⟨y / 10,k+1,by rw[hw.out],by rw[<- fg.out],hy2,ma⟩
   case measure=>rw[hw.out];simp[intOf];have:=hlt.out;omega
  have bm:((y:Int) % 10==0)=false:=by rw[beq_eq_false_iff_ne];omega
  have hr:Hid (r=(y,e+(k:Int))):=zh (by rw[HQ.out y k hy.out hq.out];exact vE y _ hm);have hyb:(y:Int)<=9223372036854775807:=by
   have h1:y*1<=y*10 ^ k:=Nat.mul_le_mul_left _ (Nat.pow_pos (by decide));have:=hq.out;have:=HN.out;omega
  clear hm;cases neg
  ·go_wp2_with fail
   refine yt (v:=.agg #[.int .i64 y,.int .i64 (e+k)]) (by simp[results,Tryz.results144,go_sem]) rfl ?_;exact⟨by rw[hr.out];rfl,(Below.refl _ w).alloc zr _⟩
  go_wp2_with fail
  refine yt (v:=.agg #[.int .i64 (-(y:Int)),.int .i64 (e+k)]) (by simp[results,Tryz.results144,go_sem]) rfl ?_;exact⟨by rw[hr.out];rfl,(Below.refl _ w).alloc zr _⟩
theorem rhe_nil(k:Nat):rhe 0 k=0:=by
 have:0<10 ^ k:=Nat.pow_pos (by decide);unfold rhe;rw[Nat.zero_mod,Nat.zero_div,if_neg (by omega)]
theorem oZ(neg:Bool)(e:Int):fZ neg 0 e=some (0,0):=by
 have h1:dU 0 e=(0,e):=if_neg (by rw[qZ];omega);have h2:(gM 0 e).1=0:=by
  unfold gM
  split
  ·exact rhe_nil _
  rfl
 unfold fZ;rw[h1];simp only[h2];rfl
theorem uQ(n:Nat)(e:Int):(dU n e).1<=1000000000000000:=by
 unfold dU
 split
 ·rename_i h
  have h1:=pN n;rw[show eQ n=15+(eQ n-15) by omega]at h1;exact rhe_le n (eQ n-15) 15 h1
 rename_i h
 have h1:=pN n;have h2:10 ^ eQ n<=10 ^ 15:=Nat.pow_le_pow_right (by decide) (by omega);have e:(10:Nat) ^ 15=1000000000000000:=by decide
 show n<=_;omega
theorem uBU(n:Nat)(e:Int)(h:n<=1000000000000000):(gM n e).1<=1000000000000000/\-40<=(gM n e).2:=by
 unfold gM
 split
 ·rename_i h1
  refine⟨?_,by show (-40:Int)<=-40;omega⟩;have h2:10 ^ 16<=10 ^ (15+(-40-e).toNat):=Nat.pow_le_pow_right (by decide) (by omega);have e16:(10:Nat) ^ 16=10000000000000000:=by decide
  exact rhe_le n _ 15 (by omega)
 exact⟨h,by show -40<=e;omega⟩
theorem uJU(n:Nat)(e:Int)(h0:0<n):0<(dU n e).1:=by
 unfold dU
 split
 ·rename_i h
  have h1:=pM n h0;rw[show eQ n-1=14+(eQ n-15) by omega]at h1;have:=rhe_ge n (eQ n-15) 14 h1;have:0<10 ^ 14:=by decide
  show 0<rhe n (eQ n-15);omega
 exact h0
theorem oY(neg:Bool)(n:Nat)(e:Int)(h0:0<n)(h:40<=e):fZ neg n e=none:=by
 have hp:=uJU n e h0;have he:e<=(dU n e).2:=by
  unfold dU
  split
  ·show e<=e+_;omega
  exact Int.le_refl _
 unfold fZ;generalize dU n e=p at *;obtain⟨m,f⟩:=p;simp only at hp he ⊢;have h2:gM m f=(m,f):=if_neg (by omega);rw[h2];simp only;obtain⟨k,a1,a2,a3,a4⟩:=vC m f hp;have hd:=nC m hp;generalize cF m f=t at *;obtain⟨x,g⟩:=t;simp only at a1 a2 a3 a4 ⊢;unfold sX;rw[if_neg (by intro z;subst z;simp at a3),if_pos (by omega)]
theorem near_fin(neg:Bool)(n:Nat)(e:Int)(h:n<=1000000000000000)(he:-40<=e) :
  (if cO (sg neg (cF n e).1) (cF n e).2=true then some (sg neg (cF n e).1,(cF n e).2) else none)=sX neg (cF n e).1 (cF n e).2:=by
 rcases Nat.eq_zero_or_pos n with h0|h0
 ·subst h0;rw[mL];cases neg <;> rfl
 obtain⟨k,a1,a2,a3,a4⟩:=vC n e h0;generalize cF n e=t at *;obtain⟨x,g⟩:=t;simp only at a1 a2 a3 a4 ⊢;have hx0:0<x:=by rcases Nat.eq_zero_or_pos x with z|z;(subst z;simp at a3);exact z
 have hxn:x<=n:=by rw[a1];exact Nat.le_mul_of_pos_right _ (Nat.pow_pos (by decide))
 have hx15:x<1000000000000000:=by
  rcases Nat.lt_or_ge x 1000000000000000 with z|z
  ·exact z
  have:x=1000000000000000:=by omega
  subst this;simp at a3
 have hd:=wX x hx0 hx15;have hd1:=nC x hx0;have habs:(sg neg x).natAbs=x:=by unfold sg;cases neg <;> simp
 have bp:sg neg x≠0:=by unfold sg;cases neg <;> simp <;> omega
 have hR:cO (sg neg x) g=decide ((eQ x:Int)+g<=40):=by
  unfold cO;rw[if_neg bp,habs,hd,decide_eq_true hx15,decide_eq_true a3,decide_eq_true (by omega:-40<=g)];by_cases hg:(eQ x:Int)+g<=40
  ·rw[decide_eq_true hg,decide_eq_true (by omega)];rfl
  rw[decide_eq_false hg];simp
 rw[hR];unfold sX;have hxz:¬ x=0:=by omega
 rw[if_neg hxz];by_cases hg:(eQ x:Int)+g<=40
 ·rw[decide_eq_true hg,if_pos rfl,if_neg (by omega)];rfl
 rw[decide_eq_false hg,if_neg (by decide),if_pos (by omega)]
theorem uZ(neg:Bool)(n:Nat)(e:Int)(n1 n2:Nat)(e1 e2:Int)(h1:dU n e=(n1,e1))(h2:gM n1 e1=(n2,e2)) :
  fZ neg n e=if cO (sg neg (cF n2 e2).1) (cF n2 e2).2=true then some (sg neg (cF n2 e2).1,(cF n2 e2).2) else none:=by
 have b1:=uQ n e;rw[h1]at b1;have b2:=uBU n1 e1 b1;rw[h2]at b2;rw[near_fin neg n2 e2 b2.1 b2.2];unfold fZ;rw[h1];simp only[h2]
def BRow(w:World)(b off:Nat)(L:List Nat):Prop:=∀ j (h:j<L.length),w.cell? ⟨b,off+j,none⟩=some (dT L[j])/\w.frozen? ⟨b,off+j,none⟩=false
theorem BRow.set{w:World}{b off:Nat}{L:List Nat}(h:BRow w b off L)(k c:Nat):BRow (w.setCell ⟨b,off+k,none⟩ (dT c)) b off (L.set k c):=by
 intro j hj;rw[List.length_set]at hj;obtain⟨h1,h2⟩:=h j hj;by_cases e:k=j
 ·subst e;refine⟨?_,by simpa using h2⟩;rw[World.cell?_setCell_same' _ _ _ (by rw[h1];rfl)];simp
 refine⟨?_,by simpa using h2⟩;rw[World.cell?_setCell_other _ _ _ _ (by intro e2;injection e2 with e3 e4;omega),h1];rw[List.getElem_set_ne e]
theorem BRow.take{w:World}{b off:Nat}{L:List Nat}(h:BRow w b off L)(n:Nat):BRow w b off (L.take n):=by
 intro j hj;rw[zc]at hj;have:=h j (by omega);rw[List.getElem_take];exact this
theorem BRow.drop{w:World}{b off:Nat}{L:List Nat}(h:BRow w b off L)(n:Nat):BRow w b (off+n) (L.drop n):=by
 intro j hj;rw[yk]at hj;have:=h (n+j) (by omega);rw[List.getElem_drop,Nat.add_assoc];exact this
theorem BRow.sl{w:World}{b off base cap:Nat}{L:List Nat}(h:BRow w b off L)(h1:base<=b)(h2:b<w.heap.size)(h3:L.length<=cap)(h4:cap<=maxLen):BSl w base (some ⟨b,off,none⟩) cap L:=⟨h3,h4,fun _=>⟨b,off,rfl,h1,h2,h⟩⟩
theorem own_sl{w:World}{base B:Nat}{v:Value}{ds:List Nat}(h:w.ownsRow B 5 1 v ds.length (ds.map dT))(hB:base<=B)(h0:0<ds.length):∃ g cap,v=.slice (some ⟨g,0,none⟩) ds.length cap/\BSl w base (some ⟨g,0,none⟩) cap ds/\BRow w g 0 ds:=by
 rcases h.2 with⟨_,h1⟩|⟨g,cap,cur,rfl,hg,hh,sq,lg,gz,ht⟩
 ·omega
 have bj:BRow w g 0 ds:=by
  intro j hj;have hl:Lies w g 5 cur:=hh;refine⟨?_,hl.frozen _⟩;rw[hl.cell,Nat.zero_add];have h2:(cur.toList.take (ds.length*1))[j]?=(ds.map dT)[j]?:=by rw[ht]
  rw[Nat.mul_one,List.getElem?_take_of_lt hj,List.getElem?_map,List.getElem?_eq_getElem hj]at h2;simpa using h2
 have hlt:g<w.heap.size:=(zk.1 hh).1;exact⟨g,cap,rfl,bj.sl (by omega) hlt sq lg,bj⟩
def uHC(b base n:Nat)(ds:List Nat)(w:World)(e:Ending)(w':World):Prop :=
 ∃ A cap ds',e=.returned (.slice A ds'.length cap)/\BSl w' base A cap ds'/\Dig ds'/\aY ds'=rhe (aY ds) (ds.length-n)/\(Lead ds->Lead ds')/\ds'.length<=n+1/\Kept b w.heap.size w w'/\(∀ a,A=some a->a.block=b\/w.heap.size<=a.block)
theorem lY{b base n:Nat}{ds:List Nat}{w w':World}(A:Option Addr)(cap m:Nat)(ds':List Nat)(hm:m=ds'.length)(h1:BSl w' base A cap ds')(h2:Dig ds')(h3:aY ds'=rhe (aY ds) (ds.length-n))(h4:Lead ds->Lead ds')(h5:ds'.length<=n+1)(h6:Kept b w.heap.size w w')(h7:∀ a,A=some a->a.block=b\/w.heap.size<=a.block) :
  uHC b base n ds w (.returned (.slice A m cap)) w':=⟨A,cap,ds',by rw[hm],h1,h2,h3,h4,h5,h6,h7⟩
theorem Kept.of_below{b base:Nat}{w w':World}(h:Below base w w'):Kept b base w w':=⟨h.os,h.tape,h.output,h.size,fun k hk _=>h.block k hk⟩
theorem Kept.drewN{b base:Nat}(w:World)(q:Nat):Kept b base w (w.drewN q):=Kept.of_below (below_drewN (Below.refl _ _) q)
theorem at_b{b off:Nat}{B:Nat}:∀ a:Addr,some (⟨b,off,none⟩:Addr)=some a->a.block=b\/B<=a.block:=fun a h=>by injection h with h;subst h;exact .inl rfl
theorem at_new{b g off:Nat}{B:Nat}(hg:B<=g):∀ a:Addr,some (⟨g,off,none⟩:Addr)=some a->a.block=b\/B<=a.block:=fun a h=>by injection h with h;subst h;exact .inr hg
theorem bare_at(A:Option Addr)(cap base m:Nat)(ds:List Nat)(w:World)(hm:ds.length=m)(h:BSl w base A cap ds) :
  Calls Tryz.prog 142 #[.slice A m cap] w fun e w'=>zT A base ds w e w':=by subst hm;exact tL A cap base ds w h
set_option maxRecDepth 100000 in
theorem uHE(b off cap base n:Nat)(ds:List Nat)(w:World)(hr:BRow w b off ds)(af:base<=b)(bf:b<w.heap.size)(fd:ds.length<=cap)(lg:cap<=maxLen)(hn15:n<=100000)(hn:n<ds.length)(hd:Dig ds) :
  Calls Tryz.prog 143 #[.slice (some ⟨b,off,none⟩) ds.length cap,.int .i64 (n:Int)] w fun e w'=>uHC b base n ds w e w':=by
 have fh:=zh lg;clear lg;have HR:=zh hr;have HD:=zh hd;have ld:n<cap:=by omega
 have x0:=(hr n hn).1;unfold dT at x0;have hx9:ds[n]<=9:=hd _ (List.getElem_mem hn);have hS:ds=ds.take n++ds[n]::ds.drop (n+1):=by
  rw[<- yx hn,List.take_append_drop]
 have hlen:(ds.drop (n+1)).length+1=ds.length-n:=by rw[yk];omega
 have hV:rhe (aY ds) (ds.length-n)=aY (ds.take n)+(if upB (ds.take n) ds[n] (ds.drop (n+1)) then 1 else 0):=by
  rw[<- hlen];have:=uGF (ds.take n) ds[n] (ds.drop (n+1)) (by rw[<- yx hn];exact hd.drop n);rw[<- hS]at this;exact this
 have HV:=zh hV;have hbare:=zh (fun W=>tL (if cap-n=1 then some ⟨b,off+n,none⟩ else some ⟨b,off+n+1,none⟩) (cap-n-1) base (ds.drop (n+1)) W);have hU:upB (ds.take n) ds[n] (ds.drop (n+1))=(decide (5<ds[n])||(decide (ds[n]=5)&&(decide (0<(dS (ds.drop (n+1))).length)||decide (aY (ds.take n) % 2=1)))):=rfl;have HU:=zh hU;generalize hx:ds[n]=x at *;clear hS hlen hV hU hr hd hx
 go_enter Tryz.func143,Tryz.ntmps143
 go_wp2_with fail
 go_quiet (fail)
 generalize fi:cap-n=c2;have HC2:=zh fi;clear fi
 go_upto_if 23 with fail
 go_cut [7] (fun v wx=>v=.bool (upB (ds.take n) x (ds.drop (n+1)))/\∃ q,wx=w.drewN q)
 case first=>
  by_cases h5:x=5
  ·subst h5;have jx:∀ q,Hid (BSl (w.drewN q) base (if c2=1 then some ⟨b,off+n,none⟩ else some ⟨b,off+n+1,none⟩) (c2-1) (ds.drop (n+1))):=fun q=>zh (by
    have hl:(ds.drop (n+1)).length=ds.length-(n+1):=yk;have:=HC2.out;refine⟨by omega,by have:=fh.out;omega,fun hp=>?_⟩;rw[if_neg (by omega)];exact⟨b,off+n+1,rfl,af,bf,HR.out.drop (n+1)⟩)
   have HL:Hid ((ds.drop (n+1)).length=ds.length-n-1):=zh (by rw[yk];omega);rcases Classical.em (c2=1) with rfl|eu
   all_goals
    first|simp only[if_true]at jx|simp only[eu,if_false]at jx
    go_wp2_with fail
    refine(bare_at _ _ base _ (ds.drop (n+1)) _ HL.out (jx _).out).mono ?_;rintro e w' ⟨A2,cap2,rfl,-,rfl,-⟩;clear jx HL hbare;generalize (dS (ds.drop (n+1))).length=m at *;by_cases hm:0<m
    ·go_wp2_with fail
     go_meet
     refine⟨?_,_,rfl⟩;rw[HU.out];simp[hm]
    have gc:m=0:=by omega
    subst gc;clear hm;cases n with
    |zero=>
     go_wp2_with fail
     go_meet
     refine⟨?_,_,rfl⟩;rw[HU.out];rfl
    |succ k=>
     have y0:=(HR.out k (by omega)).1;unfold dT at y0;have hodd:Hid (aY (ds.take (k+1)) % 2=ds[k] % 2):=zh (by
      have h1:k+1=(ds.take (k+1)).length:=by rw[zc];omega
      rw[last_odd (ds.take (k+1)) k h1,List.getElem_take])
     have hy9:ds[k]<=9:=HD.out _ (List.getElem_mem _);generalize ds[k]=y at *
     go_wp2_with fail
     go_meet
     refine⟨?_,_,rfl⟩;rw[HU.out,hodd.out]
     congr 1
     rw[ze];simp;omega
  have b5:((x:Int)==5)=false:=by rw[beq_eq_false_iff_ne];omega
  go_wp2_with fail
  go_meet
  refine⟨?_,_,rfl⟩;rw[HU.out]
  congr 1
  rw[ze];simp[h5];omega
 case rest=>
  obtain⟨rfl,q,rfl⟩:=hcut;generalize upB (ds.take n) x (ds.drop (n+1))=u at *;cases u
  ·rw[if_neg (by decide)]at HV
   go_wp2_with fail
   go_ret
   exact lY _ n n (ds.take n) (by rw[zc];omega) ((HR.out.take n).sl af bf (by rw[zc];omega) (by unfold maxLen;omega)) (HD.out.take n) (by rw[HV.out];rfl) (fun h=>h.take n) (by rw[zc];omega) (Kept.drewN _ _) at_b
  rw[if_pos rfl]at HV;have HH:Hid ((ds.take n).length=n):=zh (by rw[zc];omega);have HT:Hid (BRow w b off (ds.take n)):=zh (HR.out.take n);have HDT:Hid (Dig (ds.take n)):=zh (HD.out.take n);have mh:Hid (Lead ds->Lead (ds.take n)):=zh (fun h=>h.take n);clear HU hbare x0 hx9 HR HD;generalize ds.take n=H at *
  go_wp2_with fail
  go_loopw [8] (fun i wr=>∃ (k:Nat) (z:Int),i=.int .i64 z/\Hid (z=(k:Int)-1)/\k<=n/\Hid (Nines H k)/\Hid (BRow wr b off (inc H k))/\Hid (Kept b w.heap.size w wr)/\b<wr.heap.size) (fun i _=>(intOf i+1).toNat)
  case atStart=>exact⟨n,(n:Int)-1,rfl,zh rfl,zr,zh (by rw[<- HH.out];exact Nines.all H),zh (by rw[<- HH.out,inc_all];exact HT.out),zh (Kept.drewN _ _),bf⟩
  case round=>
   obtain⟨k,z,rfl,hz,hk,mq,bj,ay,ti⟩:=hrel;cases k with
   |zero=>
    obtain rfl:z=-1:=by have:=hz.out;omega
    have hO:=zh (inc_over H mq.out);have hI:inc H 0=List.replicate n 0:=by unfold inc;rw[HH.out];simp
    rw[hI]at bj;rw[HH.out]at hO;clear hI mq hz hk;cases n with
    |zero=>
     go_wp2_with fail
     go_ret
     have hrow1:BRow (wr.alloc (.cells #[.int .u8 1] 5)) wr.heap.size 0 [1]:=by
      intro j hj;have hl:=Lies.new wr 5 #[.int .u8 1];refine⟨?_,hl.frozen _⟩;rw[hl.cell]
      match j,hj with
      |0,_=>rfl
     exact lY _ 1 1 [1] rfl (hrow1.sl (yv af (Nat.le_of_lt ti)) (by simp) zr (by decide)) (Dig.cons (by decide) (fun _ h=>by cases h)) (by rw[HV.out,<- hO.out];rfl) (fun _ d t h=>by injection h with h1 _;omega) (by simp) (ay.out.alloc ay.out.size _) (at_new ay.out.size)
    |succ q=>
     obtain⟨i0,hi,ke,jt,j5⟩:=info_parts uEW;have y0:=(bj.out 0 (by simp)).1;have y1:=(bj.out 0 (by simp)).2;simp only[Nat.add_zero]at y0 y1;simp[dT]at y0;have hF:=zh (bj.out.set 0 1);have hR:(List.replicate (q+1) 0).set 0 1=1::List.replicate q 0:=rfl;rw[hR]at hF;have j8:dT 1=.int .u8 1:=rfl;rw[j8,Nat.add_zero]at hF;clear hR j8 bj
     go_wp2_with (at_builtin;refine wpList_append_grows _ rfl (.tmp 71) (.tmp 72) 77 rfl 5 i0 (.int .u8 0) 1 1 Tryz.underlying77 hi ke jt j5 rfl (by decide) (some ⟨b,off,none⟩) (q+1) (q+1) ((1::List.replicate q 0).map dT) rfl (fun h=>by cases h) (by simp) ?olds ⟨wr.heap.size,0,none⟩ 1 1 [dT 0] rfl rfl ?c1 ?c2 (by omega) ?c3 ?c4 ?_)
     case olds=>
      intro ad e j u hu;injection e with e;subst e;rw[List.getElem?_map]at hu;have hj:j<(1::List.replicate q 0).length:=by
       rcases Nat.lt_or_ge j (1::List.replicate q 0).length with g|g
       ·exact g
       rw[List.getElem?_eq_none g]at hu;cases hu
      rw[List.getElem?_eq_getElem hj]at hu;have h1:=(hF.out j hj).1;have h2:u=dT (1::List.replicate q 0)[j]:=by simpa using hu.symm
      rw[h2,<- h1];have ea:(⟨b,off,none⟩:Addr).add j=⟨b,off+j,none⟩:=by
       unfold Addr.add;by_cases e0:j=0
       ·subst e0;simp
       simp[e0]
      rw[ea];exact World.cell?_alloc_past _ _ _ (by simpa using ti)
     case c1=>exact fun j u hj=>uS _ _ _ _ j u (by simp) hj
     case c2=>intro u hu;simp at hu;subst hu;rfl
     case c3=>unfold maxLen;omega
     case c4=>omega
     intro v' w2 al cu;have hO2:w2.ownsRow ((wr.setCell ⟨b,off,none⟩ (.int .u8 1)).alloc (.cells #[.int .u8 0] 5)).heap.size 5 1 v' (1::List.replicate q 0++[0]).length ((1::List.replicate q 0++[0]).map dT):=by
      simpa using al
     obtain⟨g,cap2,rfl,jx,-⟩:=own_sl (base:=base) hO2 (by simp;omega) (by simp);have HG:Hid (wr.heap.size<=g):=zh (by have:=uFQ hO2 g rfl;simp at this;omega);have HSL:=zh jx;have co:Hid (Kept b w.heap.size w w2):=zh (((ay.out.put off _).alloc (by simpa using ay.out.size) _).grown cu (by have:=ay.out.size;simp;omega) (fun k h=>by cases h));clear al cu hO2 jx
     go_wp2_with fail
     go_ret
     refine lY _ cap2 _ (1::List.replicate q 0++[0]) rfl HSL.out ?_ ?_ ?_ (by simp) co.out (at_new (by have:=ay.out.size;have:=HG.out;omega))
     ·exact(Dig.cons (by decide) (Dig.zeros q)).append (Dig.cons (by decide) (fun _ h=>by cases h))
     ·rw[HV.out,<- hO.out,yp,<- List.replicate_succ']
     intro _ d t h;injection h with h1 _;omega
   |succ m=>
    obtain rfl:z=(m:Int):=by have:=hz.out;omega
    have hmn:m<H.length:=by rw[HH.out];omega
    have qr:=inc_len H (m+1) (by omega);have y0:=(bj.out m (by omega)).1;have y1:=(bj.out m (by omega)).2;rw[inc_get H m hmn (by omega)]at y0;unfold dT at y0;have hy9:H[m]<=9:=HDT.out _ (List.getElem_mem _);have hmn2:m<n:=by omega
    by_cases h9:H[m]<9
    ·have hE:Hid (dT (H[m]+1)=.int .u8 ((H[m]:Int)+1)):=zh (by unfold dT;congr 1);have hF:=zh (bj.out.set m (H[m]+1));rw[uHM H m _ hmn,hE.out]at hF;have hN:=zh (inc_up H m hmn mq.out);have hD2:Hid (Dig (H.take m++(H[m]+1)::List.replicate (H.length-(m+1)) 0)):=zh ((HDT.out.take m).append (Dig.cons (by omega) (Dig.zeros _)));have hL2:Hid (Lead ds->Lead (H.take m++(H[m]+1)::List.replicate (H.length-(m+1)) 0)):=zh (fun h=>(mh.out h).up m hmn _);have hlen:Hid ((H.take m++(H[m]+1)::List.replicate (H.length-(m+1)) 0).length=n):=zh (by simp;have:=HH.out;omega);generalize H.take m++(H[m]+1)::List.replicate (H.length-(m+1)) 0=R at *;generalize H[m]=y at *;clear qr mq
     go_wp2_with fail
     go_ret
     exact lY _ n n R hlen.out.symm (hF.out.sl af (by simpa using ti) (by rw[hlen.out];omega) (by unfold maxLen;omega)) hD2.out (by rw[HV.out,hN.out]) hL2.out (by rw[hlen.out];omega) (ay.out.put (off+m) _) at_b
    have h9':H[m]=9:=by omega
    have hF:=zh (bj.out.set m 0);rw[inc_down H m hmn]at hF;have hN2:Hid (Nines H m):=zh (mq.out.down hmn h9');generalize H[m]=y at *;subst h9';clear qr mq h9 hy9
    go_wp2_with fail
    go_roundw
    case rel=>exact⟨m,(m:Int)-1,rfl,zh rfl,by omega,hN2,hF,zh (ay.out.put (off+m) _),by simpa using ti⟩
    case measure=>simp[intOf]
def iT(p:Option (Int×Int)):Value:=match p with|none=>.tuple #[sV 0 0,.bool false]|some q=>.tuple #[sV q.1 q.2,.bool true]
structure Mid(base R:Nat)(w wx:World)(A:Option Addr)(cap:Nat)(L:List Nat):Prop where
 sl:BSl wx base A cap L
 dig:Dig L
 res:Lies wx R 30 #[.int .i64 0,.int .i64 0]
 ne:∀ a,A=some a->a.block≠R
 bel:Below base w wx
 len:L.length<=1000
theorem wI(L:List Nat)(k:Nat):aY (L.take k)<=aY L:=by
 have h:=gG (L.take k) (L.drop k);rw[List.take_append_drop]at h;have:aY (L.take k)*1<=aY (L.take k)*10 ^ (L.drop k).length:=Nat.mul_le_mul_left _ (Nat.pow_pos (by decide));omega
theorem uHQ{base R b off cap n:Nat}{w wx w2:World}{L ds2:List Nat}{A2:Option Addr}{c2:Nat}(h:Mid base R w wx (some ⟨b,off,none⟩) cap L)(hb:base<=b)(hbx:b<wx.heap.size)(hs:BSl w2 base A2 c2 ds2)(hd:Dig ds2)(hk:Kept b wx.heap.size wx w2)(ha:∀ a,A2=some a->a.block=b\/wx.heap.size<=a.block)(hl:ds2.length<=n+1)(hn:n<=999):Mid base R w w2 A2 c2 ds2:=by
 have hR:=h.res.lt;have bp:R≠b:=fun e=>h.ne _ rfl e.symm
 refine⟨hs,hd,h.res.kept hk hR bp,fun a e=>?_,h.bel.trans (hk.below hb hbx),by omega⟩;rcases ha a e with g|g <;> omega
set_option maxRecDepth 100000 in
theorem uKR(neg:Bool)(A:Option Addr)(cap base:Nat)(ds:List Nat)(e:Int)(w:World)(hs:BSl w base A cap ds)(dq:base<=w.heap.size)(hA0:∀ a,A=some a->a.block<w.heap.size)(hd:Dig ds)(hl:ds.length<=1000)(lf:-2000000<=e)(sr:e<=2000000) :
  Calls Tryz.prog 136 #[.bool neg,.slice A ds.length cap,.int .i64 e] w fun x w'=>x=.returned (iT (fZ neg (aY ds) e))/\Below base w w':=by
 have hN:aY (dS ds)=aY ds:=qX ds;have HN:=zh hN;have mh:=zh (uJL ds);have HDg:=zh (uIO hd);have hbl:(dS ds).length<=1000:=yv (uIP ds) hl;have bo:Hid (∀ o,BSl (w.alloc o) base A cap ds):=zh (fun o=>by
  obtain⟨a1,a2,a3⟩:=hs;refine⟨a1,a2,fun hp=>?_⟩;obtain⟨b,off,q1,q2,q3,q4⟩:=a3 hp;exact⟨b,off,q1,q2,by simp;omega,fun j hj=>⟨(World.cell?_alloc_past _ _ _ q3).trans (q4 j hj).1,(World.frozen?_alloc_past _ _ _ q3).trans (q4 j hj).2⟩⟩)
 have cd:=zh hA0;generalize aY ds=N at *;obtain⟨out,rk⟩:∃ out,iT (fZ neg N e)=out:=⟨_,rfl⟩
 rw[rk];have ko:=zh rk;clear hN hs hd hA0 hl rk
 go_enter Tryz.func136,Tryz.ntmps136
 go_wp2_with fail
 refine(tL A cap base ds _ (bo.out _)).mono ?_;rintro x w' ⟨A1,ap,rfl,hB1,rfl,hA1⟩;have HM:Hid (Mid base w.heap.size w (w.alloc (.cells #[.int .i64 0,.int .i64 0] 30)) A1 ap (dS ds)):=zh ⟨hB1,HDg.out,Lies.new _ _ _,fun a h=>by
  obtain⟨a0,h1,h2⟩:=hA1 a h;have:=cd.out a0 h1;omega,(Below.refl _ _).alloc dq _,hbl⟩
 clear hB1 hA1 cd bo HDg;generalize dS ds=L at *;by_cases h0:L.length=0
 ·have hN0:Hid (fZ neg N e=some (0,0)):=zh (by
   rw[<- HN.out,List.eq_nil_of_length_eq_zero h0];exact oZ neg e)
  have HB:=zh HM.out.bel;generalize L.length=l at *;subst h0;clear HM HN
  go_wp2_with fail
  refine yt (v:=.tuple #[.agg #[.int .i64 0,.int .i64 0],.bool true]) (by simp[results,Tryz.results136,go_sem]) rfl ?_;exact⟨by rw[<- ko.out,hN0.out];rfl,(Below.refl _ _).alloc dq _⟩
 have b0:((L.length:Int)==0)=false:=by rw[beq_eq_false_iff_ne];omega
 have vj:0<L.length:=by omega
 clear h0;have HP:Hid (0<N):=zh (by
  rw[<- HN.out];cases L with
  |nil=>simp at vj
  |cons d t=>exact yu (Nat.pow_pos (by decide)) (pZ d t (mh.out d t rfl)))
 by_cases h40:40<=e
 ·have hN0:Hid (fZ neg N e=none):=zh (oY neg N e HP.out h40);clear HM HN
  go_wp2_with fail
  refine yt (v:=.tuple #[.agg #[.int .i64 0,.int .i64 0],.bool false]) (by simp[results,Tryz.results136,go_sem]) rfl ?_;exact⟨by rw[<- ko.out,hN0.out];rfl,(Below.refl _ _).alloc dq _⟩
 have HDL:Hid (eQ N=L.length):=zh (by rw[<- HN.out];exact uH mh.out HM.out.dig)
 go_upto_if 27 with fail
 go_cut [1,2] (fun v1 v2 wx=>∃ (L1:List Nat) (A2:Option Addr) (c1 n1:Nat) (e1:Int),v1=.slice A2 n1 c1/\v2=.int .i64 e1/\Hid (L1.length=n1)/\Hid (Mid base w.heap.size w wx A2 c1 L1)/\Hid (Lead L1)/\Hid (dU N e=(aY L1,e1))/\-2000000<=e1/\e1<=2001000/\n1<=1000)
 case first=>
  by_cases h15:15<L.length
  ·have lm:Hid (dU N e=(rhe N (L.length-15),e+((L.length:Int)-15))):=zh (by
    unfold dU;rw[HDL.out,if_pos h15]
    congr 1
    omega)
   obtain⟨b,off,rfl,af,bf,bj⟩:=HM.out.sl.2.2 vj;have vk:=zh HM.out.sl.1;have lg:=zh HM.out.sl.2.1;have HRow:=zh bj;have co:=zh bf;clear bj bf
   go_wp2_with fail
   refine(uHE b off ap base 15 L _ HRow.out af co.out vk.out lg.out (by omega) h15 HM.out.dig).mono ?_;rintro x w2 ⟨A2,c2,ds2,rfl,qq,ow,ep,hl2,jw,fg,ha2⟩;have uv:=zh (uHQ HM.out af co.out qq ow fg ha2 jw (by omega));have ju:=zh (hl2 mh.out);have ft:Hid (dU N e=(aY ds2,e+((L.length:Int)-15))):=zh (by rw[lm.out,ep,HN.out]);clear qq ow ep hl2 fg ha2
   go_wp2_with fail
   go_meet
   exact⟨ds2,A2,c2,ds2.length,e+((L.length:Int)-15),rfl,rfl,zh rfl,uv,ju,ft,by omega,by omega,by omega⟩
  have lm:Hid (dU N e=(aY L,e)):=zh (by
   unfold dU;rw[HDL.out,if_neg h15,HN.out])
  go_wp2_with fail
  go_meet
  exact⟨L,A1,ap,L.length,e,rfl,rfl,zh rfl,HM,mh,lm,by omega,by omega,hbl⟩
 case rest=>
  obtain⟨L1,A2,c1,n1,e1,rfl,rfl,av,ox,nf,jf,oy,hf2,hn1k⟩:=hcut;clear HDL HN mh HM b0 vj hbl
  go_upto_if 34 with fail
  go_cut [1,2] (fun v1 v2 wx=>∃ (L2:List Nat) (A3:Option Addr) (c2 n2:Nat) (e2:Int),v1=.slice A3 n2 c2/\v2=.int .i64 e2/\Hid (L2.length=n2)/\Hid (Mid base w.heap.size w wx A3 c2 L2)/\Hid (gM (aY L1) e1=(aY L2,e2))/\-40<=e2/\e2<=2001000/\n2<=1000)
  case first=>
   by_cases kj:e1< -40
   ·by_cases hdrop:(n1:Int)< -40-e1
    ·have hz:Hid (fZ neg N e=some (0,0)):=zh (by
      have h2:gM (aY L1) e1=(0,-40):=by
       unfold gM;rw[if_pos kj,uIB];rw[uH nf.out ox.out.dig,av.out];omega
      rw[uZ neg N e _ _ _ _ jf.out h2,mL];cases neg <;> rfl)
     have q0:=ox.out.res.cell 0;have q1:=ox.out.res.cell 1;have g0:=ox.out.res.frozen 0;have g1:=ox.out.res.frozen 1;simp at q0 q1;have HB:=zh ox.out.bel;clear ox jf nf av
     go_wp2_with fail
     refine yt (v:=.tuple #[.agg #[.int .i64 0,.int .i64 0],.bool true]) (by simp[results,Tryz.results136,go_sem,q0,q1]) rfl ?_;exact⟨by rw[<- ko.out,hz.out];rfl,(HB.out.setCell (p:=⟨w.heap.size,0,none⟩) dq _).setCell (p:=⟨w.heap.size,1,none⟩) dq _⟩
    obtain⟨d,hdd⟩:∃ d:Nat,(d:Int)=-40-e1:=⟨(-40-e1).toNat,by omega⟩
    have hdn:d<=n1:=by omega
    have lm:Hid (gM (aY L1) e1=(rhe (aY L1) d,-40)):=zh (by
     unfold gM;rw[if_pos kj]
     congr 2
     omega)
    have hp1:0<n1:=by omega
    obtain⟨b,off,rfl,af,bf,bj⟩:=ox.out.sl.2.2 (by rw[av.out];exact hp1);have vk:=zh ox.out.sl.1;have lg:=zh ox.out.sl.2.1;have HRow:=zh bj;have co:=zh bf;have hd1:1<=d:=by omega
    have HDD:=zh hdd;have hkk:Hid ((n1:Int)-(-40-e1)=((n1-d:Nat):Int)):=zh (by omega);clear bj bf hdd
    go_wp2_with fail
    rw[hkk.out];have hc:=fun W h1 h2=>uHE b off c1 base (n1-d) L1 W h1 af h2 vk.out lg.out (by omega) (by rw[av.out];omega) ox.out.dig
    rw[av.out]at hc;refine(hc _ HRow.out co.out).mono ?_;clear hc;rintro x w2 ⟨A3,c2,ds2,rfl,qq,ow,ep,hl2,jw,fg,ha2⟩;have uv:=zh (uHQ ox.out af co.out qq ow fg ha2 jw (by omega));have ft:Hid (gM (aY L1) e1=(aY ds2,-40)):=zh (by rw[lm.out,ep,av.out,show n1-(n1-d)=d by omega]);clear qq ow ep hl2 fg ha2
    go_wp2_with fail
    go_meet
    exact⟨ds2,A3,c2,ds2.length,-40,rfl,rfl,zh rfl,uv,ft,by omega,by omega,by omega⟩
   have lm:Hid (gM (aY L1) e1=(aY L1,e1)):=zh (if_neg kj)
   go_wp2_with fail
   go_meet
   exact⟨L1,A2,c1,n1,e1,rfl,rfl,av,ox,lm,by omega,by omega,hn1k⟩
  case rest=>
   obtain⟨L2,A3,c2,n2,e2,rfl,rfl,ep,uv,ft,mg,rj,hn2k⟩:=hcut;have HI:=zh (uZ neg N e _ _ _ _ jf.out ft.out);have HBd:Hid (aY L2<=1000000000000000):=zh (by
    have h1:=uQ N e;rw[jf.out]at h1;have h2:=(uBU _ e1 h1).1;rw[ft.out]at h2;exact h2)
   clear jf ft nf ox av HP h40 oy hf2 lf sr hn1k
   go_wp2_with fail
   go_loop [10,50] (fun v i=>∃ (k x:Nat),v=.int .u64 x/\i=.int .i64 k/\k<=n2/\Hid (x=aY (L2.take k))) (fun _ i=>n2-(intOf i).toNat)
   case atStart=>exact⟨0,0,rfl,rfl,zm _,zh (by simp[aY])⟩
   case round=>
    obtain⟨k,x,rfl,rfl,hk,hx⟩:=hrel;by_cases hlt:k<n2
    ·have ll:k<L2.length:=by rw[ep.out];exact hlt
     obtain⟨b,off,rfl,-,-,bj⟩:=uv.out.sl.2.2 (by omega);have y0:=(bj k ll).1;unfold dT at y0;have hy9:L2[k]<=9:=uv.out.dig _ (List.getElem_mem _);have hx2:Hid (x*10+L2[k]=aY (L2.take (k+1))):=zh (by rw[yw ll,mJ,<- hx.out];omega);have hxb:x<=1000000000000000:=by have:=wI L2 k;have:=HBd.out;rw[hx.out];omega
     generalize L2[k]=y at *;have hw1:IntKind.u64.wrap ((x:Int)*10)=(x:Int)*10:=nT _ (by omega);have hw2:IntKind.u64.wrap ((x:Int)*10+(y:Int))=(x:Int)*10+(y:Int):=nT _ (by omega);have hw3:IntKind.u64.wrap (y:Int)=(y:Int):=nT _ (by omega);have HC:Hid ((x:Int)*10+(y:Int)=((x*10+y:Nat):Int)):=zh (by omega);clear hxb ll bj
     go_wp2_with fail
     go_round
     case rel=>exact⟨k+1,x*10+y,by rw[HC.out],by go_num,by omega,hx2⟩
     case measure=>simp[intOf];omega
    have hxe:Hid (x=aY L2):=zh (by rw[hx.out,List.take_of_length_le (by rw[ep.out];omega)]);have HT:=zh (fun W=>uDI neg x e2 W (by rw[hxe.out];exact HBd.out) (by omega) (by omega));have su:Hid (fZ neg N e=if cO (sg neg (cF x e2).1) (cF x e2).2=true then some (sg neg (cF x e2).1,(cF x e2).2) else none):=zh (by rw[hxe.out];exact HI.out);have hsb:(cF x e2).1<=1000000000000000:=by
     have hx15:x<=1000000000000000:=by rw[hxe.out];exact HBd.out
     rcases Nat.eq_zero_or_pos x with z|z
     ·rw[z,mL];exact zm _
     obtain⟨q,a1,-,-,-⟩:=vC x e2 z;have:(cF x e2).1*1<=(cF x e2).1*10 ^ q:=Nat.mul_le_mul_left _ (Nat.pow_pos (by decide));omega
    have vm:=zh (fun W=>rJ (sg neg (cF x e2).1) (cF x e2).2 W (by unfold sg;cases neg <;> simp <;> omega) (by unfold sg;cases neg <;> simp <;> omega));have ez:=zh uv.out.bel;have gj:=zh uv.out.res;clear HI HBd uv hx hxe ep hsb
    go_wp2_with fail
    refine(HT.out _).mono ?_;rintro z w3 ⟨rfl,bu⟩;generalize sg neg (cF x e2).1=m at *;generalize (cF x e2).2=g at *;have vo:Hid (Lies w3 w.heap.size 30 #[.int .i64 0,.int .i64 0]):=zh ((bu.block _ gj.out.lt).trans gj.out);have sv:Hid (Below base w w3):=zh (ez.out.trans (bu.mono (yv dq ez.out.size)));clear bu HT gj ez
    go_wp2_with fail
    refine(vm.out _).mono ?_;rintro z w4 ⟨rfl,lp⟩;have hlt3:=vo.out.lt;have sw:Hid (Lies w4 w.heap.size 30 #[.int .i64 0,.int .i64 0]):=zh ((lp.block _ (by simp;omega)).trans (vo.out.alloc _));have HBel4:Hid (Below base w w4):=zh ((sv.out.alloc (yv dq sv.out.size) _).trans (lp.mono (by have:=sv.out.size;simp;omega)));have n0:w4.cell? ⟨w3.heap.size,0,none⟩=some (.int .i64 m):=(lp.cell (p:=⟨w3.heap.size,0,none⟩) (by simp)).trans (by simp);have n1:w4.cell? ⟨w3.heap.size,1,none⟩=some (.int .i64 g):=(lp.cell (p:=⟨w3.heap.size,1,none⟩) (by simp)).trans (by simp);have q0:=sw.out.cell 0;have q1:=sw.out.cell 1;have g0:=sw.out.frozen 0;have g1:=sw.out.frozen 1;simp at q0 q1;clear lp vm vo sv;cases hR:cO m g
    ·rw[hR,if_neg (by decide)]at su
     go_wp2_with fail
     refine yt (v:=.tuple #[.agg #[.int .i64 0,.int .i64 0],.bool false]) (by simp[results,Tryz.results136,go_sem,q0,q1]) rfl ?_;exact⟨by rw[<- ko.out,su.out];rfl,(HBel4.out.setCell (p:=⟨w.heap.size,0,none⟩) dq _).setCell (p:=⟨w.heap.size,1,none⟩) dq _⟩
    rw[hR,if_pos rfl]at su
    go_wp2_with fail
    refine yt (v:=.tuple #[.agg #[.int .i64 m,.int .i64 g],.bool true]) (by simp[results,Tryz.results136,go_sem,q0,q1]) rfl ?_;exact⟨by rw[<- ko.out,su.out];rfl,(HBel4.out.setCell (p:=⟨w.heap.size,0,none⟩) dq _).setCell (p:=⟨w.heap.size,1,none⟩) dq _⟩
def tV(x:Bool×List Nat×Nat×Bool×Nat):Option (Int×Int):=fZ x.1 (aY x.2.1) ((if x.2.2.2.1 then -(x.2.2.2.2:Int) else x.2.2.2.2)-(x.2.2.1:Int))
def eO(l:Bs):Option (Int×Int):=if 255<l.length then none else ((rd0.all l).bind Rd.fin).bind tV
structure Rd.Upto(r:Rd)(n:Nat):Prop where
 st:r.st<=7
 ds:r.ds.length<=n
 behind:r.behind<=n
 pow:r.pow<=1000009
 dig:Dig r.ds
theorem upto0:Rd.Upto rd0 0:=⟨by decide,by decide,by decide,by decide,fun _ h=>by cases h⟩
theorem Rd.Upto.take{r r':Rd}{n c:Nat}(h:r.Upto n)(ht:r.take c=some r'):r'.Upto (n+1):=by
 obtain⟨h1,h2,h3,h4,h5⟩:=h;unfold Rd.take at ht;by_cases hd:48<=c/\c<=57
 ·rw[if_pos hd]at ht;injection ht with ht;subst ht;unfold Rd.digit
  split
  ·exact⟨by simp,by simp;omega,by simp;omega,h4,h5.append (fun d hx=>by simp at hx;omega)⟩
  split
  ·exact⟨by simp,by simp;omega,by simp;omega,h4,h5.append (fun d hx=>by simp at hx;omega)⟩
  refine⟨by simp,by simp;omega,by simp;omega,?_,h5⟩;show eT r.pow (c-48)<=1000009;unfold eT
  split <;> omega
 rw[if_neg hd]at ht
 split at ht
 ·injection ht with ht;subst ht;exact⟨by simp,by simp;omega,by simp;omega,h4,h5⟩
 split at ht
 ·injection ht with ht;subst ht;exact⟨by simp,by simp;omega,by simp;omega,h4,h5⟩
 split at ht
 ·injection ht with ht;subst ht;exact⟨by simp,by simp;omega,by simp;omega,h4,h5⟩
 split at ht
 ·injection ht with ht;subst ht;exact⟨by simp,by simp;omega,by simp;omega,h4,h5⟩
 cases ht
theorem Rd.Upto.fit{r:Rd}{n:Nat}(h:r.Upto n)(hn:n<=1000):r.Fit:=⟨h.st,yv h.ds hn,yv h.behind hn,by have:=h.pow;omega⟩
theorem uDE(r:Rd)(c:Nat)(h:128<=c):r.take c=none:=by
 unfold Rd.take;rw[if_neg (by omega),if_neg (by omega),if_neg (by omega),if_neg (by omega),if_neg (by omega)]
theorem tD(r:Rd)(l:Bs)(k:Nat)(h:k<l.length):r.all (l.drop k)=match r.take l[k].toNat with|some r'=>r'.all (l.drop (k+1))|none=>none:=by
 rw[yx h];rfl
theorem own_iter{w:World}{base:Nat}{e:TypeId}{size:Nat}{v:Value}{n:Nat}{xs:List Value}(h:w.ownsRow base e size v n xs){k:Nat}(hk:k<base)(s:ByteArray)(p:Nat):(w.iterAt k s p).ownsRow base e size v n xs:=by
 obtain⟨h1,h2⟩:=h;refine⟨h1,?_⟩;rcases h2 with h2|⟨g,cap,cur,hv,hg,hh,r⟩
 ·exact .inl h2
 exact .inr ⟨g,cap,cur,hv,hg,(Lib.iterAt_other w k g s p (by omega)).trans hh,r⟩
theorem Lies.iterAt{w:World}{g:Nat}{t:TypeId}{cs:Array Value}(h:Lies w g t cs){k:Nat}(hk:g≠k)(s:ByteArray)(p:Nat):Lies (w.iterAt k s p) g t cs:=(Lib.iterAt_other w k g s p hk).trans h
theorem RdIn.iterAt{w:World}{b base:Nat}{r:Rd}(h:RdIn w b base r){k:Nat}(h1:b≠k)(h2:k<base)(s:ByteArray)(p:Nat):RdIn (w.iterAt k s p) b base r:=by
 obtain⟨v,a1,a2⟩:=h;exact⟨v,a1.iterAt h1 s p,own_iter a2 h2 s p⟩
structure PIn(l:Bs)(w:World)(pos:Nat)(r:Rd)(wr:World):Prop where
 le:pos<=l.length
 all:rd0.all l=r.all (l.drop pos)
 upto:r.Upto pos
 rd:RdIn wr (w.heap.size+1) (w.heap.size+3) r
 it:wr.heap[w.heap.size+2]?=some (.stringIter ⟨l.toArray⟩ pos)
 res:Lies wr w.heap.size 30 #[.int .i64 0,.int .i64 0]
 bel:Below w.heap.size w wr
 big:w.heap.size+3<=wr.heap.size
theorem PIn.next{l:Bs}{w wr w':World}{pos:Nat}{r r':Rd}(h:PIn l w pos r wr)(hp:pos<l.length)(ht:r.take l[pos].toNat=some r')
  (h1:RdIn w' (w.heap.size+1) (w.heap.size+3) r') (h2:Kept (w.heap.size+1) (w.heap.size+3) (wr.iterAt (w.heap.size+2) ⟨l.toArray⟩ (pos+1)) w'):PIn l w (pos+1) r' w':=by
 have hb:=Lib.below_iterAt h.bel (k:=w.heap.size+2) (by omega) ⟨l.toArray⟩ (pos+1);refine⟨hp,?_,h.upto.take ht,h1,?_,?_,hb.trans (h2.below (by omega) (by omega)),?_⟩
 ·rw[h.all,tD r l pos hp,ht]
 ·rw[h2.block _ (by omega) (by omega)];exact Lib.iterAt_heap wr _ _ pos _ h.it
 ·exact(h.res.iterAt (by omega) _ _).kept h2 (by omega) (by omega)
 have:=h2.size;rw[Lib.iterAt_size]at this;have:=h.big;omega
set_option maxRecDepth 100000 in
theorem xP(l:Bs)(w:World)(hl:l.length<=1000000) :
  Calls Tryz.prog 126 #[.string ⟨l.toArray⟩] w fun e w'=>e=.returned (iT (eO l))/\Below w.heap.size w w':=by
 obtain⟨out,rk⟩:∃ out,iT (eO l)=out:=⟨_,rfl⟩
 rw[rk];have ko:=zh rk;clear rk;by_cases h255:255<l.length
 ·have hN:Hid (eO l=none):=zh (if_pos h255)
  go_enter Tryz.func126,Tryz.ntmps126
  go_wp2_with fail
  refine yt (v:=.tuple #[.agg #[.int .i64 0,.int .i64 0],.bool false]) (by simp[results,Tryz.results126,go_sem]) rfl ?_;exact⟨by rw[<- ko.out,hN.out];rfl,(zp _)⟩
 have HP:Hid (eO l=((rd0.all l).bind Rd.fin).bind tV):=zh (if_neg h255);have HS:Hid ((ByteArray.mk l.toArray).size=l.length):=zh (by simp[ByteArray.size]);have H0:∀ W:World,W=(((w.alloc (.cells #[.int .i64 0,.int .i64 0] 30)).alloc (.cells (dP rd0 (.slice none 0 0)) 163)).iter ⟨l.toArray⟩ 0)->Hid (PIn l w 0 rd0 W):=by
  intro W hW;refine zh ⟨zm _,rfl,upto0,⟨.slice none 0 0,?_,⟨rfl,.inl ⟨rfl,rfl⟩⟩⟩,?_,?_,?_,?_⟩
  ·rw[hW];unfold World.iter;have:=(Lies.new (w.alloc (.cells #[.int .i64 0,.int .i64 0] 30)) 163 (dP rd0 (.slice none 0 0))).alloc (.stringIter ⟨l.toArray⟩ 0);simpa using this
  ·rw[hW];have:=World.iter_heap ((w.alloc (.cells #[.int .i64 0,.int .i64 0] 30)).alloc (.cells (dP rd0 (.slice none 0 0)) 163)) ⟨l.toArray⟩ 0;simpa using this
  ·rw[hW];exact((Lies.new w 30 #[.int .i64 0,.int .i64 0]).alloc _).alloc _
  ·rw[hW];exact(((Below.refl _ w).alloc zr _).alloc (by simp) _).alloc (by simp;omega) _
  rw[hW];unfold World.iter;simp
 go_enter Tryz.func126,Tryz.ntmps126
 go_wp2_with fail
 go_loopw [6] (fun _ wr=>∃ (pos:Nat) (r:Rd),Hid (PIn l w pos r wr)) (fun _ wr=>l.length-wr.iterPos (w.heap.size+2))
 case atStart=>exact⟨0,rd0,H0 _ (by first|rfl|simp[dP,rd0,World.iter])⟩
 case round=>
  obtain⟨pos,r,hI⟩:=hrel;clear H0;have hit:=hI.out.it;by_cases hp:pos<l.length
  ·have qu:pos<(ByteArray.mk l.toArray).size:=by rw[HS.out];exact hp
   have ag:Hid (w.heap.size+3<=wr.heap.size):=zh hI.out.big;have vp:=hI.out.upto.fit (by have:=hI.out.le;omega);have HF:=zh vp;by_cases ha:l[pos].toNat<128
   ·have hg:(ByteArray.mk l.toArray)[pos]=l[pos]:=zU l pos qu;have mi:∀ ty,(Instr.next (.pointer (some ⟨w.heap.size+2,0,none⟩)) true ty).run Tryz.prog wr=.ok (.tuple #[.bool true,.int .i64 pos,.int .i32 (l[pos].toNat:Int)]) (wr.iterAt (w.heap.size+2) ⟨l.toArray⟩ (pos+1)):=by
     intro ty;have:=Lib.run_next_ascii_at (P:=Tryz.prog) wr (w.heap.size+2) ⟨l.toArray⟩ pos ty hit qu (by rw[hg];exact ha);rw[hg]at this;exact this
    have hrd:=zh (hI.out.rd.iterAt (k:=w.heap.size+2) (by omega) (by omega) ⟨l.toArray⟩ (pos+1));have hsz2:Hid (w.heap.size+3<=(wr.iterAt (w.heap.size+2) ⟨l.toArray⟩ (pos+1)).heap.size):=zh (by rw[Lib.iterAt_size];exact ag.out);have HIT:Hid (wr.heap[w.heap.size+2]?=some (.stringIter ⟨l.toArray⟩ pos)):=zh hit;clear hg vp hit;cases ht:r.take l[pos].toNat with
    |none=>
     have bk:Hid (eO l=none):=zh (by rw[HP.out,hI.out.all,tD r l pos hp,ht];rfl);have gj:=zh (hI.out.res.iterAt (k:=w.heap.size+2) (by omega) ⟨l.toArray⟩ (pos+1));have ez:=zh (Lib.below_iterAt hI.out.bel (k:=w.heap.size+2) (by omega) ⟨l.toArray⟩ (pos+1));have HTN:=zh ht;have h31:l[pos].toNat<=2147483647:=by omega
     clear ht hI;generalize hW:wr.iterAt (w.heap.size+2) ⟨l.toArray⟩ (pos+1)=W at *;clear hW
     go_wp2_with fail
     refine(uIE r _ (w.heap.size+1) (w.heap.size+3) _ h31 hrd.out HTN.out).mono ?_;intro e w1 vq;unfold iC at vq;rw[HTN.out]at vq;obtain⟨rfl,rfl⟩:=vq;have q0:=gj.out.cell 0;have q1:=gj.out.cell 1;have g0:=gj.out.frozen 0;have g1:=gj.out.frozen 1;simp at q0 q1;clear hrd hsz2 mi
     go_wp2_with fail
     refine yt (v:=.tuple #[.agg #[.int .i64 0,.int .i64 0],.bool false]) (by simp[results,Tryz.results126,go_sem,q0,q1]) rfl ?_;exact⟨by rw[<- ko.out,bk.out];rfl,(ez.out.setCell (p:=⟨w.heap.size,0,none⟩) zr _).setCell (p:=⟨w.heap.size,1,none⟩) zr _⟩
    |some r'=>
     have HTS:=zh ht;clear ht
     go_wp2_with fail
     refine(take_yes r r' _ (w.heap.size+1) (w.heap.size+3) _ hrd.out (by omega) hsz2.out HF.out HTS.out).mono ?_;intro e w1 vq;unfold iC at vq;rw[HTS.out]at vq;obtain⟨rfl,k1,k2⟩:=vq;have su:=zh (hI.out.next hp HTS.out k1 k2);have sy:Hid (w1.iterPos (w.heap.size+2)=pos+1):=zh (by unfold World.iterPos;rw[su.out.it]);have hp1:Hid (wr.iterPos (w.heap.size+2)=pos):=zh (by unfold World.iterPos;rw[HIT.out]);clear k1 k2 mi hI
     go_wp2_with fail
     go_roundw
     case rel=>exact⟨pos+1,r',su⟩
     case measure=>rw[sy.out,hp1.out];omega
   have hg:(ByteArray.mk l.toArray)[pos]=l[pos]:=zU l pos qu;have hdh:=(decode_high ⟨l.toArray⟩ pos qu (by rw[hg];omega)).1;have hdl:=decode_le ⟨l.toArray⟩ pos;have mi:∀ ty,(Instr.next (.pointer (some ⟨w.heap.size+2,0,none⟩)) true ty).run Tryz.prog wr=.ok (.tuple #[.bool true,.int .i64 pos,.int .i32 ((Utf8.decode ⟨l.toArray⟩ pos).1:Int)]) (wr.iterAt (w.heap.size+2) ⟨l.toArray⟩ (pos+(Utf8.decode ⟨l.toArray⟩ pos).2)) :=
    fun ty=>Lib.run_next_any_at (P:=Tryz.prog) wr (w.heap.size+2) ⟨l.toArray⟩ pos ty hit qu
   generalize (Utf8.decode ⟨l.toArray⟩ pos).1=c at *;generalize pos+(Utf8.decode ⟨l.toArray⟩ pos).2=pos2 at *;have hrd:=zh (hI.out.rd.iterAt (k:=w.heap.size+2) (by omega) (by omega) ⟨l.toArray⟩ pos2);have HTN:=zh (uDE r c hdh);have bk:Hid (eO l=none):=zh (by rw[HP.out,hI.out.all,tD r l pos hp,uDE r _ (by omega)];rfl);have gj:=zh (hI.out.res.iterAt (k:=w.heap.size+2) (by omega) ⟨l.toArray⟩ pos2);have ez:=zh (Lib.below_iterAt hI.out.bel (k:=w.heap.size+2) (by omega) ⟨l.toArray⟩ pos2);clear hg vp hit hI hdh ha;generalize hW:wr.iterAt (w.heap.size+2) ⟨l.toArray⟩ pos2=W at *;clear hW
   go_wp2_with fail
   refine(uIE r _ (w.heap.size+1) (w.heap.size+3) _ hdl hrd.out HTN.out).mono ?_;intro e w1 vq;unfold iC at vq;rw[HTN.out]at vq;obtain⟨rfl,rfl⟩:=vq;have q0:=gj.out.cell 0;have q1:=gj.out.cell 1;have g0:=gj.out.frozen 0;have g1:=gj.out.frozen 1;simp at q0 q1;clear hrd mi
   go_wp2_with fail
   refine yt (v:=.tuple #[.agg #[.int .i64 0,.int .i64 0],.bool false]) (by simp[results,Tryz.results126,go_sem,q0,q1]) rfl ?_;exact⟨by rw[<- ko.out,bk.out];rfl,(ez.out.setCell (p:=⟨w.heap.size,0,none⟩) zr _).setCell (p:=⟨w.heap.size,1,none⟩) zr _⟩
  have mi:∀ ty,(Instr.next (.pointer (some ⟨w.heap.size+2,0,none⟩)) true ty).run Tryz.prog wr=.ok (.tuple #[.bool false]) wr :=
   fun ty=>Lib.run_next_end_at (P:=Tryz.prog) wr (w.heap.size+2) ⟨l.toArray⟩ pos ty hit (by rw[HS.out];exact hp)
  have hpl:pos=l.length:=by have:=hI.out.le;omega
  have bk:Hid (eO l=(Rd.fin r).bind tV):=zh (by rw[HP.out,hI.out.all,hpl,List.drop_of_length_le zr];rfl);have aw:=hI.out.upto;have hds:r.ds.length<=255:=by have:=aw.ds;omega
  have hbh:r.behind<=255:=by have:=aw.behind;omega
  have hpw:=aw.pow;have HDg:=zh aw.dig;have el:=aw.st;obtain⟨v,oz,al⟩:=hI.out.rd;have gj:=zh hI.out.res;have ez:=zh hI.out.bel;have HBig:Hid (w.heap.size+3<=wr.heap.size):=zh hI.out.big;clear aw hI hpl hit;have c0:=oz.cell 0;have c1:=oz.cell 1;have c2:=oz.cell 2;have c3:=oz.cell 3;have c4:=oz.cell 4;have c5:=oz.cell 5;have f5:=oz.frozen 5;have HLie:=zh oz;have q0:=gj.out.cell 0;have q1:=gj.out.cell 1;have g0:=gj.out.frozen 0;have g1:=gj.out.frozen 1;simp[dP]at c0 c1 c2 c3 c4 c5;simp at q0 q1;obtain⟨st,ng,np,ds,bh,pw⟩:=r;dsimp only at *;by_cases kl:st=2\/st=4\/st=7
  ·have hF:Hid (eO l=fZ ng (aY ds) ((if np then -(pw:Int) else pw)-(bh:Int))):=zh (by
    rw[bk.out];unfold Rd.fin;rw[if_pos kl];rfl)
   obtain⟨A,cap,rfl,jx,hA⟩:∃ A cap,v=.slice A ds.length cap/\BSl wr (w.heap.size+3) A cap ds/\(∀ a,A=some a->a.block<wr.heap.size/\w.heap.size+3<=a.block):=by
    rcases al.2 with⟨rfl,h0⟩|⟨g,cap,cur,rfl,hg,hh,r2⟩
    ·rw[h0];exact⟨none,0,rfl,⟨by omega,by decide,fun h=>by omega⟩,fun a h=>by cases h⟩
    have hlt:g<wr.heap.size:=(zk.1 hh).1;rcases Nat.eq_zero_or_pos ds.length with h0|h0
    ·exact⟨_,cap,rfl,⟨by omega,by have:=r2.2.1;omega,fun h=>by omega⟩,fun a h=>by injection h with h;subst h;exact⟨hlt,hg⟩⟩
    obtain⟨g',jd,e1,e2,-⟩:=own_sl al zr h0;exact⟨some ⟨g',0,none⟩,jd,e1,e2,fun a h=>by injection h with h;subst h;injection e1 with e1 _ _;injection e1 with e1;injection e1 with e1 _ _;subst e1;exact⟨hlt,hg⟩⟩
   have HSl:=zh jx;have HA:=zh hA;clear al jx hA bk;have sm:∀ (W:World) (p:Int),Hid (-1000009<=p/\p<=1000009)->Hid (BSl W (w.heap.size+3) A cap ds)->Hid (Below w.heap.size w W)->Hid (wr.heap.size<=W.heap.size)->Calls Tryz.prog 136 #[.bool ng,.slice A ds.length cap,.int .i64 (p-(bh:Int))] W fun x w'=>x=.returned (iT (fZ ng (aY ds) (p-(bh:Int))))/\Below (w.heap.size+3) W w':=by
    intro W p hp hs hb hz;have h1:=hp.out;have h2:=hz.out;have h3:=HBig.out;exact uKR ng A cap (w.heap.size+3) ds _ W hs.out (by omega) (fun a h=>by have:=(HA.out a h).1;omega) HDg.out (by omega) (by omega) (by omega)
   have HNx:=zh sm;clear sm;cases np
   ·rcases kl with rfl|rfl|rfl
    all_goals
     go_wp2_with fail
     refine(HNx.out _ (pw:Int) (zh (by omega)) HSl ez (zh zr)).mono ?_;rintro x w2 ⟨rfl,bf⟩;have hE:Hid (out=iT (fZ ng (aY ds) ((pw:Int)-(bh:Int)))):=zh (by rw[<- ko.out,hF.out];rfl);have jy:Hid (Lies w2 w.heap.size 30 #[.int .i64 0,.int .i64 0]):=zh ((bf.block _ (by omega)).trans gj.out);have o3:Hid (Below w.heap.size w w2):=zh (ez.out.trans (bf.mono (by omega)));have r0:=jy.out.cell 0;have r1:=jy.out.cell 1;have s0:=jy.out.frozen 0;have s1:=jy.out.frozen 1;simp at r0 r1;clear bf;cases hpn:fZ ng (aY ds) ((pw:Int)-(bh:Int)) with
     |none=>
      rw[hpn]at hE;unfold iT
      go_wp2_with fail
      refine yt (v:=.tuple #[.agg #[.int .i64 0,.int .i64 0],.bool false]) (by simp[results,Tryz.results126,go_sem,r0,r1]) rfl ?_;exact⟨by rw[hE.out];rfl,(o3.out.setCell (p:=⟨w.heap.size,0,none⟩) zr _).setCell (p:=⟨w.heap.size,1,none⟩) zr _⟩
     |some q=>
      obtain⟨m,g⟩:=q;rw[hpn]at hE;unfold iT
      go_wp2_with fail
      refine yt (v:=.tuple #[.agg #[.int .i64 m,.int .i64 g],.bool true]) (by simp[results,Tryz.results126,go_sem,r0,r1]) rfl ?_;exact⟨by rw[hE.out];rfl,(o3.out.setCell (p:=⟨w.heap.size,0,none⟩) zr _).setCell (p:=⟨w.heap.size,1,none⟩) zr _⟩
   have HSl2:Hid (BSl (wr.setCell ⟨w.heap.size+1,5,none⟩ (.int .i64 (-(pw:Int)))) (w.heap.size+3) A cap ds):=zh (by
    obtain⟨a1,a2,a3⟩:=HSl.out;refine⟨a1,a2,fun h=>?_⟩;obtain⟨b,off,e1,e2,e3,e4⟩:=a3 h;exact⟨b,off,e1,e2,by simpa using e3,fun j hj=>⟨(World.cell?_setCell_other _ _ _ _ (by intro e5;injection e5 with e6;omega)).trans (e4 j hj).1,by simpa using (e4 j hj).2⟩⟩)
   have HBel1:Hid (Below w.heap.size w (wr.setCell ⟨w.heap.size+1,5,none⟩ (.int .i64 (-(pw:Int))))):=zh (ez.out.setCell (p:=⟨w.heap.size+1,5,none⟩) (by show w.heap.size<=w.heap.size+1;omega) _);have HRes1:Hid (Lies (wr.setCell ⟨w.heap.size+1,5,none⟩ (.int .i64 (-(pw:Int)))) w.heap.size 30 #[.int .i64 0,.int .i64 0]):=zh ((Below.heap_setCell _ _ _ _ (by show w.heap.size≠w.heap.size+1;omega)).trans gj.out);rcases kl with rfl|rfl|rfl
   all_goals
    go_wp2_with fail
    refine(HNx.out _ (-(pw:Int)) (zh (by omega)) HSl2 HBel1 (zh (by simp))).mono ?_;rintro x w2 ⟨rfl,bf⟩;have hE:Hid (out=iT (fZ ng (aY ds) (-(pw:Int)-(bh:Int)))):=zh (by rw[<- ko.out,hF.out];rfl);have jy:Hid (Lies w2 w.heap.size 30 #[.int .i64 0,.int .i64 0]):=zh ((bf.block _ (by omega)).trans HRes1.out);have o3:Hid (Below w.heap.size w w2):=zh (HBel1.out.trans (bf.mono (by omega)));have r0:=jy.out.cell 0;have r1:=jy.out.cell 1;have s0:=jy.out.frozen 0;have s1:=jy.out.frozen 1;simp at r0 r1;clear bf;cases hpn:fZ ng (aY ds) (-(pw:Int)-(bh:Int)) with
    |none=>
     rw[hpn]at hE;unfold iT
     go_wp2_with fail
     refine yt (v:=.tuple #[.agg #[.int .i64 0,.int .i64 0],.bool false]) (by simp[results,Tryz.results126,go_sem,r0,r1]) rfl ?_;exact⟨by rw[hE.out];rfl,(o3.out.setCell (p:=⟨w.heap.size,0,none⟩) zr _).setCell (p:=⟨w.heap.size,1,none⟩) zr _⟩
    |some q=>
     obtain⟨m,g⟩:=q;rw[hpn]at hE;unfold iT
     go_wp2_with fail
     refine yt (v:=.tuple #[.agg #[.int .i64 m,.int .i64 g],.bool true]) (by simp[results,Tryz.results126,go_sem,r0,r1]) rfl ?_;exact⟨by rw[hE.out];rfl,(o3.out.setCell (p:=⟨w.heap.size,0,none⟩) zr _).setCell (p:=⟨w.heap.size,1,none⟩) zr _⟩
  have hN:Hid (eO l=none):=zh (by rw[bk.out];unfold Rd.fin;rw[if_neg kl];rfl);obtain⟨s,hs⟩:∃ s:Int,(st:Int)=s:=⟨_,rfl⟩
  rw[hs]at c0;have b2:(s != 2)=true:=by rw[bne_iff_ne];omega
  have b4:(s != 4)=true:=by rw[bne_iff_ne];omega
  have b7:(s != 7)=true:=by rw[bne_iff_ne];omega
  clear hs kl el bk al
  go_wp2_with fail
  refine yt (v:=.tuple #[.agg #[.int .i64 0,.int .i64 0],.bool false]) (by simp[results,Tryz.results126,go_sem,q0,q1]) rfl ?_;exact⟨by rw[<- ko.out,hN.out];rfl,(ez.out.setCell (p:=⟨w.heap.size,0,none⟩) zr _).setCell (p:=⟨w.heap.size,1,none⟩) zr _⟩
def jB(m e:Int):Val:=⟨1,m,e,[],false,0⟩
def pG(f:Int):Val:=⟨4,0,0,[],false,if f<1\/9<f then 9 else f⟩
def qS(l:Bs):Val:=if 255<l.length then pG 2 else ⟨2,0,0,l,false,0⟩
def mO(b:Bool):Val:=⟨3,0,0,[],b,0⟩
theorem of_any(m e:Int)(w:World) :
  Calls Tryz.prog 96 #[sV m e] w fun x w'=>x=.returned (nV (jB m e))/\Below w.heap.size w w':=by
 go_enter Tryz.func96,Tryz.ntmps96
 go_wp2
 refine yt (v:=.agg #[.int .i64 1,.int .i64 m,.int .i64 e,.string ⟨#[]⟩,.bool false,.int .i64 0]) (by simp[results,Tryz.results96,go_sem]) rfl ?_;exact⟨rfl,((Below.refl _ w).alloc zr _).alloc (by simp) _⟩
theorem yD(b:Bool)(w:World) :
  Calls Tryz.prog 98 #[.bool b] w fun x w'=>x=.returned (nV (mO b))/\Below w.heap.size w w':=by
 go_enter Tryz.func98,Tryz.ntmps98
 go_wp2
 refine yt (v:=.agg #[.int .i64 3,.int .i64 0,.int .i64 0,.string ⟨#[]⟩,.bool b,.int .i64 0]) (by simp[results,Tryz.results98,go_sem]) rfl ?_;exact⟨rfl,(Below.refl _ w).alloc zr _⟩
theorem yK(f:Int)(w:World) :
  Calls Tryz.prog 99 #[.int .i64 f] w fun x w'=>x=.returned (nV (pG f))/\Below w.heap.size w w':=by
 have hN:pG f=⟨4,0,0,[],false,if f<1\/9<f then 9 else f⟩:=rfl;have HN:=zh hN;clear hN;generalize pG f=r at *;by_cases h1:f<1
 ·rw[if_pos (.inl h1)]at HN
  go_enter Tryz.func99,Tryz.ntmps99
  go_wp2
  refine yt (v:=.agg #[.int .i64 4,.int .i64 0,.int .i64 0,.string ⟨#[]⟩,.bool false,.int .i64 9]) (by simp[results,Tryz.results99,go_sem]) rfl ?_;exact⟨by rw[HN.out],(Below.refl _ w).alloc zr _⟩
 by_cases h2:9<f
 ·rw[if_pos (.inr h2)]at HN
  go_enter Tryz.func99,Tryz.ntmps99
  go_wp2
  refine yt (v:=.agg #[.int .i64 4,.int .i64 0,.int .i64 0,.string ⟨#[]⟩,.bool false,.int .i64 9]) (by simp[results,Tryz.results99,go_sem]) rfl ?_;exact⟨by rw[HN.out],(Below.refl _ w).alloc zr _⟩
 rw[if_neg (by omega)]at HN
 go_enter Tryz.func99,Tryz.ntmps99
 go_wp2
 refine yt (v:=.agg #[.int .i64 4,.int .i64 0,.int .i64 0,.string ⟨#[]⟩,.bool false,.int .i64 f]) (by simp[results,Tryz.results99,go_sem]) rfl ?_;exact⟨by rw[HN.out],(Below.refl _ w).alloc zr _⟩
theorem Lies.six{w:World}{R:Nat}(h:Lies w R 32 (kN aC)):w.cell? ⟨R,0,none⟩=some (.int .i64 0)/\w.cell? ⟨R,1,none⟩=some (.int .i64 0)/\w.cell? ⟨R,2,none⟩=some (.int .i64 0)/\w.cell? ⟨R,3,none⟩=some (.string ⟨#[]⟩)/\w.cell? ⟨R,4,none⟩=some (.bool false)/\w.cell? ⟨R,5,none⟩=some (.int .i64 0) /\
  w.frozen? ⟨R,0,none⟩=false/\w.frozen? ⟨R,1,none⟩=false/\w.frozen? ⟨R,2,none⟩=false/\w.frozen? ⟨R,3,none⟩=false/\w.frozen? ⟨R,4,none⟩=false/\w.frozen? ⟨R,5,none⟩=false :=
 ⟨h.cell 0,h.cell 1,h.cell 2,h.cell 3,h.cell 4,h.cell 5,h.frozen 0,h.frozen 1,h.frozen 2,h.frozen 3,h.frozen 4,h.frozen 5⟩
theorem Lies.next{w w':World}{g:Nat}{t:TypeId}{cs:Array Value}(h:Lies w g t cs)(hb:Below w.heap.size w w'):Lies w' g t cs:=(hb.block g h.lt).trans h
theorem uDF(l:Bs)(w:World)(hl:l.length<=1000000) :
  Calls Tryz.prog 97 #[.string ⟨l.toArray⟩] w fun x w'=>x=.returned (nV (qS l))/\Below w.heap.size w w':=by
 have hN:qS l=if 255<l.length then pG 2 else ⟨2,0,0,l,false,0⟩:=rfl
 have HN:=zh hN;clear hN;generalize qS l=r at *;by_cases h1:255<l.length
 ·rw[if_pos h1]at HN;have hL:=zh (Lies.new w 32 (kN aC));have HB:=zh ((Below.refl _ w).alloc zr (.cells (kN aC) 32))
  go_enter Tryz.func97,Tryz.ntmps97
  go_wp2_with fail
  refine(yK 2 _).mono ?_;rintro e w1 ⟨rfl,hb⟩;obtain⟨z0,z1,z2,z3,z4,z5,y0,y1,y2,y3,y4,y5⟩:=(hL.out.next hb).six;have eo:Hid (Below w.heap.size w w1):=zh (HB.out.trans (hb.mono HB.out.size));clear hb;unfold pG
  go_wp2_with fail
  refine yt (v:=.agg #[.int .i64 4,.int .i64 0,.int .i64 0,.string ⟨#[]⟩,.bool false,.int .i64 2]) (by simp[results,Tryz.results97,go_sem,z0,z1,z2,z3,z4,z5]) rfl ?_;exact⟨by rw[HN.out];rfl,uFZ ⟨4,0,0,[],false,2⟩ eo.out zr⟩
 rw[if_neg h1]at HN
 go_enter Tryz.func97,Tryz.ntmps97
 go_wp2_with fail
 refine yt (v:=.agg #[.int .i64 2,.int .i64 0,.int .i64 0,.string ⟨l.toArray⟩,.bool false,.int .i64 0]) (by simp[results,Tryz.results97,go_sem]) rfl ?_;exact⟨by rw[HN.out],(Below.refl _ w).alloc zr _⟩
def kE(l:Bs):Nat:=((List.range' 1 9).find? fun k=>aN l==dE k).getD 0
theorem wB(l:Bs)(w:World)(hl:l.length<=maxLen)(ht:Tab w) :
  Calls Tryz.prog 127 #[.string ⟨l.toArray⟩] w fun e w'=>e=.returned (.int .i64 (kE l:Int))/\Below w.heap.size w w':=by
 have hN:kE l=((List.range' 1 9).find? fun k=>aN l==dE k).getD 0:=rfl;have HN:=zh hN;clear hN;have HT:=zh ht;clear ht;generalize kE l=r at *
 go_enter Tryz.func127,Tryz.ntmps127
 go_wp2_with fail
 refine(lG l _ hl).mono ?_;rintro e w1 ⟨rfl,hb⟩;have HB:=zh hb;have vr:=zh (HT.out.next hb);clear hb HT;generalize aN l=u at *
 go_wp2_with fail
 go_loop [3] (fun i=>∃ k:Nat,1<=k/\k<=10/\i=.int .i64 k/\Hid (∀ j,1<=j->j<k->(u==dE j)=false)) (fun i=>10-(intOf i).toNat)
 case atStart=>exact⟨1,by omega,by omega,rfl,zh (fun j h1 h2=>by omega)⟩
 case round=>
  obtain⟨k,dc,fg,rfl,hr⟩:=hrel;by_cases hlt:k<=9
  ·have hc:=vr.out k (by omega);have HF:Hid ((u==dE k)=true->r=k):=zh (fun h=>by rw[HN.out,tX _ 9 k dc (by omega) h hr.out];rfl);have HR:Hid ((u==dE k)=false->∀ j,1<=j->j<k+1->(u==dE j)=false):=zh (fun h j h1 h2=>by
    by_cases e:j=k
    ·rw[e];exact h
    exact hr.out j h1 (by omega))
   generalize dE k=t at *;cases hu:(u==t)
   ·go_wp2_with fail
    go_round
    case rel=>exact⟨k+1,by omega,by omega,by go_num,zh (HR.out hu)⟩
    case measure=>simp[intOf];omega
   go_wp2_with fail
   go_ret
   exact⟨cW (by rw[HF.out hu]),HB.out⟩
  have hz:Hid (r=0):=zh (by rw[HN.out,uHH _ 9 (fun j h1 h2=>hr.out j h1 (by omega))];rfl)
  go_wp2_with fail
  go_ret
  exact⟨cW (by rw[hz.out];rfl),HB.out⟩
end Go.Proofs.YtmgjidnalpgegaaGreatDoor
