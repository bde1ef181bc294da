/-
  Lemmas, part 4: Num9 Val7.
-/
import Derived.ArgAppend
import Derived.Test.YtmgjidnalpgegaaGreatDoorPr3
set_option maxHeartbeats 100000000
namespace Go.Proofs.YtmgjidnalpgegaaGreatDoor
open Go.RowKit
def sg(neg:Bool)(n:Nat):Int:=if neg then -(n:Int) else n
theorem pow_bd{x k n:Nat}(hx:0<x)(h:x*10 ^ k=n)(hn:n<=1000000000000000):k<=15:=by
 have h1:10 ^ k<=10 ^ 15:=by
  have:1*10 ^ k<=x*10 ^ k:=Nat.mul_le_mul_right _ hx;have e:(10:Nat) ^ 15=1000000000000000:=by decide
  omega
 have:k<16:=jK (Nat.lt_of_le_of_lt h1 (by decide));omega
theorem uIH(x k:Nat)(e:Int)(hx:0<x):bY (x*10 ^ k) e=bY x (e+k):=by
 induction k generalizing e with
 |zero=>simp
 |succ k ih=>
  have h1:x*10 ^ (k+1)=x*10 ^ k*10:=by rw[Nat.pow_succ,Nat.mul_assoc]
  have hp:0<x*10 ^ k:=Nat.mul_pos hx (Nat.pow_pos (by decide));rw[h1,tO _ e (by omega) (by omega),Nat.mul_div_cancel _ (by decide),ih]
  congr 1
  omega
set_option maxRecDepth 100000 in
theorem uBQ(neg:Bool)(n:Nat)(e:Int)(w:World)(hn:n<=1000000000000000)(he1:-3000000<=e)(he2:e<=3000000) :
  Calls Tryz.prog 144 #[.bool neg,.int .u64 (n:Int),.int .i64 e] w fun x w'=>x=.returned (rI (sg neg (bY n e).1) (bY n e).2)/\Below w.heap.size w w':=by
 have hB:Below w.heap.size w (w.alloc (.cells #[.int .i64 0,.int .i64 0] 30)):=(Below.refl _ w).alloc zr _;have HB:=zh hB;have HN:=zh hn;clear hB hn;by_cases h0:n=0
 ·subst h0;have hr:Hid (rI (sg neg (bY 0 e).1) (bY 0 e).2=rI 0 0):=zh (by rw[lJ];cases neg <;> rfl);rw[hr.out];clear hr
  go_enter Tryz.func144,Tryz.ntmps144
  go_wp2_with fail
  refine yt (v:=.agg #[.int .i64 0,.int .i64 0]) (by simp[results,Tryz.results144,go_sem]) rfl ?_;exact⟨rfl,(Below.refl _ w).alloc zr _⟩
 have b0:((n:Int)==0)=false:=by rw[beq_eq_false_iff_ne];omega
 have HP:Hid (0<n):=zh (by omega);clear h0;have HQ:Hid (∀ x k:Nat,0<x->x*10 ^ k=n->bY n e=bY x (e+k)):=zh (fun x k h1 h2=>by rw[<- h2];exact uIH x k e h1);generalize bY n e=r at *
 go_enter Tryz.func144,Tryz.ntmps144
 go_wp2_with fail
 go_loop [1,2] (fun v x=>∃ (y k:Nat),v=.int .u64 y/\x=.int .i64 (e+k)/\Hid (0<y)/\Hid (y*10 ^ k=n)) (fun v _=>(intOf v).toNat)
 case atStart=>exact⟨n,0,rfl,by simp,HP,zh (by simp)⟩
 case round=>
  obtain⟨y,k,rfl,rfl,hy,hq⟩:=hrel;have hk:=pow_bd hy.out hq.out HN.out;by_cases hm:y % 10=0
  ·have bm:((y:Int) % 10==0)=true:=by rw[beq_iff_eq];omega
   have hw:Hid (IntKind.u64.wrap ((y:Int) / 10)=((y / 10:Nat):Int)):=zh (by
    have h1:y*1<=y*10 ^ k:=Nat.mul_le_mul_left _ (Nat.pow_pos (by decide));rw[mL _ (by have:=hq.out;have:=HN.out;omega)];omega)
   have hy2:Hid (0<y / 10):=zh (by have:=hy.out;omega);have ls:Hid (y / 10*10 ^ (k+1)=n):=zh (by
    rw[<- hq.out,Nat.pow_succ,Nat.mul_comm (10 ^ k) 10,<- Nat.mul_assoc];congr 1;omega)
   have fm:Hid (e+(k:Int)+1=e+((k+1:Nat):Int)):=zh (by omega);have hlt:Hid (y / 10<y):=zh (by have:=hy.out;omega);clear hm
   go_wp2_with fail
   go_round
   case rel=>exact⟨y / 10,k+1,by rw[hw.out],by rw[<- fm.out],hy2,ls⟩
   case measure=>rw[hw.out];simp[intOf];have:=hlt.out;omega
  have bm:((y:Int) % 10==0)=false:=by rw[beq_eq_false_iff_ne];omega
  have hr:Hid (r=(y,e+(k:Int))):=zh (by rw[HQ.out y k hy.out hq.out];exact tP y _ hm);have hyb:(y:Int)<=9223372036854775807:=by
   have h1:y*1<=y*10 ^ k:=Nat.mul_le_mul_left _ (Nat.pow_pos (by decide));have:=hq.out;have:=HN.out;omega
  clear hm;cases neg
  ·go_wp2_with fail
   refine yt (v:=.agg #[.int .i64 y,.int .i64 (e+k)]) (by simp[results,Tryz.results144,go_sem]) rfl ?_;exact⟨by rw[hr.out];rfl,(Below.refl _ w).alloc zr _⟩
  go_wp2_with fail
  refine yt (v:=.agg #[.int .i64 (-(y:Int)),.int .i64 (e+k)]) (by simp[results,Tryz.results144,go_sem]) rfl ?_;exact⟨by rw[hr.out];rfl,(Below.refl _ w).alloc zr _⟩
theorem rhe_nil(k:Nat):rhe 0 k=0:=by
 have:0<10 ^ k:=Nat.pow_pos (by decide);unfold rhe;rw[Nat.zero_mod,Nat.zero_div,if_neg (by omega)]
theorem nX(neg:Bool)(e:Int):fF neg 0 e=some (0,0):=by
 have h1:dJ 0 e=(0,e):=if_neg (by rw[pP];omega);have h2:(fR 0 e).1=0:=by
  unfold fR
  split
  ·exact rhe_nil _
  rfl
 unfold fF;rw[h1];simp only[h2];rfl
theorem tC(n:Nat)(e:Int):(dJ n e).1<=1000000000000000:=by
 unfold dJ
 split
 ·rename_i h
  have h1:=oJ n;rw[show eD n=15+(eD n-15) by omega]at h1;exact rhe_le n (eD n-15) 15 h1
 rename_i h
 have h1:=oJ n;have h2:10 ^ eD n<=10 ^ 15:=Nat.pow_le_pow_right (by decide) (by omega);have e:(10:Nat) ^ 15=1000000000000000:=by decide
 show n<=_;omega
theorem uAD(n:Nat)(e:Int)(h:n<=1000000000000000):(fR n e).1<=1000000000000000/\-40<=(fR n e).2:=by
 unfold fR
 split
 ·rename_i h1
  refine⟨?_,by show (-40:Int)<=-40;omega⟩;have h2:10 ^ 16<=10 ^ (15+(-40-e).toNat):=Nat.pow_le_pow_right (by decide) (by omega);have e16:(10:Nat) ^ 16=10000000000000000:=by decide
  exact rhe_le n _ 15 (by omega)
 exact⟨h,by show -40<=e;omega⟩
theorem uIB(n:Nat)(e:Int)(h0:0<n):0<(dJ n e).1:=by
 unfold dJ
 split
 ·rename_i h
  have h1:=oI n h0;rw[show eD n-1=14+(eD n-15) by omega]at h1;have:=rhe_ge n (eD n-15) 14 h1;have:0<10 ^ 14:=by decide
  show 0<rhe n (eD n-15);omega
 exact h0
theorem nW(neg:Bool)(n:Nat)(e:Int)(h0:0<n)(h:40<=e):fF neg n e=none:=by
 have hp:=uIB n e h0;have he:e<=(dJ n e).2:=by
  unfold dJ
  split
  ·show e<=e+_;omega
  exact Int.le_refl _
 unfold fF;generalize dJ n e=p at *;obtain⟨m,f⟩:=p;simp only at hp he ⊢;have h2:fR m f=(m,f):=if_neg (by omega);rw[h2];simp only;obtain⟨k,a1,a2,a3,a4⟩:=tN m f hp;have hd:=lY m hp;generalize bY m f=t at *;obtain⟨x,g⟩:=t;simp only at a1 a2 a3 a4 ⊢;unfold rM;rw[if_neg (by intro z;subst z;simp at a3),if_pos (by omega)]
theorem near_fin(neg:Bool)(n:Nat)(e:Int)(h:n<=1000000000000000)(he:-40<=e) :
  (if cC (sg neg (bY n e).1) (bY n e).2=true then some (sg neg (bY n e).1,(bY n e).2) else none)=rM neg (bY n e).1 (bY n e).2:=by
 rcases Nat.eq_zero_or_pos n with h0|h0
 ·subst h0;rw[lJ];cases neg <;> rfl
 obtain⟨k,a1,a2,a3,a4⟩:=tN n e h0;generalize bY n e=t at *;obtain⟨x,g⟩:=t;simp only at a1 a2 a3 a4 ⊢;have hx0:0<x:=by rcases Nat.eq_zero_or_pos x with z|z;(subst z;simp at a3);exact z
 have hxn:x<=n:=by rw[a1];exact Nat.le_mul_of_pos_right _ (Nat.pow_pos (by decide))
 have hx15:x<1000000000000000:=by
  rcases Nat.lt_or_ge x 1000000000000000 with z|z
  ·exact z
  have:x=1000000000000000:=by omega
  subst this;simp at a3
 have hd:=vJ x hx0 hx15;have hd1:=lY x hx0;have habs:(sg neg x).natAbs=x:=by unfold sg;cases neg <;> simp
 have bp:sg neg x≠0:=by unfold sg;cases neg <;> simp <;> omega
 have hR:cC (sg neg x) g=decide ((eD x:Int)+g<=40):=by
  unfold cC;rw[if_neg bp,habs,hd,decide_eq_true hx15,decide_eq_true a3,decide_eq_true (by omega:-40<=g)];by_cases hg:(eD x:Int)+g<=40
  ·rw[decide_eq_true hg,decide_eq_true (by omega)];rfl
  rw[decide_eq_false hg];simp
 rw[hR];unfold rM;have hxz:¬ x=0:=by omega
 rw[if_neg hxz];by_cases hg:(eD x:Int)+g<=40
 ·rw[decide_eq_true hg,if_pos rfl,if_neg (by omega)];rfl
 rw[decide_eq_false hg,if_neg (by decide),if_pos (by omega)]
theorem tL(neg:Bool)(n:Nat)(e:Int)(n1 n2:Nat)(e1 e2:Int)(h1:dJ n e=(n1,e1))(h2:fR n1 e1=(n2,e2)) :
  fF neg n e=if cC (sg neg (bY n2 e2).1) (bY n2 e2).2=true then some (sg neg (bY n2 e2).1,(bY n2 e2).2) else none:=by
 have b1:=tC n e;rw[h1]at b1;have b2:=uAD n1 e1 b1;rw[h2]at b2;rw[near_fin neg n2 e2 b2.1 b2.2];unfold fF;rw[h1];simp only[h2]
def BRow(w:World)(b off:Nat)(L:List Nat):Prop:=∀ j (h:j<L.length),w.cell? ⟨b,off+j,none⟩=some (dH L[j])/\w.frozen? ⟨b,off+j,none⟩=false
theorem BRow.set{w:World}{b off:Nat}{L:List Nat}(h:BRow w b off L)(k c:Nat):BRow (w.setCell ⟨b,off+k,none⟩ (dH c)) b off (L.set k c):=by
 intro j hj;rw[List.length_set]at hj;obtain⟨h1,h2⟩:=h j hj;by_cases e:k=j
 ·subst e;refine⟨?_,by simpa using h2⟩;rw[World.cell?_setCell_same' _ _ _ (by rw[h1];rfl)];simp
 refine⟨?_,by simpa using h2⟩;rw[World.cell?_setCell_other _ _ _ _ (by intro e2;injection e2 with e3 e4;omega),h1];rw[List.getElem_set_ne e]
theorem BRow.take{w:World}{b off:Nat}{L:List Nat}(h:BRow w b off L)(n:Nat):BRow w b off (L.take n):=by
 intro j hj;rw[zc]at hj;have:=h j (by omega);rw[List.getElem_take];exact this
theorem BRow.drop{w:World}{b off:Nat}{L:List Nat}(h:BRow w b off L)(n:Nat):BRow w b (off+n) (L.drop n):=by
 intro j hj;rw[yk]at hj;have:=h (n+j) (by omega);rw[List.getElem_drop,Nat.add_assoc];exact this
theorem BRow.sl{w:World}{b off base cap:Nat}{L:List Nat}(h:BRow w b off L)(h1:base<=b)(h2:b<w.heap.size)(h3:L.length<=cap)(h4:cap<=maxLen):BSl w base (some ⟨b,off,none⟩) cap L:=⟨h3,h4,fun _=>⟨b,off,rfl,h1,h2,h⟩⟩
theorem own_sl{w:World}{base B:Nat}{v:Value}{ds:List Nat}(h:w.ownsRow B 5 1 v ds.length (ds.map dH))(hB:base<=B)(h0:0<ds.length):∃ g cap,v=.slice (some ⟨g,0,none⟩) ds.length cap/\BSl w base (some ⟨g,0,none⟩) cap ds/\BRow w g 0 ds:=by
 rcases h.2 with⟨_,h1⟩|⟨g,cap,cur,rfl,hg,hh,sq,mz,ik,ht⟩
 ·omega
 have bi:BRow w g 0 ds:=by
  intro j hj;have hl:Lies w g 5 cur:=hh;refine⟨?_,hl.frozen _⟩;rw[hl.cell,Nat.zero_add];have h2:(cur.toList.take (ds.length*1))[j]?=(ds.map dH)[j]?:=by rw[ht]
  rw[Nat.mul_one,List.getElem?_take_of_lt hj,List.getElem?_map,List.getElem?_eq_getElem hj]at h2;simpa using h2
 have hlt:g<w.heap.size:=(zk.1 hh).1;exact⟨g,cap,rfl,bi.sl (by omega) hlt sq mz,bi⟩
def uFI(b base n:Nat)(ds:List Nat)(w:World)(e:Ending)(w':World):Prop :=
 ∃ A cap ds',e=.returned (.slice A ds'.length cap)/\BSl w' base A cap ds'/\Dig ds'/\aV ds'=rhe (aV ds) (ds.length-n)/\(Lead ds->Lead ds')/\ds'.length<=n+1/\Kept b w.heap.size w w'/\(∀ a,A=some a->a.block=b\/w.heap.size<=a.block)
theorem kX{b base n:Nat}{ds:List Nat}{w w':World}(A:Option Addr)(cap m:Nat)(ds':List Nat)(hm:m=ds'.length)(h1:BSl w' base A cap ds')(h2:Dig ds')(h3:aV ds'=rhe (aV ds) (ds.length-n))(h4:Lead ds->Lead ds')(h5:ds'.length<=n+1)(h6:Kept b w.heap.size w w')(h7:∀ a,A=some a->a.block=b\/w.heap.size<=a.block) :
  uFI b base n ds w (.returned (.slice A m cap)) w':=⟨A,cap,ds',by rw[hm],h1,h2,h3,h4,h5,h6,h7⟩
theorem Kept.of_below{b base:Nat}{w w':World}(h:Below base w w'):Kept b base w w':=⟨h.os,h.tape,h.output,h.size,fun k hk _=>h.block k hk⟩
theorem Kept.drewN{b base:Nat}(w:World)(q:Nat):Kept b base w (w.drewN q):=Kept.of_below (below_drewN (Below.refl _ _) q)
theorem at_b{b off:Nat}{B:Nat}:∀ a:Addr,some (⟨b,off,none⟩:Addr)=some a->a.block=b\/B<=a.block:=fun a h=>by injection h with h;subst h;exact .inl rfl
theorem at_new{b g off:Nat}{B:Nat}(hg:B<=g):∀ a:Addr,some (⟨g,off,none⟩:Addr)=some a->a.block=b\/B<=a.block:=fun a h=>by injection h with h;subst h;exact .inr hg
theorem bare_at(A:Option Addr)(cap base m:Nat)(ds:List Nat)(w:World)(hm:ds.length=m)(h:BSl w base A cap ds) :
  Calls Tryz.prog 142 #[.slice A m cap] w fun e w'=>yE A base ds w e w':=by subst hm;exact rX A cap base ds w h
set_option maxRecDepth 100000 in
theorem uFK(b off cap base n:Nat)(ds:List Nat)(w:World)(hr:BRow w b off ds)(af:base<=b)(ay:b<w.heap.size)(eu:ds.length<=cap)(mz:cap<=maxLen)(hn15:n<=100000)(hn:n<ds.length)(hd:Dig ds) :
  Calls Tryz.prog 143 #[.slice (some ⟨b,off,none⟩) ds.length cap,.int .i64 (n:Int)] w fun e w'=>uFI b base n ds w e w':=by
 have fi:=zh mz;clear mz;have HR:=zh hr;have HD:=zh hd;have lj:n<cap:=by omega
 have x0:=(hr n hn).1;unfold dH at x0;have hx9:ds[n]<=9:=hd _ (List.getElem_mem hn);have hS:ds=ds.take n++ds[n]::ds.drop (n+1):=by
  rw[<- yx hn,List.take_append_drop]
 have hlen:(ds.drop (n+1)).length+1=ds.length-n:=by rw[yk];omega
 have hV:rhe (aV ds) (ds.length-n)=aV (ds.take n)+(if upB (ds.take n) ds[n] (ds.drop (n+1)) then 1 else 0):=by
  rw[<- hlen];have:=uEI (ds.take n) ds[n] (ds.drop (n+1)) (by rw[<- yx hn];exact hd.drop n);rw[<- hS]at this;exact this
 have HV:=zh hV;have hbare:=zh (fun W=>rX (if cap-n=1 then some ⟨b,off+n,none⟩ else some ⟨b,off+n+1,none⟩) (cap-n-1) base (ds.drop (n+1)) W);have hU:upB (ds.take n) ds[n] (ds.drop (n+1))=(decide (5<ds[n])||(decide (ds[n]=5)&&(decide (0<(dG (ds.drop (n+1))).length)||decide (aV (ds.take n) % 2=1)))):=rfl;have HU:=zh hU;generalize hx:ds[n]=x at *;clear hS hlen hV hU hr hd hx
 go_enter Tryz.func143,Tryz.ntmps143
 go_wp2_with fail
 go_quiet (fail)
 generalize gw:cap-n=c2;have HC2:=zh gw;clear gw
 go_upto_if 23 with fail
 go_cut [7] (fun v wx=>v=.bool (upB (ds.take n) x (ds.drop (n+1)))/\∃ q,wx=w.drewN q)
 case first=>
  by_cases h5:x=5
  ·subst h5;have jw:∀ q,Hid (BSl (w.drewN q) base (if c2=1 then some ⟨b,off+n,none⟩ else some ⟨b,off+n+1,none⟩) (c2-1) (ds.drop (n+1))):=fun q=>zh (by
    have hl:(ds.drop (n+1)).length=ds.length-(n+1):=yk;have:=HC2.out;refine⟨by omega,by have:=fi.out;omega,fun hp=>?_⟩;rw[if_neg (by omega)];exact⟨b,off+n+1,rfl,af,ay,HR.out.drop (n+1)⟩)
   have HL:Hid ((ds.drop (n+1)).length=ds.length-n-1):=zh (by rw[yk];omega);rcases Classical.em (c2=1) with rfl|fg
   all_goals
    first|simp only[if_true]at jw|simp only[fg,if_false]at jw
    go_wp2_with fail
    refine(bare_at _ _ base _ (ds.drop (n+1)) _ HL.out (jw _).out).mono ?_;rintro e w' ⟨A2,cap2,rfl,-,rfl,-⟩;clear jw HL hbare;generalize (dG (ds.drop (n+1))).length=m at *;by_cases hm:0<m
    ·go_wp2_with fail
     go_meet
     refine⟨?_,_,rfl⟩;rw[HU.out];simp[hm]
    have ft:m=0:=by omega
    subst ft;clear hm;cases n with
    |zero=>
     go_wp2_with fail
     go_meet
     refine⟨?_,_,rfl⟩;rw[HU.out];rfl
    |succ k=>
     have y0:=(HR.out k (by omega)).1;unfold dH at y0;have hodd:Hid (aV (ds.take (k+1)) % 2=ds[k] % 2):=zh (by
      have h1:k+1=(ds.take (k+1)).length:=by rw[zc];omega
      rw[last_odd (ds.take (k+1)) k h1,List.getElem_take])
     have hy9:ds[k]<=9:=HD.out _ (List.getElem_mem _);generalize ds[k]=y at *
     go_wp2_with fail
     go_meet
     refine⟨?_,_,rfl⟩;rw[HU.out,hodd.out]
     congr 1
     rw[ze];simp;omega
  have b5:((x:Int)==5)=false:=by rw[beq_eq_false_iff_ne];omega
  go_wp2_with fail
  go_meet
  refine⟨?_,_,rfl⟩;rw[HU.out]
  congr 1
  rw[ze];simp[h5];omega
 case rest=>
  obtain⟨rfl,q,rfl⟩:=hcut;generalize upB (ds.take n) x (ds.drop (n+1))=u at *;cases u
  ·rw[if_neg (by decide)]at HV
   go_wp2_with fail
   go_ret
   exact kX _ n n (ds.take n) (by rw[zc];omega) ((HR.out.take n).sl af ay (by rw[zc];omega) (by unfold maxLen;omega)) (HD.out.take n) (by rw[HV.out];rfl) (fun h=>h.take n) (by rw[zc];omega) (Kept.drewN _ _) at_b
  rw[if_pos rfl]at HV;have HH:Hid ((ds.take n).length=n):=zh (by rw[zc];omega);have HT:Hid (BRow w b off (ds.take n)):=zh (HR.out.take n);have HDT:Hid (Dig (ds.take n)):=zh (HD.out.take n);have mp:Hid (Lead ds->Lead (ds.take n)):=zh (fun h=>h.take n);clear HU hbare x0 hx9 HR HD;generalize ds.take n=H at *
  go_wp2_with fail
  go_loopw [8] (fun i wr=>∃ (k:Nat) (z:Int),i=.int .i64 z/\Hid (z=(k:Int)-1)/\k<=n/\Hid (Nines H k)/\Hid (BRow wr b off (inc H k))/\Hid (Kept b w.heap.size w wr)/\b<wr.heap.size) (fun i _=>(intOf i+1).toNat)
  case atStart=>exact⟨n,(n:Int)-1,rfl,zh rfl,zr,zh (by rw[<- HH.out];exact Nines.all H),zh (by rw[<- HH.out,inc_all];exact HT.out),zh (Kept.drewN _ _),ay⟩
  case round=>
   obtain⟨k,z,rfl,hz,hk,m3,bi,aw,m4⟩:=hrel;cases k with
   |zero=>
    obtain rfl:z=-1:=by have:=hz.out;omega
    have hO:=zh (inc_over H m3.out);have hI:inc H 0=List.replicate n 0:=by unfold inc;rw[HH.out];simp
    rw[hI]at bi;rw[HH.out]at hO;clear hI m3 hz hk;cases n with
    |zero=>
     go_wp2_with fail
     go_ret
     have hrow1:BRow (wr.alloc (.cells #[.int .u8 1] 5)) wr.heap.size 0 [1]:=by
      intro j hj;have hl:=Lies.new wr 5 #[.int .u8 1];refine⟨?_,hl.frozen _⟩;rw[hl.cell]
      match j,hj with
      |0,_=>rfl
     exact kX _ 1 1 [1] rfl (hrow1.sl (yv af (Nat.le_of_lt m4)) (by simp) zr (by decide)) (Dig.cons (by decide) (fun _ h=>by cases h)) (by rw[HV.out,<- hO.out];rfl) (fun _ d t h=>by injection h with h1 _;omega) (by simp) (aw.out.alloc aw.out.size _) (at_new aw.out.size)
    |succ q=>
     obtain⟨i0,hi,ki,js,j7⟩:=info_parts uDC;have y0:=(bi.out 0 (by simp)).1;have y1:=(bi.out 0 (by simp)).2;simp only[Nat.add_zero]at y0 y1;simp[dH]at y0;have hF:=zh (bi.out.set 0 1);have hR:(List.replicate (q+1) 0).set 0 1=1::List.replicate q 0:=rfl;rw[hR]at hF;have kc:dH 1=.int .u8 1:=rfl;rw[kc,Nat.add_zero]at hF;clear hR kc bi
     go_wp2_with (at_builtin;refine wpList_append_grows _ rfl (.tmp 71) (.tmp 72) 77 rfl 5 i0 (.int .u8 0) 1 1 Tryz.underlying77 hi ki js j7 rfl (by decide) (some ⟨b,off,none⟩) (q+1) (q+1) ((1::List.replicate q 0).map dH) rfl (fun h=>by cases h) (by simp) ?olds ⟨wr.heap.size,0,none⟩ 1 1 [dH 0] rfl rfl ?c1 ?c2 (by omega) ?c3 ?c4 ?_)
     case olds=>
      intro ad e j u hu;injection e with e;subst e;rw[List.getElem?_map]at hu;have hj:j<(1::List.replicate q 0).length:=by
       rcases Nat.lt_or_ge j (1::List.replicate q 0).length with g|g
       ·exact g
       rw[List.getElem?_eq_none g]at hu;cases hu
      rw[List.getElem?_eq_getElem hj]at hu;have h1:=(hF.out j hj).1;have h2:u=dH (1::List.replicate q 0)[j]:=by simpa using hu.symm
      rw[h2,<- h1];have ea:(⟨b,off,none⟩:Addr).add j=⟨b,off+j,none⟩:=by
       unfold Addr.add;by_cases e0:j=0
       ·subst e0;simp
       simp[e0]
      rw[ea];exact World.cell?_alloc_past _ _ _ (by simpa using m4)
     case c1=>exact fun j u hj=>tE _ _ _ _ j u (by simp) hj
     case c2=>intro u hu;simp at hu;subst hu;rfl
     case c3=>unfold maxLen;omega
     case c4=>omega
     intro v' w2 aj cu;have hO2:w2.ownsRow ((wr.setCell ⟨b,off,none⟩ (.int .u8 1)).alloc (.cells #[.int .u8 0] 5)).heap.size 5 1 v' (1::List.replicate q 0++[0]).length ((1::List.replicate q 0++[0]).map dH):=by
      simpa using aj
     obtain⟨g,cap2,rfl,jw,-⟩:=own_sl (base:=base) hO2 (by simp;omega) (by simp);have HG:Hid (wr.heap.size<=g):=zh (by have:=uDW hO2 g rfl;simp at this;omega);have HSL:=zh jw;have cq:Hid (Kept b w.heap.size w w2):=zh (((aw.out.put off _).alloc (by simpa using aw.out.size) _).grown cu (by have:=aw.out.size;simp;omega) (fun k h=>by cases h));clear aj cu hO2 jw
     go_wp2_with fail
     go_ret
     refine kX _ cap2 _ (1::List.replicate q 0++[0]) rfl HSL.out ?_ ?_ ?_ (by simp) cq.out (at_new (by have:=aw.out.size;have:=HG.out;omega))
     ·exact(Dig.cons (by decide) (Dig.zeros q)).append (Dig.cons (by decide) (fun _ h=>by cases h))
     ·rw[HV.out,<- hO.out,yp,<- List.replicate_succ']
     intro _ d t h;injection h with h1 _;omega
   |succ m=>
    obtain rfl:z=(m:Int):=by have:=hz.out;omega
    have hmn:m<H.length:=by rw[HH.out];omega
    have ox:=inc_len H (m+1) (by omega);have y0:=(bi.out m (by omega)).1;have y1:=(bi.out m (by omega)).2;rw[inc_get H m hmn (by omega)]at y0;unfold dH at y0;have hy9:H[m]<=9:=HDT.out _ (List.getElem_mem _);have hmn2:m<n:=by omega
    by_cases h9:H[m]<9
    ·have hE:Hid (dH (H[m]+1)=.int .u8 ((H[m]:Int)+1)):=zh (by unfold dH;congr 1);have hF:=zh (bi.out.set m (H[m]+1));rw[uFS H m _ hmn,hE.out]at hF;have hN:=zh (inc_up H m hmn m3.out);have hD2:Hid (Dig (H.take m++(H[m]+1)::List.replicate (H.length-(m+1)) 0)):=zh ((HDT.out.take m).append (Dig.cons (by omega) (Dig.zeros _)));have hL2:Hid (Lead ds->Lead (H.take m++(H[m]+1)::List.replicate (H.length-(m+1)) 0)):=zh (fun h=>(mp.out h).up m hmn _);have hlen:Hid ((H.take m++(H[m]+1)::List.replicate (H.length-(m+1)) 0).length=n):=zh (by simp;have:=HH.out;omega);generalize H.take m++(H[m]+1)::List.replicate (H.length-(m+1)) 0=R at *;generalize H[m]=y at *;clear ox m3
     go_wp2_with fail
     go_ret
     exact kX _ n n R hlen.out.symm (hF.out.sl af (by simpa using m4) (by rw[hlen.out];omega) (by unfold maxLen;omega)) hD2.out (by rw[HV.out,hN.out]) hL2.out (by rw[hlen.out];omega) (aw.out.put (off+m) _) at_b
    have h9':H[m]=9:=by omega
    have hF:=zh (bi.out.set m 0);rw[inc_down H m hmn]at hF;have hN2:Hid (Nines H m):=zh (m3.out.down hmn h9');generalize H[m]=y at *;subst h9';clear ox m3 h9 hy9
    go_wp2_with fail
    go_roundw
    case rel=>exact⟨m,(m:Int)-1,rfl,zh rfl,by omega,hN2,hF,zh (aw.out.put (off+m) _),by simpa using m4⟩
    case measure=>simp[intOf]
def gT(p:Option (Int×Int)):Value:=match p with|none=>.tuple #[rI 0 0,.bool false]|some q=>.tuple #[rI q.1 q.2,.bool true]
structure Mid(base R:Nat)(w wx:World)(A:Option Addr)(cap:Nat)(L:List Nat):Prop where
 sl:BSl wx base A cap L
 dig:Dig L
 res:Lies wx R 30 #[.int .i64 0,.int .i64 0]
 ne:∀ a,A=some a->a.block≠R
 bel:Below base w wx
 len:L.length<=1000
theorem uU(L:List Nat)(k:Nat):aV (L.take k)<=aV L:=by
 have h:=fK (L.take k) (L.drop k);rw[List.take_append_drop]at h;have:aV (L.take k)*1<=aV (L.take k)*10 ^ (L.drop k).length:=Nat.mul_le_mul_left _ (Nat.pow_pos (by decide));omega
theorem uFU{base R b off cap n:Nat}{w wx w2:World}{L ds2:List Nat}{A2:Option Addr}{c2:Nat}(h:Mid base R w wx (some ⟨b,off,none⟩) cap L)(hb:base<=b)(hbx:b<wx.heap.size)(hs:BSl w2 base A2 c2 ds2)(hd:Dig ds2)(hk:Kept b wx.heap.size wx w2)(ha:∀ a,A2=some a->a.block=b\/wx.heap.size<=a.block)(hl:ds2.length<=n+1)(hn:n<=999):Mid base R w w2 A2 c2 ds2:=by
 have hR:=h.res.lt;have bp:R≠b:=fun e=>h.ne _ rfl e.symm
 refine⟨hs,hd,h.res.kept hk hR bp,fun a e=>?_,h.bel.trans (hk.below hb hbx),by omega⟩;rcases ha a e with g|g <;> omega
set_option maxRecDepth 100000 in
theorem uIT(neg:Bool)(A:Option Addr)(cap base:Nat)(ds:List Nat)(e:Int)(w:World)(hs:BSl w base A cap ds)(cv:base<=w.heap.size)(hA0:∀ a,A=some a->a.block<w.heap.size)(hd:Dig ds)(hl:ds.length<=1000)(he1:-2000000<=e)(he2:e<=2000000) :
  Calls Tryz.prog 136 #[.bool neg,.slice A ds.length cap,.int .i64 e] w fun x w'=>x=.returned (gT (fF neg (aV ds) e))/\Below base w w':=by
 have hN:aV (dG ds)=aV ds:=pN ds;have HN:=zh hN;have mp:=zh (uHR ds);have HDg:=zh (uGV hd);have hbl:(dG ds).length<=1000:=yv (uGW ds) hl;have bo:Hid (∀ o,BSl (w.alloc o) base A cap ds):=zh (fun o=>by
  obtain⟨a1,a2,a3⟩:=hs;refine⟨a1,a2,fun hp=>?_⟩;obtain⟨b,off,q1,q2,q3,q4⟩:=a3 hp;exact⟨b,off,q1,q2,by simp;omega,fun j hj=>⟨(World.cell?_alloc_past _ _ _ q3).trans (q4 j hj).1,(World.frozen?_alloc_past _ _ _ q3).trans (q4 j hj).2⟩⟩)
 have cg:=zh hA0;generalize aV ds=N at *;obtain⟨out,rm⟩:∃ out,gT (fF neg N e)=out:=⟨_,rfl⟩
 rw[rm];have kv:=zh rm;clear hN hs hd hA0 hl rm
 go_enter Tryz.func136,Tryz.ntmps136
 go_wp2_with fail
 refine(rX A cap base ds _ (bo.out _)).mono ?_;rintro x w' ⟨A1,cap1,rfl,hB1,rfl,hA1⟩;have HM:Hid (Mid base w.heap.size w (w.alloc (.cells #[.int .i64 0,.int .i64 0] 30)) A1 cap1 (dG ds)):=zh ⟨hB1,HDg.out,Lies.new _ _ _,fun a h=>by
  obtain⟨a0,h1,h2⟩:=hA1 a h;have:=cg.out a0 h1;omega,(Below.refl _ _).alloc cv _,hbl⟩
 clear hB1 hA1 cg bo HDg;generalize dG ds=L at *;by_cases h0:L.length=0
 ·have hN0:Hid (fF neg N e=some (0,0)):=zh (by
   rw[<- HN.out,List.eq_nil_of_length_eq_zero h0];exact nX neg e)
  have HB:=zh HM.out.bel;generalize L.length=l at *;subst h0;clear HM HN
  go_wp2_with fail
  refine yt (v:=.tuple #[.agg #[.int .i64 0,.int .i64 0],.bool true]) (by simp[results,Tryz.results136,go_sem]) rfl ?_;exact⟨by rw[<- kv.out,hN0.out];rfl,(Below.refl _ _).alloc cv _⟩
 have b0:((L.length:Int)==0)=false:=by rw[beq_eq_false_iff_ne];omega
 have oy:0<L.length:=by omega
 clear h0;have HP:Hid (0<N):=zh (by
  rw[<- HN.out];cases L with
  |nil=>simp at oy
  |cons d t=>exact yu (Nat.pow_pos (by decide)) (oV d t (mp.out d t rfl)))
 by_cases h40:40<=e
 ·have hN0:Hid (fF neg N e=none):=zh (nW neg N e HP.out h40);clear HM HN
  go_wp2_with fail
  refine yt (v:=.tuple #[.agg #[.int .i64 0,.int .i64 0],.bool false]) (by simp[results,Tryz.results136,go_sem]) rfl ?_;exact⟨by rw[<- kv.out,hN0.out];rfl,(Below.refl _ _).alloc cv _⟩
 have HDL:Hid (eD N=L.length):=zh (by rw[<- HN.out];exact sW mp.out HM.out.dig)
 go_upto_if 27 with fail
 go_cut [1,2] (fun v1 v2 wx=>∃ (L1:List Nat) (A2:Option Addr) (c1 n1:Nat) (e1:Int),v1=.slice A2 n1 c1/\v2=.int .i64 e1/\Hid (L1.length=n1)/\Hid (Mid base w.heap.size w wx A2 c1 L1)/\Hid (Lead L1)/\Hid (dJ N e=(aV L1,e1))/\-2000000<=e1/\e1<=2001000/\n1<=1000)
 case first=>
  by_cases h15:15<L.length
  ·have lu:Hid (dJ N e=(rhe N (L.length-15),e+((L.length:Int)-15))):=zh (by
    unfold dJ;rw[HDL.out,if_pos h15]
    congr 1
    omega)
   obtain⟨b,off,rfl,af,ay,bi⟩:=HM.out.sl.2.2 oy;have rn:=zh HM.out.sl.1;have mz:=zh HM.out.sl.2.1;have HRow:=zh bi;have cq:=zh ay;clear bi ay
   go_wp2_with fail
   refine(uFK b off cap1 base 15 L _ HRow.out af cq.out rn.out mz.out (by omega) h15 HM.out.dig).mono ?_;rintro x w2 ⟨A2,c2,ds2,rfl,qw,qy,ew,hl2,jv,fm,ha2⟩;have i8:=zh (uFU HM.out af cq.out qw qy fm ha2 jv (by omega));have jt:=zh (hl2 mp.out);have iu:Hid (dJ N e=(aV ds2,e+((L.length:Int)-15))):=zh (by rw[lu.out,ew,HN.out]);clear qw qy ew hl2 fm ha2
   go_wp2_with fail
   go_meet
   exact⟨ds2,A2,c2,ds2.length,e+((L.length:Int)-15),rfl,rfl,zh rfl,i8,jt,iu,by omega,by omega,by omega⟩
  have lu:Hid (dJ N e=(aV L,e)):=zh (by
   unfold dJ;rw[HDL.out,if_neg h15,HN.out])
  go_wp2_with fail
  go_meet
  exact⟨L,A1,cap1,L.length,e,rfl,rfl,zh rfl,HM,mp,lu,by omega,by omega,hbl⟩
 case rest=>
  obtain⟨L1,A2,c1,n1,e1,rfl,rfl,au,oz,kj,mi,hf1,hf2,hn1k⟩:=hcut;clear HDL HN mp HM b0 oy hbl
  go_upto_if 34 with fail
  go_cut [1,2] (fun v1 v2 wx=>∃ (L2:List Nat) (A3:Option Addr) (c2 n2:Nat) (e2:Int),v1=.slice A3 n2 c2/\v2=.int .i64 e2/\Hid (L2.length=n2)/\Hid (Mid base w.heap.size w wx A3 c2 L2)/\Hid (fR (aV L1) e1=(aV L2,e2))/\-40<=e2/\e2<=2001000/\n2<=1000)
  case first=>
   by_cases ko:e1< -40
   ·by_cases hdrop:(n1:Int)< -40-e1
    ·have hz:Hid (fF neg N e=some (0,0)):=zh (by
      have h2:fR (aV L1) e1=(0,-40):=by
       unfold fR;rw[if_pos ko,uGD];rw[sW kj.out oz.out.dig,au.out];omega
      rw[tL neg N e _ _ _ _ mi.out h2,lJ];cases neg <;> rfl)
     have q0:=oz.out.res.cell 0;have q1:=oz.out.res.cell 1;have g0:=oz.out.res.frozen 0;have g1:=oz.out.res.frozen 1;simp at q0 q1;have HB:=zh oz.out.bel;clear oz mi kj au
     go_wp2_with fail
     refine yt (v:=.tuple #[.agg #[.int .i64 0,.int .i64 0],.bool true]) (by simp[results,Tryz.results136,go_sem,q0,q1]) rfl ?_;exact⟨by rw[<- kv.out,hz.out];rfl,(HB.out.setCell (p:=⟨w.heap.size,0,none⟩) cv _).setCell (p:=⟨w.heap.size,1,none⟩) cv _⟩
    obtain⟨d,hdd⟩:∃ d:Nat,(d:Int)=-40-e1:=⟨(-40-e1).toNat,by omega⟩
    have hdn:d<=n1:=by omega
    have lu:Hid (fR (aV L1) e1=(rhe (aV L1) d,-40)):=zh (by
     unfold fR;rw[if_pos ko]
     congr 2
     omega)
    have uz:0<n1:=by omega
    obtain⟨b,off,rfl,af,ay,bi⟩:=oz.out.sl.2.2 (by rw[au.out];exact uz);have rn:=zh oz.out.sl.1;have mz:=zh oz.out.sl.2.1;have HRow:=zh bi;have cq:=zh ay;have hd1:1<=d:=by omega
    have HDD:=zh hdd;have hkk:Hid ((n1:Int)-(-40-e1)=((n1-d:Nat):Int)):=zh (by omega);clear bi ay hdd
    go_wp2_with fail
    rw[hkk.out];have hc:=fun W h1 h2=>uFK b off c1 base (n1-d) L1 W h1 af h2 rn.out mz.out (by omega) (by rw[au.out];omega) oz.out.dig
    rw[au.out]at hc;refine(hc _ HRow.out cq.out).mono ?_;clear hc;rintro x w2 ⟨A3,c2,ds2,rfl,qw,qy,ew,hl2,jv,fm,ha2⟩;have i8:=zh (uFU oz.out af cq.out qw qy fm ha2 jv (by omega));have iu:Hid (fR (aV L1) e1=(aV ds2,-40)):=zh (by rw[lu.out,ew,au.out,show n1-(n1-d)=d by omega]);clear qw qy ew hl2 fm ha2
    go_wp2_with fail
    go_meet
    exact⟨ds2,A3,c2,ds2.length,-40,rfl,rfl,zh rfl,i8,iu,by omega,by omega,by omega⟩
   have lu:Hid (fR (aV L1) e1=(aV L1,e1)):=zh (if_neg ko)
   go_wp2_with fail
   go_meet
   exact⟨L1,A2,c1,n1,e1,rfl,rfl,au,oz,lu,by omega,by omega,hn1k⟩
  case rest=>
   obtain⟨L2,A3,c2,n2,e2,rfl,rfl,ew,i8,iu,mh,qv,hn2k⟩:=hcut;have HI:=zh (tL neg N e _ _ _ _ mi.out iu.out);have td:Hid (aV L2<=1000000000000000):=zh (by
    have h1:=tC N e;rw[mi.out]at h1;have h2:=(uAD _ e1 h1).1;rw[iu.out]at h2;exact h2)
   clear mi iu kj oz au HP h40 hf1 hf2 he1 he2 hn1k
   go_wp2_with fail
   go_loop [10,50] (fun v i=>∃ (k x:Nat),v=.int .u64 x/\i=.int .i64 k/\k<=n2/\Hid (x=aV (L2.take k))) (fun _ i=>n2-(intOf i).toNat)
   case atStart=>exact⟨0,0,rfl,rfl,zm _,zh (by simp[aV])⟩
   case round=>
    obtain⟨k,x,rfl,rfl,hk,hx⟩:=hrel;by_cases hlt:k<n2
    ·have lq:k<L2.length:=by rw[ew.out];exact hlt
     obtain⟨b,off,rfl,-,-,bi⟩:=i8.out.sl.2.2 (by omega);have y0:=(bi k lq).1;unfold dH at y0;have hy9:L2[k]<=9:=i8.out.dig _ (List.getElem_mem _);have hx2:Hid (x*10+L2[k]=aV (L2.take (k+1))):=zh (by rw[yw lq,lI,<- hx.out];omega);have hxb:x<=1000000000000000:=by have:=uU L2 k;have:=td.out;rw[hx.out];omega
     generalize L2[k]=y at *;have hw1:IntKind.u64.wrap ((x:Int)*10)=(x:Int)*10:=mL _ (by omega);have hw2:IntKind.u64.wrap ((x:Int)*10+(y:Int))=(x:Int)*10+(y:Int):=mL _ (by omega);have hw3:IntKind.u64.wrap (y:Int)=(y:Int):=mL _ (by omega);have HC:Hid ((x:Int)*10+(y:Int)=((x*10+y:Nat):Int)):=zh (by omega);clear hxb lq bi
     go_wp2_with fail
     go_round
     case rel=>exact⟨k+1,x*10+y,by rw[HC.out],by go_num,by omega,hx2⟩
     case measure=>simp[intOf];omega
    have hxe:Hid (x=aV L2):=zh (by rw[hx.out,List.take_of_length_le (by rw[ew.out];omega)]);have HT:=zh (fun W=>uBQ neg x e2 W (by rw[hxe.out];exact td.out) (by omega) (by omega));have sr:Hid (fF neg N e=if cC (sg neg (bY x e2).1) (bY x e2).2=true then some (sg neg (bY x e2).1,(bY x e2).2) else none):=zh (by rw[hxe.out];exact HI.out);have hsb:(bY x e2).1<=1000000000000000:=by
     have hx15:x<=1000000000000000:=by rw[hxe.out];exact td.out
     rcases Nat.eq_zero_or_pos x with z|z
     ·rw[z,lJ];exact zm _
     obtain⟨q,a1,-,-,-⟩:=tN x e2 z;have:(bY x e2).1*1<=(bY x e2).1*10 ^ q:=Nat.mul_le_mul_left _ (Nat.pow_pos (by decide));omega
    have u5:=zh (fun W=>pY (sg neg (bY x e2).1) (bY x e2).2 W (by unfold sg;cases neg <;> simp <;> omega) (by unfold sg;cases neg <;> simp <;> omega));have kw:=zh i8.out.bel;have fy:=zh i8.out.res;clear HI td i8 hx hxe ew hsb
    go_wp2_with fail
    refine(HT.out _).mono ?_;rintro z w3 ⟨rfl,b9⟩;generalize sg neg (bY x e2).1=m at *;generalize (bY x e2).2=g at *;have u6:Hid (Lies w3 w.heap.size 30 #[.int .i64 0,.int .i64 0]):=zh ((b9.block _ fy.out.lt).trans fy.out);have su:Hid (Below base w w3):=zh (kw.out.trans (b9.mono (yv cv kw.out.size)));clear b9 HT fy kw
    go_wp2_with fail
    refine(u5.out _).mono ?_;rintro z w4 ⟨rfl,lx⟩;have hlt3:=u6.out.lt;have sv:Hid (Lies w4 w.heap.size 30 #[.int .i64 0,.int .i64 0]):=zh ((lx.block _ (by simp;omega)).trans (u6.out.alloc _));have HBel4:Hid (Below base w w4):=zh ((su.out.alloc (yv cv su.out.size) _).trans (lx.mono (by have:=su.out.size;simp;omega)));have n0:w4.cell? ⟨w3.heap.size,0,none⟩=some (.int .i64 m):=(lx.cell (p:=⟨w3.heap.size,0,none⟩) (by simp)).trans (by simp);have n1:w4.cell? ⟨w3.heap.size,1,none⟩=some (.int .i64 g):=(lx.cell (p:=⟨w3.heap.size,1,none⟩) (by simp)).trans (by simp);have q0:=sv.out.cell 0;have q1:=sv.out.cell 1;have g0:=sv.out.frozen 0;have g1:=sv.out.frozen 1;simp at q0 q1;clear lx u5 u6 su;cases hR:cC m g
    ·rw[hR,if_neg (by decide)]at sr
     go_wp2_with fail
     refine yt (v:=.tuple #[.agg #[.int .i64 0,.int .i64 0],.bool false]) (by simp[results,Tryz.results136,go_sem,q0,q1]) rfl ?_;exact⟨by rw[<- kv.out,sr.out];rfl,(HBel4.out.setCell (p:=⟨w.heap.size,0,none⟩) cv _).setCell (p:=⟨w.heap.size,1,none⟩) cv _⟩
    rw[hR,if_pos rfl]at sr
    go_wp2_with fail
    refine yt (v:=.tuple #[.agg #[.int .i64 m,.int .i64 g],.bool true]) (by simp[results,Tryz.results136,go_sem,q0,q1]) rfl ?_;exact⟨by rw[<- kv.out,sr.out];rfl,(HBel4.out.setCell (p:=⟨w.heap.size,0,none⟩) cv _).setCell (p:=⟨w.heap.size,1,none⟩) cv _⟩
def sJ(x:Bool×List Nat×Nat×Bool×Nat):Option (Int×Int):=fF x.1 (aV x.2.1) ((if x.2.2.2.1 then -(x.2.2.2.2:Int) else x.2.2.2.2)-(x.2.2.1:Int))
def eB(l:Bs):Option (Int×Int):=if 255<l.length then none else ((rd0.all l).bind Rd.fin).bind sJ
structure Rd.Upto(r:Rd)(n:Nat):Prop where
 st:r.st<=7
 ds:r.ds.length<=n
 behind:r.behind<=n
 pow:r.pow<=1000009
 dig:Dig r.ds
theorem upto0:Rd.Upto rd0 0:=⟨by decide,by decide,by decide,by decide,fun _ h=>by cases h⟩
theorem Rd.Upto.take{r r':Rd}{n c:Nat}(h:r.Upto n)(ht:r.take c=some r'):r'.Upto (n+1):=by
 obtain⟨h1,h2,h3,h4,h5⟩:=h;unfold Rd.take at ht;by_cases hd:48<=c/\c<=57
 ·rw[if_pos hd]at ht;injection ht with ht;subst ht;unfold Rd.digit
  split
  ·exact⟨by simp,by simp;omega,by simp;omega,h4,h5.append (fun d hx=>by simp at hx;omega)⟩
  split
  ·exact⟨by simp,by simp;omega,by simp;omega,h4,h5.append (fun d hx=>by simp at hx;omega)⟩
  refine⟨by simp,by simp;omega,by simp;omega,?_,h5⟩;show eF r.pow (c-48)<=1000009;unfold eF
  split <;> omega
 rw[if_neg hd]at ht
 split at ht
 ·injection ht with ht;subst ht;exact⟨by simp,by simp;omega,by simp;omega,h4,h5⟩
 split at ht
 ·injection ht with ht;subst ht;exact⟨by simp,by simp;omega,by simp;omega,h4,h5⟩
 split at ht
 ·injection ht with ht;subst ht;exact⟨by simp,by simp;omega,by simp;omega,h4,h5⟩
 split at ht
 ·injection ht with ht;subst ht;exact⟨by simp,by simp;omega,by simp;omega,h4,h5⟩
 cases ht
theorem Rd.Upto.fit{r:Rd}{n:Nat}(h:r.Upto n)(hn:n<=1000):r.Fit:=⟨h.st,yv h.ds hn,yv h.behind hn,by have:=h.pow;omega⟩
theorem uBM(r:Rd)(c:Nat)(h:128<=c):r.take c=none:=by
 unfold Rd.take;rw[if_neg (by omega),if_neg (by omega),if_neg (by omega),if_neg (by omega),if_neg (by omega)]
theorem rS(r:Rd)(l:Bs)(k:Nat)(h:k<l.length):r.all (l.drop k)=match r.take l[k].toNat with|some r'=>r'.all (l.drop (k+1))|none=>none:=by
 rw[yx h];rfl
theorem own_iter{w:World}{base:Nat}{e:TypeId}{size:Nat}{v:Value}{n:Nat}{xs:List Value}(h:w.ownsRow base e size v n xs){k:Nat}(hk:k<base)(s:ByteArray)(p:Nat):(w.iterAt k s p).ownsRow base e size v n xs:=by
 obtain⟨h1,h2⟩:=h;refine⟨h1,?_⟩;rcases h2 with h2|⟨g,cap,cur,hv,hg,hh,r⟩
 ·exact .inl h2
 exact .inr ⟨g,cap,cur,hv,hg,(Lib.iterAt_other w k g s p (by omega)).trans hh,r⟩
theorem Lies.iterAt{w:World}{g:Nat}{t:TypeId}{cs:Array Value}(h:Lies w g t cs){k:Nat}(hk:g≠k)(s:ByteArray)(p:Nat):Lies (w.iterAt k s p) g t cs:=(Lib.iterAt_other w k g s p hk).trans h
theorem RdIn.iterAt{w:World}{b base:Nat}{r:Rd}(h:RdIn w b base r){k:Nat}(h1:b≠k)(h2:k<base)(s:ByteArray)(p:Nat):RdIn (w.iterAt k s p) b base r:=by
 obtain⟨v,a1,a2⟩:=h;exact⟨v,a1.iterAt h1 s p,own_iter a2 h2 s p⟩
structure PIn(l:Bs)(w:World)(pos:Nat)(r:Rd)(wr:World):Prop where
 le:pos<=l.length
 all:rd0.all l=r.all (l.drop pos)
 upto:r.Upto pos
 rd:RdIn wr (w.heap.size+1) (w.heap.size+3) r
 it:wr.heap[w.heap.size+2]?=some (.stringIter ⟨l.toArray⟩ pos)
 res:Lies wr w.heap.size 30 #[.int .i64 0,.int .i64 0]
 bel:Below w.heap.size w wr
 big:w.heap.size+3<=wr.heap.size
theorem PIn.next{l:Bs}{w wr w':World}{pos:Nat}{r r':Rd}(h:PIn l w pos r wr)(hp:pos<l.length)(ht:r.take l[pos].toNat=some r')
  (h1:RdIn w' (w.heap.size+1) (w.heap.size+3) r') (h2:Kept (w.heap.size+1) (w.heap.size+3) (wr.iterAt (w.heap.size+2) ⟨l.toArray⟩ (pos+1)) w'):PIn l w (pos+1) r' w':=by
 have hb:=Lib.below_iterAt h.bel (k:=w.heap.size+2) (by omega) ⟨l.toArray⟩ (pos+1);refine⟨hp,?_,h.upto.take ht,h1,?_,?_,hb.trans (h2.below (by omega) (by omega)),?_⟩
 ·rw[h.all,rS r l pos hp,ht]
 ·rw[h2.block _ (by omega) (by omega)];exact Lib.iterAt_heap wr _ _ pos _ h.it
 ·exact(h.res.iterAt (by omega) _ _).kept h2 (by omega) (by omega)
 have:=h2.size;rw[Lib.iterAt_size]at this;have:=h.big;omega
set_option maxRecDepth 100000 in
theorem wC(l:Bs)(w:World)(hl:l.length<=1000000) :
  Calls Tryz.prog 126 #[.string ⟨l.toArray⟩] w fun e w'=>e=.returned (gT (eB l))/\Below w.heap.size w w':=by
 obtain⟨out,rm⟩:∃ out,gT (eB l)=out:=⟨_,rfl⟩
 rw[rm];have kv:=zh rm;clear rm;by_cases h255:255<l.length
 ·have hN:Hid (eB l=none):=zh (if_pos h255)
  go_enter Tryz.func126,Tryz.ntmps126
  go_wp2_with fail
  refine yt (v:=.tuple #[.agg #[.int .i64 0,.int .i64 0],.bool false]) (by simp[results,Tryz.results126,go_sem]) rfl ?_;exact⟨by rw[<- kv.out,hN.out];rfl,(zp _)⟩
 have HP:Hid (eB l=((rd0.all l).bind Rd.fin).bind sJ):=zh (if_neg h255);have HS:Hid ((ByteArray.mk l.toArray).size=l.length):=zh (by simp[ByteArray.size]);have H0:∀ W:World,W=(((w.alloc (.cells #[.int .i64 0,.int .i64 0] 30)).alloc (.cells (dB rd0 (.slice none 0 0)) 163)).iter ⟨l.toArray⟩ 0)->Hid (PIn l w 0 rd0 W):=by
  intro W hW;refine zh ⟨zm _,rfl,upto0,⟨.slice none 0 0,?_,⟨rfl,.inl ⟨rfl,rfl⟩⟩⟩,?_,?_,?_,?_⟩
  ·rw[hW];unfold World.iter;have:=(Lies.new (w.alloc (.cells #[.int .i64 0,.int .i64 0] 30)) 163 (dB rd0 (.slice none 0 0))).alloc (.stringIter ⟨l.toArray⟩ 0);simpa using this
  ·rw[hW];have:=World.iter_heap ((w.alloc (.cells #[.int .i64 0,.int .i64 0] 30)).alloc (.cells (dB rd0 (.slice none 0 0)) 163)) ⟨l.toArray⟩ 0;simpa using this
  ·rw[hW];exact((Lies.new w 30 #[.int .i64 0,.int .i64 0]).alloc _).alloc _
  ·rw[hW];exact(((Below.refl _ w).alloc zr _).alloc (by simp) _).alloc (by simp;omega) _
  rw[hW];unfold World.iter;simp
 go_enter Tryz.func126,Tryz.ntmps126
 go_wp2_with fail
 go_loopw [6] (fun _ wr=>∃ (pos:Nat) (r:Rd),Hid (PIn l w pos r wr)) (fun _ wr=>l.length-wr.iterPos (w.heap.size+2))
 case atStart=>exact⟨0,rd0,H0 _ (by first|rfl|simp[dB,rd0,World.iter])⟩
 case round=>
  obtain⟨pos,r,hI⟩:=hrel;clear H0;have hit:=hI.out.it;by_cases hp:pos<l.length
  ·have sw:pos<(ByteArray.mk l.toArray).size:=by rw[HS.out];exact hp
   have ag:Hid (w.heap.size+3<=wr.heap.size):=zh hI.out.big;have u7:=hI.out.upto.fit (by have:=hI.out.le;omega);have HF:=zh u7;by_cases ha:l[pos].toNat<128
   ·have hg:(ByteArray.mk l.toArray)[pos]=l[pos]:=yF l pos sw;have mq:∀ ty,(Instr.next (.pointer (some ⟨w.heap.size+2,0,none⟩)) true ty).run Tryz.prog wr=.ok (.tuple #[.bool true,.int .i64 pos,.int .i32 (l[pos].toNat:Int)]) (wr.iterAt (w.heap.size+2) ⟨l.toArray⟩ (pos+1)):=by
     intro ty;have:=Lib.run_next_ascii_at (P:=Tryz.prog) wr (w.heap.size+2) ⟨l.toArray⟩ pos ty hit sw (by rw[hg];exact ha);rw[hg]at this;exact this
    have hrd:=zh (hI.out.rd.iterAt (k:=w.heap.size+2) (by omega) (by omega) ⟨l.toArray⟩ (pos+1));have hsz2:Hid (w.heap.size+3<=(wr.iterAt (w.heap.size+2) ⟨l.toArray⟩ (pos+1)).heap.size):=zh (by rw[Lib.iterAt_size];exact ag.out);have HIT:Hid (wr.heap[w.heap.size+2]?=some (.stringIter ⟨l.toArray⟩ pos)):=zh hit;clear hg u7 hit;cases ht:r.take l[pos].toNat with
    |none=>
     have bk:Hid (eB l=none):=zh (by rw[HP.out,hI.out.all,rS r l pos hp,ht];rfl);have fy:=zh (hI.out.res.iterAt (k:=w.heap.size+2) (by omega) ⟨l.toArray⟩ (pos+1));have kw:=zh (Lib.below_iterAt hI.out.bel (k:=w.heap.size+2) (by omega) ⟨l.toArray⟩ (pos+1));have HTN:=zh ht;have h31:l[pos].toNat<=2147483647:=by omega
     clear ht hI;generalize hW:wr.iterAt (w.heap.size+2) ⟨l.toArray⟩ (pos+1)=W at *;clear hW
     go_wp2_with fail
     refine(uGG r _ (w.heap.size+1) (w.heap.size+3) _ h31 hrd.out HTN.out).mono ?_;intro e w1 u9;unfold gE at u9;rw[HTN.out]at u9;obtain⟨rfl,rfl⟩:=u9;have q0:=fy.out.cell 0;have q1:=fy.out.cell 1;have g0:=fy.out.frozen 0;have g1:=fy.out.frozen 1;simp at q0 q1;clear hrd hsz2 mq
     go_wp2_with fail
     refine yt (v:=.tuple #[.agg #[.int .i64 0,.int .i64 0],.bool false]) (by simp[results,Tryz.results126,go_sem,q0,q1]) rfl ?_;exact⟨by rw[<- kv.out,bk.out];rfl,(kw.out.setCell (p:=⟨w.heap.size,0,none⟩) zr _).setCell (p:=⟨w.heap.size,1,none⟩) zr _⟩
    |some r'=>
     have HTS:=zh ht;clear ht
     go_wp2_with fail
     refine(take_yes r r' _ (w.heap.size+1) (w.heap.size+3) _ hrd.out (by omega) hsz2.out HF.out HTS.out).mono ?_;intro e w1 u9;unfold gE at u9;rw[HTS.out]at u9;obtain⟨rfl,k1,k2⟩:=u9;have sr:=zh (hI.out.next hp HTS.out k1 k2);have sy:Hid (w1.iterPos (w.heap.size+2)=pos+1):=zh (by unfold World.iterPos;rw[sr.out.it]);have uz:Hid (wr.iterPos (w.heap.size+2)=pos):=zh (by unfold World.iterPos;rw[HIT.out]);clear k1 k2 mq hI
     go_wp2_with fail
     go_roundw
     case rel=>exact⟨pos+1,r',sr⟩
     case measure=>rw[sy.out,uz.out];omega
   have hg:(ByteArray.mk l.toArray)[pos]=l[pos]:=yF l pos sw;have hdh:=(decode_high ⟨l.toArray⟩ pos sw (by rw[hg];omega)).1;have hdl:=decode_le ⟨l.toArray⟩ pos;have mq:∀ ty,(Instr.next (.pointer (some ⟨w.heap.size+2,0,none⟩)) true ty).run Tryz.prog wr=.ok (.tuple #[.bool true,.int .i64 pos,.int .i32 ((Utf8.decode ⟨l.toArray⟩ pos).1:Int)]) (wr.iterAt (w.heap.size+2) ⟨l.toArray⟩ (pos+(Utf8.decode ⟨l.toArray⟩ pos).2)) :=
    fun ty=>Lib.run_next_any_at (P:=Tryz.prog) wr (w.heap.size+2) ⟨l.toArray⟩ pos ty hit sw
   generalize (Utf8.decode ⟨l.toArray⟩ pos).1=c at *;generalize pos+(Utf8.decode ⟨l.toArray⟩ pos).2=pos2 at *;have hrd:=zh (hI.out.rd.iterAt (k:=w.heap.size+2) (by omega) (by omega) ⟨l.toArray⟩ pos2);have HTN:=zh (uBM r c hdh);have bk:Hid (eB l=none):=zh (by rw[HP.out,hI.out.all,rS r l pos hp,uBM r _ (by omega)];rfl);have fy:=zh (hI.out.res.iterAt (k:=w.heap.size+2) (by omega) ⟨l.toArray⟩ pos2);have kw:=zh (Lib.below_iterAt hI.out.bel (k:=w.heap.size+2) (by omega) ⟨l.toArray⟩ pos2);clear hg u7 hit hI hdh ha;generalize hW:wr.iterAt (w.heap.size+2) ⟨l.toArray⟩ pos2=W at *;clear hW
   go_wp2_with fail
   refine(uGG r _ (w.heap.size+1) (w.heap.size+3) _ hdl hrd.out HTN.out).mono ?_;intro e w1 u9;unfold gE at u9;rw[HTN.out]at u9;obtain⟨rfl,rfl⟩:=u9;have q0:=fy.out.cell 0;have q1:=fy.out.cell 1;have g0:=fy.out.frozen 0;have g1:=fy.out.frozen 1;simp at q0 q1;clear hrd mq
   go_wp2_with fail
   refine yt (v:=.tuple #[.agg #[.int .i64 0,.int .i64 0],.bool false]) (by simp[results,Tryz.results126,go_sem,q0,q1]) rfl ?_;exact⟨by rw[<- kv.out,bk.out];rfl,(kw.out.setCell (p:=⟨w.heap.size,0,none⟩) zr _).setCell (p:=⟨w.heap.size,1,none⟩) zr _⟩
  have mq:∀ ty,(Instr.next (.pointer (some ⟨w.heap.size+2,0,none⟩)) true ty).run Tryz.prog wr=.ok (.tuple #[.bool false]) wr :=
   fun ty=>Lib.run_next_end_at (P:=Tryz.prog) wr (w.heap.size+2) ⟨l.toArray⟩ pos ty hit (by rw[HS.out];exact hp)
  have hpl:pos=l.length:=by have:=hI.out.le;omega
  have bk:Hid (eB l=(Rd.fin r).bind sJ):=zh (by rw[HP.out,hI.out.all,hpl,List.drop_of_length_le zr];rfl);have ap:=hI.out.upto;have hds:r.ds.length<=255:=by have:=ap.ds;omega
  have hbh:r.behind<=255:=by have:=ap.behind;omega
  have hpw:=ap.pow;have HDg:=zh ap.dig;have el:=ap.st;obtain⟨v,o3,aj⟩:=hI.out.rd;have fy:=zh hI.out.res;have kw:=zh hI.out.bel;have HBig:Hid (w.heap.size+3<=wr.heap.size):=zh hI.out.big;clear ap hI hpl hit;have c0:=o3.cell 0;have c1:=o3.cell 1;have c2:=o3.cell 2;have c3:=o3.cell 3;have c4:=o3.cell 4;have c5:=o3.cell 5;have f5:=o3.frozen 5;have HLie:=zh o3;have q0:=fy.out.cell 0;have q1:=fy.out.cell 1;have g0:=fy.out.frozen 0;have g1:=fy.out.frozen 1;simp[dB]at c0 c1 c2 c3 c4 c5;simp at q0 q1;obtain⟨st,ng,np,ds,bh,pw⟩:=r;dsimp only at *;by_cases kq:st=2\/st=4\/st=7
  ·have hF:Hid (eB l=fF ng (aV ds) ((if np then -(pw:Int) else pw)-(bh:Int))):=zh (by
    rw[bk.out];unfold Rd.fin;rw[if_pos kq];rfl)
   obtain⟨A,cap,rfl,jw,hA⟩:∃ A cap,v=.slice A ds.length cap/\BSl wr (w.heap.size+3) A cap ds/\(∀ a,A=some a->a.block<wr.heap.size/\w.heap.size+3<=a.block):=by
    rcases aj.2 with⟨rfl,h0⟩|⟨g,cap,cur,rfl,hg,hh,r2⟩
    ·rw[h0];exact⟨none,0,rfl,⟨by omega,by decide,fun h=>by omega⟩,fun a h=>by cases h⟩
    have hlt:g<wr.heap.size:=(zk.1 hh).1;rcases Nat.eq_zero_or_pos ds.length with h0|h0
    ·exact⟨_,cap,rfl,⟨by omega,by have:=r2.2.1;omega,fun h=>by omega⟩,fun a h=>by injection h with h;subst h;exact⟨hlt,hg⟩⟩
    obtain⟨g',gu,e1,e2,-⟩:=own_sl aj zr h0;exact⟨some ⟨g',0,none⟩,gu,e1,e2,fun a h=>by injection h with h;subst h;injection e1 with e1 _ _;injection e1 with e1;injection e1 with e1 _ _;subst e1;exact⟨hlt,hg⟩⟩
   have HSl:=zh jw;have HA:=zh hA;clear aj jw hA bk;have sm:∀ (W:World) (p:Int),Hid (-1000009<=p/\p<=1000009)->Hid (BSl W (w.heap.size+3) A cap ds)->Hid (Below w.heap.size w W)->Hid (wr.heap.size<=W.heap.size)->Calls Tryz.prog 136 #[.bool ng,.slice A ds.length cap,.int .i64 (p-(bh:Int))] W fun x w'=>x=.returned (gT (fF ng (aV ds) (p-(bh:Int))))/\Below (w.heap.size+3) W w':=by
    intro W p hp hs hb hz;have h1:=hp.out;have h2:=hz.out;have h3:=HBig.out;exact uIT ng A cap (w.heap.size+3) ds _ W hs.out (by omega) (fun a h=>by have:=(HA.out a h).1;omega) HDg.out (by omega) (by omega) (by omega)
   have HNx:=zh sm;clear sm;cases np
   ·rcases kq with rfl|rfl|rfl
    all_goals
     go_wp2_with fail
     refine(HNx.out _ (pw:Int) (zh (by omega)) HSl kw (zh zr)).mono ?_;rintro x w2 ⟨rfl,ay⟩;have hE:Hid (out=gT (fF ng (aV ds) ((pw:Int)-(bh:Int)))):=zh (by rw[<- kv.out,hF.out];rfl);have jx:Hid (Lies w2 w.heap.size 30 #[.int .i64 0,.int .i64 0]):=zh ((ay.block _ (by omega)).trans fy.out);have o4:Hid (Below w.heap.size w w2):=zh (kw.out.trans (ay.mono (by omega)));have r0:=jx.out.cell 0;have r1:=jx.out.cell 1;have s0:=jx.out.frozen 0;have s1:=jx.out.frozen 1;simp at r0 r1;clear ay;cases hpn:fF ng (aV ds) ((pw:Int)-(bh:Int)) with
     |none=>
      rw[hpn]at hE;unfold gT
      go_wp2_with fail
      refine yt (v:=.tuple #[.agg #[.int .i64 0,.int .i64 0],.bool false]) (by simp[results,Tryz.results126,go_sem,r0,r1]) rfl ?_;exact⟨by rw[hE.out];rfl,(o4.out.setCell (p:=⟨w.heap.size,0,none⟩) zr _).setCell (p:=⟨w.heap.size,1,none⟩) zr _⟩
     |some q=>
      obtain⟨m,g⟩:=q;rw[hpn]at hE;unfold gT
      go_wp2_with fail
      refine yt (v:=.tuple #[.agg #[.int .i64 m,.int .i64 g],.bool true]) (by simp[results,Tryz.results126,go_sem,r0,r1]) rfl ?_;exact⟨by rw[hE.out];rfl,(o4.out.setCell (p:=⟨w.heap.size,0,none⟩) zr _).setCell (p:=⟨w.heap.size,1,none⟩) zr _⟩
   have HSl2:Hid (BSl (wr.setCell ⟨w.heap.size+1,5,none⟩ (.int .i64 (-(pw:Int)))) (w.heap.size+3) A cap ds):=zh (by
    obtain⟨a1,a2,a3⟩:=HSl.out;refine⟨a1,a2,fun h=>?_⟩;obtain⟨b,off,e1,e2,e3,e4⟩:=a3 h;exact⟨b,off,e1,e2,by simpa using e3,fun j hj=>⟨(World.cell?_setCell_other _ _ _ _ (by intro e5;injection e5 with e6;omega)).trans (e4 j hj).1,by simpa using (e4 j hj).2⟩⟩)
   have HBel1:Hid (Below w.heap.size w (wr.setCell ⟨w.heap.size+1,5,none⟩ (.int .i64 (-(pw:Int))))):=zh (kw.out.setCell (p:=⟨w.heap.size+1,5,none⟩) (by show w.heap.size<=w.heap.size+1;omega) _);have HRes1:Hid (Lies (wr.setCell ⟨w.heap.size+1,5,none⟩ (.int .i64 (-(pw:Int)))) w.heap.size 30 #[.int .i64 0,.int .i64 0]):=zh ((Below.heap_setCell _ _ _ _ (by show w.heap.size≠w.heap.size+1;omega)).trans fy.out);rcases kq with rfl|rfl|rfl
   all_goals
    go_wp2_with fail
    refine(HNx.out _ (-(pw:Int)) (zh (by omega)) HSl2 HBel1 (zh (by simp))).mono ?_;rintro x w2 ⟨rfl,ay⟩;have hE:Hid (out=gT (fF ng (aV ds) (-(pw:Int)-(bh:Int)))):=zh (by rw[<- kv.out,hF.out];rfl);have jx:Hid (Lies w2 w.heap.size 30 #[.int .i64 0,.int .i64 0]):=zh ((ay.block _ (by omega)).trans HRes1.out);have o4:Hid (Below w.heap.size w w2):=zh (HBel1.out.trans (ay.mono (by omega)));have r0:=jx.out.cell 0;have r1:=jx.out.cell 1;have s0:=jx.out.frozen 0;have s1:=jx.out.frozen 1;simp at r0 r1;clear ay;cases hpn:fF ng (aV ds) (-(pw:Int)-(bh:Int)) with
    |none=>
     rw[hpn]at hE;unfold gT
     go_wp2_with fail
     refine yt (v:=.tuple #[.agg #[.int .i64 0,.int .i64 0],.bool false]) (by simp[results,Tryz.results126,go_sem,r0,r1]) rfl ?_;exact⟨by rw[hE.out];rfl,(o4.out.setCell (p:=⟨w.heap.size,0,none⟩) zr _).setCell (p:=⟨w.heap.size,1,none⟩) zr _⟩
    |some q=>
     obtain⟨m,g⟩:=q;rw[hpn]at hE;unfold gT
     go_wp2_with fail
     refine yt (v:=.tuple #[.agg #[.int .i64 m,.int .i64 g],.bool true]) (by simp[results,Tryz.results126,go_sem,r0,r1]) rfl ?_;exact⟨by rw[hE.out];rfl,(o4.out.setCell (p:=⟨w.heap.size,0,none⟩) zr _).setCell (p:=⟨w.heap.size,1,none⟩) zr _⟩
  have hN:Hid (eB l=none):=zh (by rw[bk.out];unfold Rd.fin;rw[if_neg kq];rfl);obtain⟨s,hs⟩:∃ s:Int,(st:Int)=s:=⟨_,rfl⟩
  rw[hs]at c0;have b2:(s != 2)=true:=by rw[bne_iff_ne];omega
  have b4:(s != 4)=true:=by rw[bne_iff_ne];omega
  have b7:(s != 7)=true:=by rw[bne_iff_ne];omega
  clear hs kq el bk aj
  go_wp2_with fail
  refine yt (v:=.tuple #[.agg #[.int .i64 0,.int .i64 0],.bool false]) (by simp[results,Tryz.results126,go_sem,q0,q1]) rfl ?_;exact⟨by rw[<- kv.out,hN.out];rfl,(kw.out.setCell (p:=⟨w.heap.size,0,none⟩) zr _).setCell (p:=⟨w.heap.size,1,none⟩) zr _⟩
def iB(m e:Int):Val:=⟨1,m,e,[],false,0⟩
def oB(f:Int):Val:=⟨4,0,0,[],false,if f<1\/9<f then 9 else f⟩
def pK(l:Bs):Val:=if 255<l.length then oB 2 else ⟨2,0,0,l,false,0⟩
def lL(b:Bool):Val:=⟨3,0,0,[],b,0⟩
theorem of_any(m e:Int)(w:World) :
  Calls Tryz.prog 96 #[rI m e] w fun x w'=>x=.returned (mM (iB m e))/\Below w.heap.size w w':=by
 go_enter Tryz.func96,Tryz.ntmps96
 go_wp2
 refine yt (v:=.agg #[.int .i64 1,.int .i64 m,.int .i64 e,.string ⟨#[]⟩,.bool false,.int .i64 0]) (by simp[results,Tryz.results96,go_sem]) rfl ?_;exact⟨rfl,((Below.refl _ w).alloc zr _).alloc (by simp) _⟩
theorem wR(b:Bool)(w:World) :
  Calls Tryz.prog 98 #[.bool b] w fun x w'=>x=.returned (mM (lL b))/\Below w.heap.size w w':=by
 go_enter Tryz.func98,Tryz.ntmps98
 go_wp2
 refine yt (v:=.agg #[.int .i64 3,.int .i64 0,.int .i64 0,.string ⟨#[]⟩,.bool b,.int .i64 0]) (by simp[results,Tryz.results98,go_sem]) rfl ?_;exact⟨rfl,(Below.refl _ w).alloc zr _⟩
theorem wX(f:Int)(w:World) :
  Calls Tryz.prog 99 #[.int .i64 f] w fun x w'=>x=.returned (mM (oB f))/\Below w.heap.size w w':=by
 have hN:oB f=⟨4,0,0,[],false,if f<1\/9<f then 9 else f⟩:=rfl;have HN:=zh hN;clear hN;generalize oB f=r at *;by_cases h1:f<1
 ·rw[if_pos (.inl h1)]at HN
  go_enter Tryz.func99,Tryz.ntmps99
  go_wp2
  refine yt (v:=.agg #[.int .i64 4,.int .i64 0,.int .i64 0,.string ⟨#[]⟩,.bool false,.int .i64 9]) (by simp[results,Tryz.results99,go_sem]) rfl ?_;exact⟨by rw[HN.out],(Below.refl _ w).alloc zr _⟩
 by_cases h2:9<f
 ·rw[if_pos (.inr h2)]at HN
  go_enter Tryz.func99,Tryz.ntmps99
  go_wp2
  refine yt (v:=.agg #[.int .i64 4,.int .i64 0,.int .i64 0,.string ⟨#[]⟩,.bool false,.int .i64 9]) (by simp[results,Tryz.results99,go_sem]) rfl ?_;exact⟨by rw[HN.out],(Below.refl _ w).alloc zr _⟩
 rw[if_neg (by omega)]at HN
 go_enter Tryz.func99,Tryz.ntmps99
 go_wp2
 refine yt (v:=.agg #[.int .i64 4,.int .i64 0,.int .i64 0,.string ⟨#[]⟩,.bool false,.int .i64 f]) (by simp[results,Tryz.results99,go_sem]) rfl ?_;exact⟨by rw[HN.out],(Below.refl _ w).alloc zr _⟩
theorem Lies.six{w:World}{R:Nat}(h:Lies w R 32 (jS aD)):w.cell? ⟨R,0,none⟩=some (.int .i64 0)/\w.cell? ⟨R,1,none⟩=some (.int .i64 0)/\w.cell? ⟨R,2,none⟩=some (.int .i64 0)/\w.cell? ⟨R,3,none⟩=some (.string ⟨#[]⟩)/\w.cell? ⟨R,4,none⟩=some (.bool false)/\w.cell? ⟨R,5,none⟩=some (.int .i64 0) /\
  w.frozen? ⟨R,0,none⟩=false/\w.frozen? ⟨R,1,none⟩=false/\w.frozen? ⟨R,2,none⟩=false/\w.frozen? ⟨R,3,none⟩=false/\w.frozen? ⟨R,4,none⟩=false/\w.frozen? ⟨R,5,none⟩=false :=
 ⟨h.cell 0,h.cell 1,h.cell 2,h.cell 3,h.cell 4,h.cell 5,h.frozen 0,h.frozen 1,h.frozen 2,h.frozen 3,h.frozen 4,h.frozen 5⟩
theorem Lies.next{w w':World}{g:Nat}{t:TypeId}{cs:Array Value}(h:Lies w g t cs)(hb:Below w.heap.size w w'):Lies w' g t cs:=(hb.block g h.lt).trans h
theorem uBN(l:Bs)(w:World)(hl:l.length<=1000000) :
  Calls Tryz.prog 97 #[.string ⟨l.toArray⟩] w fun x w'=>x=.returned (mM (pK l))/\Below w.heap.size w w':=by
 have hN:pK l=if 255<l.length then oB 2 else ⟨2,0,0,l,false,0⟩:=rfl
 have HN:=zh hN;clear hN;generalize pK l=r at *;by_cases h1:255<l.length
 ·rw[if_pos h1]at HN;have hL:=zh (Lies.new w 32 (jS aD));have HB:=zh ((Below.refl _ w).alloc zr (.cells (jS aD) 32))
  go_enter Tryz.func97,Tryz.ntmps97
  go_wp2_with fail
  refine(wX 2 _).mono ?_;rintro e w1 ⟨rfl,hb⟩;obtain⟨z0,z1,z2,z3,z4,z5,y0,y1,y2,y3,y4,y5⟩:=(hL.out.next hb).six;have dy:Hid (Below w.heap.size w w1):=zh (HB.out.trans (hb.mono HB.out.size));clear hb;unfold oB
  go_wp2_with fail
  refine yt (v:=.agg #[.int .i64 4,.int .i64 0,.int .i64 0,.string ⟨#[]⟩,.bool false,.int .i64 2]) (by simp[results,Tryz.results97,go_sem,z0,z1,z2,z3,z4,z5]) rfl ?_;exact⟨by rw[HN.out];rfl,uED ⟨4,0,0,[],false,2⟩ dy.out zr⟩
 rw[if_neg h1]at HN
 go_enter Tryz.func97,Tryz.ntmps97
 go_wp2_with fail
 refine yt (v:=.agg #[.int .i64 2,.int .i64 0,.int .i64 0,.string ⟨l.toArray⟩,.bool false,.int .i64 0]) (by simp[results,Tryz.results97,go_sem]) rfl ?_;exact⟨by rw[HN.out],(Below.refl _ w).alloc zr _⟩
def jJ(l:Bs):Nat:=((List.range' 1 9).find? fun k=>aO l==dD k).getD 0
theorem uL(l:Bs)(w:World)(hl:l.length<=maxLen)(ht:Tab w) :
  Calls Tryz.prog 127 #[.string ⟨l.toArray⟩] w fun e w'=>e=.returned (.int .i64 (jJ l:Int))/\Below w.heap.size w w':=by
 have hN:jJ l=((List.range' 1 9).find? fun k=>aO l==dD k).getD 0:=rfl;have HN:=zh hN;clear hN;have HT:=zh ht;clear ht;generalize jJ l=r at *
 go_enter Tryz.func127,Tryz.ntmps127
 go_wp2_with fail
 refine(kG l _ hl).mono ?_;rintro e w1 ⟨rfl,hb⟩;have HB:=zh hb;have s4:=zh (HT.out.next hb);clear hb HT;generalize aO l=u at *
 go_wp2_with fail
 go_loop [3] (fun i=>∃ k:Nat,1<=k/\k<=10/\i=.int .i64 k/\Hid (∀ j,1<=j->j<k->(u==dD j)=false)) (fun i=>10-(intOf i).toNat)
 case atStart=>exact⟨1,by omega,by omega,rfl,zh (fun j h1 h2=>by omega)⟩
 case round=>
  obtain⟨k,dq,fm,rfl,hr⟩:=hrel;by_cases hlt:k<=9
  ·have hc:=s4.out k (by omega);have HF:Hid ((u==dD k)=true->r=k):=zh (fun h=>by rw[HN.out,sM _ 9 k dq (by omega) h hr.out];rfl);have HR:Hid ((u==dD k)=false->∀ j,1<=j->j<k+1->(u==dD j)=false):=zh (fun h j h1 h2=>by
    by_cases e:j=k
    ·rw[e];exact h
    exact hr.out j h1 (by omega))
   generalize dD k=t at *;cases hu:(u==t)
   ·go_wp2_with fail
    go_round
    case rel=>exact⟨k+1,by omega,by omega,by go_num,zh (HR.out hu)⟩
    case measure=>simp[intOf];omega
   go_wp2_with fail
   go_ret
   exact⟨cI (by rw[HF.out hu]),HB.out⟩
  have hz:Hid (r=0):=zh (by rw[HN.out,uFN _ 9 (fun j h1 h2=>hr.out j h1 (by omega))];rfl)
  go_wp2_with fail
  go_ret
  exact⟨cI (by rw[hz.out];rfl),HB.out⟩
end Go.Proofs.YtmgjidnalpgegaaGreatDoor
