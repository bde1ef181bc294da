/-
  Lemmas, part 2: Val7 RsT RefA3 PlainW RefB4 Val10.
-/
import Derived.Deep.AppendLies
import Derived.Test.YtjfihpaeglpblaaGreatDoorRf1
set_option maxHeartbeats 100000000
set_option maxRecDepth 1000000
namespace Go.Proofs.YtjfihpaeglpblaaGreatDoor
open Go.RowKit
def blank(v:Val):Int:=if v.kind=0 then 1 else 0
def qE(m e:Int):Val:=⟨1,m,e,[],false,0⟩
def pW(f:Int):Val:=⟨4,0,0,[],false,if f<1\/9<f then 9 else f⟩
def pR(l:Bs):Val:=if 255<l.length then pW 2 else ⟨2,0,0,l,false,0⟩
def mA(b:Bool):Val:=⟨3,0,0,[],b,0⟩
theorem of_any(m e:Int)(w:World) :
  Calls Tryz.prog 110 #[xC m e] w fun x w'=>x=.returned (iB (qE m e))/\Below w.heap.size w w':=by
 go_in
 go_wp2
 refine yt (v:=.agg #[vI 1,vI m,vI e,vS #[],.bool false,vI 0]) (by simp[results,Tryz.results110,go_sem]) rfl ?_;exact⟨rfl,((Below.refl _ w).alloc zr _).alloc (by simp) _⟩
theorem uX(b:Bool)(w:World) :
  Calls Tryz.prog 111 #[.bool b] w fun x w'=>x=.returned (iB (mA b))/\Below w.heap.size w w':=by
 go_in
 go_wp2
 refine yt (v:=.agg #[vI 3,vI 0,vI 0,vS #[],.bool b,vI 0]) (by simp[results,Tryz.results111,go_sem]) rfl ?_;exact⟨rfl,(Below.refl _ w).alloc zr _⟩
theorem uCP(f:Int)(w:World) :
  Calls Tryz.prog 112 #[vI f] w fun x w'=>x=.returned (iB (pW f))/\Below w.heap.size w w':=by
 have hN:pW f=⟨4,0,0,[],false,if f<1\/9<f then 9 else f⟩:=rfl;have HN:=zh hN;clear hN;generalize pW f=r at *;by_cases h1:f<1
 ·rw[if_pos (.inl h1)]at HN
  go_in
  go_wp2
  refine yt (v:=.agg #[vI 4,vI 0,vI 0,vS #[],.bool false,vI 9]) (by simp[results,Tryz.results112,go_sem]) rfl ?_;exact⟨by rw[HN.out],(Below.refl _ w).alloc zr _⟩
 by_cases h2:9<f
 ·rw[if_pos (.inr h2)]at HN
  go_in
  go_wp2
  refine yt (v:=.agg #[vI 4,vI 0,vI 0,vS #[],.bool false,vI 9]) (by simp[results,Tryz.results112,go_sem]) rfl ?_;exact⟨by rw[HN.out],(Below.refl _ w).alloc zr _⟩
 rw[if_neg (by omega)]at HN
 go_in
 go_wp2
 refine yt (v:=.agg #[vI 4,vI 0,vI 0,vS #[],.bool false,vI f]) (by simp[results,Tryz.results112,go_sem]) rfl ?_;exact⟨by rw[HN.out],(Below.refl _ w).alloc zr _⟩
theorem Lies.six{w:World}{R:Nat}(h:Lies w R 25 (kZ aD)):w.cell? ⟨R,0,none⟩=some (vI 0)/\w.cell? ⟨R,1,none⟩=some (vI 0)/\w.cell? ⟨R,2,none⟩=some (vI 0)/\w.cell? ⟨R,3,none⟩=some (vS #[])/\w.cell? ⟨R,4,none⟩=some (.bool false)/\w.cell? ⟨R,5,none⟩=some (vI 0) /\
  w.frozen? ⟨R,0,none⟩=false/\w.frozen? ⟨R,1,none⟩=false/\w.frozen? ⟨R,2,none⟩=false/\w.frozen? ⟨R,3,none⟩=false/\w.frozen? ⟨R,4,none⟩=false/\w.frozen? ⟨R,5,none⟩=false :=
 ⟨h.cell 0,h.cell 1,h.cell 2,h.cell 3,h.cell 4,h.cell 5,h.frozen 0,h.frozen 1,h.frozen 2,h.frozen 3,h.frozen 4,h.frozen 5⟩
theorem Lies.next{w w':World}{g:Nat}{t:TypeId}{cs:Array Value}(h:Lies w g t cs)(hb:Below w.heap.size w w'):Lies w' g t cs:=(hb.block g h.lt).trans h
theorem text_any(l:Bs)(w:World)(hl:l.length<=1000000) :
  Calls Tryz.prog 65 #[vT l] w fun x w'=>x=.returned (iB (pR l))/\Below w.heap.size w w':=by
 have hN:pR l=if 255<l.length then pW 2 else ⟨2,0,0,l,false,0⟩:=rfl
 have HN:=zh hN;clear hN;generalize pR l=r at *;by_cases h1:255<l.length
 ·rw[if_pos h1]at HN;have hL:=zh (Lies.new w 25 (kZ aD));have HB:=zh ((Below.refl _ w).alloc zr (.cells (kZ aD) 25))
  go_in
  go_wp2_with fail
  refine(uCP 2 _).mono ?_;rintro e w1 ⟨rfl,hb⟩;obtain⟨z0,z1,z2,z3,z4,z5,y0,y1,y2,y3,y4,y5⟩:=(hL.out.next hb).six;have bf:Hid (Below w.heap.size w w1):=zT HB hb;clear hb;unfold pW
  go_wp2_with fail
  refine yt (v:=.agg #[vI 4,vI 0,vI 0,vS #[],.bool false,vI 2]) (by simp[results,Tryz.results65,go_sem,z0,z1,z2,z3,z4,z5]) rfl ?_;exact⟨by rw[HN.out];rfl,rY ⟨4,0,0,[],false,2⟩ bf.out zr⟩
 rw[if_neg h1]at HN
 go_in
 go_wp2_with fail
 refine yt (v:=.agg #[vI 2,vI 0,vI 0,vT l,.bool false,vI 0]) (by simp[results,Tryz.results65,go_sem]) rfl ?_;exact⟨by rw[HN.out],(Below.refl _ w).alloc zr _⟩
def sU:Bs:=[84,82,85,69]
def noB:Bs:=[70,65,76,83,69]
theorem take_T(r:Nat)(w:World):Calls Tryz.prog 186 #[vP r 0,.int .i32 84] w fun e w'=>e=.returned (.bool false)/\w'=w:=by
 go_in
 go_wp2_with fail
 go_ret
 exact⟨rfl,rfl⟩
abbrev nA:ByteArray:=⟨#[84,82,85,69]⟩
theorem uEP{w:World}{g:Nat}{t:TypeId}{cs:Array Value}(h:Lies w g t cs){k:Nat}(hk:g≠k)(s:ByteArray)(p:Nat):Lies (w.iterAt k s p) g t cs:=(Lib.iterAt_other w k g s p hk).trans h
theorem parse_T(w:World):Calls Tryz.prog 126 #[vS #[84,82,85,69]] w fun e w'=>e=.returned (.tuple #[.agg #[vI 0,vI 0],.bool false])/\Below w.heap.size w w':=by
 have H0:∀ (cs:Array Value) (W:World),W=(((w.alloc (.cells #[vI 0,vI 0] 23)).alloc (.cells cs 225)).iter nA 0)->Hid (W.heap[w.heap.size+2]?=some (.stringIter nA 0)/\Lies W w.heap.size 23 #[vI 0,vI 0]/\Below w.heap.size w W/\w.heap.size+3<=W.heap.size):=by
  intro cs W hW;refine zh ⟨?_,?_,?_,?_⟩
  ·rw[hW];have:=World.iter_heap ((w.alloc (.cells #[vI 0,vI 0] 23)).alloc (.cells cs 225)) nA 0;simpa using this
  ·rw[hW];exact((Lies.new w 23 #[vI 0,vI 0]).alloc _).alloc _
  ·rw[hW];exact(((Below.refl _ w).alloc zr _).alloc (by simp) _).alloc (by simp;omega) _
  rw[hW];unfold World.iter;simp
 go_in
 go_wp2_with fail
 go_loopw [6] (fun _ wr=>Hid (wr.heap[w.heap.size+2]?=some (.stringIter nA 0)/\Lies wr w.heap.size 23 #[vI 0,vI 0]/\Below w.heap.size w wr/\w.heap.size+3<=wr.heap.size)) (fun _ _=>0)
 case atStart=>exact H0 _ _ (by first|rfl|simp[World.iter])
 case round=>
  have hI:=hrel.out;clear hrel H0;obtain⟨hit,hl,hb,hs⟩:=hI;have hnx:∀ ty,(Instr.next (vP (w.heap.size+2) 0) true ty).run Tryz.prog wr=.ok (.tuple #[.bool true,vI 0,.int .i32 84]) (wr.iterAt (w.heap.size+2) nA 1):=fun ty=>Lib.run_next_ascii_at (P:=Tryz.prog) wr (w.heap.size+2) nA 0 ty hit (by decide) (by decide)
  have vd:=zh (uEP hl (k:=w.heap.size+2) (by omega) nA 1);have HBel:=zh (Lib.below_iterAt hb (k:=w.heap.size+2) (by omega) nA 1);have HIT:=zh hit;clear hl hb hit;generalize hW:wr.iterAt (w.heap.size+2) nA 1=W at *;clear hW
  go_wp2_with fail
  refine(take_T (w.heap.size+1) W).mono ?_;rintro e w1 ⟨rfl,rfl⟩;have q0:=vd.out.cell 0;have q1:=vd.out.cell 1;have g0:=vd.out.frozen 0;have g1:=vd.out.frozen 1;simp at q0 q1;clear hnx
  go_wp2_with fail
  refine yt (v:=.tuple #[.agg #[vI 0,vI 0],.bool false]) (by simp[results,Tryz.results126,go_sem,q0,q1]) rfl ?_;exact⟨rfl,(HBel.out.setCell (p:=⟨w.heap.size,0,none⟩) zr _).setCell (p:=⟨w.heap.size,1,none⟩) zr _⟩
theorem fold_T(w:World):Calls Tryz.prog 127 #[vS #[84,82,85,69]] w fun e w'=>e=.returned (vS #[84,82,85,69])/\w'=w:=by
 go_in
 go_wp2_with fail
 go_loopw [6] (fun i wr=>∃ k:Nat,k<=4/\i=vI (k:Int)/\wr=w) (fun i _=>4-(intOf i).toNat)
 case atStart=>exact⟨0,by omega,rfl,rfl⟩
 case round=>
  obtain⟨k,hk,rfl,rfl⟩:=hrel;have hc:k=0\/k=1\/k=2\/k=3\/k=4:=by omega
  rcases hc with rfl|rfl|rfl|rfl|rfl
  case inr.inr.inr.inr=>
   go_wp2_with fail
   go_ret
   exact⟨rfl,rfl⟩
  all_goals
   go_wp2_with fail
   go_roundw
   case rel=>first|exact⟨1,by omega,by go_num,by trivial⟩|exact⟨2,by omega,by go_num,by trivial⟩|exact⟨3,by omega,by go_num,by trivial⟩|exact⟨4,by omega,by go_num,by trivial⟩
   case measure=>first |(simp[intOf];done) |(simp[intOf];omega)
theorem read_T(w:World):Calls Tryz.prog 66 #[vS #[84,82,85,69]] w fun e w'=>e=.returned (.agg #[vI 3,vI 0,vI 0,vS #[],.bool true,vI 0])/\Below w.heap.size w w':=by
 have qu:=zh (Lies.new w 25 (kZ aD));have aq:=zh ((Below.refl _ w).alloc zr (.cells (kZ aD) 25))
 go_in
 go_wp2_with fail
 refine(parse_T _).mono ?_;rintro e w1 ⟨rfl,ab⟩;have gw:=zh ((qu.out.next ab).alloc (.cells #[vI 0,vI 0] 23));have bf:Hid (Below w.heap.size w w1):=zT aq ab;have ba:=zh (bf.out.alloc bf.out.size (.cells #[vI 0,vI 0] 23));clear ab aq qu bf
 go_wp2_with fail
 refine(fold_T _).mono ?_;rintro e w2 ⟨rfl,rfl⟩
 go_wp2_with fail
 refine(uX true _).mono ?_;rintro e w4 ⟨rfl,ki⟩;obtain⟨z0,z1,z2,z3,z4,z5,y0,y1,y2,y3,y4,y5⟩:=(gw.out.next ki).six;have bk:Hid (Below w.heap.size w w4):=zT ba ki;clear ki;unfold mA
 go_wp2_with fail
 refine yt (v:=.agg #[vI 3,vI 0,vI 0,vS #[],.bool true,vI 0]) (by simp[results,Tryz.results66,go_sem,z0,z1,z2,z3,z4,z5]) rfl ?_;exact⟨rfl,rY ⟨3,0,0,[],true,0⟩ bk.out zr⟩
def Src(w:World)(A:Option Addr)(xs:List Value):Prop:=(A=none->xs=[])/\∀ ad,A=some ad->∀ j u,xs[j]?=some u->w.cell? (ad.add j)=some u
theorem Src.nil(w:World)(A:Option Addr):Src w A []:=⟨fun _=>rfl,fun _ _ j u h=>by simp at h⟩
theorem Src.own{w:World}{base:Nat}{e:TypeId}{A:Option Addr}{n c:Nat}{xs:List Value}(h:w.ownsRow base e 1 (.slice A n c) n xs):Src w A xs:=by
 rcases h.2 with⟨h1,h0⟩|⟨g,cap,cur,h1,_⟩
 ·injection h1 with h1 _ _;subst h1;subst h0;have:xs=[]:=List.eq_nil_of_length_eq_zero (by simpa using h.1);subst this;exact Src.nil _ _
 injection h1 with h1 _ _;subst h1;exact⟨fun h=>(by cases h),fun ad e=>by injection e with e;subst e;exact h.cells rfl⟩
theorem Src.keep{w w':World}{A:Option Addr}{xs:List Value}{B:Nat}(h:Src w A xs)(hB:∀ ad,A=some ad->ad.block<B)(hb:Below B w w'):Src w' A xs :=
 ⟨h.1,fun ad e j u hu=>by
  have hk:(ad.add j).block=ad.block:=by unfold Addr.add;split <;> rfl
  rw[hb.cell (by rw[hk];exact hB ad e)];exact h.2 ad e j u hu⟩
section
variable {P:Program} (w:World)
theorem sE(base:Nat)(t ty e:TypeId)(i:TypeInfo)(z:Value)(bytes:Nat)(ht:P.underlying t=some (.slice e))(hi:P.info? e=some i)(hz:i.zero=some z)
  (nj:i.size=1) (mo:i.bytes=bytes) (hzs:z.cells.size=1)
  (v:Value) (n:Nat) (xs:List Value) (az:w.ownsRow base e 1 v n xs) (A:Option Addr) (m c:Nat) (news:List Value) (hm:news.length=m) (hr:Src w A news) (h1:∀ u∈news,u.oneCell'=true)
  (h63:n+m<=maxLen) (lf:(n+m)*bytes<=140737488355328) (fd:base<=w.heap.size) :
  ∃ v' w',(Builtin.append_ #[t,t] ty #[v,.slice A m c]).run P w=.ok v' w'/\w'.ownsRow base e 1 v' (n+m) (xs++news)/\w.grownBy w' v.ownBlock/\(v'.ownBlock=v.ownBlock\/v'.ownBlock=some w.heap.size):=by
 cases A with
 |none=>
  have hn:=hr.1 rfl;subst hn;obtain rfl:m=0:=by simpa using hm.symm
  refine⟨v,w,?_,by simpa using az,World.grownBy.refl w _,.inl rfl⟩;rcases az.2 with⟨rfl,rfl⟩|⟨g,cap,cur,rfl,_,_,hnc,_⟩
  ·simp[Builtin.append_,run_underlying ht,sizeOf,typeInfo,hi,Builtin.lenOf,Builtin.firstCells]
  simp[Builtin.append_,run_underlying ht,sizeOf,typeInfo,hi,Builtin.lenOf,Builtin.firstCells,hnc,storeCells]
 |some ad=>
  obtain⟨v',w',qv,h2,h3,_,h5⟩:=run_append_own_at (P:=P) w base t ty e i z 1 bytes ht hi hz nj mo hzs (by decide) v n xs az ad m c news (by rw[Nat.mul_one];exact hm) (hr.2 ad rfl) h1 h63 lf fd;exact⟨v',w',qv,h2,h3,h5⟩
theorem eV{ops:Array Oper}{rest:List Oper}{o:Oper}{a:Act}{Q:Exit->Act->World->Prop}(sl:o.guard=none)(s x:Operand)(t:TypeId)
  (ho:o.op=.call { callee:=.builtin .append,args:=#[s,x],argTypes:=#[t,t] })
  (base:Nat) (e:TypeId) (i:TypeInfo) (z:Value) (bytes:Nat) (ht:P.underlying t=some (.slice e)) (hi:P.info? e=some i) (hz:i.zero=some z)
  (nj:i.size=1) (mo:i.bytes=bytes) (hzs:z.cells.size=1)
  (v:Value) (n:Nat) (xs:List Value) (hs:a.eval s=v) (az:w.ownsRow base e 1 v n xs)
  (A:Option Addr) (m c:Nat) (news:List Value) (hx:a.eval x=.slice A m c) (hm:news.length=m) (hr:Src w A news) (h1:∀ u∈news,u.oneCell'=true)
  (h63:n+m<=maxLen) (lf:(n+m)*bytes<=140737488355328) (fd:base<=w.heap.size)
  (h:∀ v' w',w'.ownsRow base e 1 v' (n+m) (xs++news)->w.grownBy w' v.ownBlock->(v'.ownBlock=v.ownBlock\/v'.ownBlock=some w.heap.size)->wpList P ops Q rest (a.put o.dst v') w'):wpList P ops Q (o::rest) a w :=
 wpList_plain sl fun _ hK=>by
  obtain⟨v',w',qv,h2,h3,h4⟩:=sE (P:=P) w base t o.type e i z bytes ht hi hz nj mo hzs v n xs az A m c news hm hr h1 h63 lf fd;unfold Oper.wp execOp;simp only[ho,resolve,invoke,builtin,Sem.run_bind,Sem.run_pure,Result.andThen_ok,List.map_toArray,List.map_cons,List.map_nil,hs,hx,qv];exact hK _ _ (h v' w' h2 h3 h4)
end
def pT(d:Nat):Value:=vI (d:Int)
theorem infoI64:(Tryz.prog.info? 3).map (fun i=>(i.zero,i.size,i.bytes))=some (some (vI 0),1,8):=by kernel_rfl
theorem rC(L:List Nat):∀ u∈L.map pT,u.oneCell'=true:=by
 intro u hu;rw[yj]at hu;obtain⟨d,_,rfl⟩:=hu;rfl
def Own(w:World)(base:Nat)(v:Value)(L:List Nat):Prop:=w.ownsRow base 3 1 v L.length (L.map pT)
theorem Own.slice{w:World}{base:Nat}{v:Value}{L:List Nat}(h:Own w base v L):∃ A c,v=.slice A L.length c/\Src w A (L.map pT)/\(∀ ad,A=some ad->base<=ad.block/\ad.block<w.heap.size):=by
 rcases h.2 with⟨rfl,h0⟩|⟨g,cap,cur,rfl,hg,hh,_⟩
 ·refine⟨none,0,by rw[h0],?_,fun ad e=>by cases e⟩;have:L=[]:=List.eq_nil_of_length_eq_zero h0;subst this;exact Src.nil _ _
 exact⟨some ⟨g,0,none⟩,cap,rfl,Src.own h,fun ad e=>by injection e with e;subst e;exact⟨hg,(zk.1 hh).1⟩⟩
theorem nP(w:World)(u:Value)(base:Nat)(h:base<=w.heap.size)(n:Nat)(hn:n=w.heap.size):(w.alloc (.cells #[u] 3)).ownsRow base 3 1 (.slice (some ⟨n,0,none⟩) 1 1) 1 [u]:=by
 subst hn;refine⟨rfl,.inr ⟨w.heap.size,1,#[u],rfl,h,Lies.new _ _ _,zr,by decide,rfl,rfl⟩⟩
theorem zP(n:Int)(w:World)(h1:-9223372036854775808<=n)(h2:n<=9223372036854775807) :
  Calls Tryz.prog 189 #[vI n] w fun e w'=>∃ v,e=.returned v/\Own w' w.heap.size v (dl n.natAbs)/\Below w.heap.size w w':=by
 obtain⟨i0,hi,m6,ix,ku⟩:=info_parts infoI64;have hlen:(dl n.natAbs).length<=20:=tQ _ (by omega);have lg:=zh hlen;clear hlen;generalize hD:dl n.natAbs=D at *;have HD:=zh hD;clear hD
 go_in
 go_wp2_with fail
 go_loopw [0,3] (fun x v wr=>∃ (m:Int) (L:List Nat),x=vI m/\-9223372036854775808<=m/\m<=9223372036854775807/\Hid (Own wr w.heap.size v L)/\Hid (dl m.natAbs++L=D)/\Hid (Below w.heap.size w wr)) (fun x _ _=>(intOf x).natAbs)
 case atStart=>exact⟨n,[],rfl,h1,h2,zh ⟨rfl,.inl ⟨rfl,rfl⟩⟩,zh (by rw[List.append_nil];exact HD.out),zh zB⟩
 case round=>
  obtain⟨m,L,rfl,we,wg,az,hq,cu⟩:=hrel;by_cases h0:m=0
  ·subst h0;have hL:Hid (L=D):=zh (by have:=hq.out;simpa [uCW] using this)
   go_wp2_with fail
   go_ret
   exact⟨_,rfl,by rw[<- hL.out];exact az.out,cu.out⟩
  have b0:(m != 0)=true:=by rw[bne_iff_ne];exact h0
  obtain⟨A,c,rfl,hsrc,hA⟩:=az.out.slice;have xy:=zh hsrc;have HA:=zh hA;clear hsrc hA h0;have hLl:L.length<=20:=by
   have h3:=lg.out;rw[<- hq.out,yl]at h3;omega
  have xz:m≠0:=by simpa using b0
  by_cases jp:0<=m
  ·go_wp2_with (at_builtin;refine eV _ rfl (.tmp 14) (.tmp 15) 150 rfl w.heap.size 3 i0 (vI 0) 8 Tryz.underlying150 hi m6 ix ku rfl (.slice (some ⟨wr.heap.size,0,none⟩) 1 1) 1 [vI (m % 10)] rfl (nP _ _ _ cu.out.size _ rfl) A L.length c (L.map pT) rfl (by simp) ?src (rC L) ?c3 ?c4 ?c5 ?_)
   case src=>exact xy.out.keep (B:=wr.heap.size) (fun ad e=>(HA.out ad e).2) (zp _)
   case c3=>unfold maxLen;omega
   case c4=>omega
   case c5=>have:=cu.out.size;simp;omega
   intro v' w1 fo iy _;have hO:Hid (Own w1 w.heap.size v' (m.natAbs % 10::L)):=zh (by
    have e:pT (m.natAbs % 10)=vI (m % 10):=by unfold pT;congr 1;omega
    unfold Own;rw[List.map_cons,e,yi,Nat.add_comm];exact fo)
   have ab:Hid (Below w.heap.size w w1):=zh ((cu.out.alloc cu.out.size _).grown iy (by have:=cu.out.size;simp;omega) (fun k h=>by simp[Value.ownBlock]at h;have:=cu.out.size;omega));clear fo iy
   go_wp2_with fail
   go_roundw
   case rel=>exact⟨m / 10,m.natAbs % 10::L,rfl,by omega,by omega,hO,zh (by rw[show (m / 10).natAbs=m.natAbs / 10 by omega,<- hq.out,iT m.natAbs (by omega),List.append_assoc];rfl),ab⟩
   case measure=>simp[intOf];omega
  obtain⟨q,d,hmq,hd10⟩:∃ q d:Nat,m=-(10*(q:Int)+d)/\d<10:=⟨m.natAbs / 10,m.natAbs % 10,by omega,by omega⟩
  have HM:=zh hmq;have htd:m.tdiv 10=-(q:Int):=by
   rw[hmq,Int.neg_tdiv,Int.tdiv_eq_ediv_of_nonneg (by omega)];omega
  have htm:m.tmod 10=-(d:Int):=by
   rw[hmq,Int.neg_tmod,Int.tmod_eq_emod_of_nonneg (by omega)];omega
  have hqb:(q:Int)<=922337203685477580:=by omega
  clear hmq;by_cases qw:d=0
  ·subst qw;simp only[Int.natCast_zero,Int.neg_zero]at htm
   go_wp2_with (at_builtin;refine eV _ rfl (.tmp 14) (.tmp 15) 150 rfl w.heap.size 3 i0 (vI 0) 8 Tryz.underlying150 hi m6 ix ku rfl (.slice (some ⟨wr.heap.size,0,none⟩) 1 1) 1 [vI (0)] rfl (nP _ _ _ cu.out.size _ rfl) A L.length c (L.map pT) rfl (by simp) ?src (rC L) ?c3 ?c4 ?c5 ?_)
   case src=>exact xy.out.keep (B:=wr.heap.size) (fun ad e=>(HA.out ad e).2) (zp _)
   case c3=>unfold maxLen;omega
   case c4=>omega
   case c5=>have:=cu.out.size;simp;omega
   intro v' w1 fo iy _;have hO:Hid (Own w1 w.heap.size v' (m.natAbs % 10::L)):=zh (by
    have e:pT (m.natAbs % 10)=vI (0):=by unfold pT;congr 1;have:=HM.out;omega
    unfold Own;rw[List.map_cons,e,yi,Nat.add_comm];exact fo)
   have ab:Hid (Below w.heap.size w w1):=zh ((cu.out.alloc cu.out.size _).grown iy (by have:=cu.out.size;simp;omega) (fun k h=>by simp[Value.ownBlock]at h;have:=cu.out.size;omega));clear fo iy
   go_wp2_with fail
   go_roundw
   case rel=>exact⟨-(q:Int),m.natAbs % 10::L,rfl,by have:=HM.out;omega,by have:=HM.out;omega,hO,zh (by rw[show (-(q:Int)).natAbs=m.natAbs / 10 by have:=HM.out;omega,<- hq.out,iT m.natAbs (by omega),List.append_assoc];rfl),ab⟩
   case measure=>simp[intOf];have:=HM.out;omega
  have hdp:0<(d:Int):=by omega
  go_wp2_with (at_builtin;refine eV _ rfl (.tmp 14) (.tmp 15) 150 rfl w.heap.size 3 i0 (vI 0) 8 Tryz.underlying150 hi m6 ix ku rfl (.slice (some ⟨wr.heap.size,0,none⟩) 1 1) 1 [vI ((d:Int))] rfl (nP _ _ _ cu.out.size _ rfl) A L.length c (L.map pT) rfl (by simp) ?src (rC L) ?c3 ?c4 ?c5 ?_)
  case src=>exact xy.out.keep (B:=wr.heap.size) (fun ad e=>(HA.out ad e).2) (zp _)
  case c3=>unfold maxLen;omega
  case c4=>omega
  case c5=>have:=cu.out.size;simp;omega
  intro v' w1 fo iy _;have hO:Hid (Own w1 w.heap.size v' (m.natAbs % 10::L)):=zh (by
   have e:pT (m.natAbs % 10)=vI ((d:Int)):=by unfold pT;congr 1;have:=HM.out;omega
   unfold Own;rw[List.map_cons,e,yi,Nat.add_comm];exact fo)
  have ab:Hid (Below w.heap.size w w1):=zh ((cu.out.alloc cu.out.size _).grown iy (by have:=cu.out.size;simp;omega) (fun k h=>by simp[Value.ownBlock]at h;have:=cu.out.size;omega));clear fo iy
  go_wp2_with fail
  go_roundw
  case rel=>exact⟨-(q:Int),m.natAbs % 10::L,rfl,by have:=HM.out;omega,by have:=HM.out;omega,hO,zh (by rw[show (-(q:Int)).natAbs=m.natAbs / 10 by have:=HM.out;omega,<- hq.out,iT m.natAbs (by omega),List.append_assoc];rfl),ab⟩
  case measure=>simp[intOf];have:=HM.out;omega
def OfIn(w:World)(m e:Int)(w':World):Prop :=
 w.heap.size+1<w'.heap.size/\w'.cell? ⟨w.heap.size,0,none⟩=some (vI m)/\w'.cell? ⟨w.heap.size,1,none⟩=some (vI e) /\
 w'.cell? ⟨w.heap.size+1,0,none⟩=some (.bool false)/\w'.cell? ⟨w.heap.size+1,1,none⟩=some (.slice none 0 0)/\w'.cell? ⟨w.heap.size+1,2,none⟩=some (vI 0) /\
 w'.frozen? ⟨w.heap.size+1,0,none⟩=false/\w'.frozen? ⟨w.heap.size+1,1,none⟩=false/\w'.frozen? ⟨w.heap.size+1,2,none⟩=false/\Below w.heap.size w w'
theorem OfIn.start(w:World)(m e:Int):OfIn w m e ((w.alloc (.cells #[vI m,vI e] 23)).alloc (.cells #[.bool false,.slice none 0 0,vI 0] 181)) :=
 ⟨by simp,by simp,by simp,by simp,by simp,by simp,by simp,by simp,by simp,((Below.refl _ w).alloc zr _).alloc (by simp) _⟩
theorem OfIn.next{w w' w'':World}{m e:Int}(h:OfIn w m e w')(hb:Below w'.heap.size w' w''):OfIn w m e w'':=by
 obtain⟨h1,h2,h3,h4,h5,h6,h7,h8,h9,vc⟩:=h;have hs:=hb.size;exact⟨by omega,(hb.cell (p:=⟨_,_,none⟩) (by show w.heap.size<_;omega)).trans h2,(hb.cell (p:=⟨_,_,none⟩) (by show w.heap.size<_;omega)).trans h3,
  (hb.cell (p:=⟨_,_,none⟩) (by show w.heap.size+1<_;omega)).trans h4,(hb.cell (p:=⟨_,_,none⟩) (by show w.heap.size+1<_;omega)).trans h5,(hb.cell (p:=⟨_,_,none⟩) (by show w.heap.size+1<_;omega)).trans h6,
  (hb.frozen (p:=⟨_,_,none⟩) (by show w.heap.size+1<_;omega)).trans h7,(hb.frozen (p:=⟨_,_,none⟩) (by show w.heap.size+1<_;omega)).trans h8,(hb.frozen (p:=⟨_,_,none⟩) (by show w.heap.size+1<_;omega)).trans h9,
  zU vc hb⟩
theorem OfIn.drew{w w':World}{m e:Int}(h:OfIn w m e w'):OfIn w m e w'.drew:=h.next zB.drew
theorem Own.mono{w:World}{base B:Nat}{v:Value}{L:List Nat}(h:Own w base v L)(hB:B<=base):Own w B v L:=by
 obtain⟨h1,h2⟩:=h;refine⟨h1,?_⟩;rcases h2 with h2|⟨g,cap,cur,hv,hg,r⟩
 ·exact .inl h2
 exact .inr ⟨g,cap,cur,hv,by omega,r⟩
theorem Own.put{w:World}{base:Nat}{v:Value}{L:List Nat}(h:Own w base v L){a:Addr}(ha:a.block<base)(u:Value):Own (w.setCell a u) base v L:=ownsRow_setCell_below h ha u
def OfPost(m e:Int)(w:World)(x:Ending)(w':World):Prop:=∃ v,x=.returned (.agg #[.bool (decide (m<0)),v,vI e])/\Own w' w.heap.size v (dl m.natAbs)/\Below w.heap.size w w'
theorem rOf_any(m e:Int)(w:World)(h1:-9223372036854775808<=m)(h2:m<=9223372036854775807) :
  Calls Tryz.prog 129 #[xC m e] w fun x w'=>OfPost m e w x w':=by
 have T0:=zh (OfIn.start w m e);have HD:=zh (fun W=>zP m W h1 h2);clear h1 h2
 go_in
 go_wp2_with fail
 have T1:=T0.out.drew;clear T0;obtain⟨g0,g1,g2,g3,g4,g5,g6,g7,g8,g9⟩:=id T1
 go_region_law (have _:=T1;go_simp;go_at_call 189;refine(HD.out _).mono ?_;rintro x w1 ⟨v,rfl,az,hb⟩;have HO:=zh (Own.mono az (B:=w.heap.size+2) (by show w.heap.size+1<_;exact g0));obtain⟨A,c,rfl,-,-⟩:=az.slice;clear az;have T2:=OfIn.next T1 hb;clear hb T1 g0 g1 g2 g3 g4 g5 g6 g7 g8 g9;obtain⟨g0,g1,g2,g3,g4,g5,g6,g7,g8,g9⟩:=id T2)
 all_goals go_wp2_with fail
 all_goals refine yt (v:=.agg #[.bool (decide (m<0)),.slice A (dl m.natAbs).length c,vI e]) (by simp[results,Tryz.results129,go_sem,g3,g4,g5]) rfl ?_
 all_goals refine⟨_,rfl,?_,((g9.setCell (p:=⟨w.heap.size+1,0,none⟩) (by show w.heap.size<=w.heap.size+1;omega) _).setCell (p:=⟨w.heap.size+1,1,none⟩) (by show w.heap.size<=w.heap.size+1;omega) _).setCell (p:=⟨w.heap.size+1,2,none⟩) (by show w.heap.size<=w.heap.size+1;omega) _⟩
 all_goals exact(((HO.out.put (a:=⟨w.heap.size+1,0,none⟩) (by show w.heap.size+1<w.heap.size+2;omega) _).put (a:=⟨w.heap.size+1,1,none⟩) (by show w.heap.size+1<w.heap.size+2;omega) _).put (a:=⟨w.heap.size+1,2,none⟩) (by show w.heap.size+1<w.heap.size+2;omega) _).mono (by omega)
theorem zJ(b:Bool)(A:Option Addr)(n c:Nat)(e:Int)(W:World):(Instr.field 181 (.agg #[.bool b,.slice A n c,vI e]) 1).run Tryz.prog W=.ok (.slice A n c) W:=by kernel_rfl
def NumIn(w:World)(m e:Int)(w':World):Prop:=w.heap.size<w'.heap.size/\w'.cell? ⟨w.heap.size,0,none⟩=some (vI m)/\w'.cell? ⟨w.heap.size,1,none⟩=some (vI e)/\Below w.heap.size w w'
theorem NumIn.start(w:World)(m e:Int):NumIn w m e (w.alloc (.cells #[vI m,vI e] 23)):=⟨by simp,by simp,by simp,(Below.refl _ w).alloc zr _⟩
theorem NumIn.next{w w' w'':World}{m e:Int}(h:NumIn w m e w')(hb:Below w'.heap.size w' w''):NumIn w m e w'':=by
 obtain⟨h1,h2,h3,h4⟩:=h;have hs:=hb.size;exact⟨by omega,(hb.cell (p:=⟨_,_,none⟩) h1).trans h2,(hb.cell (p:=⟨_,_,none⟩) h1).trans h3,zU h4 hb⟩
theorem NumIn.drew{w w':World}{m e:Int}(h:NumIn w m e w'):NumIn w m e w'.drew:=h.next zB.drew
theorem uFU(m:Int):m.tmod 10=0↔m.natAbs % 10=0:=by
 rcases Int.le_total 0 m with h|h
 ·rw[Int.tmod_eq_emod_of_nonneg h];omega
 obtain⟨k,rfl⟩:∃ k:Int,m=-k:=⟨-m,by omega⟩
 rw[Int.neg_tmod,Int.tmod_eq_emod_of_nonneg (by omega)];omega
theorem uAU(m e:Int)(h0:m≠0):bF m e=(decide (m<1000000000000000)&&decide (-1000000000000000<m)&&decide (m.natAbs % 10≠0)&&decide (-40<=e)&&decide (e<=40)&&decide (((dl m.natAbs).length:Int)+e<=40)):=by
 unfold bF;rw[if_neg h0,dl_len];by_cases hb:m.natAbs<1000000000000000
 ·have hp:0<m.natAbs:=by omega
  have hd:=tR m.natAbs hp hb;have si:=qQ m.natAbs hp;rw[hd,decide_eq_true hb,decide_eq_true (by omega:m<1000000000000000),decide_eq_true (by omega:-1000000000000000<m)];by_cases hs:(eQ m.natAbs:Int)+e<=40
  ·rw[decide_eq_true hs,decide_eq_true (by omega:e<40),decide_eq_true (by omega:e<=40)];simp
  rw[decide_eq_false hs];simp
 rw[decide_eq_false hb];by_cases hc:m<1000000000000000
 ·rw[decide_eq_false (by omega:¬ -1000000000000000<m)];simp
 rw[decide_eq_false hc];simp
theorem uBJ(m e:Int)(w:World)(h1:-9223372036854775808<=m)(h2:m<=9223372036854775807) :
  Calls Tryz.prog 67 #[xC m e] w fun x w'=>x=.returned (.bool (bF m e))/\Below w.heap.size w w':=by
 have HB:Hid (Below w.heap.size w (w.alloc (.cells #[vI m,vI e] 23))):=zh ((Below.refl _ w).alloc zr _);by_cases h0:m=0
 ·have hr:Hid (bF m e=decide (e=0)):=zh (if_pos h0);subst h0;generalize bF 0 e=r at *
  go_in
  go_wp2_with fail
  go_ret
  exact⟨aA (by rw[hr.out];rfl),HB.out⟩
 have HR:=zh (uAU m e h0);have HOf:=zh (fun W=>rOf_any m e W h1 h2);have hlen:(dl m.natAbs).length<=20:=tQ _ (by omega);generalize bF m e=r at *;have b0:(m==0)=false:=by rw[beq_eq_false_iff_ne];exact h0
 have T0:=zh (NumIn.start w m e);have hz:=uFU m;have HZ:=zh hz;have H0:=zh h0;clear hz h0;by_cases c1:m<1000000000000000
 ·by_cases c2:-1000000000000000<m
  ·rw[decide_eq_true c1,decide_eq_true c2]at HR;have d1:decide ((1000000000000000:Int)<=m)=false:=by simp;omega
   have d2:decide (m<=-1000000000000000)=false:=by simp;omega
   by_cases c3:m.natAbs % 10=0
   ·rw[decide_eq_false (fun h=>h c3)]at HR;have hr:Hid (r=false):=zh (by rw[HR.out];simp);have t3:(m.tmod 10==0)=true:=by rw[beq_iff_eq];exact HZ.out.2 c3
    have t4:(m % 10==0)=true:=by rw[beq_iff_eq];omega
    clear HR c3 c1 c2;by_cases hp:0<=m
    all_goals
     go_in
     go_wp2_with fail
     go_ret
     exact⟨aA (by rw[hr.out]),HB.out⟩
   rw[decide_eq_true c3]at HR;have t3:(m.tmod 10==0)=false:=by rw[beq_eq_false_iff_ne];exact fun h=>c3 (HZ.out.1 h)
   have t4:(m % 10==0)=false:=by rw[beq_eq_false_iff_ne];omega
   clear c3 c1 c2;by_cases c4:-40<=e
   ·by_cases c5:e<=40
    ·rw[decide_eq_true c4,decide_eq_true c5]at HR;have hr:Hid (r=decide (((dl m.natAbs).length:Int)+e<=40)):=zh (by rw[HR.out];rfl);clear HR HZ;have hfl:=zJ;have hw:IntKind.i64.wrap (((dl m.natAbs).length:Int)+e)=((dl m.natAbs).length:Int)+e:=IntWalk.i64_in _ (by omega);by_cases hp:0<=m
     all_goals
      go_in
      go_wp2_with fail
      go_region_held3 (fun w'=>w.heap.size<w'.heap.size/\w'.cell? ⟨w.heap.size,0,none⟩=some (vI m)/\w'.cell? ⟨w.heap.size,1,none⟩=some (vI e)/\Below w.heap.size w w')
       (first|exact T0.out|exact T0.out.drew|exact(NumIn.next T0.out.drew hb) |(go_split_ands;exact(NumIn.next (w:=w) ⟨by assumption,by assumption,by assumption,by assumption⟩ hb)))
       ((go_at_call 129;refine(HOf.out _).mono ?_;rintro x wx ⟨v,rfl,az,hb⟩;obtain⟨A,c,rfl,-,-⟩:=az.slice;clear az))
      all_goals go_wp2_with fail
      all_goals go_ret
      all_goals refine⟨aA (by rw[hr.out]),?_⟩
      all_goals first|assumption |(go_split_ands;assumption)
    rw[decide_eq_false c5]at HR;have hr:Hid (r=false):=zh (by rw[HR.out];simp);have d5:decide ((40:Int)<e)=true:=by simp;omega
    clear HR;by_cases hp:0<=m
    all_goals
     go_in
     go_wp2_with fail
     go_ret
     exact⟨aA (by rw[hr.out]),HB.out⟩
   rw[decide_eq_false c4]at HR;have hr:Hid (r=false):=zh (by rw[HR.out];simp);have d4:decide (e<(-40:Int))=true:=by simp;omega
   clear HR;by_cases hp:0<=m
   all_goals
    go_in
    go_wp2_with fail
    go_ret
    exact⟨aA (by rw[hr.out]),HB.out⟩
  rw[decide_eq_false c2]at HR;have hr:Hid (r=false):=zh (by rw[HR.out];simp);have d1:decide ((1000000000000000:Int)<=m)=false:=by simp;omega
  have d2:decide (m<=-1000000000000000)=true:=by simp;omega
  clear HR c1 c2
  go_in
  go_wp2_with fail
  go_ret
  exact⟨aA (by rw[hr.out]),HB.out⟩
 rw[decide_eq_false c1]at HR;have hr:Hid (r=false):=zh (by rw[HR.out];simp);have d1:decide ((1000000000000000:Int)<=m)=true:=by simp;omega
 clear HR c1
 go_in
 go_wp2_with fail
 go_ret
 exact⟨aA (by rw[hr.out]),HB.out⟩
theorem dlen_le{n m:Nat}(h:n<10 ^ m):eQ n<=m:=by
 rcases Nat.eq_zero_or_pos n with z|z
 ·rw[z,nM];omega
 have:=jC (Nat.lt_of_le_of_lt (qA n z) h);omega
def aR(v:Val):Bool :=
 !((decide (v.kind≠1)&&!(decide (v.mant=0)&&decide (v.exp=0)))||(decide (v.kind≠2)&&decide (v.text≠[]))||(decide (v.kind≠3)&&v.truth)||(decide (v.kind≠4)&&decide (v.fault≠0))) &&
 (if v.kind=1 then bF v.mant v.exp else if v.kind=2 then decide (v.text.length<=255) else decide (v.kind=0)||decide (v.kind=3)||(decide (v.kind=4)&&decide (1<=v.fault)&&decide (v.fault<=9)))
def aW(a b:Val):Bool:=(a.kind==b.kind)&&(a.mant==b.mant)&&(a.exp==b.exp)&&(a.text==b.text)&&(a.truth==b.truth)&&(a.fault==b.fault)
theorem sN(a:Val):aW a a=true:=by simp[aW]
theorem fY(a b:Val):aW a b=true↔a=b:=by
 constructor
 ·intro h;obtain⟨k,m,x,t,tr,f⟩:=a;obtain⟨k2,m2,x2,t2,yc,f2⟩:=b;simp[aW]at h;obtain⟨⟨⟨⟨⟨rfl,rfl⟩,rfl⟩,rfl⟩,rfl⟩,rfl⟩:=h;rfl
 intro h;rw[h];exact sN b
theorem lG(a b:Val)(w:World):(binOp .eql 25 (iB a) (iB b)).run Tryz.prog w=.ok (.bool (aW a b)) w:=by
 obtain⟨k,m,x,t,tr,f⟩:=a;obtain⟨k2,m2,x2,t2,yc,f2⟩:=b
 go_simp
 by_cases h0:k=k2
 case neg=>simp[aW,h0]
 by_cases h1:m=m2
 case neg=>simp[aW,h0,h1]
 by_cases h2:x=x2
 case neg=>simp[aW,h0,h1,h2]
 by_cases h3:t=t2
 case neg=>simp[aW,h0,h1,h2,h3]
 by_cases h4:tr=yc
 case neg=>simp[aW,h0,h1,h2,h3,h4]
 by_cases h5:f=f2
 case neg=>simp[aW,h0,h1,h2,h3,h4,h5]
 simp[aW,h0,h1,h2,h3,h4,h5]
theorem uBM(a b:Val)(w:World) :
  Calls Tryz.prog 115 #[iB a,iB b] w fun e w'=>e=.returned (.bool (aW a b))/\Below w.heap.size w w':=by
 have HN:Hid (∀ W,(binOp .eql 25 (iB a) (iB b)).run Tryz.prog W=.ok (.bool (aW a b)) W):=zh (lG a b);generalize aW a b=r at *;obtain⟨k,m,x,t,tr,f⟩:=a;obtain⟨k2,m2,x2,t2,yc,f2⟩:=b;have hE:=HN.out;dsimp only[iB,kZ]at hE
 go_in
 go_wp2_with fail
 go_ret
 exact⟨rfl,((Below.refl _ w).alloc zr _).alloc (by simp) _⟩
theorem dW(k m x:Int)(t:Bs)(tr:Bool)(f k2 m2 x2:Int)(t2:Bs)(yc:Bool)(f2:Int)(w:World) :
  (binOp .eql 25 (.agg #[vI k,vI m,vI x,vT t,.bool tr,vI f]) (.agg #[vI k2,vI m2,vI x2,vT t2,.bool yc,vI f2])).run Tryz.prog w=.ok (.bool (aW ⟨k,m,x,t,tr,f⟩ ⟨k2,m2,x2,t2,yc,f2⟩)) w :=
 lG ⟨k,m,x,t,tr,f⟩ ⟨k2,m2,x2,t2,yc,f2⟩ w
def ValIn(w:World)(a:Val)(w':World):Prop:=w.heap.size<w'.heap.size/\w'.cell? ⟨w.heap.size,0,none⟩=some (vI a.kind)/\w'.cell? ⟨w.heap.size,1,none⟩=some (vI a.mant)/\w'.cell? ⟨w.heap.size,2,none⟩=some (vI a.exp)/\w'.cell? ⟨w.heap.size,3,none⟩=some (vT a.text)/\w'.cell? ⟨w.heap.size,4,none⟩=some (.bool a.truth)/\w'.cell? ⟨w.heap.size,5,none⟩=some (vI a.fault)/\Below w.heap.size w w'
theorem ValIn.start(w:World)(a:Val):ValIn w a (w.alloc (.cells (kZ a) 25)):=by
 have hL:Lies (w.alloc (.cells (kZ a) 25)) w.heap.size 25 (kZ a):=Lies.new _ _ _;exact⟨by simp,hL.cell 0,hL.cell 1,hL.cell 2,hL.cell 3,hL.cell 4,hL.cell 5,(Below.refl _ w).alloc zr _⟩
theorem ValIn.next{w w' w'':World}{a:Val}(h:ValIn w a w')(hb:Below w'.heap.size w' w''):ValIn w a w'':=by
 obtain⟨h0,h1,h2,h3,h4,h5,h6,h7⟩:=h;have hs:=hb.size;have k0:∀ i,w''.cell? ⟨w.heap.size,i,none⟩=w'.cell? ⟨w.heap.size,i,none⟩:=fun i=>hb.cell (p:=⟨_,_,none⟩) (by show w.heap.size<_;omega)
 exact⟨by omega,(k0 0).trans h1,(k0 1).trans h2,(k0 2).trans h3,(k0 3).trans h4,(k0 4).trans h5,(k0 5).trans h6,zU h7 hb⟩
theorem ValIn.drew{w w':World}{a:Val}(h:ValIn w a w'):ValIn w a w'.drew:=h.next zB.drew
theorem nC(v:Val)(h:v.kind=0):aR v=aW v ⟨0,0,0,[],false,0⟩:=by
 obtain⟨k,m,x,t,tr,f⟩:=v;dsimp only at h;subst h;rw[ze];simp[aR,aW]
theorem sM(v:Val)(h:v.kind=1):aR v=(bF v.mant v.exp&&aW v (qE v.mant v.exp)):=by
 obtain⟨k,m,x,t,tr,f⟩:=v;dsimp only at h;subst h;rw[ze];simp[aR,aW,qE];constructor
 ·rintro⟨⟨⟨rfl,rfl⟩,rfl⟩,h⟩;simp[h]
 rintro⟨h,⟨rfl,rfl⟩,rfl⟩;simp[h]
theorem pQ(v:Val)(h:v.kind=2):aR v=aW v (pR v.text):=by
 obtain⟨k,m,x,t,tr,f⟩:=v;dsimp only at h;subst h;unfold pR;by_cases hl:255<t.length
 ·rw[if_pos hl];have:¬ t.length<=255:=by omega
  simp[aR,aW,pW,this]
 rw[if_neg hl];have:t.length<=255:=by omega
 rw[ze];simp[aR,aW,this]
theorem nF(v:Val)(h:v.kind=3):aR v=aW v (mA v.truth):=by
 obtain⟨k,m,x,t,tr,f⟩:=v;dsimp only at h;subst h;rw[ze];simp[aR,aW,mA]
theorem nD(v:Val)(h:v.kind=4):aR v=aW v (pW v.fault):=by
 obtain⟨k,m,x,t,tr,f⟩:=v;dsimp only at h;subst h;unfold pW;by_cases hf:f<1\/9<f
 ·rw[if_pos hf];rcases hf with h|h
  ·have h1:¬ 1<=f:=by omega
   have h2:¬ f=9:=by omega
   simp[aR,aW,h1,h2]
  have h1:¬ f<=9:=by omega
  have h2:¬ f=9:=by omega
  simp[aR,aW,h1,h2]
 rw[if_neg hf];have h1:1<=f:=by omega
 have h2:f<=9:=by omega
 rw[ze];simp[aR,aW,h1,h2]
theorem nE(v:Val)(h0:v.kind≠0)(h1:v.kind≠1)(h2:v.kind≠2)(h3:v.kind≠3)(h4:v.kind≠4):aR v=false:=by
 simp[aR,h0,h1,h2,h3,h4]
theorem pS(a:Val)(w:World)(h1:-9223372036854775808<=a.mant)(h2:a.mant<=9223372036854775807)(hl:a.text.length<=1000000) :
  Calls Tryz.prog 59 #[iB a] w fun x w'=>x=.returned (.bool (aR a))/\Below w.heap.size w w':=by
 have T0:=zh (ValIn.start w a);have HB:=zh T0.out.2.2.2.2.2.2.2;have HR:=zh (fun W=>oD a.mant a.exp W h1 h2);have HO:=zh (fun W=>of_any a.mant a.exp W);have HTx:=zh (fun W=>text_any a.text W hl);have HTr:=zh (fun W=>uX a.truth W);have wh:=zh (fun W=>uCP a.fault W);have P0:=zh (nC a);have P1:=zh (sM a);have P2:=zh (pQ a);have P3:=zh (nF a);have P4:=zh (nD a);have P5:=zh (nE a);have hE:=dW;generalize aR a=r at *;clear h1 h2 hl;obtain⟨k,m,x,t,tr,f⟩:=a;dsimp only at P0 P1 P2 P3 P4 P5 HR HO HTx HTr wh;by_cases k0:k=0
 ·have hr:=zh (P0.out k0);subst k0
  go_in
  go_wp2_with fail
  go_ret
  exact⟨aA (by rw[hr.out]),HB.out⟩
 have b0:(k==0)=false:=by rw[beq_eq_false_iff_ne];exact k0
 by_cases k1:k=1
 ·have hr:=zh (P1.out k1);subst k1;clear k0 b0;cases hp:bF m x
  ·rw[hp]at HR hr;clear hp
   go_in
   go_wp2_with fail
   have T1:=T0.out.drew;obtain⟨g0,g1,g2,g3,g4,g5,g6,g7⟩:=id T1;dsimp only at g1 g2 g3 g4 g5 g6
   first
    |(go_region_law (have _:=T1;go_simp;go_at_call 109;refine(HR.out _).mono ?_;rintro e w1 ⟨rfl,hb⟩;have T2:=ValIn.next T1 hb;clear hb T1 g0 g1 g2 g3 g4 g5 g6 g7;obtain⟨g0,g1,g2,g3,g4,g5,g6,g7⟩:=id T2))
    |fail
   all_goals go_wp2_with fail
   all_goals go_ret
   all_goals exact⟨aA (by rw[hr.out];rfl),g7⟩
  rw[hp]at HR hr;clear hp
  go_in
  go_wp2_with fail
  go_region_held3 (fun w'=>w.heap.size<w'.heap.size/\w'.cell? ⟨w.heap.size,0,none⟩=some (vI 1)/\w'.cell? ⟨w.heap.size,1,none⟩=some (vI m)/\w'.cell? ⟨w.heap.size,2,none⟩=some (vI x)/\w'.cell? ⟨w.heap.size,3,none⟩=some (vT t)/\w'.cell? ⟨w.heap.size,4,none⟩=some (.bool tr)/\w'.cell? ⟨w.heap.size,5,none⟩=some (vI f)/\Below w.heap.size w w')
   (first|exact T0.out|exact T0.out.drew|exact(ValIn.next T0.out.drew hb) |(go_split_ands;exact(ValIn.next (w:=w) (a:=⟨1,m,x,t,tr,f⟩) ⟨by assumption,by assumption,by assumption,by assumption,by assumption,by assumption,by assumption,by assumption⟩ hb)))
   (first |(go_at_call 109;refine(HR.out _).mono ?_;rintro e wx ⟨rfl,hb⟩) |(go_at_call 110;refine(HO.out _).mono ?_;rintro e wx ⟨rfl,hb⟩;unfold qE))
  all_goals go_wp2_with fail
  all_goals go_ret
  all_goals refine⟨aA (by rw[hr.out] <;> rfl),?_⟩
  all_goals first|assumption |(go_split_ands;assumption)
 have b1:(k==1)=false:=by rw[beq_eq_false_iff_ne];exact k1
 by_cases k2:k=2
 ·have hr:=zh (P2.out k2);subst k2;clear k0 b0 k1 b1;generalize pR t=q at *;obtain⟨qk,qm,qx,qt,qtr,qf⟩:=q
  go_in
  go_wp2_with fail
  go_region_held3 (fun w'=>w.heap.size<w'.heap.size/\w'.cell? ⟨w.heap.size,0,none⟩=some (vI 2)/\w'.cell? ⟨w.heap.size,1,none⟩=some (vI m)/\w'.cell? ⟨w.heap.size,2,none⟩=some (vI x)/\w'.cell? ⟨w.heap.size,3,none⟩=some (vT t)/\w'.cell? ⟨w.heap.size,4,none⟩=some (.bool tr)/\w'.cell? ⟨w.heap.size,5,none⟩=some (vI f)/\Below w.heap.size w w')
   (first|exact T0.out|exact T0.out.drew|exact(ValIn.next T0.out.drew hb) |(go_split_ands;exact(ValIn.next (w:=w) (a:=⟨2,m,x,t,tr,f⟩) ⟨by assumption,by assumption,by assumption,by assumption,by assumption,by assumption,by assumption,by assumption⟩ hb)))
   ((go_at_call 65;refine(HTx.out _).mono ?_;rintro e wx ⟨rfl,hb⟩))
  all_goals go_wp2_with fail
  all_goals go_ret
  all_goals refine⟨aA (by rw[hr.out] <;> rfl),?_⟩
  all_goals first|assumption |(go_split_ands;assumption)
 have b2:(k==2)=false:=by rw[beq_eq_false_iff_ne];exact k2
 by_cases k3:k=3
 ·have hr:=zh (P3.out k3);subst k3;clear k0 b0 k1 b1 k2 b2
  go_in
  go_wp2_with fail
  go_region_held3 (fun w'=>w.heap.size<w'.heap.size/\w'.cell? ⟨w.heap.size,0,none⟩=some (vI 3)/\w'.cell? ⟨w.heap.size,1,none⟩=some (vI m)/\w'.cell? ⟨w.heap.size,2,none⟩=some (vI x)/\w'.cell? ⟨w.heap.size,3,none⟩=some (vT t)/\w'.cell? ⟨w.heap.size,4,none⟩=some (.bool tr)/\w'.cell? ⟨w.heap.size,5,none⟩=some (vI f)/\Below w.heap.size w w')
   (first|exact T0.out|exact T0.out.drew|exact(ValIn.next T0.out.drew hb) |(go_split_ands;exact(ValIn.next (w:=w) (a:=⟨3,m,x,t,tr,f⟩) ⟨by assumption,by assumption,by assumption,by assumption,by assumption,by assumption,by assumption,by assumption⟩ hb)))
   ((go_at_call 111;refine(HTr.out _).mono ?_;rintro e wx ⟨rfl,hb⟩;unfold mA))
  all_goals go_wp2_with fail
  all_goals go_ret
  all_goals refine⟨aA (by rw[hr.out] <;> rfl),?_⟩
  all_goals first|assumption |(go_split_ands;assumption)
 have b3:(k==3)=false:=by rw[beq_eq_false_iff_ne];exact k3
 by_cases k4:k=4
 ·have hr:=zh (P4.out k4);subst k4;clear k0 b0 k1 b1 k2 b2 k3 b3;generalize pW f=q at *;obtain⟨qk,qm,qx,qt,qtr,qf⟩:=q
  go_in
  go_wp2_with fail
  go_region_held3 (fun w'=>w.heap.size<w'.heap.size/\w'.cell? ⟨w.heap.size,0,none⟩=some (vI 4)/\w'.cell? ⟨w.heap.size,1,none⟩=some (vI m)/\w'.cell? ⟨w.heap.size,2,none⟩=some (vI x)/\w'.cell? ⟨w.heap.size,3,none⟩=some (vT t)/\w'.cell? ⟨w.heap.size,4,none⟩=some (.bool tr)/\w'.cell? ⟨w.heap.size,5,none⟩=some (vI f)/\Below w.heap.size w w')
   (first|exact T0.out|exact T0.out.drew|exact(ValIn.next T0.out.drew hb) |(go_split_ands;exact(ValIn.next (w:=w) (a:=⟨4,m,x,t,tr,f⟩) ⟨by assumption,by assumption,by assumption,by assumption,by assumption,by assumption,by assumption,by assumption⟩ hb)))
   ((go_at_call 112;refine(wh.out _).mono ?_;rintro e wx ⟨rfl,hb⟩))
  all_goals go_wp2_with fail
  all_goals go_ret
  all_goals refine⟨aA (by rw[hr.out] <;> rfl),?_⟩
  all_goals first|assumption |(go_split_ands;assumption)
 have b4:(k==4)=false:=by rw[beq_eq_false_iff_ne];exact k4
 have hr:=zh (P5.out k0 k1 k2 k3 k4);clear k0 k1 k2 k3 k4
 go_in
 go_wp2_with fail
 go_ret
 exact⟨aA (by rw[hr.out]),HB.out⟩
end Go.Proofs.YtjfihpaeglpblaaGreatDoor
