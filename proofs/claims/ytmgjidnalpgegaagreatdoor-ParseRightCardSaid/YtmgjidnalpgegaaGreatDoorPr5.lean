/-
  Lemmas, part 5: RefA3 PlainW RefB4 Val10 PlainH PlainM PlainK PlT1 Ord2.
-/
import Derived.Deep.AppendLies
import Derived.Test.YtmgjidnalpgegaaGreatDoorShelfB
import Derived.Lib.AppendIntMem
import Derived.Lib.Walk
import Derived.Lib.Repeat
import Derived.Orders
import Derived.Test.YtmgjidnalpgegaaGreatDoorPr4
set_option maxHeartbeats 100000000
namespace Go.Proofs.YtmgjidnalpgegaaGreatDoor
open Go.RowKit
def Src(w:World)(A:Option Addr)(xs:List Value):Prop:=(A=none->xs=[])/\∀ ad,A=some ad->∀ j u,xs[j]?=some u->w.cell? (ad.add j)=some u
theorem Src.nil(w:World)(A:Option Addr):Src w A []:=⟨fun _=>rfl,fun _ _ j u h=>by simp at h⟩
theorem Src.own{w:World}{base:Nat}{e:TypeId}{A:Option Addr}{n c:Nat}{xs:List Value}(h:w.ownsRow base e 1 (.slice A n c) n xs):Src w A xs:=by
 rcases h.2 with⟨h1,h0⟩|⟨g,cap,cur,h1,_⟩
 ·injection h1 with h1 _ _;subst h1;subst h0;have:xs=[]:=List.eq_nil_of_length_eq_zero (by simpa using h.1);subst this;exact Src.nil _ _
 injection h1 with h1 _ _;subst h1;exact⟨fun h=>(by cases h),fun ad e=>by injection e with e;subst e;exact h.cells rfl⟩
theorem Src.keep{w w':World}{A:Option Addr}{xs:List Value}{B:Nat}(h:Src w A xs)(hB:∀ ad,A=some ad->ad.block<B)(hb:Below B w w'):Src w' A xs :=
 ⟨h.1,fun ad e j u hu=>by
  have hk:(ad.add j).block=ad.block:=by unfold Addr.add;split <;> rfl
  rw[hb.cell (by rw[hk];exact hB ad e)];exact h.2 ad e j u hu⟩
section
variable {P:Program} (w:World)
theorem uB(base:Nat)(t ty e:TypeId)(i:TypeInfo)(z:Value)(bytes:Nat)(ht:P.underlying t=some (.slice e))(hi:P.info? e=some i)(hz:i.zero=some z)
  (o5:i.size=1) (lk:i.bytes=bytes) (hzs:z.cells.size=1)
  (v:Value) (n:Nat) (xs:List Value) (aj:w.ownsRow base e 1 v n xs) (A:Option Addr) (m c:Nat) (news:List Value) (hm:news.length=m) (hr:Src w A news) (h1:∀ u∈news,u.oneCell'=true)
  (h63:n+m<=maxLen) (ly:(n+m)*bytes<=140737488355328) (cv:base<=w.heap.size) :
  ∃ v' w',(Builtin.append_ #[t,t] ty #[v,.slice A m c]).run P w=.ok v' w'/\w'.ownsRow base e 1 v' (n+m) (xs++news)/\w.grownBy w' v.ownBlock/\(v'.ownBlock=v.ownBlock\/v'.ownBlock=some w.heap.size):=by
 cases A with
 |none=>
  have hn:=hr.1 rfl;subst hn;obtain rfl:m=0:=by simpa using hm.symm
  refine⟨v,w,?_,by simpa using aj,World.grownBy.refl w _,.inl rfl⟩;rcases aj.2 with⟨rfl,rfl⟩|⟨g,cap,cur,rfl,_,_,sq,_⟩
  ·simp[Builtin.append_,run_underlying ht,sizeOf,typeInfo,hi,Builtin.lenOf,Builtin.firstCells]
  simp[Builtin.append_,run_underlying ht,sizeOf,typeInfo,hi,Builtin.lenOf,Builtin.firstCells,sq,storeCells]
 |some ad=>
  obtain⟨v',w',hrun,h2,h3,_,h5⟩:=run_append_own_at (P:=P) w base t ty e i z 1 bytes ht hi hz o5 lk hzs (by decide) v n xs aj ad m c news (by rw[Nat.mul_one];exact hm) (hr.2 ad rfl) h1 h63 ly cv;exact⟨v',w',hrun,h2,h3,h5⟩
theorem gO{ops:Array Oper}{rest:List Oper}{o:Oper}{a:Act}{Q:Exit->Act->World->Prop}(s5:o.guard=none)(s x:Operand)(t:TypeId)
  (ho:o.op=.call { callee:=.builtin .append,args:=#[s,x],argTypes:=#[t,t] })
  (base:Nat) (e:TypeId) (i:TypeInfo) (z:Value) (bytes:Nat) (ht:P.underlying t=some (.slice e)) (hi:P.info? e=some i) (hz:i.zero=some z)
  (o5:i.size=1) (lk:i.bytes=bytes) (hzs:z.cells.size=1)
  (v:Value) (n:Nat) (xs:List Value) (hs:a.eval s=v) (aj:w.ownsRow base e 1 v n xs)
  (A:Option Addr) (m c:Nat) (news:List Value) (hx:a.eval x=.slice A m c) (hm:news.length=m) (hr:Src w A news) (h1:∀ u∈news,u.oneCell'=true)
  (h63:n+m<=maxLen) (ly:(n+m)*bytes<=140737488355328) (cv:base<=w.heap.size)
  (h:∀ v' w',w'.ownsRow base e 1 v' (n+m) (xs++news)->w.grownBy w' v.ownBlock->(v'.ownBlock=v.ownBlock\/v'.ownBlock=some w.heap.size)->wpList P ops Q rest (a.put o.dst v') w'):wpList P ops Q (o::rest) a w :=
 wpList_plain s5 fun _ hK=>by
  obtain⟨v',w',hrun,h2,h3,h4⟩:=uB (P:=P) w base t o.type e i z bytes ht hi hz o5 lk hzs v n xs aj A m c news hm hr h1 h63 ly cv;unfold Oper.wp execOp;simp only[ho,resolve,invoke,builtin,Sem.run_bind,Sem.run_pure,Result.andThen_ok,List.map_toArray,List.map_cons,List.map_nil,hs,hx,hrun];exact hK _ _ (h v' w' h2 h3 h4)
end
def rH(d:Nat):Value:=.int .i64 (d:Int)
theorem infoI64:(Tryz.prog.info? 3).map (fun i=>(i.zero,i.size,i.bytes))=some (some (.int .i64 0),1,8):=by kernel_rfl
theorem sU(L:List Nat):∀ u∈L.map rH,u.oneCell'=true:=by
 intro u hu;rw[yj]at hu;obtain⟨d,_,rfl⟩:=hu;rfl
def Own(w:World)(base:Nat)(v:Value)(L:List Nat):Prop:=w.ownsRow base 3 1 v L.length (L.map rH)
theorem Own.slice{w:World}{base:Nat}{v:Value}{L:List Nat}(h:Own w base v L):∃ A c,v=.slice A L.length c/\Src w A (L.map rH)/\(∀ ad,A=some ad->base<=ad.block/\ad.block<w.heap.size):=by
 rcases h.2 with⟨rfl,h0⟩|⟨g,cap,cur,rfl,hg,hh,_⟩
 ·refine⟨none,0,by rw[h0],?_,fun ad e=>by cases e⟩;have:L=[]:=List.eq_nil_of_length_eq_zero h0;subst this;exact Src.nil _ _
 exact⟨some ⟨g,0,none⟩,cap,rfl,Src.own h,fun ad e=>by injection e with e;subst e;exact⟨hg,(zk.1 hh).1⟩⟩
theorem pR(w:World)(u:Value)(base:Nat)(h:base<=w.heap.size)(n:Nat)(hn:n=w.heap.size):(w.alloc (.cells #[u] 3)).ownsRow base 3 1 (.slice (some ⟨n,0,none⟩) 1 1) 1 [u]:=by
 subst hn;refine⟨rfl,.inr ⟨w.heap.size,1,#[u],rfl,h,Lies.new _ _ _,zr,by decide,rfl,rfl⟩⟩
set_option maxRecDepth 100000 in
theorem uCN(n:Int)(w:World)(h1:-9223372036854775808<=n)(h2:n<=9223372036854775807) :
  Calls Tryz.prog 112 #[.int .i64 n] w fun e w'=>∃ v,e=.returned v/\Own w' w.heap.size v (dl n.natAbs)/\Below w.heap.size w w':=by
 obtain⟨i0,hi,ki,js,j7⟩:=info_parts infoI64;have hlen:(dl n.natAbs).length<=20:=vI _ (by omega);have HLen:=zh hlen;clear hlen;generalize hD:dl n.natAbs=D at *;have HD:=zh hD;clear hD
 go_enter Tryz.func112,Tryz.ntmps112
 go_wp2_with fail
 go_loopw [0,3] (fun x v wr=>∃ (m:Int) (L:List Nat),x=.int .i64 m/\-9223372036854775808<=m/\m<=9223372036854775807/\Hid (Own wr w.heap.size v L)/\Hid (dl m.natAbs++L=D)/\Hid (Below w.heap.size w wr)) (fun x _ _=>(intOf x).natAbs)
 case atStart=>exact⟨n,[],rfl,h1,h2,zh ⟨rfl,.inl ⟨rfl,rfl⟩⟩,zh (by rw[List.append_nil];exact HD.out),zh (Below.refl _ _)⟩
 case round=>
  obtain⟨m,L,rfl,xy,ug,aj,hq,aw⟩:=hrel;by_cases h0:m=0
  ·subst h0;have hL:Hid (L=D):=zh (by have:=hq.out;simpa [uFL] using this)
   go_wp2_with fail
   go_ret
   exact⟨_,rfl,by rw[<- hL.out];exact aj.out,aw.out⟩
  have b0:(m != 0)=true:=by rw[bne_iff_ne];exact h0
  obtain⟨A,c,rfl,hsrc,hA⟩:=aj.out.slice;have HSrc:=zh hsrc;have HA:=zh hA;clear hsrc hA h0;have hLl:L.length<=20:=by
   have h3:=HLen.out;rw[<- hq.out,yl]at h3;omega
  have hn0:m≠0:=by simpa using b0
  by_cases oy:0<=m
  ·go_wp2_with (at_builtin;refine gO _ rfl (.tmp 14) (.tmp 15) 80 rfl w.heap.size 3 i0 (.int .i64 0) 8 Tryz.underlying80 hi ki js j7 rfl (.slice (some ⟨wr.heap.size,0,none⟩) 1 1) 1 [.int .i64 (m % 10)] rfl (pR _ _ _ aw.out.size _ rfl) A L.length c (L.map rH) rfl (by simp) ?src (sU L) ?c3 ?c4 ?c5 ?_)
   case src=>exact HSrc.out.keep (B:=wr.heap.size) (fun ad e=>(HA.out ad e).2) (zp _)
   case c3=>unfold maxLen;omega
   case c4=>omega
   case c5=>have:=aw.out.size;simp;omega
   intro v' w1 ep mh _;have hO:Hid (Own w1 w.heap.size v' (m.natAbs % 10::L)):=zh (by
    have e:rH (m.natAbs % 10)=.int .i64 (m % 10):=by unfold rH;congr 1;omega
    unfold Own;rw[List.map_cons,e,yi,Nat.add_comm];exact ep)
   have af:Hid (Below w.heap.size w w1):=zh ((aw.out.alloc aw.out.size _).grown mh (by have:=aw.out.size;simp;omega) (fun k h=>by simp[Value.ownBlock]at h;have:=aw.out.size;omega));clear ep mh
   go_wp2_with fail
   go_roundw
   case rel=>exact⟨m / 10,m.natAbs % 10::L,rfl,by omega,by omega,hO,zh (by rw[show (m / 10).natAbs=m.natAbs / 10 by omega,<- hq.out,kY m.natAbs (by omega),List.append_assoc];rfl),af⟩
   case measure=>simp[intOf];omega
  obtain⟨q,d,hmq,hd10⟩:∃ q d:Nat,m=-(10*(q:Int)+d)/\d<10:=⟨m.natAbs / 10,m.natAbs % 10,by omega,by omega⟩
  have HM:=zh hmq;have htd:m.tdiv 10=-(q:Int):=by
   rw[hmq,Int.neg_tdiv,Int.tdiv_eq_ediv_of_nonneg (by omega)];omega
  have htm:m.tmod 10=-(d:Int):=by
   rw[hmq,Int.neg_tmod,Int.tmod_eq_emod_of_nonneg (by omega)];omega
  have hqb:(q:Int)<=922337203685477580:=by omega
  clear hmq;by_cases hd0:d=0
  ·subst hd0;simp only[Int.natCast_zero,Int.neg_zero]at htm
   go_wp2_with (at_builtin;refine gO _ rfl (.tmp 14) (.tmp 15) 80 rfl w.heap.size 3 i0 (.int .i64 0) 8 Tryz.underlying80 hi ki js j7 rfl (.slice (some ⟨wr.heap.size,0,none⟩) 1 1) 1 [.int .i64 (0)] rfl (pR _ _ _ aw.out.size _ rfl) A L.length c (L.map rH) rfl (by simp) ?src (sU L) ?c3 ?c4 ?c5 ?_)
   case src=>exact HSrc.out.keep (B:=wr.heap.size) (fun ad e=>(HA.out ad e).2) (zp _)
   case c3=>unfold maxLen;omega
   case c4=>omega
   case c5=>have:=aw.out.size;simp;omega
   intro v' w1 ep mh _;have hO:Hid (Own w1 w.heap.size v' (m.natAbs % 10::L)):=zh (by
    have e:rH (m.natAbs % 10)=.int .i64 (0):=by unfold rH;congr 1;have:=HM.out;omega
    unfold Own;rw[List.map_cons,e,yi,Nat.add_comm];exact ep)
   have af:Hid (Below w.heap.size w w1):=zh ((aw.out.alloc aw.out.size _).grown mh (by have:=aw.out.size;simp;omega) (fun k h=>by simp[Value.ownBlock]at h;have:=aw.out.size;omega));clear ep mh
   go_wp2_with fail
   go_roundw
   case rel=>exact⟨-(q:Int),m.natAbs % 10::L,rfl,by have:=HM.out;omega,by have:=HM.out;omega,hO,zh (by rw[show (-(q:Int)).natAbs=m.natAbs / 10 by have:=HM.out;omega,<- hq.out,kY m.natAbs (by omega),List.append_assoc];rfl),af⟩
   case measure=>simp[intOf];have:=HM.out;omega
  have hdp:0<(d:Int):=by omega
  go_wp2_with (at_builtin;refine gO _ rfl (.tmp 14) (.tmp 15) 80 rfl w.heap.size 3 i0 (.int .i64 0) 8 Tryz.underlying80 hi ki js j7 rfl (.slice (some ⟨wr.heap.size,0,none⟩) 1 1) 1 [.int .i64 ((d:Int))] rfl (pR _ _ _ aw.out.size _ rfl) A L.length c (L.map rH) rfl (by simp) ?src (sU L) ?c3 ?c4 ?c5 ?_)
  case src=>exact HSrc.out.keep (B:=wr.heap.size) (fun ad e=>(HA.out ad e).2) (zp _)
  case c3=>unfold maxLen;omega
  case c4=>omega
  case c5=>have:=aw.out.size;simp;omega
  intro v' w1 ep mh _;have hO:Hid (Own w1 w.heap.size v' (m.natAbs % 10::L)):=zh (by
   have e:rH (m.natAbs % 10)=.int .i64 ((d:Int)):=by unfold rH;congr 1;have:=HM.out;omega
   unfold Own;rw[List.map_cons,e,yi,Nat.add_comm];exact ep)
  have af:Hid (Below w.heap.size w w1):=zh ((aw.out.alloc aw.out.size _).grown mh (by have:=aw.out.size;simp;omega) (fun k h=>by simp[Value.ownBlock]at h;have:=aw.out.size;omega));clear ep mh
  go_wp2_with fail
  go_roundw
  case rel=>exact⟨-(q:Int),m.natAbs % 10::L,rfl,by have:=HM.out;omega,by have:=HM.out;omega,hO,zh (by rw[show (-(q:Int)).natAbs=m.natAbs / 10 by have:=HM.out;omega,<- hq.out,kY m.natAbs (by omega),List.append_assoc];rfl),af⟩
  case measure=>simp[intOf];have:=HM.out;omega
def OfIn(w:World)(m e:Int)(w':World):Prop :=
 w.heap.size+1<w'.heap.size/\w'.cell? ⟨w.heap.size,0,none⟩=some (.int .i64 m)/\w'.cell? ⟨w.heap.size,1,none⟩=some (.int .i64 e) /\
 w'.cell? ⟨w.heap.size+1,0,none⟩=some (.bool false)/\w'.cell? ⟨w.heap.size+1,1,none⟩=some (.slice none 0 0)/\w'.cell? ⟨w.heap.size+1,2,none⟩=some (.int .i64 0) /\
 w'.frozen? ⟨w.heap.size+1,0,none⟩=false/\w'.frozen? ⟨w.heap.size+1,1,none⟩=false/\w'.frozen? ⟨w.heap.size+1,2,none⟩=false/\Below w.heap.size w w'
theorem OfIn.start(w:World)(m e:Int):OfIn w m e ((w.alloc (.cells #[.int .i64 m,.int .i64 e] 30)).alloc (.cells #[.bool false,.slice none 0 0,.int .i64 0] 145)) :=
 ⟨by simp,by simp,by simp,by simp,by simp,by simp,by simp,by simp,by simp,((Below.refl _ w).alloc zr _).alloc (by simp) _⟩
theorem OfIn.next{w w' w'':World}{m e:Int}(h:OfIn w m e w')(hb:Below w'.heap.size w' w''):OfIn w m e w'':=by
 obtain⟨h1,h2,h3,h4,h5,h6,h7,h8,h9,uc⟩:=h;have hs:=hb.size;exact⟨by omega,(hb.cell (p:=⟨_,_,none⟩) (by show w.heap.size<_;omega)).trans h2,(hb.cell (p:=⟨_,_,none⟩) (by show w.heap.size<_;omega)).trans h3,
  (hb.cell (p:=⟨_,_,none⟩) (by show w.heap.size+1<_;omega)).trans h4,(hb.cell (p:=⟨_,_,none⟩) (by show w.heap.size+1<_;omega)).trans h5,(hb.cell (p:=⟨_,_,none⟩) (by show w.heap.size+1<_;omega)).trans h6,
  (hb.frozen (p:=⟨_,_,none⟩) (by show w.heap.size+1<_;omega)).trans h7,(hb.frozen (p:=⟨_,_,none⟩) (by show w.heap.size+1<_;omega)).trans h8,(hb.frozen (p:=⟨_,_,none⟩) (by show w.heap.size+1<_;omega)).trans h9,
  uc.trans (hb.mono uc.size)⟩
theorem OfIn.drew{w w':World}{m e:Int}(h:OfIn w m e w'):OfIn w m e w'.drew:=h.next (Below.refl _ _).drew
theorem Own.mono{w:World}{base B:Nat}{v:Value}{L:List Nat}(h:Own w base v L)(hB:B<=base):Own w B v L:=by
 obtain⟨h1,h2⟩:=h;refine⟨h1,?_⟩;rcases h2 with h2|⟨g,cap,cur,hv,hg,r⟩
 ·exact .inl h2
 exact .inr ⟨g,cap,cur,hv,by omega,r⟩
theorem Own.put{w:World}{base:Nat}{v:Value}{L:List Nat}(h:Own w base v L){a:Addr}(ha:a.block<base)(u:Value):Own (w.setCell a u) base v L:=ownsRow_setCell_below h ha u
def OfPost(m e:Int)(w:World)(x:Ending)(w':World):Prop:=∃ v,x=.returned (.agg #[.bool (decide (m<0)),v,.int .i64 e])/\Own w' w.heap.size v (dl m.natAbs)/\Below w.heap.size w w'
set_option maxRecDepth 100000 in
theorem rOf_any(m e:Int)(w:World)(h1:-9223372036854775808<=m)(h2:m<=9223372036854775807) :
  Calls Tryz.prog 110 #[rI m e] w fun x w'=>OfPost m e w x w':=by
 have T0:=zh (OfIn.start w m e);have HD:=zh (fun W=>uCN m W h1 h2);clear h1 h2
 go_enter Tryz.func110,Tryz.ntmps110
 go_wp2_with fail
 have T1:=T0.out.drew;clear T0;obtain⟨g0,g1,g2,g3,g4,g5,g6,g7,g8,g9⟩:=id T1
 go_region_law (have _:=T1;go_simp;go_at_call 112;refine(HD.out _).mono ?_;rintro x w1 ⟨v,rfl,aj,hb⟩;have HO:=zh (Own.mono aj (B:=w.heap.size+2) (by show w.heap.size+1<_;exact g0));obtain⟨A,c,rfl,-,-⟩:=aj.slice;clear aj;have T2:=OfIn.next T1 hb;clear hb T1 g0 g1 g2 g3 g4 g5 g6 g7 g8 g9;obtain⟨g0,g1,g2,g3,g4,g5,g6,g7,g8,g9⟩:=id T2)
 all_goals go_wp2_with fail
 all_goals refine yt (v:=.agg #[.bool (decide (m<0)),.slice A (dl m.natAbs).length c,.int .i64 e]) (by simp[results,Tryz.results110,go_sem,g3,g4,g5]) rfl ?_
 all_goals refine⟨_,rfl,?_,((g9.setCell (p:=⟨w.heap.size+1,0,none⟩) (by show w.heap.size<=w.heap.size+1;omega) _).setCell (p:=⟨w.heap.size+1,1,none⟩) (by show w.heap.size<=w.heap.size+1;omega) _).setCell (p:=⟨w.heap.size+1,2,none⟩) (by show w.heap.size<=w.heap.size+1;omega) _⟩
 all_goals exact(((HO.out.put (a:=⟨w.heap.size+1,0,none⟩) (by show w.heap.size+1<w.heap.size+2;omega) _).put (a:=⟨w.heap.size+1,1,none⟩) (by show w.heap.size+1<w.heap.size+2;omega) _).put (a:=⟨w.heap.size+1,2,none⟩) (by show w.heap.size+1<w.heap.size+2;omega) _).mono (by omega)
theorem uCJ(b:Bool)(A:Option Addr)(n c:Nat)(e:Int)(W:World):(Instr.field 145 (.agg #[.bool b,.slice A n c,.int .i64 e]) 1).run Tryz.prog W=.ok (.slice A n c) W:=by kernel_rfl
def NumIn(w:World)(m e:Int)(w':World):Prop:=w.heap.size<w'.heap.size/\w'.cell? ⟨w.heap.size,0,none⟩=some (.int .i64 m)/\w'.cell? ⟨w.heap.size,1,none⟩=some (.int .i64 e)/\Below w.heap.size w w'
theorem NumIn.start(w:World)(m e:Int):NumIn w m e (w.alloc (.cells #[.int .i64 m,.int .i64 e] 30)):=⟨by simp,by simp,by simp,(Below.refl _ w).alloc zr _⟩
theorem NumIn.next{w w' w'':World}{m e:Int}(h:NumIn w m e w')(hb:Below w'.heap.size w' w''):NumIn w m e w'':=by
 obtain⟨h1,h2,h3,h4⟩:=h;have hs:=hb.size;exact⟨by omega,(hb.cell (p:=⟨_,_,none⟩) h1).trans h2,(hb.cell (p:=⟨_,_,none⟩) h1).trans h3,h4.trans (hb.mono h4.size)⟩
theorem NumIn.drew{w w':World}{m e:Int}(h:NumIn w m e w'):NumIn w m e w'.drew:=h.next (Below.refl _ _).drew
theorem uJC(m:Int):m.tmod 10=0↔m.natAbs % 10=0:=by
 rcases Int.le_total 0 m with h|h
 ·rw[Int.tmod_eq_emod_of_nonneg h];omega
 obtain⟨k,rfl⟩:∃ k:Int,m=-k:=⟨-m,by omega⟩
 rw[Int.neg_tmod,Int.tmod_eq_emod_of_nonneg (by omega)];omega
theorem uEA(m e:Int)(h0:m≠0):cC m e=(decide (m<1000000000000000)&&decide (-1000000000000000<m)&&decide (m.natAbs % 10≠0)&&decide (-40<=e)&&decide (e<=40)&&decide (((dl m.natAbs).length:Int)+e<=40)):=by
 unfold cC;rw[if_neg h0,dl_len];by_cases hb:m.natAbs<1000000000000000
 ·have hp:0<m.natAbs:=by omega
  have hd:=vJ m.natAbs hp hb;have hd1:=lY m.natAbs hp;rw[hd,decide_eq_true hb,decide_eq_true (by omega:m<1000000000000000),decide_eq_true (by omega:-1000000000000000<m)];by_cases hs:(eD m.natAbs:Int)+e<=40
  ·rw[decide_eq_true hs,decide_eq_true (by omega:e<40),decide_eq_true (by omega:e<=40)];simp
  rw[decide_eq_false hs];simp
 rw[decide_eq_false hb];by_cases hc:m<1000000000000000
 ·rw[decide_eq_false (by omega:¬ -1000000000000000<m)];simp
 rw[decide_eq_false hc];simp
set_option maxRecDepth 100000 in
theorem uEH(m e:Int)(w:World)(h1:-9223372036854775808<=m)(h2:m<=9223372036854775807) :
  Calls Tryz.prog 101 #[rI m e] w fun x w'=>x=.returned (.bool (cC m e))/\Below w.heap.size w w':=by
 have HB:Hid (Below w.heap.size w (w.alloc (.cells #[.int .i64 m,.int .i64 e] 30))):=zh ((Below.refl _ w).alloc zr _);by_cases h0:m=0
 ·have hr:Hid (cC m e=decide (e=0)):=zh (if_pos h0);subst h0;generalize cC 0 e=r at *
  go_enter Tryz.func101,Tryz.ntmps101
  go_wp2_with fail
  go_ret
  exact⟨aI (by rw[hr.out];rfl),HB.out⟩
 have HR:=zh (uEA m e h0);have HOf:=zh (fun W=>rOf_any m e W h1 h2);have hlen:(dl m.natAbs).length<=20:=vI _ (by omega);generalize cC m e=r at *;have b0:(m==0)=false:=by rw[beq_eq_false_iff_ne];exact h0
 have T0:=zh (NumIn.start w m e);have hz:=uJC m;have HZ:=zh hz;have H0:=zh h0;clear hz h0;by_cases c1:m<1000000000000000
 ·by_cases c2:-1000000000000000<m
  ·rw[decide_eq_true c1,decide_eq_true c2]at HR;have d1:decide ((1000000000000000:Int)<=m)=false:=by simp;omega
   have d2:decide (m<=-1000000000000000)=false:=by simp;omega
   by_cases c3:m.natAbs % 10=0
   ·rw[decide_eq_false (fun h=>h c3)]at HR;have hr:Hid (r=false):=zh (by rw[HR.out];simp);have t3:(m.tmod 10==0)=true:=by rw[beq_iff_eq];exact HZ.out.2 c3
    have t4:(m % 10==0)=true:=by rw[beq_iff_eq];omega
    clear HR c3 c1 c2;by_cases hp:0<=m
    all_goals
     go_enter Tryz.func101,Tryz.ntmps101
     go_wp2_with fail
     go_ret
     exact⟨aI (by rw[hr.out]),HB.out⟩
   rw[decide_eq_true c3]at HR;have t3:(m.tmod 10==0)=false:=by rw[beq_eq_false_iff_ne];exact fun h=>c3 (HZ.out.1 h)
   have t4:(m % 10==0)=false:=by rw[beq_eq_false_iff_ne];omega
   clear c3 c1 c2;by_cases c4:-40<=e
   ·by_cases c5:e<=40
    ·rw[decide_eq_true c4,decide_eq_true c5]at HR;have hr:Hid (r=decide (((dl m.natAbs).length:Int)+e<=40)):=zh (by rw[HR.out];rfl);clear HR HZ;have hfl:=uCJ;have hw:IntKind.i64.wrap (((dl m.natAbs).length:Int)+e)=((dl m.natAbs).length:Int)+e:=IntWalk.i64_in _ (by omega);by_cases hp:0<=m
     all_goals
      go_enter Tryz.func101,Tryz.ntmps101
      go_wp2_with fail
      go_region_held3 (fun w'=>w.heap.size<w'.heap.size/\w'.cell? ⟨w.heap.size,0,none⟩=some (.int .i64 m)/\w'.cell? ⟨w.heap.size,1,none⟩=some (.int .i64 e)/\Below w.heap.size w w')
       (first|exact T0.out|exact T0.out.drew|exact(NumIn.next T0.out.drew hb) |(go_split_ands;exact(NumIn.next (w:=w) ⟨by assumption,by assumption,by assumption,by assumption⟩ hb)))
       ((go_at_call 110;refine(HOf.out _).mono ?_;rintro x wx ⟨v,rfl,aj,hb⟩;obtain⟨A,c,rfl,-,-⟩:=aj.slice;clear aj))
      all_goals go_wp2_with fail
      all_goals go_ret
      all_goals refine⟨aI (by rw[hr.out]),?_⟩
      all_goals first|assumption |(go_split_ands;assumption)
    rw[decide_eq_false c5]at HR;have hr:Hid (r=false):=zh (by rw[HR.out];simp);have d5:decide ((40:Int)<e)=true:=by simp;omega
    clear HR;by_cases hp:0<=m
    all_goals
     go_enter Tryz.func101,Tryz.ntmps101
     go_wp2_with fail
     go_ret
     exact⟨aI (by rw[hr.out]),HB.out⟩
   rw[decide_eq_false c4]at HR;have hr:Hid (r=false):=zh (by rw[HR.out];simp);have d4:decide (e<(-40:Int))=true:=by simp;omega
   clear HR;by_cases hp:0<=m
   all_goals
    go_enter Tryz.func101,Tryz.ntmps101
    go_wp2_with fail
    go_ret
    exact⟨aI (by rw[hr.out]),HB.out⟩
  rw[decide_eq_false c2]at HR;have hr:Hid (r=false):=zh (by rw[HR.out];simp);have d1:decide ((1000000000000000:Int)<=m)=false:=by simp;omega
  have d2:decide (m<=-1000000000000000)=true:=by simp;omega
  clear HR c1 c2
  go_enter Tryz.func101,Tryz.ntmps101
  go_wp2_with fail
  go_ret
  exact⟨aI (by rw[hr.out]),HB.out⟩
 rw[decide_eq_false c1]at HR;have hr:Hid (r=false):=zh (by rw[HR.out];simp);have d1:decide ((1000000000000000:Int)<=m)=true:=by simp;omega
 clear HR c1
 go_enter Tryz.func101,Tryz.ntmps101
 go_wp2_with fail
 go_ret
 exact⟨aI (by rw[hr.out]),HB.out⟩
theorem uFM{n m:Nat}(h:n<10 ^ m):eD n<=m:=by
 rcases Nat.eq_zero_or_pos n with z|z
 ·rw[z,pP];omega
 have:=jK (Nat.lt_of_le_of_lt (oI n z) h);omega
def uGA(r d:Nat):Nat:=if 1000<10*r+d then 1000 else 10*r+d
def powR(L:List Nat):Nat:=L.foldl uGA 0
def pM(p r:Nat):Prop:=(p=r/\r<=1000)\/(r=1000/\1000<=p)
theorem uAT{p r:Nat}(h:pM p r)(d:Nat):pM (eF p d) (uGA r d):=by
 unfold pM eF uGA at *;rcases h with⟨h1,h2⟩|⟨h1,h2⟩
 ·subst h1;rw[if_pos (by omega)]
  split <;> omega
 subst h1
 right
 refine⟨if_pos (by omega),?_⟩
 split <;> omega
theorem uAS(L:List Nat):∀ p r,pM p r->pM (L.foldl eF p) (L.foldl uGA r):=by
 induction L with
 |nil=>intro p r h;exact h
 |cons d L ih=>intro p r h;exact ih _ _ (uAT h d)
theorem powRel(L:List Nat):pM (uEC L) (powR L):=uAS L 0 0 (.inl ⟨rfl,by omega⟩)
theorem wA(neg:Bool)(n:Nat)(e:Int)(hn:eD n<=300)(he:e<=-1000):fF neg n e=some (0,0):=by
 have h1:(dJ n e).2<=e+285:=by
  unfold dJ
  split
  ·show e+((eD n-15:Nat):Int)<=e+285;omega
  show e<=e+285;omega
 have hb:=tC n e;have hd:eD (dJ n e).1<=16:=uFM (Nat.lt_of_le_of_lt hb (by decide));unfold fF;generalize dJ n e=p at *;obtain⟨m,f⟩:=p;simp only at h1 hd ⊢;have h2:fR m f=(0,-40):=by
  unfold fR;rw[if_pos (by omega),uGD m _ (by omega)]
 rw[h2];rfl
def xF(x:Bool×List Nat×Nat×Bool×List Nat):Option (Int×Int):=fF x.1 (aV x.2.1) ((if x.2.2.2.1 then -(powR x.2.2.2.2:Int) else powR x.2.2.2.2)-(x.2.2.1:Int))
def xX(l:Bs):Option (Int×Int):=if 255<l.length then none else (nI l).bind xF
theorem pNumT_bd(l:Bs)(x:Bool×List Nat×Nat×Bool×List Nat)(h:nI l=some x):x.2.1.length<=l.length/\x.2.2.1<=l.length/\Dig x.2.1:=by
 unfold nI at h;have hi:(if aX l 0 45 then 1 else 0)<=1:=by split <;> omega
 generalize (if aX l 0 45 then 1 else 0)=i at *;have ha:=bS aB (l.drop i);rw[yk]at ha;have hb:=bS aB (l.drop (i+aN aB (l.drop i)+1));rw[yk]at hb;simp only at h
 split at h
 ·rename_i j6
  have h46':=at_lt _ _ _ j6
  split at h
  ·cases h
  obtain⟨p,_,hx⟩:=Option.map_eq_some_iff.1 h;subst hx;refine⟨?_,?_,?_⟩
  ·simp only[yl,iY,zc,yk];omega
  ·show aN aB _<=_;omega
  exact(sE _ _ zr).append (sE _ _ zr)
 split at h
 ·cases h
 obtain⟨p,_,hx⟩:=Option.map_eq_some_iff.1 h;subst hx;refine⟨?_,zm _,?_⟩
 ·simp only[iY,zc,yk];omega
 exact sE _ _ zr
theorem uHK(x:Bool×List Nat×Nat×Bool×List Nat)(h1:x.2.1.length<=255)(h2:x.2.2.1<=255)(h3:Dig x.2.1):sJ (x.1,x.2.1,x.2.2.1,x.2.2.2.1,uEC x.2.2.2.2)=xF x:=by
 obtain⟨ng,ds,b,np,pd⟩:=x;simp only at h1 h2 h3;unfold sJ xF;simp only;have hN:eD (aV ds)<=255:=yv (uFM (mG ds h3)) h1;rcases powRel pd with⟨e1,_⟩|⟨e1,e2⟩
 ·rw[e1]
 rw[e1];cases np
 ·simp only[Bool.false_eq_true,if_false];rcases Nat.eq_zero_or_pos (aV ds) with z|z
  ·rw[z,nX,nX]
  rw[nW ng _ _ z (by omega),nW ng _ _ z (by omega)]
 simp only[if_true];rw[wA ng _ _ (by omega) (by omega),wA ng _ _ (by omega) (by omega)]
theorem tQ(l:Bs):eB l=xX l:=by
 unfold eB xX
 split
 ·rfl
 rename_i hl
 rw[all_text];cases h:nI l with
 |none=>rfl
 |some x=>
  obtain⟨a1,a2,a3⟩:=pNumT_bd l x h;exact uHK x (by omega) (by omega) a3
def bV(v:Val):Bool :=
 !((decide (v.kind≠1)&&!(decide (v.mant=0)&&decide (v.exp=0)))||(decide (v.kind≠2)&&decide (v.text≠[]))||(decide (v.kind≠3)&&v.truth)||(decide (v.kind≠4)&&decide (v.fault≠0))) &&
 (if v.kind=1 then cC v.mant v.exp else if v.kind=2 then decide (v.text.length<=255) else decide (v.kind=0)||decide (v.kind=3)||(decide (v.kind=4)&&decide (1<=v.fault)&&decide (v.fault<=9)))
def cG(a b:Val):Bool:=(a.kind==b.kind)&&(a.mant==b.mant)&&(a.exp==b.exp)&&(a.text==b.text)&&(a.truth==b.truth)&&(a.fault==b.fault)
theorem gZ(a:Val):cG a a=true:=by simp[cG]
theorem gY(a b:Val):cG a b=true↔a=b:=by
 constructor
 ·intro h;obtain⟨k,m,x,t,tr,f⟩:=a;obtain⟨k2,m2,x2,t2,tr2,f2⟩:=b;simp[cG]at h;obtain⟨⟨⟨⟨⟨rfl,rfl⟩,rfl⟩,rfl⟩,rfl⟩,rfl⟩:=h;rfl
 intro h;rw[h];exact gZ b
set_option maxRecDepth 100000 in
theorem uZ(a b:Val)(w:World):(binOp .eql 32 (mM a) (mM b)).run Tryz.prog w=.ok (.bool (cG a b)) w:=by
 obtain⟨k,m,x,t,tr,f⟩:=a;obtain⟨k2,m2,x2,t2,tr2,f2⟩:=b
 go_simp
 by_cases h0:k=k2
 case neg=>simp[cG,h0]
 by_cases h1:m=m2
 case neg=>simp[cG,h0,h1]
 by_cases h2:x=x2
 case neg=>simp[cG,h0,h1,h2]
 by_cases h3:t=t2
 case neg=>simp[cG,h0,h1,h2,h3]
 by_cases h4:tr=tr2
 case neg=>simp[cG,h0,h1,h2,h3,h4]
 by_cases h5:f=f2
 case neg=>simp[cG,h0,h1,h2,h3,h4,h5]
 simp[cG,h0,h1,h2,h3,h4,h5]
theorem fN(k m x:Int)(t:Bs)(tr:Bool)(f k2 m2 x2:Int)(t2:Bs)(tr2:Bool)(f2:Int)(w:World) :
  (binOp .eql 32 (.agg #[.int .i64 k,.int .i64 m,.int .i64 x,.string ⟨t.toArray⟩,.bool tr,.int .i64 f]) (.agg #[.int .i64 k2,.int .i64 m2,.int .i64 x2,.string ⟨t2.toArray⟩,.bool tr2,.int .i64 f2])).run Tryz.prog w=.ok (.bool (cG ⟨k,m,x,t,tr,f⟩ ⟨k2,m2,x2,t2,tr2,f2⟩)) w :=
 uZ ⟨k,m,x,t,tr,f⟩ ⟨k2,m2,x2,t2,tr2,f2⟩ w
def ValIn(w:World)(a:Val)(w':World):Prop:=w.heap.size<w'.heap.size/\w'.cell? ⟨w.heap.size,0,none⟩=some (.int .i64 a.kind)/\w'.cell? ⟨w.heap.size,1,none⟩=some (.int .i64 a.mant)/\w'.cell? ⟨w.heap.size,2,none⟩=some (.int .i64 a.exp)/\w'.cell? ⟨w.heap.size,3,none⟩=some (.string ⟨a.text.toArray⟩)/\w'.cell? ⟨w.heap.size,4,none⟩=some (.bool a.truth)/\w'.cell? ⟨w.heap.size,5,none⟩=some (.int .i64 a.fault)/\Below w.heap.size w w'
theorem ValIn.start(w:World)(a:Val):ValIn w a (w.alloc (.cells (jS a) 32)):=by
 have hL:Lies (w.alloc (.cells (jS a) 32)) w.heap.size 32 (jS a):=Lies.new _ _ _;exact⟨by simp,hL.cell 0,hL.cell 1,hL.cell 2,hL.cell 3,hL.cell 4,hL.cell 5,(Below.refl _ w).alloc zr _⟩
theorem ValIn.next{w w' w'':World}{a:Val}(h:ValIn w a w')(hb:Below w'.heap.size w' w''):ValIn w a w'':=by
 obtain⟨h0,h1,h2,h3,h4,h5,h6,h7⟩:=h;have hs:=hb.size;have k0:∀ i,w''.cell? ⟨w.heap.size,i,none⟩=w'.cell? ⟨w.heap.size,i,none⟩:=fun i=>hb.cell (p:=⟨_,_,none⟩) (by show w.heap.size<_;omega)
 exact⟨by omega,(k0 0).trans h1,(k0 1).trans h2,(k0 2).trans h3,(k0 3).trans h4,(k0 4).trans h5,(k0 5).trans h6,h7.trans (hb.mono h7.size)⟩
theorem ValIn.drew{w w':World}{a:Val}(h:ValIn w a w'):ValIn w a w'.drew:=h.next (Below.refl _ _).drew
theorem pG(v:Val)(h:v.kind=0):bV v=cG v ⟨0,0,0,[],false,0⟩:=by
 obtain⟨k,m,x,t,tr,f⟩:=v;dsimp only at h;subst h;rw[ze];simp[bV,cG]
theorem uK(v:Val)(h:v.kind=1):bV v=(cC v.mant v.exp&&cG v (iB v.mant v.exp)):=by
 obtain⟨k,m,x,t,tr,f⟩:=v;dsimp only at h;subst h;rw[ze];simp[bV,cG,iB];constructor
 ·rintro⟨⟨⟨rfl,rfl⟩,rfl⟩,h⟩;simp[h]
 rintro⟨h,⟨rfl,rfl⟩,rfl⟩;simp[h]
theorem rE(v:Val)(h:v.kind=2):bV v=cG v (pK v.text):=by
 obtain⟨k,m,x,t,tr,f⟩:=v;dsimp only at h;subst h;unfold pK;by_cases hl:255<t.length
 ·rw[if_pos hl];have:¬ t.length<=255:=by omega
  simp[bV,cG,oB,this]
 rw[if_neg hl];have:t.length<=255:=by omega
 rw[ze];simp[bV,cG,this]
theorem pJ(v:Val)(h:v.kind=3):bV v=cG v (lL v.truth):=by
 obtain⟨k,m,x,t,tr,f⟩:=v;dsimp only at h;subst h;rw[ze];simp[bV,cG,lL]
theorem pH(v:Val)(h:v.kind=4):bV v=cG v (oB v.fault):=by
 obtain⟨k,m,x,t,tr,f⟩:=v;dsimp only at h;subst h;unfold oB;by_cases hf:f<1\/9<f
 ·rw[if_pos hf];rcases hf with h|h
  ·have h1:¬ 1<=f:=by omega
   have h2:¬ f=9:=by omega
   simp[bV,cG,h1,h2]
  have h1:¬ f<=9:=by omega
  have h2:¬ f=9:=by omega
  simp[bV,cG,h1,h2]
 rw[if_neg hf];have h1:1<=f:=by omega
 have h2:f<=9:=by omega
 rw[ze];simp[bV,cG,h1,h2]
theorem pI(v:Val)(h0:v.kind≠0)(h1:v.kind≠1)(h2:v.kind≠2)(h3:v.kind≠3)(h4:v.kind≠4):bV v=false:=by
 simp[bV,h0,h1,h2,h3,h4]
set_option maxRecDepth 100000 in
theorem uBR(a:Val)(w:World)(h1:-9223372036854775808<=a.mant)(h2:a.mant<=9223372036854775807)(hl:a.text.length<=1000000) :
  Calls Tryz.prog 77 #[mM a] w fun x w'=>x=.returned (.bool (bV a))/\Below w.heap.size w w':=by
 have T0:=zh (ValIn.start w a);have HB:=zh T0.out.2.2.2.2.2.2.2;have HR:=zh (fun W=>pY a.mant a.exp W h1 h2);have HO:=zh (fun W=>of_any a.mant a.exp W);have HTx:=zh (fun W=>uBN a.text W hl);have HTr:=zh (fun W=>wR a.truth W);have td:=zh (fun W=>wX a.fault W);have P0:=zh (pG a);have P1:=zh (uK a);have P2:=zh (rE a);have P3:=zh (pJ a);have P4:=zh (pH a);have P5:=zh (pI a);have hE:=fN;generalize bV a=r at *;clear h1 h2 hl;obtain⟨k,m,x,t,tr,f⟩:=a;dsimp only at P0 P1 P2 P3 P4 P5 HR HO HTx HTr td;by_cases k0:k=0
 ·have hr:=zh (P0.out k0);subst k0
  go_enter Tryz.func77,Tryz.ntmps77
  go_wp2_with fail
  go_ret
  exact⟨aI (by rw[hr.out]),HB.out⟩
 have b0:(k==0)=false:=by rw[beq_eq_false_iff_ne];exact k0
 by_cases k1:k=1
 ·have hr:=zh (P1.out k1);subst k1;clear k0 b0;cases hp:cC m x
  ·rw[hp]at HR hr;clear hp
   go_enter Tryz.func77,Tryz.ntmps77
   go_wp2_with fail
   have T1:=T0.out.drew;obtain⟨g0,g1,g2,g3,g4,g5,g6,g7⟩:=id T1;dsimp only at g1 g2 g3 g4 g5 g6
   first
    |(go_region_law (have _:=T1;go_simp;go_at_call 95;refine(HR.out _).mono ?_;rintro e w1 ⟨rfl,hb⟩;have T2:=ValIn.next T1 hb;clear hb T1 g0 g1 g2 g3 g4 g5 g6 g7;obtain⟨g0,g1,g2,g3,g4,g5,g6,g7⟩:=id T2))
    |fail
   all_goals go_wp2_with fail
   all_goals go_ret
   all_goals exact⟨aI (by rw[hr.out];rfl),g7⟩
  rw[hp]at HR hr;clear hp
  go_enter Tryz.func77,Tryz.ntmps77
  go_wp2_with fail
  go_region_held3 (fun w'=>w.heap.size<w'.heap.size/\w'.cell? ⟨w.heap.size,0,none⟩=some (.int .i64 1)/\w'.cell? ⟨w.heap.size,1,none⟩=some (.int .i64 m)/\w'.cell? ⟨w.heap.size,2,none⟩=some (.int .i64 x)/\w'.cell? ⟨w.heap.size,3,none⟩=some (.string ⟨t.toArray⟩)/\w'.cell? ⟨w.heap.size,4,none⟩=some (.bool tr)/\w'.cell? ⟨w.heap.size,5,none⟩=some (.int .i64 f)/\Below w.heap.size w w')
   (first|exact T0.out|exact T0.out.drew|exact(ValIn.next T0.out.drew hb) |(go_split_ands;exact(ValIn.next (w:=w) (a:=⟨1,m,x,t,tr,f⟩) ⟨by assumption,by assumption,by assumption,by assumption,by assumption,by assumption,by assumption,by assumption⟩ hb)))
   (first |(go_at_call 95;refine(HR.out _).mono ?_;rintro e wx ⟨rfl,hb⟩) |(go_at_call 96;refine(HO.out _).mono ?_;rintro e wx ⟨rfl,hb⟩;unfold iB))
  all_goals go_wp2_with fail
  all_goals go_ret
  all_goals refine⟨aI (by rw[hr.out] <;> rfl),?_⟩
  all_goals first|assumption |(go_split_ands;assumption)
 have b1:(k==1)=false:=by rw[beq_eq_false_iff_ne];exact k1
 by_cases k2:k=2
 ·have hr:=zh (P2.out k2);subst k2;clear k0 b0 k1 b1;generalize pK t=q at *;obtain⟨qk,qm,qx,qt,qtr,qf⟩:=q
  go_enter Tryz.func77,Tryz.ntmps77
  go_wp2_with fail
  go_region_held3 (fun w'=>w.heap.size<w'.heap.size/\w'.cell? ⟨w.heap.size,0,none⟩=some (.int .i64 2)/\w'.cell? ⟨w.heap.size,1,none⟩=some (.int .i64 m)/\w'.cell? ⟨w.heap.size,2,none⟩=some (.int .i64 x)/\w'.cell? ⟨w.heap.size,3,none⟩=some (.string ⟨t.toArray⟩)/\w'.cell? ⟨w.heap.size,4,none⟩=some (.bool tr)/\w'.cell? ⟨w.heap.size,5,none⟩=some (.int .i64 f)/\Below w.heap.size w w')
   (first|exact T0.out|exact T0.out.drew|exact(ValIn.next T0.out.drew hb) |(go_split_ands;exact(ValIn.next (w:=w) (a:=⟨2,m,x,t,tr,f⟩) ⟨by assumption,by assumption,by assumption,by assumption,by assumption,by assumption,by assumption,by assumption⟩ hb)))
   ((go_at_call 97;refine(HTx.out _).mono ?_;rintro e wx ⟨rfl,hb⟩))
  all_goals go_wp2_with fail
  all_goals go_ret
  all_goals refine⟨aI (by rw[hr.out] <;> rfl),?_⟩
  all_goals first|assumption |(go_split_ands;assumption)
 have b2:(k==2)=false:=by rw[beq_eq_false_iff_ne];exact k2
 by_cases k3:k=3
 ·have hr:=zh (P3.out k3);subst k3;clear k0 b0 k1 b1 k2 b2
  go_enter Tryz.func77,Tryz.ntmps77
  go_wp2_with fail
  go_region_held3 (fun w'=>w.heap.size<w'.heap.size/\w'.cell? ⟨w.heap.size,0,none⟩=some (.int .i64 3)/\w'.cell? ⟨w.heap.size,1,none⟩=some (.int .i64 m)/\w'.cell? ⟨w.heap.size,2,none⟩=some (.int .i64 x)/\w'.cell? ⟨w.heap.size,3,none⟩=some (.string ⟨t.toArray⟩)/\w'.cell? ⟨w.heap.size,4,none⟩=some (.bool tr)/\w'.cell? ⟨w.heap.size,5,none⟩=some (.int .i64 f)/\Below w.heap.size w w')
   (first|exact T0.out|exact T0.out.drew|exact(ValIn.next T0.out.drew hb) |(go_split_ands;exact(ValIn.next (w:=w) (a:=⟨3,m,x,t,tr,f⟩) ⟨by assumption,by assumption,by assumption,by assumption,by assumption,by assumption,by assumption,by assumption⟩ hb)))
   ((go_at_call 98;refine(HTr.out _).mono ?_;rintro e wx ⟨rfl,hb⟩;unfold lL))
  all_goals go_wp2_with fail
  all_goals go_ret
  all_goals refine⟨aI (by rw[hr.out] <;> rfl),?_⟩
  all_goals first|assumption |(go_split_ands;assumption)
 have b3:(k==3)=false:=by rw[beq_eq_false_iff_ne];exact k3
 by_cases k4:k=4
 ·have hr:=zh (P4.out k4);subst k4;clear k0 b0 k1 b1 k2 b2 k3 b3;generalize oB f=q at *;obtain⟨qk,qm,qx,qt,qtr,qf⟩:=q
  go_enter Tryz.func77,Tryz.ntmps77
  go_wp2_with fail
  go_region_held3 (fun w'=>w.heap.size<w'.heap.size/\w'.cell? ⟨w.heap.size,0,none⟩=some (.int .i64 4)/\w'.cell? ⟨w.heap.size,1,none⟩=some (.int .i64 m)/\w'.cell? ⟨w.heap.size,2,none⟩=some (.int .i64 x)/\w'.cell? ⟨w.heap.size,3,none⟩=some (.string ⟨t.toArray⟩)/\w'.cell? ⟨w.heap.size,4,none⟩=some (.bool tr)/\w'.cell? ⟨w.heap.size,5,none⟩=some (.int .i64 f)/\Below w.heap.size w w')
   (first|exact T0.out|exact T0.out.drew|exact(ValIn.next T0.out.drew hb) |(go_split_ands;exact(ValIn.next (w:=w) (a:=⟨4,m,x,t,tr,f⟩) ⟨by assumption,by assumption,by assumption,by assumption,by assumption,by assumption,by assumption,by assumption⟩ hb)))
   ((go_at_call 99;refine(td.out _).mono ?_;rintro e wx ⟨rfl,hb⟩))
  all_goals go_wp2_with fail
  all_goals go_ret
  all_goals refine⟨aI (by rw[hr.out] <;> rfl),?_⟩
  all_goals first|assumption |(go_split_ands;assumption)
 have b4:(k==4)=false:=by rw[beq_eq_false_iff_ne];exact k4
 have hr:=zh (P5.out k0 k1 k2 k3 k4);clear k0 k1 k2 k3 k4
 go_enter Tryz.func77,Tryz.ntmps77
 go_wp2_with fail
 go_ret
 exact⟨aI (by rw[hr.out]),HB.out⟩
def AllDig(D:Bs):Prop:=∀ c∈D,aB c=true
theorem uHT:∀ (f:Nat) (l:Bs) (k p:Nat),fQ f l k=.error p->k<=p/\p<k+l.length:=by
 intro f
 induction f with
 |zero=>intro l k p h;cases h
 |succ f ih=>
  intro l k p h;cases l with
  |nil=>cases h
  |cons c r=>
   simp only[fQ]at h
   split at h
   ·have:=ih r (k+1) p h;simp only[yi];omega
   split at h
   ·injection h with h;subst h;simp
   cases hx:fQ f ((c::r).drop (bG (c::r)).2.2) (k+(bG (c::r)).2.2) with
   |error q=>
    rw[hx]at h;injection h with h;subst h;have:=ih _ _ q hx;have hle:=mS (c::r) (by simp);rw[yk]at this;omega
   |ok ts=>rw[hx]at h;cases h
theorem pLex_err(l:Bs)(p:Nat)(h:mX l=.error p):p<l.length:=by
 have:=(uHT _ _ _ _ h).2;omega
theorem xM:∀ (f:Nat) (l:Bs) (k:Nat) (ts:List Tok),fQ f l k=.ok ts->ts.length<=l.length:=by
 intro f
 induction f with
 |zero=>intro l k ts h;injection h with h;subst h;simp
 |succ f ih=>
  intro l k ts h;cases l with
  |nil=>injection h with h;subst h;simp
  |cons c r=>
   simp only[fQ]at h
   split at h
   ·have:=ih r (k+1) ts h;simp only[yi];omega
   split at h
   ·cases h
   rename_i h0
   cases hx:fQ f ((c::r).drop (bG (c::r)).2.2) (k+(bG (c::r)).2.2) with
   |error q=>rw[hx]at h;cases h
   |ok us=>
    rw[hx]at h;injection h with h;subst h;have:=ih _ _ us hx;rw[yk]at this;simp only[yi]at this ⊢;omega
theorem uGQ(l:Bs)(m k:Nat)(c:UInt8):aX (l.take m) k c=(decide (k<m)&&aX l k c):=by
 unfold aX;by_cases h:k<m
 ·rw[List.getElem?_take_of_lt h,decide_eq_true h,Bool.true_and]
 rw[List.getElem?_eq_none (by rw[zc];omega),decide_eq_false h];rfl
theorem lC(l:Bs)(c:UInt8):Lib.hasPrefix l [c]=aX l 0 c:=by
 cases l with
 |nil=>rfl
 |cons d l=>
  unfold Lib.hasPrefix aX;simp only[List.isPrefixOf,Bool.and_true,zb];rw[ze,beq_iff_eq,beq_iff_eq];constructor
  ·intro h;rw[h]
  intro h;injection h with h;exact h.symm
theorem nL(l:Bs)(c:UInt8):Lib.trimPrefix l [c]=if aX l 0 c then l.drop 1 else l:=by
 unfold Lib.trimPrefix;rw[lC];rfl
def bW(c:UInt8):Bool:=decide (65<=c.toNat)&&decide (c.toNat<=90)
def dN(l:Bs):Nat:=l.foldl (fun a c=>a*26+(c.toNat-65)+1) 0
theorem rZ(l:Bs)(c:UInt8):dN (l++[c])=dN l*26+(c.toNat-65)+1:=by simp[dN]
structure IdR where
 a:Int
 n:Int
theorem IdR.ext'{x y:IdR}(h1:x.a=y.a)(h2:x.n=y.n):x=y:=by
 cases x;cases y;cases h1;cases h2;rfl
instance :DecidableEq IdR:=fun x y=>if h:x.a=y.a/\x.n=y.n then .isTrue (IdR.ext' h.1 h.2) else .isFalse (fun e=>h (by rw[e];exact⟨rfl,rfl⟩))
abbrev id0:IdR:=⟨0,0⟩
structure Cor where
 row:IdR
 col:IdR
 fr:Bool
 fc:Bool
theorem Cor.ext'{x y:Cor}(h1:x.row=y.row)(h2:x.col=y.col)(h3:x.fr=y.fr)(h4:x.fc=y.fc):x=y:=by
 cases x;cases y;cases h1;cases h2;cases h3;cases h4;rfl
instance :DecidableEq Cor:=fun x y=>if h:x.row=y.row/\x.col=y.col/\x.fr=y.fr/\x.fc=y.fc then .isTrue (Cor.ext' h.1 h.2.1 h.2.2.1 h.2.2.2) else .isFalse (fun e=>h (by rw[e];exact⟨rfl,rfl,rfl,rfl⟩))
abbrev aG:Cor:=⟨id0,id0,false,false⟩
structure NodeH where
 kind:Int
 v:Val
 name:Bs
 a:Cor
 b:Cor
 rows:Int
inductive Tree where
 |mk (h:NodeH) (l:List Tree)
def Tree.h:Tree->NodeH
 | .mk h _=>h
def Tree.l:Tree->List Tree
 | .mk _ l=>l
abbrev head0:NodeH:=⟨0,aD,[],aG,aG,0⟩
abbrev uH:Tree:=.mk head0 []
abbrev iK(v:Val):Tree:=.mk ⟨0,v,[],aG,aG,0⟩ []
abbrev iP(k:Int)(a b:Cor):Tree:=.mk ⟨k,aD,[],a,b,0⟩ []
abbrev uBL(s:Bs)(l:List Tree):Tree:=.mk ⟨4,aD,s,aG,aG,0⟩ l
abbrev tUn(s:Bs)(x:Tree):Tree:=.mk ⟨5,aD,s,aG,aG,0⟩ [x]
abbrev tBin(s:Bs)(x y:Tree):Tree:=.mk ⟨6,aD,s,aG,aG,0⟩ [x,y]
abbrev uGF(s:Bs):Tree:=.mk ⟨7,aD,s,aG,aG,0⟩ []
abbrev uIZ(r:Int)(l:List Tree):Tree:=.mk ⟨8,aD,[],aG,aG,r⟩ l
abbrev tMiss:Tree:=.mk ⟨9,aD,[],aG,aG,0⟩ []
mutual
def Tree.size:Tree->Nat
 | .mk _ l=>bB l+1
def bB:List Tree->Nat
 | []=>0
 |t::r=>t.size+bB r
end
mutual
def Tree.depth:Tree->Nat
 | .mk _ l=>dC l+1
def dC:List Tree->Nat
 | []=>0
 |t::r=>max t.depth (dC r)
end
def NodeH.same(x y:NodeH):Bool:=decide (x.kind=y.kind)&&cG x.v y.v&&x.name==y.name&&decide (x.a=y.a)&&decide (x.b=y.b)&&decide (x.rows=y.rows)
mutual
def Tree.same:Tree->Tree->Bool
 | .mk h l,.mk h' l'=>NodeH.same h h'&&iN l l'
def iN:List Tree->List Tree->Bool
 | [],[]=>true
 |t::r,t'::r'=>t.same t'&&iN r r'
 | [],_::_=>false
 |_::_,[]=>false
end
def aS(s:Bs):Nat:=aN aB s
def aP(s:Bs):Nat:=aN bW s
def bN(s:Bs):Bool :=
 decide (0<s.length)&&decide (s.length<=32)&&bW (s.headD 0)&&s.all (fun c=>bW c||aB c||c==46) &&
  !(decide (aP s+aS (s.drop (aP s))=s.length)&&decide (aP s<=3)&&decide (1<=aS (s.drop (aP s)))&&decide (aS (s.drop (aP s))<=7)&&!aX s (aP s) 48)
def fW(s:Bs):Bool :=
 let a:=if aX s 0 82 then 1+aS (s.drop 1) else 0
 let b:=if aX s a 67 then a+1+aS (s.drop (a+1)) else a
 decide (b=s.length)
def jN:Bs:=[84,82,85,69]
def gQ:Bs:=[70,65,76,83,69]
def bM(s:Bs):Bool :=
 decide (0<s.length)&&decide (s.length<=32)&&(bW (s.headD 0)||s.headD 0==95)&&s.all (fun c=>bW c||aB c||c==95||c==46) &&
  !(s==jN||s==gQ||fW s) &&
  !(decide (aP s+aS (s.drop (aP s))=s.length)&&decide (1<=aP s)&&decide (aP s<=3)&&decide (1<=aS (s.drop (aP s))))
def unB(s:Bs):Bool:=s==[45]||s==[43]||s==[37]
def lS(s:Bs):Bool:=s==[43]||s==[45]||s==[42]||s==[47]||s==[94]||s==[38]||s==[61]||s==[60,62]||s==[60]||s==[60,61]||s==[62]||s==[62,61]
def cA(v:Val)(inMat:Bool):Bool:=decide (v.kind≠0)&&bV v&&(inMat||decide (0<=v.mant))
def cY(a b:Cor):Bool :=
 let rows:=decide (a.row≠id0)
 let cols:=decide (a.col≠id0)
 (rows==decide (b.row≠id0))&&(cols==decide (b.col≠id0))&&(rows||cols)&&(rows||(!a.fr&&!b.fr))&&(cols||(!a.fc&&!b.fc))
def bE(h:NodeH)(n:Nat)(kids:List Int)(above:Int):Bool :=
 if h.kind=0 then cA h.v (decide (above=8))&&NodeH.same h ⟨0,h.v,[],aG,aG,0⟩&&decide (n=0)
 else if h.kind=1\/h.kind=3 then decide (h.a.row≠id0)&&decide (h.a.col≠id0)&&NodeH.same h ⟨h.kind,aD,[],h.a,aG,0⟩&&decide (n=0)
 else if h.kind=2 then cY h.a h.b&&NodeH.same h ⟨2,aD,[],h.a,h.b,0⟩&&decide (n=0)
 else if h.kind=4 then bN h.name&&decide (n<=32)&&!(decide (n=1)&&decide (kids=[9]))&&NodeH.same h ⟨4,aD,h.name,aG,aG,0⟩
 else if h.kind=5 then unB h.name&&decide (n=1)&&NodeH.same h ⟨5,aD,h.name,aG,aG,0⟩
 else if h.kind=6 then lS h.name&&decide (n=2)&&NodeH.same h ⟨6,aD,h.name,aG,aG,0⟩
 else if h.kind=7 then bM h.name&&NodeH.same h ⟨7,aD,h.name,aG,aG,0⟩&&decide (n=0)
 else if h.kind=8 then decide (1<=h.rows)&&decide (1<=n)&&decide ((n:Int).tmod h.rows=0)&&NodeH.same h ⟨8,aD,[],aG,aG,h.rows⟩
 else if h.kind=9 then decide (above=4)&&NodeH.same h ⟨9,aD,[],aG,aG,0⟩&&decide (n=0)
 else false
mutual
def Tree.right:Tree->Int->Bool
 | .mk h l,above=>bE h l.length (l.map fun t=>t.h.kind) above&&bK l h.kind
def bK:List Tree->Int->Bool
 | [],_=>true
 |t::r,k=>(decide (k≠8)||decide (t.h.kind=0))&&t.right k&&bK r k
end
def dE(t:Tree):Nat:=if 256<t.size then 5 else if 32<t.depth then 8 else if t.right 6 then 0 else 6
structure Mk where
 row:Nat
 col:Nat
 fr:Bool
 fc:Bool
def bR(l:Bs):Option Nat:=if l.length=0\/3<l.length then none else if l.all aJ then some (dN (aO l)-1) else none
def fZ(l:Bs):Option Nat:=if l.length=0\/7<l.length\/aX l 0 48=true then none else if l.all aB then some (aV (dT l)) else none
def bA(s:Bs):Option Mk :=
 let s1:=Lib.trimPrefix s [36]
 let e:=aN aJ s1
 match bR (s1.take e) with
 |none=>none
 |some col=>
  let s2:=s1.drop e
  match fZ (Lib.trimPrefix s2 [36]) with
  |none=>none
  |some row=>some ⟨row-1,col,Lib.hasPrefix s2 [36],Lib.hasPrefix s [36]⟩
inductive Out where
 |ok (t:Tree) (ts:List Tok) (c:Nat)
 |bad (e:Nat) (p:Nat)
def hd(ts:List Tok):Tok:=ts.headD ⟨0,[],0⟩
def nxt(ts:List Tok):Tok:=match ts with
 |_::b::_=>b
 |_=>hd ts
def isS(t:Tok)(s:Bs):Bool:=decide (t.kind=5)&&t.text==s
def fE(e:Nat)(ts:List Tok):Out:=.bad e (hd ts).place
def cM(t:Tok):Bool:=decide (t.kind=3)&&(aO t.text==jN||aO t.text==gQ)
def fJ(t:Tok):Except Nat Val :=
 if t.kind=1 then match eB t.text with
  |none=>.error 2
  |some q=>.ok (iB q.1 q.2)
 else if t.kind=2 then if 255<t.text.length then .error 14 else .ok (pK t.text)
 else if t.kind=6 then .ok (oB (jJ t.text))
 else if cM t then .ok (lL (aO t.text==jN))
 else .error 6
def cX(ts:List Tok)(c:Nat):Out:=match fJ (hd ts) with
 | .error e=>fE e ts
 | .ok v=>.ok (iK v) ts.tail (c+1)
structure Ax where
 rows:List IdR
 cols:List IdR
def fS(ax:Ax)(ts:List Tok):Except Nat Cor :=
 if (hd ts).kind≠4 then .error 6
 else match bA (hd ts).text with
  |none=>.error 6
  |some m=>match ax.rows[m.row]? with
   |none=>.error 18
   |some r=>match ax.cols[m.col]? with
    |none=>.error 18
    |some k=>.ok ⟨r,k,m.fr,m.fc⟩
def kD(ax:Ax)(ts:List Tok)(c:Nat):Out:=match fS ax ts with
 | .error e=>fE e ts
 | .ok a=>
  if isS (hd ts.tail) [35] then .ok (iP 3 a aG) ts.tail.tail (c+1)
  else if isS (hd ts.tail) [58] then match fS ax ts.tail.tail with
   | .error e=>fE e ts.tail.tail
   | .ok b=>.ok (iP 2 a b) ts.tail.tail.tail (c+1)
  else .ok (iP 1 a aG) ts.tail (c+1)
def eK(ax:Ax)(row col:Bool)(ts:List Tok):Except Nat Cor :=
 if (hd ts).kind≠1/\(hd ts).kind≠3/\(hd ts).kind≠4 then .error 6
 else
  let text:=Lib.trimPrefix (hd ts).text [36]
  let fixed:=Lib.hasPrefix (hd ts).text [36]
  let m:=if aB (text.headD 0) then bA (65::text) else none
  match (if col then bR text else none) with
  |some p=>match ax.cols[p]? with
   |none=>.error 18
   |some k=>.ok ⟨id0,k,false,fixed⟩
  |none=>match (if row then m else none) with
   |some q=>match ax.rows[q.row]? with
    |none=>.error 18
    |some r=>.ok ⟨r,id0,fixed,false⟩
   |none=>.error 6
def gK(ax:Ax)(ts:List Tok)(c:Nat):Out:=match eK ax true true ts with
 | .error e=>fE e ts
 | .ok a=>
  if isS (hd ts.tail) [58] then match eK ax (decide (a.row≠id0)) (decide (a.col≠id0)) ts.tail.tail with
   | .error e=>fE e ts.tail.tail
   | .ok b=>.ok (iP 2 a b) ts.tail.tail.tail (c+1)
  else fE 6 ts.tail
def eJ(ts:List Tok)(c:Nat):Out :=
 if isS (hd ts) [45] then
  if (hd ts.tail).kind≠1 then fE 6 ts.tail
  else match fJ (hd ts.tail) with
   | .error e=>fE e ts.tail
   | .ok v=>.ok (iK { v with mant:=-v.mant }) ts.tail.tail (c+1)
 else cX ts c
def eP:Nat->Nat->Nat->Nat->List Tree->List Tok->Nat->Out
 |0,_,_,_,_,ts,_=>fE 6 ts
 |f+1,rows,cols,wide,l,ts,c=>match eJ ts c with
  | .bad e p=>.bad e p
  | .ok x av c1=>
   if isS (hd av) [44]&&(decide (rows=0)||decide (wide<cols)) then eP f rows cols (wide+1) (l++[x]) av.tail c1
   else if isS (hd av) [59]&&(decide (rows=0)||decide (wide=cols)) then eP f (rows+1) wide 1 (l++[x]) av.tail c1
   else if isS (hd av) [125]&&(decide (rows=0)||decide (wide=cols)) then .ok (uIZ (rows+1:Nat) (l++[x])) av.tail (c1+1)
   else fE 6 av
def jW(ts:List Tok)(c:Nat):Out:=eP ts.length 0 0 1 [] ts.tail c
inductive oE where
 |ok (l:List Tree) (ts:List Tok) (c:Nat)
 |bad (e:Nat) (p:Nat)
def rK(whole:List Tok->Nat->Out)(ts:List Tok)(c:Nat):Out :=
 if isS (hd ts) [44]||isS (hd ts) [41] then .ok tMiss ts (c+1) else whole ts c
def dX(whole:List Tok->Nat->Out):Nat->List Tree->List Tok->Nat->oE
 |0,_,ts,_=>.bad 6 (hd ts).place
 |f+1,l,ts,c=>match rK whole ts c with
  | .bad e p=>.bad e p
  | .ok x av c1=>
   if isS (hd av) [41] then .ok (l++[x]) av c1
   else if isS (hd av) [44] then if 32<=l.length+1 then .bad 10 (hd av).place else dX whole f (l++[x]) av.tail c1
   else .bad 6 (hd av).place
def nG(whole:Nat->List Tok->Nat->Out)(open':Nat)(ts:List Tok)(c:Nat):Out :=
 if !bN (aO (hd ts).text) then fE 9 ts
 else if 64<=open' then fE 8 ts.tail
 else match (if isS (hd ts.tail.tail) [41] then .ok [] ts.tail.tail c else dX (whole (open'+1)) ts.length [] ts.tail.tail c) with
  |oE.bad e p=>.bad e p
  |oE.ok l av c1=>.ok (uBL (aO (hd ts).text) l) av.tail (c1+1)
def nH(whole:Nat->List Tok->Nat->Out)(open':Nat)(ts:List Tok)(c:Nat):Out :=
 if isS (nxt ts) [40] then nG whole open' ts c
 else if cM (hd ts) then cX ts c
 else if bM (aO (hd ts).text) then .ok (uGF (aO (hd ts).text)) ts.tail (c+1)
 else fE 9 ts
def lN(whole:Nat->List Tok->Nat->Out)(ax:Ax)(open':Nat)(ts:List Tok)(c:Nat):Out :=
 if (hd ts).kind=1 then if isS (nxt ts) [58] then gK ax ts c else cX ts c
 else if (hd ts).kind=2\/(hd ts).kind=6 then cX ts c
 else if (hd ts).kind=3 then if isS (nxt ts) [58] then gK ax ts c else nH whole open' ts c
 else if (hd ts).kind=4 then if (bA (hd ts).text).isSome then kD ax ts c else gK ax ts c
 else if isS (hd ts) [40] then
  if 64<=open' then fE 8 ts
  else match whole (open'+1) ts.tail c with
   | .bad e p=>.bad e p
   | .ok x av c1=>if isS (hd av) [41] then .ok x av.tail c1 else fE 6 av
 else if isS (hd ts) [123] then jW ts c
 else fE 6 ts
def iJ:Nat->Tree->List Tok->Nat->Out
 |0,t,ts,c=>.ok t ts c
 |f+1,t,ts,c=>if isS (hd ts) [37] then iJ f (tUn [37] t) ts.tail (c+1) else .ok t ts c
def cN(part:List Tok->Nat->Out)(ts:List Tok)(c:Nat):Out:=match part ts c with
 | .bad e p=>.bad e p
 | .ok t av c1=>iJ av.length t av c1
def dV(t:Tok):Bool:=isS t [43]||isS t [45]
def bF:List Tok->Nat
 | []=>0
 |t::r=>if dV t then bF r+1 else 0
def iS(percent:List Tok->Nat->Out)(ts:List Tok)(c:Nat):Out:=match percent (ts.drop (bF ts)) c with
 | .bad e p=>.bad e p
 | .ok t av c1=>.ok ((ts.take (bF ts)).foldr (fun s n=>tUn s.text n) t) av (c1+bF ts)
def jC(sg:List Bs)(t:Tok):Bool:=decide (t.kind=5)&&sg.contains t.text
def gW(next:List Tok->Nat->Out)(sg:List Bs):Nat->Tree->List Tok->Nat->Out
 |0,t,ts,c=>.ok t ts c
 |f+1,t,ts,c=>if jC sg (hd ts) then match next ts.tail c with
   | .bad e p=>.bad e p
   | .ok x av c1=>gW next sg f (tBin (hd ts).text t x) av (c1+1)
  else .ok t ts c
def cH(next:List Tok->Nat->Out)(sg:List Bs)(ts:List Tok)(c:Nat):Out:=match next ts c with
 | .bad e p=>.bad e p
 | .ok t av c1=>gW next sg av.length t av c1
def pZ:List Bs:=[[61],[60,62],[60],[60,61],[62],[62,61]]
def qA:List Bs:=[[38]]
def gM:List Bs:=[[43],[45]]
def wO:List Bs:=[[42],[47]]
def wQ:List Bs:=[[94]]
def kO(part:List Tok->Nat->Out):List Tok->Nat->Out :=
 cH (cH (cH (cH (cH (iS (cN part)) wQ) wO) gM) qA) pZ
def gB:Nat->Ax->Nat->List Tok->Nat->Out
 |0,_,_,ts,_=>fE 6 ts
 |f+1,ax,open',ts,c=>kO (lN (gB f ax) ax open') ts c
def eR(ax:Ax)(ts:List Tok):Except (Nat×Nat) Tree:=match gB 65 ax 0 ts 0 with
 | .bad e p=>.error (e,p)
 | .ok t av c=>if (hd av).kind≠0 then .error (6,(hd av).place) else if 256<c then .error (5,0) else if dE t≠0 then .error (dE t,0) else .ok t
def bI(ax:Ax)(s:Bs):Except (Nat×Nat) Tree:=match mX s with
 | .error k=>.error (7,k)
 | .ok ts=>eR ax (ts++[cJ s.length])
open Go
def Up(zl:Array Bool)(i:Nat):Prop:=zl.getD i false=true
theorem Up.of_false{zl:Array Bool}{i:Nat}(h:zl.getD i true=false):i<zl.size:=by
 rcases Nat.lt_or_ge i zl.size with h1|h1
 ·exact h1
 simp[Array.getElem?_eq_none h1]at h
theorem Up.set{zl:Array Bool}{i j:Nat}(hs:i<zl.size):Up (zl.setIfInBounds i true) j↔(j=i\/Up zl j):=by
 unfold Up;by_cases h:i=j
 ·subst h;simp[hs]
 rw[getD_set_ne false h];constructor
 ·exact .inr
 rintro(e|e)
 ·exact absurd e.symm h
 exact e
theorem Up.none(n i:Nat):¬ Up (Array.replicate n false) i:=by
 unfold Up;simp only[Array.getD_eq_getD_getElem?,Array.getElem?_replicate]
 split <;> simp
def lR(ops:Array Oper):Bool:=(List.range ops.size).all fun i=>((ops[i]?).map fun o=>o.after.all fun e=>decide (e.on<i)).getD true
theorem nB{ops:Array Oper}(h:lR ops=true){i:Nat}{o:Oper}(ho:ops[i]?=some o):∀ e∈o.after,e.on<i:=by
 intro e he;have hlt:i<ops.size:=(zk.1 ho).1;have:=List.all_eq_true.1 h i (yg.2 hlt);rw[ho]at this;simp only[Option.map_some,Option.getD_some,Array.all_eq_true_iff_forall_mem]at this;exact of_decide_eq_true (this e he)
theorem all_up{md:Region.Mode}{ops:Array Oper}(hb:lR ops=true){zl:Array Bool}(hs:zl.size=ops.size)(hr:Region.ready md ops zl=[]):∀ i,i<ops.size->Up zl i:=by
 intro i
 induction i using Nat.strongRecOn with
 |_ i ih=>
  intro hi;cases hu:zl.getD i true
  ·exfalso
   have ho:ops[i]?=some ops[i]:=Array.getElem?_eq_getElem hi;have:i∈Region.ready md ops zl:=mem_ready.2 ⟨hu,ops[i],ho,fun e he _=>ih e.on (nB hb ho e he) (Nat.lt_trans (nB hb ho e he) hi)⟩;rw[hr]at this;cases this
  have hi':i<zl.size:=by omega
  unfold Up;simp only[Array.getD_eq_getD_getElem?,Array.getElem?_eq_getElem hi',Option.getD_some]at hu ⊢;exact hu
def left(zl:Array Bool):Nat:=zl.toList.countP (fun b=>!b)
theorem sX{zl:Array Bool}{i:Nat}(h:zl.getD i true=false):left (zl.setIfInBounds i true)+1=left zl:=by
 have hi:=Up.of_false h;have hv:zl[i]=false:=by simpa [hi] using h
 unfold left;obtain⟨l⟩:=zl;simp only[yd]at hi;simp only[List.getElem_toArray]at hv;simp only[yz];have e1:l=l.take i++l[i]::l.drop (i+1):=by
  rw[<- yx hi,List.take_append_drop]
 have e2:l.set i true=l.take i++true::l.drop (i+1):=List.set_eq_take_append_cons_drop.trans (if_pos hi);rw[e2]
 conv=>rhs;rw[e1]
 rw[List.countP_append,List.countP_append,List.countP_cons,List.countP_cons,hv];simp;omega
theorem vU{zl:Array Bool}(h:left zl=0)(i:Nat):zl.getD i true=true:=by
 cases hu:zl.getD i true
 ·have:=sX hu;omega
 rfl
section
variable {P:Program} {ops:Array Oper} {Q:Exit->Act->World->Prop} {md:Region.Mode}
theorem wT(hb:lR ops=true)(I:Array Bool->Act->World->Prop)
  (cr:∀ zl a w i o,zl.size=ops.size->I zl a w->zl.getD i true=false->ops[i]?=some o->(∀ e∈o.after,Region.binds md e=true->Up zl e.on)->wpOp P ops Q i (I (zl.setIfInBounds i true)) a w)
  (da:∀ zl a w,I zl a w->(∀ i,i<ops.size->Up zl i)->Q .normal a w) :
  ∀ (fuel:Nat) (zl:Array Bool) (a:Act) (w:World),zl.size=ops.size->left zl<=fuel->I zl a w->wpAny P md ops Q fuel zl a w
 |0,zl,a,w,hs,hf,hI=>by
  have hr:Region.ready md ops zl=[]:=by
   refine List.eq_nil_iff_forall_not_mem.2 (fun i hi=>?_);have h1:=(mem_ready.1 hi).1;rw[vU (by omega) i]at h1;cases h1
  exact⟨hr,da zl a w hI (all_up hb hs hr)⟩
 |fuel+1,zl,a,w,hs,hf,hI=>by
  refine⟨fun hr=>da zl a w hI (all_up hb hs hr),fun i hi=>?_⟩;obtain⟨h1,o,ho,zd⟩:=mem_ready.1 hi;refine wpOp_mono (fun a' w' h'=>wT hb I cr da fuel _ a' w' (by rw[Array.size_setIfInBounds];exact hs) (by have:=sX h1;omega) h') (cr zl a w i o hs hI h1 ho zd)
theorem mD(n:Nat):left (Array.replicate n false)=n:=by
 unfold left;simp[List.countP_replicate]
theorem vB{id:Nat}{a:Act}{w:World}(hm:P.follows .mixedOrders=true)(hb:lR ops=true)(I:Array Bool->Act->World->Prop)
  (h0:I (Array.replicate ops.size false) a w.drew)
  (cr:∀ zl a w i o,zl.size=ops.size->I zl a w->zl.getD i true=false->ops[i]?=some o->(∀ e∈o.after,Region.binds .any e=true->Up zl e.on)->wpOp P ops Q i (I (zl.setIfInBounds i true)) a w)
  (da:∀ zl a w,I zl a w->(∀ i,i<ops.size->Up zl i)->Q .normal a w):(Code.region id ops true).wp P Q a w :=
 wp_region_any hm (wT hb I cr da ops.size _ a _ (by simp) (by rw[mD];exact zr) h0)
theorem wp_region_inv'{id:Nat}{a:Act}{w:World}(hm:P.follows .mixedOrders=true)(hb:lR ops=true)(F:Act->Prop)(I:Act->Array Bool->Act->World->Prop)(hF:F a)
  (h0:I a (Array.replicate ops.size false) a w.drew)
  (cr:∀ a0,F a0->∀ zl a w i o,zl.size=ops.size->I a0 zl a w->zl.getD i true=false->ops[i]?=some o->(∀ e∈o.after,Region.binds .any e=true->Up zl e.on)->wpOp P ops Q i (I a0 (zl.setIfInBounds i true)) a w)
  (da:∀ zl a' w',I a zl a' w'->(∀ i,i<ops.size->Up zl i)->Q .normal a' w'):(Code.region id ops true).wp P Q a w :=
 vB hm hb (I a) h0 (cr a hF) da
theorem gC{i:Nat}{o:Oper}{K:Act->World->Prop}{a:Act}{w:World}(ho:ops[i]?=some o)(hg:o.guard=none)(h:o.wp P a w K Q):wpOp P ops Q i K a w:=by
 unfold wpOp;rw[ho];simp only;rw[if_pos (by simp[Region.wanted,hg])];exact .inl h
end
theorem jT(a:Act)(v:Value){t s:Nat}(h:t≠s):(a.put (some t) v).eval (.tmp s)=a.eval (.tmp s):=Act.eval_put (fun _ hd e=>h ((Option.some.inj hd).trans (Operand.tmp.inj e).symm))
theorem iD(a:Act)(v:Value){t:Nat}(h:t<a.tmps.size):(a.put (some t) v).eval (.tmp t)=v:=by simp[Act.eval,Act.put,h]
theorem pE(a:Act)(v:Value)(t:Nat):(a.put (some t) v).tmps.size=a.tmps.size:=by simp[Act.put]
open Go
structure Off(S:List Nat)(a0 a:Act):Prop where
 defers:a.defers=a0.defers
 size:a.tmps.size=a0.tmps.size
 same:∀ t:Nat,t∉S->a.tmps[t]?=a0.tmps[t]?
theorem Off.refl(S:List Nat)(a:Act):Off S a a:=⟨rfl,rfl,fun _ _=>rfl⟩
theorem Off.put{S:List Nat}{a0 a:Act}(h:Off S a0 a){s:Nat}(hs:s∈S)(v:Value):Off S a0 (a.put (some s) v):=by
 refine⟨h.defers,by rw[pE];exact h.size,fun t ht=>?_⟩;have bp:s≠t:=fun e=>ht (e ▸ hs)
 rw[<- h.same t ht];simp[Act.put,bp]
theorem Off.eval{S:List Nat}{a0 a:Act}(h:Off S a0 a){t:Nat}(ht:t∉S):a.eval (.tmp t)=a0.eval (.tmp t):=by
 have:=h.same t ht;simp only[Act.eval,Array.getD_eq_getD_getElem?,this]
theorem Off.form:∀ (S:List Nat) (a0 a:Act),Off S a0 a->a=S.foldl (fun b s=>b.put (some s) (a.tmps.getD s undef)) a0
 | [],a0,a,h=>by
  obtain⟨tmps,df⟩:=a;obtain⟨tmps0,df0⟩:=a0;have h1:=h.defers;dsimp only at h1;subst h1;have h2:tmps=tmps0:=Array.ext_getElem? (fun t=>h.same t (by simp));rw[h2];rfl
 |s::S,a0,a,h=>by
  rw[List.foldl_cons];refine Off.form S _ a ⟨h.defers,by rw[pE];exact h.size,fun t ht=>?_⟩;by_cases el:s=t
  ·subst el;have hz:=h.size;simp only[Act.put,Array.getElem?_setIfInBounds,if_true,Array.getD_eq_getD_getElem?]
   split
   ·next hlt=>
    have:s<a.tmps.size:=by omega
    rw[Array.getElem?_eq_getElem this];rfl
   next hlt=>rw[Array.getElem?_eq_none (by omega)]
  rw[h.same t (by simp only[ym,not_or];exact⟨fun e=>el e.symm,ht⟩)];simp[Act.put,el]
theorem Off.forms{S:List Nat}{a0 a:Act}(h:Off S a0 a):∃ f:Nat->Value,a=S.foldl (fun b s=>b.put (some s) (f s)) a0/\∀ s,f s=a.eval (.tmp s) :=
 ⟨fun s=>a.tmps.getD s undef,Off.form S a0 a h,fun _=>rfl⟩
theorem aE{a:Act}{t:Nat}{v:Value}(h:a.eval (.tmp t)=v):a.tmps[t]?.getD undef=v:=by
 rw[<- h];simp[Act.eval]
def PT(T:List (Nat×Nat×Value))(zl:Array Bool)(a:Act):Prop:=∀ e∈T,Up zl e.1->a.eval (.tmp e.2.1)=e.2.2
theorem pk{T:List (Nat×Nat×Value)}{zl:Array Bool}{a:Act}(hp:PT T zl a)(n:Nat){i s:Nat}{v:Value}(h:T[n]?=some (i,s,v))(hu:Up zl i):a.eval (.tmp s)=v:=hp (i,s,v) (List.mem_of_getElem? h) hu
theorem ud{zl:Array Bool}{o:Oper}(zd:∀ e∈o.after,Region.binds .any e=true->Up zl e.on)(i:Nat)(hm:{ on:=i,ground:=.data }∈o.after:=by simp):Up zl i:=zd _ hm rfl
theorem PT.start(T:List (Nat×Nat×Value))(n:Nat)(a:Act):PT T (Array.replicate n false) a:=fun _ _ h=>absurd h (Up.none _ _)
theorem PT.step{T:List (Nat×Nat×Value)}{zl:Array Bool}{a:Act}(h:PT T zl a){i s:Nat}{v:Value}(hi:i<zl.size)(hs:s<a.tmps.size)(h1:∀ e∈T,e.2.1=s->e.2.2=v)(h2:∀ e∈T,e.1=i->e.2.1=s):PT T (zl.setIfInBounds i true) (a.put (some s) v):=by
 intro e he hu;by_cases hes:s=e.2.1
 ·rw[<- hes,iD _ _ hs,h1 e he hes.symm]
 rw[jT _ _ hes];rcases(Up.set hi).1 hu with hu|hu
 ·exact absurd (h2 e he hu).symm hes
 exact h e he hu
theorem PT.skip{T:List (Nat×Nat×Value)}{zl:Array Bool}{a:Act}(h:PT T zl a){i:Nat}(hi:i<zl.size)(h1:∀ e∈T,e.1≠i):PT T (zl.setIfInBounds i true) a:=by
 intro e he hu;rcases(Up.set hi).1 hu with hu|hu
 ·exact absurd hu (h1 e he)
 exact h e he hu
theorem jO{zl:Array Bool}{i j:Nat}(hi:i<zl.size)(h:Up (zl.setIfInBounds i true) j)(bp:j≠i):Up zl j:=((Up.set hi).1 h).resolve_left bp
theorem eC{zl:Array Bool}{i j:Nat}(hi:i<zl.size)(h:Up zl j):Up (zl.setIfInBounds i true) j:=(Up.set hi).2 (.inr h)
theorem mU{zl:Array Bool}{i:Nat}(hi:i<zl.size):Up (zl.setIfInBounds i true) i:=(Up.set hi).2 (.inl rfl)
theorem gJ{zl:Array Bool}{i:Nat}(aa:zl.getD i true=false):¬ Up zl i:=fun h=>by
 have hi:=Up.of_false aa;unfold Up at h;simp[hi]at aa h;rw[aa]at h;cases h
theorem mV{P:Program}{o:Oper}{a:Act}{w w1:World}{K:Act->World->Prop}{Q:Exit->Act->World->Prop}(v:Value)(hr:(execOp a.eval o).run P w=.ok (.value v) w1)(hk:K (a.put o.dst v) w1):o.wp P a w K Q:=by
 unfold Oper.wp;rw[hr];exact hk
theorem oC{P:Program}{o:Oper}{a:Act}{w w1:World}{K:Act->World->Prop}{Q:Exit->Act->World->Prop}(hr:(execOp a.eval o).run P w=.ok .skip w1)(hk:K (a.put o.dst undef) w1):o.wp P a w K Q:=by
 unfold Oper.wp;rw[hr];exact hk
end Go.Proofs.YtmgjidnalpgegaaGreatDoor
