/-
  Lemmas, part 2: RefA3 PlainW RefA6 RefB4 Val10 Num10 Val12 RsB PlainH PlainJ.
-/
import Derived.Deep.AppendLies
import Derived.Test.YtjfihpaeglpblaaGreatDoorShelfB
import Derived.Lib.AppendIntMem
import Derived.Lib.Walk
import Derived.Lib.Repeat
import Derived.Test.YtjfihpaeglpblaaGreatDoorRv1
set_option maxHeartbeats 100000000
set_option maxRecDepth 1000000
namespace Go.Proofs.YtjfihpaeglpblaaGreatDoor
open Go.RowKit
def Src(w:World)(A:Option Addr)(xs:List Value):Prop:=(A=none->xs=[])/\∀ ad,A=some ad->∀ j u,xs[j]?=some u->w.cell? (ad.add j)=some u
theorem Src.nil(w:World)(A:Option Addr):Src w A []:=⟨fun _=>rfl,fun _ _ j u h=>by simp at h⟩
theorem Src.own{w:World}{base:Nat}{e:TypeId}{A:Option Addr}{n c:Nat}{xs:List Value}(h:w.ownsRow base e 1 (.slice A n c) n xs):Src w A xs:=by
 rcases h.2 with⟨h1,h0⟩|⟨g,cap,cur,h1,_⟩
 ·injection h1 with h1 _ _;subst h1;subst h0;have:xs=[]:=List.eq_nil_of_length_eq_zero (by simpa using h.1);subst this;exact Src.nil _ _
 injection h1 with h1 _ _;subst h1;exact⟨fun h=>(by cases h),fun ad e=>by injection e with e;subst e;exact h.cells rfl⟩
theorem Src.keep{w w':World}{A:Option Addr}{xs:List Value}{B:Nat}(h:Src w A xs)(hB:∀ ad,A=some ad->ad.block<B)(hb:Below B w w'):Src w' A xs :=
 ⟨h.1,fun ad e j u hu=>by
  have hk:(ad.add j).block=ad.block:=by unfold Addr.add;split <;> rfl
  rw[hb.cell (by rw[hk];exact hB ad e)];exact h.2 ad e j u hu⟩
section
variable {P:Program} (w:World)
theorem tI(base:Nat)(t ty e:TypeId)(i:TypeInfo)(z:Value)(bytes:Nat)(ht:P.underlying t=some (.slice e))(hi:P.info? e=some i)(hz:i.zero=some z)
  (o3:i.size=1) (ns:i.bytes=bytes) (hzs:z.cells.size=1)
  (v:Value) (n:Nat) (xs:List Value) (bd:w.ownsRow base e 1 v n xs) (A:Option Addr) (m c:Nat) (news:List Value) (hm:news.length=m) (hr:Src w A news) (h1:∀ u∈news,u.oneCell'=true)
  (h63:n+m<=maxLen) (l8:(n+m)*bytes<=140737488355328) (du:base<=w.heap.size) :
  ∃ v' w',(Builtin.append_ #[t,t] ty #[v,.slice A m c]).run P w=.ok v' w'/\w'.ownsRow base e 1 v' (n+m) (xs++news)/\w.grownBy w' v.ownBlock/\(v'.ownBlock=v.ownBlock\/v'.ownBlock=some w.heap.size):=by
 cases A with
 |none=>
  have hn:=hr.1 rfl;subst hn;obtain rfl:m=0:=by simpa using hm.symm
  refine⟨v,w,?_,by simpa using bd,World.grownBy.refl w _,.inl rfl⟩;rcases bd.2 with⟨rfl,rfl⟩|⟨g,cap,cur,rfl,_,_,hnc,_⟩
  ·simp[Builtin.append_,run_underlying ht,sizeOf,typeInfo,hi,Builtin.lenOf,Builtin.firstCells]
  simp[Builtin.append_,run_underlying ht,sizeOf,typeInfo,hi,Builtin.lenOf,Builtin.firstCells,hnc,storeCells]
 |some ad=>
  obtain⟨v',w',o4,h2,h3,_,h5⟩:=run_append_own_at (P:=P) w base t ty e i z 1 bytes ht hi hz o3 ns hzs (by decide) v n xs bd ad m c news (by rw[Nat.mul_one];exact hm) (hr.2 ad rfl) h1 h63 l8 du;exact⟨v',w',o4,h2,h3,h5⟩
theorem fI{ops:Array Oper}{rest:List Oper}{o:Oper}{a:Act}{Q:Exit->Act->World->Prop}(pr:o.guard=none)(s x:Operand)(t:TypeId)
  (ho:o.op=.call { callee:=.builtin .append,args:=#[s,x],argTypes:=#[t,t] })
  (base:Nat) (e:TypeId) (i:TypeInfo) (z:Value) (bytes:Nat) (ht:P.underlying t=some (.slice e)) (hi:P.info? e=some i) (hz:i.zero=some z)
  (o3:i.size=1) (ns:i.bytes=bytes) (hzs:z.cells.size=1)
  (v:Value) (n:Nat) (xs:List Value) (hs:a.eval s=v) (bd:w.ownsRow base e 1 v n xs)
  (A:Option Addr) (m c:Nat) (news:List Value) (hx:a.eval x=.slice A m c) (hm:news.length=m) (hr:Src w A news) (h1:∀ u∈news,u.oneCell'=true)
  (h63:n+m<=maxLen) (l8:(n+m)*bytes<=140737488355328) (du:base<=w.heap.size)
  (h:∀ v' w',w'.ownsRow base e 1 v' (n+m) (xs++news)->w.grownBy w' v.ownBlock->(v'.ownBlock=v.ownBlock\/v'.ownBlock=some w.heap.size)->wpList P ops Q rest (a.put o.dst v') w'):wpList P ops Q (o::rest) a w :=
 wpList_plain pr fun _ hK=>by
  obtain⟨v',w',o4,h2,h3,h4⟩:=tI (P:=P) w base t o.type e i z bytes ht hi hz o3 ns hzs v n xs bd A m c news hm hr h1 h63 l8 du;unfold Oper.wp execOp;simp only[ho,resolve,invoke,builtin,Sem.run_bind,Sem.run_pure,Result.andThen_ok,List.map_toArray,List.map_cons,List.map_nil,hs,hx,o4];exact hK _ _ (h v' w' h2 h3 h4)
end
def kW(d:Nat):Value:=vI (d:Int)
theorem infoI64:(Tryz.prog.info? 3).map (fun i=>(i.zero,i.size,i.bytes))=some (some (vI 0),1,8):=by kernel_rfl
theorem sF(L:List Nat):∀ u∈L.map kW,u.oneCell'=true:=by
 intro u hu;rw[yj]at hu;obtain⟨d,_,rfl⟩:=hu;rfl
def Own(w:World)(base:Nat)(v:Value)(L:List Nat):Prop:=w.ownsRow base 3 1 v L.length (L.map kW)
theorem Own.slice{w:World}{base:Nat}{v:Value}{L:List Nat}(h:Own w base v L):∃ A c,v=.slice A L.length c/\Src w A (L.map kW)/\(∀ ad,A=some ad->base<=ad.block/\ad.block<w.heap.size):=by
 rcases h.2 with⟨rfl,h0⟩|⟨g,cap,cur,rfl,hg,hh,_⟩
 ·refine⟨none,0,by rw[h0],?_,fun ad e=>by cases e⟩;have:L=[]:=List.eq_nil_of_length_eq_zero h0;subst this;exact Src.nil _ _
 exact⟨some ⟨g,0,none⟩,cap,rfl,Src.own h,fun ad e=>by injection e with e;subst e;exact⟨hg,(zk.1 hh).1⟩⟩
theorem oX(w:World)(u:Value)(base:Nat)(h:base<=w.heap.size)(n:Nat)(hn:n=w.heap.size):(w.alloc (.cells #[u] 3)).ownsRow base 3 1 (.slice (some ⟨n,0,none⟩) 1 1) 1 [u]:=by
 subst hn;refine⟨rfl,.inr ⟨w.heap.size,1,#[u],rfl,h,Lies.new _ _ _,zr,by decide,rfl,rfl⟩⟩
theorem rS(n:Int)(w:World)(h1:-9223372036854775808<=n)(h2:n<=9223372036854775807) :
  Calls Tryz.prog 189 #[vI n] w fun e w'=>∃ v,e=.returned v/\Own w' w.heap.size v (dl n.natAbs)/\Below w.heap.size w w':=by
 obtain⟨i0,hi,m9,i9,lq⟩:=info_parts infoI64;have hlen:(dl n.natAbs).length<=20:=oU _ (by omega);have qn:=zh hlen;clear hlen;generalize hD:dl n.natAbs=D at *;have HD:=zh hD;clear hD
 go_in
 go_wp2_with fail
 go_loopw [0,3] (fun x v wr=>∃ (m:Int) (L:List Nat),x=vI m/\-9223372036854775808<=m/\m<=9223372036854775807/\Hid (Own wr w.heap.size v L)/\Hid (dl m.natAbs++L=D)/\Hid (Below w.heap.size w wr)) (fun x _ _=>(intOf x).natAbs)
 case atStart=>exact⟨n,[],rfl,h1,h2,zh ⟨rfl,.inl ⟨rfl,rfl⟩⟩,zh (by rw[List.append_nil];exact HD.out),zh zB⟩
 case round=>
  obtain⟨m,L,rfl,tm,xy,bd,hq,dh⟩:=hrel;by_cases h0:m=0
  ·subst h0;have hL:Hid (L=D):=zh (by have:=hq.out;simpa [uDS] using this)
   go_wp2_with fail
   go_ret
   exact⟨_,rfl,by rw[<- hL.out];exact bd.out,dh.out⟩
  have b0:(m != 0)=true:=by rw[bne_iff_ne];exact h0
  obtain⟨A,c,rfl,hsrc,hA⟩:=bd.out.slice;have HSrc:=zh hsrc;have HA:=zh hA;clear hsrc hA h0;have vh:L.length<=20:=by
   have h3:=qn.out;rw[<- hq.out,yl]at h3;omega
  have ol:m≠0:=by simpa using b0
  by_cases ij:0<=m
  ·go_wp2_with (at_builtin;refine fI _ rfl (.tmp 14) (.tmp 15) 150 rfl w.heap.size 3 i0 (vI 0) 8 Tryz.underlying150 hi m9 i9 lq rfl (.slice (some ⟨wr.heap.size,0,none⟩) 1 1) 1 [vI (m % 10)] rfl (oX _ _ _ dh.out.size _ rfl) A L.length c (L.map kW) rfl (by simp) ?src (sF L) ?c3 ?c4 ?c5 ?_)
   case src=>exact HSrc.out.keep (B:=wr.heap.size) (fun ad e=>(HA.out ad e).2) (zp _)
   case c3=>unfold maxLen;omega
   case c4=>omega
   case c5=>have:=dh.out.size;simp;omega
   intro v' w1 ct i5 _;have hO:Hid (Own w1 w.heap.size v' (m.natAbs % 10::L)):=zh (by
    have e:kW (m.natAbs % 10)=vI (m % 10):=by unfold kW;congr 1;omega
    unfold Own;rw[List.map_cons,e,yi,Nat.add_comm];exact ct)
   have ab:Hid (Below w.heap.size w w1):=zh ((dh.out.alloc dh.out.size _).grown i5 (by have:=dh.out.size;simp;omega) (fun k h=>by simp[Value.ownBlock]at h;have:=dh.out.size;omega));clear ct i5
   go_wp2_with fail
   go_roundw
   case rel=>exact⟨m / 10,m.natAbs % 10::L,rfl,by omega,by omega,hO,zh (by rw[show (m / 10).natAbs=m.natAbs / 10 by omega,<- hq.out,iO m.natAbs (by omega),List.append_assoc];rfl),ab⟩
   case measure=>simp[intOf];omega
  obtain⟨q,d,hmq,hd10⟩:∃ q d:Nat,m=-(10*(q:Int)+d)/\d<10:=⟨m.natAbs / 10,m.natAbs % 10,by omega,by omega⟩
  have HM:=zh hmq;have htd:m.tdiv 10=-(q:Int):=by
   rw[hmq,Int.neg_tdiv,Int.tdiv_eq_ediv_of_nonneg (by omega)];omega
  have htm:m.tmod 10=-(d:Int):=by
   rw[hmq,Int.neg_tmod,Int.tmod_eq_emod_of_nonneg (by omega)];omega
  have hqb:(q:Int)<=922337203685477580:=by omega
  clear hmq;by_cases qo:d=0
  ·subst qo;simp only[Int.natCast_zero,Int.neg_zero]at htm
   go_wp2_with (at_builtin;refine fI _ rfl (.tmp 14) (.tmp 15) 150 rfl w.heap.size 3 i0 (vI 0) 8 Tryz.underlying150 hi m9 i9 lq rfl (.slice (some ⟨wr.heap.size,0,none⟩) 1 1) 1 [vI (0)] rfl (oX _ _ _ dh.out.size _ rfl) A L.length c (L.map kW) rfl (by simp) ?src (sF L) ?c3 ?c4 ?c5 ?_)
   case src=>exact HSrc.out.keep (B:=wr.heap.size) (fun ad e=>(HA.out ad e).2) (zp _)
   case c3=>unfold maxLen;omega
   case c4=>omega
   case c5=>have:=dh.out.size;simp;omega
   intro v' w1 ct i5 _;have hO:Hid (Own w1 w.heap.size v' (m.natAbs % 10::L)):=zh (by
    have e:kW (m.natAbs % 10)=vI (0):=by unfold kW;congr 1;have:=HM.out;omega
    unfold Own;rw[List.map_cons,e,yi,Nat.add_comm];exact ct)
   have ab:Hid (Below w.heap.size w w1):=zh ((dh.out.alloc dh.out.size _).grown i5 (by have:=dh.out.size;simp;omega) (fun k h=>by simp[Value.ownBlock]at h;have:=dh.out.size;omega));clear ct i5
   go_wp2_with fail
   go_roundw
   case rel=>exact⟨-(q:Int),m.natAbs % 10::L,rfl,by have:=HM.out;omega,by have:=HM.out;omega,hO,zh (by rw[show (-(q:Int)).natAbs=m.natAbs / 10 by have:=HM.out;omega,<- hq.out,iO m.natAbs (by omega),List.append_assoc];rfl),ab⟩
   case measure=>simp[intOf];have:=HM.out;omega
  have hdp:0<(d:Int):=by omega
  go_wp2_with (at_builtin;refine fI _ rfl (.tmp 14) (.tmp 15) 150 rfl w.heap.size 3 i0 (vI 0) 8 Tryz.underlying150 hi m9 i9 lq rfl (.slice (some ⟨wr.heap.size,0,none⟩) 1 1) 1 [vI ((d:Int))] rfl (oX _ _ _ dh.out.size _ rfl) A L.length c (L.map kW) rfl (by simp) ?src (sF L) ?c3 ?c4 ?c5 ?_)
  case src=>exact HSrc.out.keep (B:=wr.heap.size) (fun ad e=>(HA.out ad e).2) (zp _)
  case c3=>unfold maxLen;omega
  case c4=>omega
  case c5=>have:=dh.out.size;simp;omega
  intro v' w1 ct i5 _;have hO:Hid (Own w1 w.heap.size v' (m.natAbs % 10::L)):=zh (by
   have e:kW (m.natAbs % 10)=vI ((d:Int)):=by unfold kW;congr 1;have:=HM.out;omega
   unfold Own;rw[List.map_cons,e,yi,Nat.add_comm];exact ct)
  have ab:Hid (Below w.heap.size w w1):=zh ((dh.out.alloc dh.out.size _).grown i5 (by have:=dh.out.size;simp;omega) (fun k h=>by simp[Value.ownBlock]at h;have:=dh.out.size;omega));clear ct i5
  go_wp2_with fail
  go_roundw
  case rel=>exact⟨-(q:Int),m.natAbs % 10::L,rfl,by have:=HM.out;omega,by have:=HM.out;omega,hO,zh (by rw[show (-(q:Int)).natAbs=m.natAbs / 10 by have:=HM.out;omega,<- hq.out,iO m.natAbs (by omega),List.append_assoc];rfl),ab⟩
  case measure=>simp[intOf];have:=HM.out;omega
def OfIn(w:World)(m e:Int)(w':World):Prop :=
 w.heap.size+1<w'.heap.size/\w'.cell? ⟨w.heap.size,0,none⟩=some (vI m)/\w'.cell? ⟨w.heap.size,1,none⟩=some (vI e) /\
 w'.cell? ⟨w.heap.size+1,0,none⟩=some (.bool false)/\w'.cell? ⟨w.heap.size+1,1,none⟩=some (.slice none 0 0)/\w'.cell? ⟨w.heap.size+1,2,none⟩=some (vI 0) /\
 w'.frozen? ⟨w.heap.size+1,0,none⟩=false/\w'.frozen? ⟨w.heap.size+1,1,none⟩=false/\w'.frozen? ⟨w.heap.size+1,2,none⟩=false/\Below w.heap.size w w'
theorem OfIn.start(w:World)(m e:Int):OfIn w m e ((w.alloc (.cells #[vI m,vI e] 23)).alloc (.cells #[.bool false,.slice none 0 0,vI 0] 181)) :=
 ⟨by simp,by simp,by simp,by simp,by simp,by simp,by simp,by simp,by simp,((Below.refl _ w).alloc zr _).alloc (by simp) _⟩
theorem OfIn.next{w w' w'':World}{m e:Int}(h:OfIn w m e w')(hb:Below w'.heap.size w' w''):OfIn w m e w'':=by
 obtain⟨h1,h2,h3,h4,h5,h6,h7,h8,h9,wh⟩:=h;have hs:=hb.size;exact⟨by omega,(hb.cell (p:=⟨_,_,none⟩) (by show w.heap.size<_;omega)).trans h2,(hb.cell (p:=⟨_,_,none⟩) (by show w.heap.size<_;omega)).trans h3,
  (hb.cell (p:=⟨_,_,none⟩) (by show w.heap.size+1<_;omega)).trans h4,(hb.cell (p:=⟨_,_,none⟩) (by show w.heap.size+1<_;omega)).trans h5,(hb.cell (p:=⟨_,_,none⟩) (by show w.heap.size+1<_;omega)).trans h6,
  (hb.frozen (p:=⟨_,_,none⟩) (by show w.heap.size+1<_;omega)).trans h7,(hb.frozen (p:=⟨_,_,none⟩) (by show w.heap.size+1<_;omega)).trans h8,(hb.frozen (p:=⟨_,_,none⟩) (by show w.heap.size+1<_;omega)).trans h9,
  zU wh hb⟩
theorem OfIn.drew{w w':World}{m e:Int}(h:OfIn w m e w'):OfIn w m e w'.drew:=h.next zB.drew
theorem Own.mono{w:World}{base B:Nat}{v:Value}{L:List Nat}(h:Own w base v L)(hB:B<=base):Own w B v L:=by
 obtain⟨h1,h2⟩:=h;refine⟨h1,?_⟩;rcases h2 with h2|⟨g,cap,cur,hv,hg,r⟩
 ·exact .inl h2
 exact .inr ⟨g,cap,cur,hv,by omega,r⟩
theorem Own.put{w:World}{base:Nat}{v:Value}{L:List Nat}(h:Own w base v L){a:Addr}(ha:a.block<base)(u:Value):Own (w.setCell a u) base v L:=ownsRow_setCell_below h ha u
def OfPost(m e:Int)(w:World)(x:Ending)(w':World):Prop:=∃ v,x=.returned (.agg #[.bool (decide (m<0)),v,vI e])/\Own w' w.heap.size v (dl m.natAbs)/\Below w.heap.size w w'
theorem rOf_any(m e:Int)(w:World)(h1:-9223372036854775808<=m)(h2:m<=9223372036854775807) :
  Calls Tryz.prog 129 #[wX m e] w fun x w'=>OfPost m e w x w':=by
 have T0:=zh (OfIn.start w m e);have HD:=zh (fun W=>rS m W h1 h2);clear h1 h2
 go_in
 go_wp2_with fail
 have T1:=T0.out.drew;clear T0;obtain⟨g0,g1,g2,g3,g4,g5,g6,g7,g8,g9⟩:=id T1
 go_region_law (have _:=T1;go_simp;go_at_call 189;refine(HD.out _).mono ?_;rintro x w1 ⟨v,rfl,bd,hb⟩;have HO:=zh (Own.mono bd (B:=w.heap.size+2) (by show w.heap.size+1<_;exact g0));obtain⟨A,c,rfl,-,-⟩:=bd.slice;clear bd;have T2:=OfIn.next T1 hb;clear hb T1 g0 g1 g2 g3 g4 g5 g6 g7 g8 g9;obtain⟨g0,g1,g2,g3,g4,g5,g6,g7,g8,g9⟩:=id T2)
 all_goals go_wp2_with fail
 all_goals refine yt (v:=.agg #[.bool (decide (m<0)),.slice A (dl m.natAbs).length c,vI e]) (by simp[results,Tryz.results129,go_sem,g3,g4,g5]) rfl ?_
 all_goals refine⟨_,rfl,?_,((g9.setCell (p:=⟨w.heap.size+1,0,none⟩) (by show w.heap.size<=w.heap.size+1;omega) _).setCell (p:=⟨w.heap.size+1,1,none⟩) (by show w.heap.size<=w.heap.size+1;omega) _).setCell (p:=⟨w.heap.size+1,2,none⟩) (by show w.heap.size<=w.heap.size+1;omega) _⟩
 all_goals exact(((HO.out.put (a:=⟨w.heap.size+1,0,none⟩) (by show w.heap.size+1<w.heap.size+2;omega) _).put (a:=⟨w.heap.size+1,1,none⟩) (by show w.heap.size+1<w.heap.size+2;omega) _).put (a:=⟨w.heap.size+1,2,none⟩) (by show w.heap.size+1<w.heap.size+2;omega) _).mono (by omega)
theorem uAT(b:Bool)(A:Option Addr)(n c:Nat)(e:Int)(W:World):(Instr.field 181 (.agg #[.bool b,.slice A n c,vI e]) 1).run Tryz.prog W=.ok (.slice A n c) W:=by kernel_rfl
def NumIn(w:World)(m e:Int)(w':World):Prop:=w.heap.size<w'.heap.size/\w'.cell? ⟨w.heap.size,0,none⟩=some (vI m)/\w'.cell? ⟨w.heap.size,1,none⟩=some (vI e)/\Below w.heap.size w w'
theorem NumIn.start(w:World)(m e:Int):NumIn w m e (w.alloc (.cells #[vI m,vI e] 23)):=⟨by simp,by simp,by simp,(Below.refl _ w).alloc zr _⟩
theorem NumIn.next{w w' w'':World}{m e:Int}(h:NumIn w m e w')(hb:Below w'.heap.size w' w''):NumIn w m e w'':=by
 obtain⟨h1,h2,h3,h4⟩:=h;have hs:=hb.size;exact⟨by omega,(hb.cell (p:=⟨_,_,none⟩) h1).trans h2,(hb.cell (p:=⟨_,_,none⟩) h1).trans h3,zU h4 hb⟩
theorem NumIn.drew{w w':World}{m e:Int}(h:NumIn w m e w'):NumIn w m e w'.drew:=h.next zB.drew
theorem uGY(m:Int):m.tmod 10=0↔m.natAbs % 10=0:=by
 rcases Int.le_total 0 m with h|h
 ·rw[Int.tmod_eq_emod_of_nonneg h];omega
 obtain⟨k,rfl⟩:∃ k:Int,m=-k:=⟨-m,by omega⟩
 rw[Int.neg_tmod,Int.tmod_eq_emod_of_nonneg (by omega)];omega
theorem uBR(m e:Int)(h0:m≠0):bI m e=(decide (m<1000000000000000)&&decide (-1000000000000000<m)&&decide (m.natAbs % 10≠0)&&decide (-40<=e)&&decide (e<=40)&&decide (((dl m.natAbs).length:Int)+e<=40)):=by
 unfold bI;rw[if_neg h0,dl_len];by_cases hb:m.natAbs<1000000000000000
 ·have hp:0<m.natAbs:=by omega
  have hd:=uX m.natAbs hp hb;have tz:=rU m.natAbs hp;rw[hd,decide_eq_true hb,decide_eq_true (by omega:m<1000000000000000),decide_eq_true (by omega:-1000000000000000<m)];by_cases hs:(fB m.natAbs:Int)+e<=40
  ·rw[decide_eq_true hs,decide_eq_true (by omega:e<40),decide_eq_true (by omega:e<=40)];simp
  rw[decide_eq_false hs];simp
 rw[decide_eq_false hb];by_cases hc:m<1000000000000000
 ·rw[decide_eq_false (by omega:¬ -1000000000000000<m)];simp
 rw[decide_eq_false hc];simp
theorem tF(m e:Int)(w:World)(h1:-9223372036854775808<=m)(h2:m<=9223372036854775807) :
  Calls Tryz.prog 67 #[wX m e] w fun x w'=>x=.returned (.bool (bI m e))/\Below w.heap.size w w':=by
 have HB:Hid (Below w.heap.size w (w.alloc (.cells #[vI m,vI e] 23))):=zh ((Below.refl _ w).alloc zr _);by_cases h0:m=0
 ·have hr:Hid (bI m e=decide (e=0)):=zh (if_pos h0);subst h0;generalize bI 0 e=r at *
  go_in
  go_wp2_with fail
  go_ret
  exact⟨aA (by rw[hr.out];rfl),HB.out⟩
 have HR:=zh (uBR m e h0);have HOf:=zh (fun W=>rOf_any m e W h1 h2);have hlen:(dl m.natAbs).length<=20:=oU _ (by omega);generalize bI m e=r at *;have b0:(m==0)=false:=by rw[beq_eq_false_iff_ne];exact h0
 have T0:=zh (NumIn.start w m e);have hz:=uGY m;have HZ:=zh hz;have H0:=zh h0;clear hz h0;by_cases c1:m<1000000000000000
 ·by_cases c2:-1000000000000000<m
  ·rw[decide_eq_true c1,decide_eq_true c2]at HR;have d1:decide ((1000000000000000:Int)<=m)=false:=by simp;omega
   have d2:decide (m<=-1000000000000000)=false:=by simp;omega
   by_cases c3:m.natAbs % 10=0
   ·rw[decide_eq_false (fun h=>h c3)]at HR;have hr:Hid (r=false):=zh (by rw[HR.out];simp);have t3:(m.tmod 10==0)=true:=by rw[beq_iff_eq];exact HZ.out.2 c3
    have t4:(m % 10==0)=true:=by rw[beq_iff_eq];omega
    clear HR c3 c1 c2;by_cases hp:0<=m
    all_goals
     go_in
     go_wp2_with fail
     go_ret
     exact⟨aA (by rw[hr.out]),HB.out⟩
   rw[decide_eq_true c3]at HR;have t3:(m.tmod 10==0)=false:=by rw[beq_eq_false_iff_ne];exact fun h=>c3 (HZ.out.1 h)
   have t4:(m % 10==0)=false:=by rw[beq_eq_false_iff_ne];omega
   clear c3 c1 c2;by_cases c4:-40<=e
   ·by_cases c5:e<=40
    ·rw[decide_eq_true c4,decide_eq_true c5]at HR;have hr:Hid (r=decide (((dl m.natAbs).length:Int)+e<=40)):=zh (by rw[HR.out];rfl);clear HR HZ;have vk:=uAT;have hw:IntKind.i64.wrap (((dl m.natAbs).length:Int)+e)=((dl m.natAbs).length:Int)+e:=IntWalk.i64_in _ (by omega);by_cases hp:0<=m
     all_goals
      go_in
      go_wp2_with fail
      go_region_held3 (fun w'=>w.heap.size<w'.heap.size/\w'.cell? ⟨w.heap.size,0,none⟩=some (vI m)/\w'.cell? ⟨w.heap.size,1,none⟩=some (vI e)/\Below w.heap.size w w')
       (first|exact T0.out|exact T0.out.drew|exact(NumIn.next T0.out.drew hb) |(go_split_ands;exact(NumIn.next (w:=w) ⟨by assumption,by assumption,by assumption,by assumption⟩ hb)))
       ((go_at_call 129;refine(HOf.out _).mono ?_;rintro x wx ⟨v,rfl,bd,hb⟩;obtain⟨A,c,rfl,-,-⟩:=bd.slice;clear bd))
      all_goals go_wp2_with fail
      all_goals go_ret
      all_goals refine⟨aA (by rw[hr.out]),?_⟩
      all_goals first|assumption |(go_split_ands;assumption)
    rw[decide_eq_false c5]at HR;have hr:Hid (r=false):=zh (by rw[HR.out];simp);have d5:decide ((40:Int)<e)=true:=by simp;omega
    clear HR;by_cases hp:0<=m
    all_goals
     go_in
     go_wp2_with fail
     go_ret
     exact⟨aA (by rw[hr.out]),HB.out⟩
   rw[decide_eq_false c4]at HR;have hr:Hid (r=false):=zh (by rw[HR.out];simp);have d4:decide (e<(-40:Int))=true:=by simp;omega
   clear HR;by_cases hp:0<=m
   all_goals
    go_in
    go_wp2_with fail
    go_ret
    exact⟨aA (by rw[hr.out]),HB.out⟩
  rw[decide_eq_false c2]at HR;have hr:Hid (r=false):=zh (by rw[HR.out];simp);have d1:decide ((1000000000000000:Int)<=m)=false:=by simp;omega
  have d2:decide (m<=-1000000000000000)=true:=by simp;omega
  clear HR c1 c2
  go_in
  go_wp2_with fail
  go_ret
  exact⟨aA (by rw[hr.out]),HB.out⟩
 rw[decide_eq_false c1]at HR;have hr:Hid (r=false):=zh (by rw[HR.out];simp);have d1:decide ((1000000000000000:Int)<=m)=true:=by simp;omega
 clear HR c1
 go_in
 go_wp2_with fail
 go_ret
 exact⟨aA (by rw[hr.out]),HB.out⟩
theorem dlen_le{n m:Nat}(h:n<10 ^ m):fB n<=m:=by
 rcases Nat.eq_zero_or_pos n with z|z
 ·rw[z,oV];omega
 have:=jY (Nat.lt_of_le_of_lt (rE n z) h);omega
def ISl(w:World)(base:Nat)(A:Option Addr)(cap:Nat)(ds:List Nat):Prop :=
 ds.length<=cap/\cap<=maxLen/\(0<ds.length->∃ b off,A=some ⟨b,off,none⟩/\base<=b/\b<w.heap.size/\∀ j (h:j<ds.length),w.cell? ⟨b,off+j,none⟩=some (kW ds[j])/\w.frozen? ⟨b,off+j,none⟩=false)
def IRow(w:World)(b off:Nat)(L:List Nat):Prop:=∀ j (h:j<L.length),w.cell? ⟨b,off+j,none⟩=some (kW L[j])/\w.frozen? ⟨b,off+j,none⟩=false
theorem IRow.sl{w:World}{b off base cap:Nat}{L:List Nat}(h:IRow w b off L)(h1:base<=b)(h2:b<w.heap.size)(h3:L.length<=cap)(h4:cap<=maxLen):ISl w base (some ⟨b,off,none⟩) cap L:=⟨h3,h4,fun _=>⟨b,off,rfl,h1,h2,h⟩⟩
theorem own_isl{w:World}{base B:Nat}{v:Value}{ds:List Nat}(h:w.ownsRow B 3 1 v ds.length (ds.map kW))(hB:base<=B)(h0:0<ds.length):∃ g cap,v=.slice (some ⟨g,0,none⟩) ds.length cap/\ISl w base (some ⟨g,0,none⟩) cap ds/\IRow w g 0 ds:=by
 rcases h.2 with⟨_,h1⟩|⟨g,cap,cur,rfl,hg,hh,hnc,wj,fp,ht⟩
 ·omega
 have bq:IRow w g 0 ds:=by
  intro j hj;have hl:Lies w g 3 cur:=hh;refine⟨?_,hl.frozen _⟩;rw[hl.cell,Nat.zero_add];have h2:(cur.toList.take (ds.length*1))[j]?=(ds.map kW)[j]?:=by rw[ht]
  rw[Nat.mul_one,List.getElem?_take_of_lt hj,List.getElem?_map,List.getElem?_eq_getElem hj]at h2;simpa using h2
 have hlt:g<w.heap.size:=(zk.1 hh).1;exact⟨g,cap,rfl,bq.sl (by omega) hlt hnc wj,bq⟩
def aW(v:Val):Bool :=
 !((decide (v.kind≠1)&&!(decide (v.mant=0)&&decide (v.exp=0)))||(decide (v.kind≠2)&&decide (v.text≠[]))||(decide (v.kind≠3)&&v.truth)||(decide (v.kind≠4)&&decide (v.fault≠0))) &&
 (if v.kind=1 then bI v.mant v.exp else if v.kind=2 then decide (v.text.length<=255) else decide (v.kind=0)||decide (v.kind=3)||(decide (v.kind=4)&&decide (1<=v.fault)&&decide (v.fault<=9)))
def rW:List Bs:=(List.range 10).map jQ
theorem yU(w:World) :
  Calls Tryz.prog 182 #[] w fun e w'=>∃ g,e=.returned (.slice (some ⟨g,0,none⟩) 10 10)/\w.heap.size<=g/\Lies w' g 9 (rW.map fun s=>Value.string ⟨s.toArray⟩).toArray/\Below w.heap.size w w':=by
 go_in
 go_wp2
 go_ret
 exact⟨w.heap.size,rfl,zr,Lies.new w 9 _,(Below.refl _ w).alloc zr _⟩
theorem xY{w:World}{g:Nat}(h:Lies w g 9 (rW.map fun s=>Value.string ⟨s.toArray⟩).toArray)(k:Nat)(hk:k<10):w.cell? ⟨g,k,none⟩=some (vT (jQ k)):=by
 rw[h.cell];simp[rW,hk]
def bD(a b:Val):Bool:=(a.kind==b.kind)&&(a.mant==b.mant)&&(a.exp==b.exp)&&(a.text==b.text)&&(a.truth==b.truth)&&(a.fault==b.fault)
theorem tS(a:Val):bD a a=true:=by simp[bD]
theorem gT(a b:Val):bD a b=true↔a=b:=by
 constructor
 ·intro h;obtain⟨k,m,x,t,tr,f⟩:=a;obtain⟨k2,m2,x2,t2,tr2,f2⟩:=b;simp[bD]at h;obtain⟨⟨⟨⟨⟨rfl,rfl⟩,rfl⟩,rfl⟩,rfl⟩,rfl⟩:=h;rfl
 intro h;rw[h];exact tS b
theorem mJ(a b:Val)(w:World):(binOp .eql 25 (iK a) (iK b)).run Tryz.prog w=.ok (.bool (bD a b)) w:=by
 obtain⟨k,m,x,t,tr,f⟩:=a;obtain⟨k2,m2,x2,t2,tr2,f2⟩:=b
 go_simp
 by_cases h0:k=k2
 case neg=>simp[bD,h0]
 by_cases h1:m=m2
 case neg=>simp[bD,h0,h1]
 by_cases h2:x=x2
 case neg=>simp[bD,h0,h1,h2]
 by_cases h3:t=t2
 case neg=>simp[bD,h0,h1,h2,h3]
 by_cases h4:tr=tr2
 case neg=>simp[bD,h0,h1,h2,h3,h4]
 by_cases h5:f=f2
 case neg=>simp[bD,h0,h1,h2,h3,h4,h5]
 simp[bD,h0,h1,h2,h3,h4,h5]
theorem uCL(a b:Val)(w:World) :
  Calls Tryz.prog 115 #[iK a,iK b] w fun e w'=>e=.returned (.bool (bD a b))/\Below w.heap.size w w':=by
 have HN:Hid (∀ W,(binOp .eql 25 (iK a) (iK b)).run Tryz.prog W=.ok (.bool (bD a b)) W):=zh (mJ a b);generalize bD a b=r at *;obtain⟨k,m,x,t,tr,f⟩:=a;obtain⟨k2,m2,x2,t2,tr2,f2⟩:=b;have hE:=HN.out;dsimp only[iK,lN]at hE
 go_in
 go_wp2_with fail
 go_ret
 exact⟨rfl,((Below.refl _ w).alloc zr _).alloc (by simp) _⟩
theorem eI(k m x:Int)(t:Bs)(tr:Bool)(f k2 m2 x2:Int)(t2:Bs)(tr2:Bool)(f2:Int)(w:World) :
  (binOp .eql 25 (.agg #[vI k,vI m,vI x,vT t,.bool tr,vI f]) (.agg #[vI k2,vI m2,vI x2,vT t2,.bool tr2,vI f2])).run Tryz.prog w=.ok (.bool (bD ⟨k,m,x,t,tr,f⟩ ⟨k2,m2,x2,t2,tr2,f2⟩)) w :=
 mJ ⟨k,m,x,t,tr,f⟩ ⟨k2,m2,x2,t2,tr2,f2⟩ w
def ValIn(w:World)(a:Val)(w':World):Prop:=w.heap.size<w'.heap.size/\w'.cell? ⟨w.heap.size,0,none⟩=some (vI a.kind)/\w'.cell? ⟨w.heap.size,1,none⟩=some (vI a.mant)/\w'.cell? ⟨w.heap.size,2,none⟩=some (vI a.exp)/\w'.cell? ⟨w.heap.size,3,none⟩=some (vT a.text)/\w'.cell? ⟨w.heap.size,4,none⟩=some (.bool a.truth)/\w'.cell? ⟨w.heap.size,5,none⟩=some (vI a.fault)/\Below w.heap.size w w'
theorem ValIn.start(w:World)(a:Val):ValIn w a (w.alloc (.cells (lN a) 25)):=by
 have hL:Lies (w.alloc (.cells (lN a) 25)) w.heap.size 25 (lN a):=Lies.new _ _ _;exact⟨by simp,hL.cell 0,hL.cell 1,hL.cell 2,hL.cell 3,hL.cell 4,hL.cell 5,(Below.refl _ w).alloc zr _⟩
theorem ValIn.next{w w' w'':World}{a:Val}(h:ValIn w a w')(hb:Below w'.heap.size w' w''):ValIn w a w'':=by
 obtain⟨h0,h1,h2,h3,h4,h5,h6,h7⟩:=h;have hs:=hb.size;have k0:∀ i,w''.cell? ⟨w.heap.size,i,none⟩=w'.cell? ⟨w.heap.size,i,none⟩:=fun i=>hb.cell (p:=⟨_,_,none⟩) (by show w.heap.size<_;omega)
 exact⟨by omega,(k0 0).trans h1,(k0 1).trans h2,(k0 2).trans h3,(k0 3).trans h4,(k0 4).trans h5,(k0 5).trans h6,zU h7 hb⟩
theorem ValIn.drew{w w':World}{a:Val}(h:ValIn w a w'):ValIn w a w'.drew:=h.next zB.drew
theorem oK(v:Val)(h:v.kind=0):aW v=bD v ⟨0,0,0,[],false,0⟩:=by
 obtain⟨k,m,x,t,tr,f⟩:=v;dsimp only at h;subst h;rw[ze];simp[aW,bD]
theorem tR(v:Val)(h:v.kind=1):aW v=(bI v.mant v.exp&&bD v (rH v.mant v.exp)):=by
 obtain⟨k,m,x,t,tr,f⟩:=v;dsimp only at h;subst h;rw[ze];simp[aW,bD,rH];constructor
 ·rintro⟨⟨⟨rfl,rfl⟩,rfl⟩,h⟩;simp[h]
 rintro⟨h,⟨rfl,rfl⟩,rfl⟩;simp[h]
theorem qV(v:Val)(h:v.kind=2):aW v=bD v (qW v.text):=by
 obtain⟨k,m,x,t,tr,f⟩:=v;dsimp only at h;subst h;unfold qW;by_cases hl:255<t.length
 ·rw[if_pos hl];have:¬ t.length<=255:=by omega
  simp[aW,bD,rA,this]
 rw[if_neg hl];have:t.length<=255:=by omega
 rw[ze];simp[aW,bD,this]
theorem oN(v:Val)(h:v.kind=3):aW v=bD v (nJ v.truth):=by
 obtain⟨k,m,x,t,tr,f⟩:=v;dsimp only at h;subst h;rw[ze];simp[aW,bD,nJ]
theorem oL(v:Val)(h:v.kind=4):aW v=bD v (rA v.fault):=by
 obtain⟨k,m,x,t,tr,f⟩:=v;dsimp only at h;subst h;unfold rA;by_cases hf:f<1\/9<f
 ·rw[if_pos hf];rcases hf with h|h
  ·have h1:¬ 1<=f:=by omega
   have h2:¬ f=9:=by omega
   simp[aW,bD,h1,h2]
  have h1:¬ f<=9:=by omega
  have h2:¬ f=9:=by omega
  simp[aW,bD,h1,h2]
 rw[if_neg hf];have h1:1<=f:=by omega
 have h2:f<=9:=by omega
 rw[ze];simp[aW,bD,h1,h2]
theorem oM(v:Val)(h0:v.kind≠0)(h1:v.kind≠1)(h2:v.kind≠2)(h3:v.kind≠3)(h4:v.kind≠4):aW v=false:=by
 simp[aW,h0,h1,h2,h3,h4]
theorem qX(a:Val)(w:World)(h1:-9223372036854775808<=a.mant)(h2:a.mant<=9223372036854775807)(hl:a.text.length<=1000000) :
  Calls Tryz.prog 59 #[iK a] w fun x w'=>x=.returned (.bool (aW a))/\Below w.heap.size w w':=by
 have T0:=zh (ValIn.start w a);have HB:=zh T0.out.2.2.2.2.2.2.2;have HR:=zh (fun W=>pK a.mant a.exp W h1 h2);have HO:=zh (fun W=>of_any a.mant a.exp W);have HTx:=zh (fun W=>text_any a.text W hl);have HTr:=zh (fun W=>wD a.truth W);have HBd:=zh (fun W=>uDN a.fault W);have P0:=zh (oK a);have P1:=zh (tR a);have P2:=zh (qV a);have P3:=zh (oN a);have P4:=zh (oL a);have P5:=zh (oM a);have hE:=eI;generalize aW a=r at *;clear h1 h2 hl;obtain⟨k,m,x,t,tr,f⟩:=a;dsimp only at P0 P1 P2 P3 P4 P5 HR HO HTx HTr HBd;by_cases k0:k=0
 ·have hr:=zh (P0.out k0);subst k0
  go_in
  go_wp2_with fail
  go_ret
  exact⟨aA (by rw[hr.out]),HB.out⟩
 have b0:(k==0)=false:=by rw[beq_eq_false_iff_ne];exact k0
 by_cases k1:k=1
 ·have hr:=zh (P1.out k1);subst k1;clear k0 b0;cases hp:bI m x
  ·rw[hp]at HR hr;clear hp
   go_in
   go_wp2_with fail
   have T1:=T0.out.drew;obtain⟨g0,g1,g2,g3,g4,g5,g6,g7⟩:=id T1;dsimp only at g1 g2 g3 g4 g5 g6
   first
    |(go_region_law (have _:=T1;go_simp;go_at_call 109;refine(HR.out _).mono ?_;rintro e w1 ⟨rfl,hb⟩;have T2:=ValIn.next T1 hb;clear hb T1 g0 g1 g2 g3 g4 g5 g6 g7;obtain⟨g0,g1,g2,g3,g4,g5,g6,g7⟩:=id T2))
    |fail
   all_goals go_wp2_with fail
   all_goals go_ret
   all_goals exact⟨aA (by rw[hr.out];rfl),g7⟩
  rw[hp]at HR hr;clear hp
  go_in
  go_wp2_with fail
  go_region_held3 (fun w'=>w.heap.size<w'.heap.size/\w'.cell? ⟨w.heap.size,0,none⟩=some (vI 1)/\w'.cell? ⟨w.heap.size,1,none⟩=some (vI m)/\w'.cell? ⟨w.heap.size,2,none⟩=some (vI x)/\w'.cell? ⟨w.heap.size,3,none⟩=some (vT t)/\w'.cell? ⟨w.heap.size,4,none⟩=some (.bool tr)/\w'.cell? ⟨w.heap.size,5,none⟩=some (vI f)/\Below w.heap.size w w')
   (first|exact T0.out|exact T0.out.drew|exact(ValIn.next T0.out.drew hb) |(go_split_ands;exact(ValIn.next (w:=w) (a:=⟨1,m,x,t,tr,f⟩) ⟨by assumption,by assumption,by assumption,by assumption,by assumption,by assumption,by assumption,by assumption⟩ hb)))
   (first |(go_at_call 109;refine(HR.out _).mono ?_;rintro e wx ⟨rfl,hb⟩) |(go_at_call 110;refine(HO.out _).mono ?_;rintro e wx ⟨rfl,hb⟩;unfold rH))
  all_goals go_wp2_with fail
  all_goals go_ret
  all_goals refine⟨aA (by rw[hr.out] <;> rfl),?_⟩
  all_goals first|assumption |(go_split_ands;assumption)
 have b1:(k==1)=false:=by rw[beq_eq_false_iff_ne];exact k1
 by_cases k2:k=2
 ·have hr:=zh (P2.out k2);subst k2;clear k0 b0 k1 b1;generalize qW t=q at *;obtain⟨qk,qm,qx,qt,qtr,qf⟩:=q
  go_in
  go_wp2_with fail
  go_region_held3 (fun w'=>w.heap.size<w'.heap.size/\w'.cell? ⟨w.heap.size,0,none⟩=some (vI 2)/\w'.cell? ⟨w.heap.size,1,none⟩=some (vI m)/\w'.cell? ⟨w.heap.size,2,none⟩=some (vI x)/\w'.cell? ⟨w.heap.size,3,none⟩=some (vT t)/\w'.cell? ⟨w.heap.size,4,none⟩=some (.bool tr)/\w'.cell? ⟨w.heap.size,5,none⟩=some (vI f)/\Below w.heap.size w w')
   (first|exact T0.out|exact T0.out.drew|exact(ValIn.next T0.out.drew hb) |(go_split_ands;exact(ValIn.next (w:=w) (a:=⟨2,m,x,t,tr,f⟩) ⟨by assumption,by assumption,by assumption,by assumption,by assumption,by assumption,by assumption,by assumption⟩ hb)))
   ((go_at_call 65;refine(HTx.out _).mono ?_;rintro e wx ⟨rfl,hb⟩))
  all_goals go_wp2_with fail
  all_goals go_ret
  all_goals refine⟨aA (by rw[hr.out] <;> rfl),?_⟩
  all_goals first|assumption |(go_split_ands;assumption)
 have b2:(k==2)=false:=by rw[beq_eq_false_iff_ne];exact k2
 by_cases k3:k=3
 ·have hr:=zh (P3.out k3);subst k3;clear k0 b0 k1 b1 k2 b2
  go_in
  go_wp2_with fail
  go_region_held3 (fun w'=>w.heap.size<w'.heap.size/\w'.cell? ⟨w.heap.size,0,none⟩=some (vI 3)/\w'.cell? ⟨w.heap.size,1,none⟩=some (vI m)/\w'.cell? ⟨w.heap.size,2,none⟩=some (vI x)/\w'.cell? ⟨w.heap.size,3,none⟩=some (vT t)/\w'.cell? ⟨w.heap.size,4,none⟩=some (.bool tr)/\w'.cell? ⟨w.heap.size,5,none⟩=some (vI f)/\Below w.heap.size w w')
   (first|exact T0.out|exact T0.out.drew|exact(ValIn.next T0.out.drew hb) |(go_split_ands;exact(ValIn.next (w:=w) (a:=⟨3,m,x,t,tr,f⟩) ⟨by assumption,by assumption,by assumption,by assumption,by assumption,by assumption,by assumption,by assumption⟩ hb)))
   ((go_at_call 111;refine(HTr.out _).mono ?_;rintro e wx ⟨rfl,hb⟩;unfold nJ))
  all_goals go_wp2_with fail
  all_goals go_ret
  all_goals refine⟨aA (by rw[hr.out] <;> rfl),?_⟩
  all_goals first|assumption |(go_split_ands;assumption)
 have b3:(k==3)=false:=by rw[beq_eq_false_iff_ne];exact k3
 by_cases k4:k=4
 ·have hr:=zh (P4.out k4);subst k4;clear k0 b0 k1 b1 k2 b2 k3 b3;generalize rA f=q at *;obtain⟨qk,qm,qx,qt,qtr,qf⟩:=q
  go_in
  go_wp2_with fail
  go_region_held3 (fun w'=>w.heap.size<w'.heap.size/\w'.cell? ⟨w.heap.size,0,none⟩=some (vI 4)/\w'.cell? ⟨w.heap.size,1,none⟩=some (vI m)/\w'.cell? ⟨w.heap.size,2,none⟩=some (vI x)/\w'.cell? ⟨w.heap.size,3,none⟩=some (vT t)/\w'.cell? ⟨w.heap.size,4,none⟩=some (.bool tr)/\w'.cell? ⟨w.heap.size,5,none⟩=some (vI f)/\Below w.heap.size w w')
   (first|exact T0.out|exact T0.out.drew|exact(ValIn.next T0.out.drew hb) |(go_split_ands;exact(ValIn.next (w:=w) (a:=⟨4,m,x,t,tr,f⟩) ⟨by assumption,by assumption,by assumption,by assumption,by assumption,by assumption,by assumption,by assumption⟩ hb)))
   ((go_at_call 112;refine(HBd.out _).mono ?_;rintro e wx ⟨rfl,hb⟩))
  all_goals go_wp2_with fail
  all_goals go_ret
  all_goals refine⟨aA (by rw[hr.out] <;> rfl),?_⟩
  all_goals first|assumption |(go_split_ands;assumption)
 have b4:(k==4)=false:=by rw[beq_eq_false_iff_ne];exact k4
 have hr:=zh (P5.out k0 k1 k2 k3 k4);clear k0 k1 k2 k3 k4
 go_in
 go_wp2_with fail
 go_ret
 exact⟨aA (by rw[hr.out]),HB.out⟩
open Go.RowKit Go.Sort Go.Lib
abbrev PowTab(w:World):Prop:=Lib.TabIs Tryz.prog w "internal/strconv.uint64pow10" .u64 Lib.pow10Tab
theorem ifmt_any(u:Nat)(t6:u<18446744073709551616)(w:World)(htab:PowTab w) :
  Calls Tryz.prog 241 #[.int .u64 u,vI 10] w fun e w'=>e=.returned (vT (Lib.decDigits u))/\Below w.heap.size w w':=by
 by_cases hs:u<100
 ·go_in
  go_wp2_with fail
  refine(Tryz.internal_strconv_small u hs _).mono ?_;rintro e w' ⟨rfl,rfl⟩
  go_wp2_with fail
  go_ret
  exact⟨rfl,Below.refl _ _⟩
 have hu1:1<=u:=by omega
 have hnd20:Lib.nDigits u<=20:=by have:=Lib.numDigits_eq u hu1 t6;split at this <;> omega
 have wk:Tryz.prog.arrayLen 249=24:=by kernel_rfl
 have hsl1:∀ W,(Instr.sliceAt 249 (vP w.heap.size 0) none (some (vI (Lib.nDigits u:Int))) none).run Tryz.prog W=.ok (.slice (some ⟨w.heap.size,0,none⟩) (Lib.nDigits u) 24) W:=fun W=>by
  rw[run_sliceAt_array_h W 249 ⟨w.heap.size,0,none⟩ (by kernel_rfl) .i64 (Lib.nDigits u:Int) (by omega) (by rw[wk];omega)]
  go_simp
 have hH0:=Lib.holds_zero0 w 249 (Lib.nDigits u) (by omega);have hfmt:=Tryz.internal_strconv_formatBase10 w.heap.size 0 24 u (Array.replicate (Lib.nDigits u) 0) (w.alloc (.cells Lib.zeros24 249)) hH0 (by rw[Array.size_replicate];exact Lib.lt_pow_nDigits u) t6 (by rw[Array.size_replicate];omega);rw[Array.size_replicate]at hfmt;have HH0:=zh hH0;have Hfmt:=zh hfmt;clear hH0 wk hfmt
 go_in
 go_wp2_with fail
 refine(Tryz.internal_strconv_numDigits u hu1 t6 _ (Lib.tabIs_alloc htab _)).mono ?_;rintro e w' ⟨rfl,rfl⟩
 go_wp2_with fail
 refine Hfmt.out.mono ?_;rintro e w' ⟨rfl,k,v',dk,rfl,hF⟩;have hcv:(convert 110 9 (.slice (some ⟨w.heap.size,0,none⟩) (Lib.nDigits u) 24)).run Tryz.prog ((putRow (fun(b:UInt8)=>Value.int .u8 (b.toNat:Int)) (w.alloc (.cells Lib.zeros24 249)) w.heap.size 0 dk).drewN k)=.ok (vT (Lib.decDigits u)) ((putRow (fun(b:UInt8)=>Value.int .u8 (b.toNat:Int)) (w.alloc (.cells Lib.zeros24 249)) w.heap.size 0 dk).drewN k):=by
  have h:=run_convert_bytes_back (P:=Tryz.prog) ((putRow (fun(b:UInt8)=>Value.int .u8 (b.toNat:Int)) (w.alloc (.cells Lib.zeros24 249)) w.heap.size 0 dk).drewN k) 110 9 5 ⟨w.heap.size,0,none⟩ 24 (Lib.decDigits u) Tryz.underlying110 Tryz.underlying5 Tryz.underlying9 (fun j hj=>by
   rw[Lib.row_is_numeral hF j hj,Lib.add_plain,World.cell?_drewN];exact cell?_putRow (fun(b:UInt8)=>Value.int .u8 (b.toNat:Int)) _ w.heap.size 0 _ dk HH0.out (by rw[hF.size,Array.size_replicate]) j (by rw[hF.size];rw[Lib.decDigits_length]at hj;exact hj))
  rw[Lib.decDigits_length]at h;exact h
 obtain⟨os,eo⟩:=Lib.fin_at w (.cells Lib.zeros24 249) dk k 0;have HB:Hid (Below w.heap.size w ((putRow (fun(b:UInt8)=>Value.int .u8 (b.toNat:Int)) (w.alloc (.cells Lib.zeros24 249)) w.heap.size 0 dk).drewN k)):=zh (by rw[eo];exact Lib.below_grow _ w zr k os);clear eo Hfmt HH0
 go_wp2_with fail
 go_ret
 exact⟨rfl,HB.out⟩
theorem fmt_any(u:Nat)(t6:u<18446744073709551616)(w:World)(htab:PowTab w) :
  Calls Tryz.prog 218 #[.int .u64 u,vI 10] w fun e w'=>e=.returned (vT (Lib.decDigits u))/\Below w.heap.size w w':=by
 go_in
 go_wp2_with fail
 refine(ifmt_any u t6 _ htab).mono ?_;rintro e w' ⟨rfl,hb⟩
 go_wp2_with fail
 go_ret
 exact⟨rfl,hb⟩
theorem pI{x:ByteArray}{y:Bs}(h:x.data.toList=y):Ending.returned (.string x)=.returned (vT y):=by rw[<- h]
def bL(m e:Int):Bs :=
 let t:=Lib.decDigits m.natAbs
 let s:=if m<0 then [45] else []
 if 0<=e then s++t++List.replicate e.toNat 48
 else if 0<(t.length:Int)+e then s++t.take ((t.length:Int)+e).toNat++[46]++t.drop ((t.length:Int)+e).toNat
 else s++[48,46]++List.replicate (-((t.length:Int)+e)).toNat 48++t
theorem qN(c:UInt8):∀ n,Lib.repeatL [c] n=List.replicate n c
 |0=>rfl
 |n+1=>by rw[Lib.repeatL,qN c n];rfl
theorem uEI(k:Nat)(w:World)(hk:k<=1000000) :
  Calls Tryz.prog 219 #[vS #[48],vI k] w fun e w'=>e=.returned (vT (List.replicate k 48))/\Below w.heap.size w w':=by
 have h:=Tryz.strings_Repeat ⟨#[48]⟩ k w (by omega) (by show 1*k<=_;omega);rw[show Lib.repeatL (⟨#[48]⟩:ByteArray).data.toList k=List.replicate k 48 from qN 48 k]at h;exact h
theorem gPow:Tryz.prog.globalNamed "internal/strconv.uint64pow10"=some 4:=by kernel_rfl
theorem PowTab.next{w w':World}(h:PowTab w)(hb:Below w.heap.size w w'):PowTab w':=by
 unfold PowTab Lib.TabIs World.var? at *;rw[gPow]at h ⊢;simp only[Option.bind_some]at h ⊢;have hlt:4<w.heap.size:=by
  rcases Nat.lt_or_ge 4 w.heap.size with h'|h'
  ·exact h'
  rw[Array.getElem?_eq_none h']at h;cases h
 rw[hb.block _ hlt];exact h
def MaxVar(w:World):Prop:=∃ m,w.cell? ⟨1,0,none⟩=some (vI m)
theorem rB{w:World}{b o:Nat}{v:Value}(h:w.cell? ⟨b,o,none⟩=some v):b<w.heap.size:=by
 rcases Nat.lt_or_ge b w.heap.size with h1|h1
 ·exact h1
 simp[World.cell?,Array.getElem?_eq_none h1]at h
theorem MaxVar.next{w w':World}(h:MaxVar w)(hb:Below w.heap.size w w'):MaxVar w':=by
 obtain⟨m,hm⟩:=h;exact⟨m,(hb.cell (p:=⟨_,_,none⟩) (rB hm)).trans hm⟩
theorem lA(m e:Int)(w:World)(ht:PowTab w)(h1:-9223372036854775808<=m)(h2:m<=9223372036854775807)(hR:bI m e=true) :
  Calls Tryz.prog 181 #[wX m e] w fun x w'=>x=.returned (vT (bL m e))/\Below w.heap.size w w':=by
 have ke:-40<=e/\e<=40:=by
  by_cases z:m=0
  ·unfold bI at hR;rw[if_pos z]at hR;simp at hR;omega
  have:=gQ hR z;omega
 obtain⟨ke1,ke2⟩:=ke;have CR:=zh (fun W=>pK m e W h1 h2);rw[hR]at CR;have T0:=zh (NumIn.start w m e);have om:Hid (PowTab (w.alloc (.cells #[vI m,vI e] 23))):=zh (ht.next ((Below.refl _ w).alloc zr _));have CS:=zh (fun W=>zK m W h1 h2);have CF:=zh (fun W (h:PowTab W)=>fmt_any m.natAbs (by omega) W h);have el:1<=(Lib.decDigits m.natAbs).length:=by rw[Lib.decDigits_length,Lib.nDigits];split <;> omega
 have xz:(Lib.decDigits m.natAbs).length<=20:=by
  rw[Lib.decDigits_length];by_cases z:m.natAbs=0
  ·rw[z,Lib.nDigits_small (by omega)];omega
  have:=Lib.numDigits_eq m.natAbs (by omega) (by omega);split at this <;> omega
 have HN:Hid (bL m e=if 0<=e then (if m<0 then [45] else [])++Lib.decDigits m.natAbs++List.replicate e.toNat 48
  else if 0<((Lib.decDigits m.natAbs).length:Int)+e then (if m<0 then [45] else [])++(Lib.decDigits m.natAbs).take (((Lib.decDigits m.natAbs).length:Int)+e).toNat++[46]++(Lib.decDigits m.natAbs).drop (((Lib.decDigits m.natAbs).length:Int)+e).toNat
  else (if m<0 then [45] else [])++[48,46]++List.replicate (-(((Lib.decDigits m.natAbs).length:Int)+e)).toNat 48++Lib.decDigits m.natAbs):=zh rfl
 generalize bL m e=r at *;clear ht h1 h2 hR;generalize Lib.decDigits m.natAbs=t at *
 go_in
 go_wp2_with fail
 refine(CR.out _).mono ?_;rintro x w1 ⟨rfl,hb⟩;have T1:=zh (T0.out.next hb);have rn:=zh (om.out.next hb);clear hb T0 om CR;obtain⟨g0,g1,g2,-⟩:=T1.out
 go_wp2_with fail
 refine(CS.out _).mono ?_;rintro x w2 ⟨rfl,rfl⟩
 go_wp2_with fail
 refine(CF.out _ rn.out).mono ?_;rintro x w2 ⟨rfl,hb⟩;have T2:=zh (T1.out.next hb);clear hb T1 rn CS CF g0 g1 g2;obtain⟨g0,g1,g2,-⟩:=T2.out
 go_upto_if 15 with fail
 go_cut [4] (fun v wx=>v=vT (if m<0 then [45] else []:Bs)/\wx=w2)
 case first=>
  by_cases hm:m<0
  ·go_wp2_with fail
   go_meet
   exact⟨by rw[if_pos hm],rfl⟩
  go_wp2_with fail
  go_meet
  exact⟨by rw[if_neg (by omega)],rfl⟩
 case rest=>
  obtain⟨rfl,rfl⟩:=hcut;have hsg:(if m<0 then [45] else []:Bs).length<=1:=by split <;> decide
  generalize (if m<0 then [45] else []:Bs)=sg at *;by_cases he:0<=e
  ·obtain⟨k,rfl⟩:∃ k:Nat,e=k:=⟨e.toNat,by omega⟩
   have hN:Hid (r=sg++t++List.replicate k 48):=zh (by rw[HN.out,if_pos he];rfl);clear HN
   go_wp2_with fail
   refine(uEI k _ (by omega)).mono ?_;rintro x w3 ⟨rfl,hb⟩;have hrl:(List.replicate k (48:UInt8)).length<=40:=by rw[List.length_replicate];omega
   generalize List.replicate k (48:UInt8)=z at *;have HB:Hid (Below w.heap.size w w3):=zh (T2.out.next hb).2.2.2;clear hb T2
   go_wp2_with fail
   go_ret
   exact⟨pI (by rw[hN.out];simp),HB.out⟩
  by_cases hw:0<(t.length:Int)+e
  ·obtain⟨n,hn⟩:∃ n:Nat,(t.length:Int)+e=n:=⟨((t.length:Int)+e).toNat,by omega⟩
   have hN:Hid (r=sg++t.take n++[46]++t.drop n):=zh (by rw[HN.out,if_neg he,if_pos hw,hn];rfl);have vm:n<=t.length:=by omega
   clear HN
   go_wp2_with fail
   go_region
   all_goals go_wp2_with fail
   all_goals go_ret
   all_goals exact⟨pI (by rw[hN.out];simp),T2.out.2.2.2.drew⟩
  obtain⟨k,hk⟩:∃ k:Nat,(t.length:Int)+e=-(k:Int):=⟨(-((t.length:Int)+e)).toNat,by omega⟩
  have hN:Hid (r=sg++[48,46]++List.replicate k 48++t):=zh (by rw[HN.out,if_neg he,if_neg hw,hk,Int.neg_neg];rfl);clear HN
  go_wp2_with fail
  refine(uEI k _ (by omega)).mono ?_;rintro x w3 ⟨rfl,hb⟩;have hrl:(List.replicate k (48:UInt8)).length<=40:=by rw[List.length_replicate];omega
  generalize List.replicate k (48:UInt8)=z at *;have HB:Hid (Below w.heap.size w w3):=zh (T2.out.next hb).2.2.2;clear hb T2
  go_wp2_with fail
  go_ret
  exact⟨pI (by rw[hN.out];simp),HB.out⟩
def dF(v:Val):Bs×Int :=
 if v.kind=1 then (bL v.mant v.exp,0) else if v.kind=2 then (v.text,0) else if v.kind=3 then (if v.truth then lP else noB,0) else if v.kind=4 then ([],v.fault) else ([],0)
theorem uCU(v:Val)(w:World)(ht:PowTab w)(h1:-9223372036854775808<=v.mant)(h2:v.mant<=9223372036854775807)(hR:v.kind=1->bI v.mant v.exp=true) :
  Calls Tryz.prog 114 #[iK v] w fun x w'=>x=.returned (.tuple #[vS ((dF v).1.toArray),vI (dF v).2])/\Below w.heap.size w w':=by
 have HN:Hid (dF v=if v.kind=1 then (bL v.mant v.exp,0) else if v.kind=2 then (v.text,0) else if v.kind=3 then (if v.truth then lP else noB,0) else if v.kind=4 then ([],v.fault) else ([],0)):=zh rfl;generalize dF v=r at *;have HB:Hid (Below w.heap.size w (w.alloc (.cells (lN v) 25))):=zh ((Below.refl _ w).alloc zr _);have HT:Hid (PowTab (w.alloc (.cells (lN v) 25))):=zh (ht.next ((Below.refl _ w).alloc zr _));obtain⟨k,m,x,t,tr,f⟩:=v;dsimp only at HN h1 h2 hR;clear ht;by_cases k1:k=1
 ·subst k1;have hN:Hid (r=(bL m x,0)):=zh (by rw[HN.out];rfl);have C:=zh (fun W h=>lA m x W h h1 h2 (hR rfl));clear HN h1 h2 hR
  go_in
  go_wp2_with fail
  refine(C.out _ HT.out).mono ?_;rintro e w1 ⟨rfl,hb⟩;have bi:Hid (Below w.heap.size w w1):=zT HB hb;clear hb HT
  go_wp2_with fail
  refine yt (v:=.tuple #[vT (bL m x),vI 0]) (by simp[results,Tryz.results114,go_sem]) rfl ?_;exact⟨by rw[hN.out],bi.out⟩
 have b1:(k==1)=false:=by rw[beq_eq_false_iff_ne];exact k1
 clear hR HT h1 h2;by_cases k2:k=2
 ·subst k2;have hN:Hid (r=(t,0)):=zh (by rw[HN.out];rfl);clear HN k1
  go_in
  go_wp2_with fail
  refine yt (v:=.tuple #[vT t,vI 0]) (by simp[results,Tryz.results114,go_sem]) rfl ?_;exact⟨by rw[hN.out],HB.out⟩
 have b2:(k==2)=false:=by rw[beq_eq_false_iff_ne];exact k2
 by_cases k3:k=3
 ·subst k3;have hN:Hid (r=(if tr then lP else noB,0)):=zh (by rw[HN.out];rfl);clear HN k1 k2;cases tr
  ·go_in
   go_wp2_with fail
   refine yt (v:=.tuple #[vT noB,vI 0]) (by simp[results,Tryz.results114,go_sem,noB]) rfl ?_;exact⟨by rw[hN.out];rfl,HB.out⟩
  go_in
  go_wp2_with fail
  refine yt (v:=.tuple #[vT lP,vI 0]) (by simp[results,Tryz.results114,go_sem,lP]) rfl ?_;exact⟨by rw[hN.out];rfl,HB.out⟩
 have b3:(k==3)=false:=by rw[beq_eq_false_iff_ne];exact k3
 by_cases k4:k=4
 ·subst k4;have hN:Hid (r=([],f)):=zh (by rw[HN.out];rfl);clear HN k1 k2 k3
  go_in
  go_wp2_with fail
  go_region
  all_goals go_wp2_with fail
  all_goals refine yt (v:=.tuple #[vS #[],vI f]) (by simp[results,Tryz.results114,go_sem]) rfl ?_
  all_goals exact⟨by rw[hN.out],HB.out.drew⟩
 have b4:(k==4)=false:=by rw[beq_eq_false_iff_ne];exact k4
 have hN:Hid (r=([],0)):=zh (by rw[HN.out,if_neg k1,if_neg k2,if_neg k3,if_neg k4]);clear HN k1 k2 k3 k4
 go_in
 go_wp2_with fail
 refine yt (v:=.tuple #[vS #[],vI 0]) (by simp[results,Tryz.results114,go_sem]) rfl ?_;exact⟨by rw[hN.out],HB.out⟩
def uEL(v:Val):Bs:=if v.kind=4 then aY v.fault else (dF v).1
theorem zJ(v:Val)(w:World)(ht:Tab w)(hp:PowTab w)(h1:-9223372036854775808<=v.mant)(h2:v.mant<=9223372036854775807)(hR:v.kind=1->bI v.mant v.exp=true) :
  Calls Tryz.prog 60 #[iK v] w fun x w'=>x=.returned (vT (uEL v))/\Below w.heap.size w w':=by
 have HN:Hid (uEL v=if v.kind=4 then aY v.fault else (dF v).1):=zh rfl;have C:=zh (fun W h=>uCU v W h h1 h2 hR);have HB:Hid (Below w.heap.size w (w.alloc (.cells (lN v) 25))):=zh ((Below.refl _ w).alloc zr _);have HT:Hid (PowTab (w.alloc (.cells (lN v) 25))):=zh (hp.next ((Below.refl _ w).alloc zr _));have HF:Hid (Tab (w.alloc (.cells (lN v) 25))):=zh (ht.alloc _);generalize uEL v=r at *;generalize (dF v).2=q at *;generalize (dF v).1=s at *;clear hR h1 h2 ht hp;obtain⟨k,m,x,t,tr,f⟩:=v;dsimp only at HN;by_cases k4:k=4
 ·subst k4;have hN:Hid (r=aY f):=zh (by rw[HN.out];rfl);clear HN C HT
  go_in
  go_wp2_with fail
  refine(iV f _ HF.out).mono ?_;rintro e w1 ⟨rfl,rfl⟩
  go_wp2_with fail
  go_ret
  exact⟨by rw[hN.out];rfl,HB.out⟩
 have hN:Hid (r=s):=zh (by rw[HN.out,if_neg k4]);have b4:(k==4)=false:=by rw[beq_eq_false_iff_ne];exact k4
 clear HN k4 HF
 go_in
 go_wp2_with fail
 refine(C.out _ HT.out).mono ?_;rintro e w1 ⟨rfl,hb⟩;have bi:Hid (Below w.heap.size w w1):=zT HB hb;clear hb HT
 go_wp2_with fail
 go_ret
 exact⟨by rw[hN.out];rfl,bi.out⟩
def VBox(W:World)(q:Nat)(v:Val)(w':World):Prop :=
 w'.cell? ⟨q,0,none⟩=some (vI v.kind)/\w'.cell? ⟨q,1,none⟩=some (vI v.mant)/\w'.cell? ⟨q,2,none⟩=some (vI v.exp)/\w'.cell? ⟨q,3,none⟩=some (vT v.text)/\w'.cell? ⟨q,4,none⟩=some (.bool v.truth)/\w'.cell? ⟨q,5,none⟩=some (vI v.fault)/\q<w'.heap.size/\Below W.heap.size W w'
theorem VBox.next{W:World}{q:Nat}{v:Val}{w w':World}(h:VBox W q v w)(hb:Below w.heap.size w w'):VBox W q v w':=by
 obtain⟨a1,a2,a3,a4,a5,a6,h1,b⟩:=h;have hs:=hb.size;exact⟨(hb.cell (p:=⟨_,_,none⟩) h1).trans a1,(hb.cell (p:=⟨_,_,none⟩) h1).trans a2,(hb.cell (p:=⟨_,_,none⟩) h1).trans a3,(hb.cell (p:=⟨_,_,none⟩) h1).trans a4,(hb.cell (p:=⟨_,_,none⟩) h1).trans a5,(hb.cell (p:=⟨_,_,none⟩) h1).trans a6,by omega,zU b hb⟩
abbrev kI:Array Value:=#[vI 2,vI 0,vI 0,vS #[84,82,85,69],.bool false,vI 0]
def mM:Val:=⟨2,0,0,[84,82,85,69],false,0⟩
theorem isQ_any(w:World):Calls Tryz.prog 61 #[.agg kI] w fun e w'=>e=.returned (.bool true)/\Below w.heap.size w w':=by
 have af:Hid (Below w.heap.size w (w.alloc (.cells kI 25))):=zh ((Below.refl _ w).alloc zr _);have oj:Hid (Lies (w.alloc (.cells kI 25)) w.heap.size 25 kI):=zh (Lies.new w _ _);have CRd:Hid (∀ W,Below w.heap.size w W->Calls Tryz.prog 66 #[vS #[84,82,85,69]] W fun z w'=>z=.returned (.agg #[vI 3,vI 0,vI 0,vS #[],.bool true,vI 0])/\Below W.heap.size W w'):=zh (fun W _=>read_T W);have CSm:Hid (∀ W,Calls Tryz.prog 115 #[.agg #[vI 3,vI 0,vI 0,vS #[],.bool true,vI 0],.agg kI] W fun e w'=>e=.returned (.bool false)/\Below W.heap.size W w'):=zh (fun W=>by
  have h1:=uCL (nJ true) mM W;rw[show bD (nJ true) mM=false from by kernel_rfl]at h1;exact h1)
 have T0:Hid (VBox (w.alloc (.cells kI 25)) w.heap.size mM (w.alloc (.cells kI 25))):=zh ⟨oj.out.cell 0,oj.out.cell 1,oj.out.cell 2,oj.out.cell 3,oj.out.cell 4,oj.out.cell 5,oj.out.lt,Below.refl _ _⟩;clear oj
 go_in
 go_upto_region 1 with fail
 generalize w.alloc (.cells kI 25)=W at *;generalize dw:w.heap.size=q at *;obtain⟨y0,y1,y2,y3,y4,y5,y6,-⟩:=T0.out;dsimp only[mM]at y0 y1 y2 y3 y4 y5
 go_cut [2] (fun b wx=>b=.bool true/\Hid (VBox W q mM wx))
 case first=>
  have K2:Hid (∀ W',Below W.heap.size W W'->Calls Tryz.prog 66 #[vS #[84,82,85,69]] W' fun z w'=>z=.returned (.agg #[vI 3,vI 0,vI 0,vS #[],.bool true,vI 0])/\Below W'.heap.size W' w'):=zh (fun W' hb=>CRd.out W' (af.out.trans (hb.mono (dw ▸ af.out.size))));clear y0 y1 y2 y3 y4 y5 y6 CRd
  go_region_held3 (fun w'=>w'.cell? ⟨q,0,none⟩=some (vI 2)/\w'.cell? ⟨q,1,none⟩=some (vI 0)/\w'.cell? ⟨q,2,none⟩=some (vI 0)/\w'.cell? ⟨q,3,none⟩=some (vS #[84,82,85,69])/\w'.cell? ⟨q,4,none⟩=some (.bool false)/\w'.cell? ⟨q,5,none⟩=some (vI 0)/\q<w'.heap.size/\Below W.heap.size W w')
   (first|exact T0.out|exact T0.out.next zB.drew|exact(VBox.next (VBox.next T0.out zB.drew) hb) |(go_split_ands;exact(VBox.next (W:=W) (v:=mM) ⟨by assumption,by assumption,by assumption,by assumption,by assumption,by assumption,by assumption,by assumption⟩ hb)))
   (first
    |(go_at_call 66;(with_reducible refine(K2.out _ ?hbw).mono ?_);(case hbw=>(first|assumption|exact zB.drew |(go_split_ands;assumption)));rintro z wx ⟨rfl,hb⟩)
    |(go_at_call 115;(with_reducible refine(CSm.out _).mono ?_);rintro z wx ⟨rfl,hb⟩))
  all_goals go_wp2_with fail
  all_goals go_meet
  all_goals refine⟨rfl,zh ?_⟩
  all_goals first|exact⟨by assumption,by assumption,by assumption,by assumption,by assumption,by assumption,by assumption,by assumption⟩ |(go_split_ands;exact⟨by assumption,by assumption,by assumption,by assumption,by assumption,by assumption,by assumption,by assumption⟩)
 case rest=>
  obtain⟨rfl,hc⟩:=hcut;clear y0 y1 y2 y3 y4 y5 y6 T0;obtain⟨y0,y1,y2,y3,y4,y5,y6,hbw⟩:=hc.out;have HBf:=zh (af.out.trans (hbw.mono (dw ▸ af.out.size)));clear hbw hc CRd CSm
  go_wp2_with fail
  go_ret
  exact⟨rfl,dw ▸ HBf.out⟩
theorem uFX(n k:Nat):rhe (n*10 ^ k) k=n:=by
 have hp:0<10 ^ k:=Nat.pow_pos (by decide);unfold rhe;rw[Nat.mul_mod_left,Nat.mul_div_cancel _ hp,if_neg (by omega)]
theorem vH(n:Nat)(h:n % 10≠0):∀ (j:Nat) (e:Int),qJ (n*10 ^ j) e=(n,e+j)
 |0,e=>by rw[Nat.pow_zero,Nat.mul_one,uBT n e h];simp
 |j+1,e=>by
  have hn:0<n:=by omega
  have hp:0<n*10 ^ j:=Nat.mul_pos hn (Nat.pow_pos (by decide));have he:n*10 ^ (j+1)=(n*10 ^ j)*10:=by rw[Nat.pow_succ,Nat.mul_assoc]
  rw[he,uBS _ _ (by omega) (Nat.mul_mod_left _ _),Nat.mul_div_cancel _ (by decide),vH n h j]
  congr 1
  omega
theorem dlen_pow(n:Nat)(h:0<n)(j:Nat):fB (n*10 ^ j)=fB n+j:=by
 have h1:=uDT n;have h2:=rE n h;have h3:=rU n h;refine wP (by omega) ?_ ?_
 ·rw[show fB n+j-1=(fB n-1)+j by omega,Nat.pow_add];exact Nat.mul_le_mul_right _ h2
 rw[Nat.pow_add];exact Nat.mul_lt_mul_of_pos_right h1 (Nat.pow_pos (by decide))
theorem mZ(neg:Bool)(n j:Nat)(e:Int)(h:n % 10≠0)(h15:fB n<=15)(he:-40<=e)(hT:(fB n:Int)+(e+j)<=40) :
  sV neg (n*10 ^ j) e=some (if neg then -(n:Int) else n,e+j):=by
 have hn:0<n:=by omega
 obtain⟨k,hk,h1⟩:∃ k,k<=j/\lB (n*10 ^ j) e=(n*10 ^ (j-k),e+k):=by
  unfold lB;rw[dlen_pow n hn];by_cases hb:15<fB n+j
  ·refine⟨fB n+j-15,by omega,?_⟩;rw[if_pos hb];have:n*10 ^ j=n*10 ^ (j-(fB n+j-15))*10 ^ (fB n+j-15):=by
    rw[Nat.mul_assoc,<- Nat.pow_add]
    congr 2
    omega
   rw[this,uFX]
  refine⟨0,zm _,?_⟩;rw[if_neg hb];simp
 have h2:qG (n*10 ^ (j-k)) (e+k)=(n*10 ^ (j-k),e+k):=by
  unfold qG;rw[if_neg (by omega)]
 unfold sV;rw[h1,h2,vH n h];unfold uED;rw[if_neg (by show ¬ n=0;omega),if_neg (by show ¬ (40:Int)<(fB n:Int)+(e+k+((j-k:Nat):Int));omega)]
 congr 2
 show e+k+((j-k:Nat):Int)=e+j;omega
theorem oF(p:UInt8->Bool)(r:Bs):∀ (D:Bs),(∀ c∈D,p c=true)->bA p (D++r)=D.length+bA p r
 | [],_=>by simp
 |c::D,h=>by
  have h1:=h c (by simp);have ih:=oF p r D (fun x hx=>h x (by simp[hx]));rw[yp,yi];simp only[bA,h1,if_true,ih];omega
def AllDig(D:Bs):Prop:=∀ c∈D,aB c=true
def sgB(neg:Bool):Bs:=if neg then [45] else []
theorem AllDig.app{A B:Bs}(h:AllDig A)(k:AllDig B):AllDig (A++B):=fun c hc=>(List.mem_append.1 hc).elim (h c) (k c)
theorem AllDig.zeros(n:Nat):AllDig (List.replicate n 48):=fun c hc=>by rw[(List.mem_replicate.1 hc).2];decide
theorem AllDig.take{A:Bs}(h:AllDig A)(n:Nat):AllDig (A.take n):=fun c hc=>h c (List.mem_of_mem_take hc)
theorem AllDig.drop{A:Bs}(h:AllDig A)(n:Nat):AllDig (A.drop n):=fun c hc=>h c (List.mem_of_mem_drop hc)
theorem dec_dig(u:Nat):AllDig (Lib.decDigits u)/\dD (dZ (Lib.decDigits u))=u:=by
 induction u using Nat.strongRecOn with
 |_ u ih=>
  have hd:∀ d,d<10->aB (UInt8.ofNat (48+d))=true/\(UInt8.ofNat (48+d)).toNat-48=d:=by decide
  rw[Lib.decDigits];by_cases h:u<10
  ·rw[dif_pos h];refine⟨fun c hc=>?_,?_⟩
   ·rw[yf.1 hc];exact(hd u h).1
   show dD [(UInt8.ofNat (48+u)).toNat-48]=u;rw[(hd u h).2];simp[dD]
  rw[dif_neg h];obtain⟨i1,i2⟩:=ih (u / 10) (by omega);have hm:=hd (u % 10) (by omega);refine⟨i1.app (fun c hc=>?_),?_⟩
  ·rw[yf.1 hc];exact hm.1
  rw[iN];show dD (dZ (Lib.decDigits (u / 10))++[(UInt8.ofNat (48+u % 10)).toNat-48])=u;rw[sO,i2,hm.2];omega
theorem qI(neg:Bool)(A:Bs)(hA:AllDig A)(h0:A≠[]):oA (sgB neg++A)=some (neg,dZ A,0,false,[]):=by
 obtain⟨c,t,rfl⟩:∃ c t,A=c::t:=by cases A with|nil=>exact absurd rfl h0|cons c t=>exact⟨c,t,rfl⟩
 have hc:=hA c (by simp);have h45:(c==45)=false:=by rw[beq_eq_false_iff_ne];intro h;subst h;exact absurd hc (by decide)
 have hr:bA aB (c::t)=(c::t).length:=by
  have:=oF aB [] (c::t) hA;rw[List.append_nil]at this;rw[this];rfl
 cases neg
 ·have ha:bO (sgB false++c::t) 0 45=false:=by simp[sgB,bO,h45]
  unfold oA;simp only[ha];simp[sgB,hr,bO,jE]
 have ha:bO (sgB true++c::t) 0 45=true:=by simp[sgB,bO]
 unfold oA;simp only[ha];simp[sgB,hr,bO,jE,Nat.add_comm 1]
theorem sW(neg:Bool)(A B:Bs)(hA:AllDig A)(hB:AllDig B)(h0:B≠[]):oA (sgB neg++(A++46::B))=some (neg,dZ A++dZ B,B.length,false,[]):=by
 have hr:bA aB (A++46::B)=A.length:=by
  rw[oF aB (46::B) A hA];have:bA aB (46::B)=0:=by simp[bA,aB]
  omega
 have hrB:bA aB B=B.length:=by
  have:=oF aB [] B hB;rw[List.append_nil]at this;rw[this];rfl
 have h0':B.length≠0:=fun h=>h0 (List.eq_nil_of_length_eq_zero h)
 have d1:(A++46::B).drop A.length=46::B:=by simp
 have d2:(A++46::B).drop (A.length+1)=B:=by rw[<- List.drop_drop,d1];rfl
 have d3:(A++46::B).drop (A.length+1+B.length)=[]:=by rw[<- List.drop_drop,d2];simp
 have d4:(A++46::B)[A.length]?=some 46:=by simp
 have d5:(A++46::B).take A.length=A:=by simp
 have hz:((A++46::B)[0]?==some 45)=false:=by
  cases A with
  |nil=>rfl
  |cons c t=>
   have hc:=hA c (by simp);show (some c==some 45)=false;rw[beq_eq_false_iff_ne];intro h;injection h with h;subst h;exact absurd hc (by decide)
 cases neg
 ·have ha:bO (sgB false++(A++46::B)) 0 45=false:=hz;unfold oA;simp only[ha];simp only[sgB,Bool.false_eq_true,if_false,List.nil_append,List.drop_zero,hr,Nat.zero_add,bO,d4,d2,hrB,d3,d5,jE];simp[h0']
 have ha:bO (sgB true++(A++46::B)) 0 45=true:=rfl;unfold oA;simp only[ha];have e1:(sgB true++(A++46::B)).drop 1=A++46::B:=rfl;have e2:∀ k,(sgB true++(A++46::B)).drop (1+k)=(A++46::B).drop k:=fun k=>by rw[<- List.drop_drop,e1]
 have e3:(sgB true++(A++46::B))[1+A.length]?=some 46:=by rw[Nat.add_comm];exact d4
 simp only[if_true,e1,hr,bO,e3,Nat.add_assoc 1,e2,d2,hrB,d3,d5,jE];simp[h0']
theorem gK(l:Bs)(neg:Bool)(L:List Nat)(b:Nat)(hl:l.length<=255)(h:oA l=some (neg,L,b,false,[])):wZ l=sV neg (dD L) (-(b:Int)):=by
 unfold wZ;rw[if_neg (by omega),all_text,h];show sV neg (dD L) ((0:Int)-(b:Int))=_;rw[Int.zero_sub]
theorem dec_len(m:Int)(h1:-9223372036854775808<=m)(h2:m<=9223372036854775807):1<=(Lib.decDigits m.natAbs).length/\(Lib.decDigits m.natAbs).length<=20:=by
 refine⟨by rw[Lib.decDigits_length,Lib.nDigits];split <;> omega,?_⟩;rw[Lib.decDigits_length];by_cases z:m.natAbs=0
 ·rw[z,Lib.nDigits_small (by omega)];omega
 have:=Lib.numDigits_eq m.natAbs (by omega) (by omega);split at this <;> omega
theorem uBU(m e:Int)(hR:bI m e=true):wZ (bL m e)=some (m,e):=by
 by_cases z:m=0
 ·have he:e=0:=by unfold bI at hR;rw[if_pos z]at hR;simpa using hR
  subst z;subst he;have:bL 0 0=sgB false++[48]:=by
   have h1:bL 0 0=([]:Bs)++Lib.decDigits 0++[]:=rfl;rw[h1,Lib.decDigits];rfl
  rw[this,gK _ false [0] 0 (by decide) (qI false [48] (AllDig.zeros 1) (by decide))];exact uBP false 0
 obtain⟨r1,r2,r3,r4,r5⟩:=gQ hR z;have ol:0<m.natAbs:=by omega
 obtain⟨l0,l1⟩:=dec_len m (by omega) (by omega);obtain⟨hd,hv⟩:=dec_dig m.natAbs;have r8:fB m.natAbs=gY m.natAbs:=(uX _ ol (by omega)).symm;have hs:(if m<0 then [45] else []:Bs)=sgB (decide (m<0)):=by
  unfold sgB;by_cases hm:m<0
  ·rw[if_pos hm,decide_eq_true hm];rfl
  rw[if_neg hm,decide_eq_false hm];rfl
 have ji:(sgB (decide (m<0))).length<=1:=by unfold sgB;split <;> decide
 have hm:(if decide (m<0)=true then -((m.natAbs:Nat):Int) else (m.natAbs:Int))=m:=by
  by_cases hm:m<0
  ·rw[decide_eq_true hm,if_pos rfl];omega
  rw[decide_eq_false hm,if_neg (by decide)];omega
 have h15:fB m.natAbs<=15:=dlen_le (by omega);have hN:bL m e=if 0<=e then (if m<0 then [45] else [])++Lib.decDigits m.natAbs++List.replicate e.toNat 48
  else if 0<((Lib.decDigits m.natAbs).length:Int)+e then (if m<0 then [45] else [])++(Lib.decDigits m.natAbs).take (((Lib.decDigits m.natAbs).length:Int)+e).toNat++[46]++(Lib.decDigits m.natAbs).drop (((Lib.decDigits m.natAbs).length:Int)+e).toNat
  else (if m<0 then [45] else [])++[48,46]++List.replicate (-(((Lib.decDigits m.natAbs).length:Int)+e)).toNat 48++Lib.decDigits m.natAbs:=rfl
 rw[hN,hs];clear hN hs;generalize Lib.decDigits m.natAbs=t at *;by_cases he:0<=e
 ·obtain⟨k,rfl⟩:∃ k:Nat,e=k:=⟨e.toNat,by omega⟩
  rw[if_pos he,List.append_assoc];have hq:=gK (sgB (decide (m<0))++(t++List.replicate (k:Int).toNat 48)) (decide (m<0)) (dZ (t++List.replicate k 48)) 0 (by simp;omega) (qI _ _ (hd.app (AllDig.zeros _)) (fun h=>by have:=congrArg List.length h;rw[yl,List.length_nil]at this;omega));rw[hq,iN,jU,hv];have hz:dZ (List.replicate k 48)=List.replicate k 0:=by simp[dZ]
  rw[hz,qF,List.length_replicate,Nat.add_zero];have:=mZ (decide (m<0)) m.natAbs k 0 (by omega) h15 (by decide) (by omega);rw[hm,Int.zero_add]at this;exact this
 rw[if_neg he];by_cases hw:0<(t.length:Int)+e
 ·obtain⟨n,hn⟩:∃ n:Nat,(t.length:Int)+e=n:=⟨((t.length:Int)+e).toNat,by omega⟩
  rw[if_pos hw,hn];have ha:sgB (decide (m<0))++t.take (n:Int).toNat++[46]++t.drop (n:Int).toNat=sgB (decide (m<0))++(t.take n++46::t.drop n):=by simp
  rw[ha];have hq:=gK (sgB (decide (m<0))++(t.take n++46::t.drop n)) _ _ _ (by simp;omega) (sW (decide (m<0)) (t.take n) (t.drop n) (hd.take n) (hd.drop n) (fun h=>by have:=congrArg List.length h;simp at this;omega));rw[hq,<- iN,List.take_append_drop,hv];have:=mZ (decide (m<0)) m.natAbs 0 e (by omega) h15 (by omega) (by omega);rw[hm,Nat.pow_zero,Nat.mul_one]at this;rw[show (-((t.drop n).length:Int))=e by rw[yk];omega,this];simp
 obtain⟨k,hk⟩:∃ k:Nat,(t.length:Int)+e=-(k:Int):=⟨(-((t.length:Int)+e)).toNat,by omega⟩
 rw[if_neg hw,hk,Int.neg_neg];have ha:sgB (decide (m<0))++[48,46]++List.replicate (k:Int).toNat 48++t=sgB (decide (m<0))++([48]++46::(List.replicate k 48++t)):=by simp
 rw[ha];have hq:=gK (sgB (decide (m<0))++([48]++46::(List.replicate k 48++t))) _ _ _ (by simp;omega) (sW (decide (m<0)) [48] (List.replicate k 48++t) (AllDig.zeros 1) ((AllDig.zeros k).app hd) (fun h=>by have:=congrArg List.length h;rw[yl,List.length_nil]at this;omega));have hz:dZ [48]++dZ (List.replicate k 48++t)=List.replicate (k+1) 0++dZ t:=by
  rw[iN];simp[dZ,List.replicate_succ]
 rw[hq,hz,jU,qF,Nat.zero_mul,Nat.zero_add,hv];have:=mZ (decide (m<0)) m.natAbs 0 e (by omega) h15 (by omega) (by omega);rw[hm,Nat.pow_zero,Nat.mul_one]at this;rw[show (-((List.replicate k (48:UInt8)++t).length:Int))=e by rw[yl,List.length_replicate];omega,this];simp
theorem vV(m e:Int)(hR:bI m e=true):bI (-m) e=true:=by
 unfold bI at hR ⊢;have h1:(-m).natAbs=m.natAbs:=by omega
 by_cases z:m=0
 ·rw[if_pos z]at hR;rw[if_pos (by omega)];exact hR
 rw[if_neg z]at hR;rw[if_neg (by omega),h1];exact hR
end Go.Proofs.YtjfihpaeglpblaaGreatDoor
