/-
  Lemmas, part 3: Val4 Num4.
-/
import Derived.Maps.AppendAt
import Derived.Lib.OthersKept
import Derived.Test.YtmgjidnalpgegaaGreatDoorPr2
set_option maxHeartbeats 100000000
namespace Go.Proofs.YtmgjidnalpgegaaGreatDoor
open Go.RowKit
structure Val where
 kind:Int
 mant:Int
 exp:Int
 text:Bs
 truth:Bool
 fault:Int
def aD:Val:=⟨0,0,0,[],false,0⟩
abbrev jS(v:Val):Array Value:=#[.int .i64 v.kind,.int .i64 v.mant,.int .i64 v.exp,.string ⟨v.text.toArray⟩,.bool v.truth,.int .i64 v.fault]
abbrev mM(v:Val):Value:=.agg (jS v)
abbrev put6(w:World)(n:Nat)(v:Val):World :=
 (((((w.setCell ⟨n,0,none⟩ (.int .i64 v.kind)).setCell ⟨n,1,none⟩ (.int .i64 v.mant)).setCell ⟨n,2,none⟩ (.int .i64 v.exp)).setCell ⟨n,3,none⟩ (.string ⟨v.text.toArray⟩)).setCell ⟨n,4,none⟩ (.bool v.truth)).setCell ⟨n,5,none⟩ (.int .i64 v.fault)
theorem uED{w w':World}{n B:Nat}(v:Val)(h:Below B w w')(hn:B<=n):Below B w (put6 w' n v) :=
 (((((h.setCell (p:=⟨n,0,none⟩) hn _).setCell (p:=⟨n,1,none⟩) hn _).setCell (p:=⟨n,2,none⟩) hn _).setCell (p:=⟨n,3,none⟩) hn _).setCell (p:=⟨n,4,none⟩) hn _).setCell (p:=⟨n,5,none⟩) hn _
def Lies(w:World)(g:Nat)(t:TypeId)(cs:Array Value):Prop:=w.heap[g]?=some (.cells cs t (0,0))
theorem Lies.lt{w:World}{g:Nat}{t:TypeId}{cs:Array Value}(h:Lies w g t cs):g<w.heap.size:=(zk.1 h).1
theorem Lies.cell{w:World}{g:Nat}{t:TypeId}{cs:Array Value}(h:Lies w g t cs)(i:Nat):w.cell? ⟨g,i,none⟩=cs[i]?:=cell_of_row w g i cs t (0,0) h
theorem Lies.frozen{w:World}{g:Nat}{t:TypeId}{cs:Array Value}(h:Lies w g t cs)(i:Nat):w.frozen? ⟨g,i,none⟩=false:=by
 unfold Lies at h;simp[World.frozen?,h]
theorem Lies.put{w:World}{g:Nat}{t:TypeId}{cs:Array Value}(h:Lies w g t cs)(i:Nat)(u:Value):Lies (w.setCell ⟨g,i,none⟩ u) g t (cs.setIfInBounds i u):=by
 unfold Lies at h ⊢;simp[World.setCell,Array.getElem?_modify,h]
theorem Lies.new(w:World)(t:TypeId)(cs:Array Value):Lies (w.alloc (.cells cs t)) w.heap.size t cs:=heap_alloc_new w _
structure Kept(b base:Nat)(w w':World):Prop where
 os:w'.os=w.os
 tape:w'.tape=w.tape
 output:w'.output=w.output
 size:w.heap.size<=w'.heap.size
 block:∀ k,k<base->k≠b->w'.heap[k]?=w.heap[k]?
theorem Kept.refl(b base:Nat)(w:World):Kept b base w w:=⟨rfl,rfl,rfl,zr,fun _ _ _=>rfl⟩
theorem Kept.trans{b base:Nat}{u v w:World}(h:Kept b base u v)(k:Kept b base v w):Kept b base u w :=
 ⟨k.os.trans h.os,k.tape.trans h.tape,k.output.trans h.output,yv h.size k.size,fun i h1 h2=>(k.block i h1 h2).trans (h.block i h1 h2)⟩
theorem Kept.put{b base:Nat}{u w:World}(h:Kept b base u w)(i:Nat)(x:Value):Kept b base u (w.setCell ⟨b,i,none⟩ x) :=
 h.trans ⟨rfl,rfl,rfl,by simp[World.setCell],fun k _ hk=>Below.heap_setCell w _ x k hk⟩
theorem Kept.alloc{b base:Nat}{u w:World}(h:Kept b base u w)(hb:base<=w.heap.size)(o:Obj):Kept b base u (w.alloc o) :=
 h.trans ⟨rfl,rfl,rfl,by simp,fun k hk _=>Below.heap_alloc _ _ _ (by omega)⟩
theorem Kept.grown{b base:Nat}{u w w':World}{row:Option Nat}(h:Kept b base u w)(hg:w.grownBy w' row)(hb:base<=w.heap.size)(hr:∀ k,row=some k->base<=k):Kept b base u w' :=
 h.trans ⟨hg.os,hg.tape,hg.output,hg.size,fun k hk _=>hg.block k (by omega) (fun e=>by have:=hr k e.symm;omega)⟩
theorem Kept.below{b base B:Nat}{w w':World}(h:Kept b base w w')(hB:B<=b)(hb:b<base):Below B w w' :=
 ⟨h.os,h.tape,h.output,h.size,fun k hk=>h.block k (by omega) (by omega)⟩
def dH(d:Nat):Value:=.int .u8 (d:Int)
def dB(r:Rd)(v:Value):Array Value:=#[.int .i64 r.st,.bool r.neg,.bool r.negPow,v,.int .i64 r.behind,.int .i64 r.pow]
def RdIn(w:World)(b base:Nat)(r:Rd):Prop:=∃ v,Lies w b 163 (dB r v)/\w.ownsRow base 5 1 v r.ds.length (r.ds.map dH)
structure Rd.Fit(r:Rd):Prop where
 st:r.st<=7
 ds:r.ds.length<=1000
 behind:r.behind<=1000
 pow:r.pow<=2000000
theorem uDW{w:World}{base:Nat}{e:TypeId}{size:Nat}{v:Value}{n:Nat}{xs:List Value}(h:w.ownsRow base e size v n xs):∀ k,v.ownBlock=some k->base<=k:=by
 intro k hk;rcases h.2 with⟨rfl,_⟩|⟨g,cap,cur,rfl,hg,_⟩
 ·simp[Value.ownBlock]at hk
 simp[Value.ownBlock]at hk;omega
theorem uDC:(Tryz.prog.info? 5).map (fun i=>(i.zero,i.size,i.bytes))=some (some (.int .u8 0),1,1):=by kernel_rfl
theorem tE(w:World)(u:Value)(t:TypeId)(n j:Nat)(x:Value)(hn:n=w.heap.size)(hj:[u][j]?=some x):(w.alloc (.cells #[u] t)).cell? ((⟨n,0,none⟩:Addr).add j)=some x:=by
 subst hn
 match j,hj with
 |0,hj=>simp at hj;subst hj;simp[Addr.add]
theorem Lies.alloc{w:World}{g:Nat}{t:TypeId}{cs:Array Value}(h:Lies w g t cs)(o:Obj):Lies (w.alloc o) g t cs:=(Below.heap_alloc w o g h.lt).trans h
theorem Lies.grown{w w':World}{g:Nat}{t:TypeId}{cs:Array Value}{row:Option Nat}(h:Lies w g t cs)(hg:w.grownBy w' row)(hr:some g≠row):Lies w' g t cs:=(hg.block g h.lt hr).trans h
theorem Lies.kept{w w':World}{g:Nat}{t:TypeId}{cs:Array Value}{b base:Nat}(h:Lies w g t cs)(hk:Kept b base w w')(h1:g<base)(h2:g≠b):Lies w' g t cs:=(hk.block g h1 h2).trans h
theorem sF{w w1:World}{b base:Nat}{r:Rd}{v v':Value}{d:Nat}(hb:b<base)(uy:base<=w.heap.size)(hl:Lies w b 163 (dB r v))(aj:w.ownsRow base 5 1 v r.ds.length (r.ds.map dH))
  (h1:w1.ownsRow base 5 1 v' (r.ds.length+1) (r.ds.map dH++[dH d])) (hg:(w.alloc (.cells #[dH d] 5)).grownBy w1 v.ownBlock) :
  ∃ g cap,v'=.slice (some ⟨g,0,none⟩) (r.ds.length+1) cap/\Lies w1 b 163 (dB r v)/\Kept b base w w1 /\
   RdIn (w1.setCell ⟨b,3,none⟩ (.slice (some ⟨g,0,none⟩) (r.ds.length+1) cap)) b base { r with ds:=r.ds++[d] }:=by
 obtain⟨g,cap,rfl⟩:∃ g cap,v'=.slice (some ⟨g,0,none⟩) (r.ds.length+1) cap:=by
  rcases h1.2 with⟨_,h⟩|⟨g,cap,_,h,_⟩
  ·omega
  exact⟨g,cap,h⟩
 have hl1:Lies w1 b 163 (dB r v):=(hl.alloc _).grown hg (fun e=>by have:=uDW aj b e.symm;omega);have hk:Kept b base w w1:=((Kept.refl b base w).alloc uy _).grown hg (by simp;omega) (uDW aj);refine⟨g,cap,rfl,hl1,hk,.slice (some ⟨g,0,none⟩) (r.ds.length+1) cap,hl1.put 3 _,?_⟩;have:=ownsRow_setCell_below h1 (a:=⟨b,3,none⟩) hb (.slice (some ⟨g,0,none⟩) (r.ds.length+1) cap);simpa using this
set_option maxRecDepth 100000 in
theorem uHI(r:Rd)(c b base:Nat)(w:World)(h1:48<=c)(h2:c<=57)(h:RdIn w b base r)(hb:b<base)(uy:base<=w.heap.size)(hs:r.st<=2)(hf:r.Fit) :
  Calls Tryz.prog 141 #[.pointer (some ⟨b,0,none⟩),.int .i32 (c:Int)] w fun e w'=>e=.returned (.tuple #[])/\RdIn w' b base (r.digit (c-48))/\Kept b base w w':=by
 obtain⟨i0,hi,ki,js,j7⟩:=info_parts uDC;have hD:r.digit (c-48)={ r with st:=2,ds:=r.ds++[c-48] }:=if_pos hs;rw[hD];clear hD;obtain⟨v,hl,aj⟩:=h;obtain⟨st,ng,np,ds,bh,pw⟩:=r;have hlen:=hf.ds;dsimp only at hs hlen aj hl ⊢;have c0:=hl.cell 0;have c3:=hl.cell 3;have f0:=hl.frozen 0;have f3:=hl.frozen 3;simp[dB]at c0 c3;have HL:Hid (Lies (w.setCell ⟨b,0,none⟩ (.int .i64 2)) b 163 (dB ⟨2,ng,np,ds,bh,pw⟩ v)):=zh (hl.put 0 (.int .i64 2));have HO:=zh (ownsRow_setCell_below aj (a:=⟨b,0,none⟩) hb (.int .i64 2));have HK:=zh ((Kept.refl b base w).put 0 (.int .i64 2));have hv1:IntKind.i32.wrap ((c:Int)-48)=(c:Int)-48:=by simp[IntKind.wrap,IntKind.bits,IntKind.signed];omega
 have hv2:IntKind.u8.wrap ((c:Int)-48)=(c:Int)-48:=by simp[IntKind.wrap,IntKind.bits,IntKind.signed];omega
 have HV:Hid ((((c-48:Nat):Nat):Int)=(c:Int)-48):=zh (by omega);clear hf hl aj;rcases(by omega:st=0\/st=1\/st=2) with rfl|rfl|rfl
 all_goals
  go_enter Tryz.func141,Tryz.ntmps141
  go_wp2_with (at_builtin;refine wpList_append_own _ rfl (.tmp 52) (.tmp 56) 77 rfl base 5 i0 (.int .u8 0) 1 1 Tryz.underlying77 hi ki js j7 rfl (by decide) v ds.length (ds.map dH) rfl (HO.out.alloc _) ⟨w.heap.size,0,none⟩ 1 1 [dH (c-48)] rfl rfl ?c1 ?c2 ?c3 ?c4 ?c5 ?_)
  case c1=>intro j u hj;unfold dH at hj;rw[HV.out]at hj;exact tE _ _ _ _ j u (by simp) hj
  case c2=>intro u hu;simp at hu;subst hu;rfl
  case c3=>unfold maxLen;omega
  case c4=>omega
  case c5=>simp;omega
  intro v' w1 ep mh _;have qv:((w.setCell ⟨b,0,none⟩ (.int .i64 2)).alloc (.cells #[dH (c-48)] 5)).grownBy w1 v.ownBlock:=by unfold dH;rw[HV.out];exact mh
  obtain⟨g,cap,rfl,hl1,dq,i7⟩:=sF (r:=⟨2,ng,np,ds,bh,pw⟩) hb (by simpa using uy) HL.out HO.out ep qv;have HR:=zh i7;have dz:=zh dq;have d3:=hl1.cell 3;have e3:=hl1.frozen 3;simp[dB]at d3;clear mh qv ep i7 dq hl1 c0 c3 f0 f3
  go_wp2_with fail
  go_end0
  exact⟨rfl,HR.out,(HK.out.trans dz.out).put 3 _⟩
set_option maxRecDepth 100000 in
theorem uHJ(r:Rd)(c b base:Nat)(w:World)(h1:48<=c)(h2:c<=57)(h:RdIn w b base r)(hb:b<base)(uy:base<=w.heap.size)(hs:r.st=3\/r.st=4)(hf:r.Fit) :
  Calls Tryz.prog 141 #[.pointer (some ⟨b,0,none⟩),.int .i32 (c:Int)] w fun e w'=>e=.returned (.tuple #[])/\RdIn w' b base (r.digit (c-48))/\Kept b base w w':=by
 obtain⟨i0,hi,ki,js,j7⟩:=info_parts uDC;have hD:r.digit (c-48)={ r with st:=4,ds:=r.ds++[c-48],behind:=r.behind+1 }:=by unfold Rd.digit;rw[if_neg (by omega),if_pos (by omega)]
 rw[hD];clear hD;obtain⟨v,hl,aj⟩:=h;obtain⟨st,ng,np,ds,bh,pw⟩:=r;have hlen:=hf.ds;have hbh:=hf.behind;dsimp only at hs hlen hbh aj hl ⊢;have c0:=hl.cell 0;have c3:=hl.cell 3;have c4:=hl.cell 4;have f4:=hl.frozen 4;have f0:=hl.frozen 0;have f3:=hl.frozen 3;simp[dB]at c0 c3 c4;have HL:Hid (Lies ((w.setCell ⟨b,0,none⟩ (.int .i64 4)).setCell ⟨b,4,none⟩ (.int .i64 ((bh+1:Nat):Int))) b 163 (dB ⟨4,ng,np,ds,bh+1,pw⟩ v)):=zh ((hl.put 0 (.int .i64 4)).put 4 (.int .i64 ((bh+1:Nat):Int)));have HO:=zh (ownsRow_setCell_below (ownsRow_setCell_below aj (a:=⟨b,0,none⟩) hb (.int .i64 4)) (a:=⟨b,4,none⟩) hb (.int .i64 ((bh+1:Nat):Int)));have HK:=zh (((Kept.refl b base w).put 0 (.int .i64 4)).put 4 (.int .i64 ((bh+1:Nat):Int)));have hv1:IntKind.i32.wrap ((c:Int)-48)=(c:Int)-48:=by simp[IntKind.wrap,IntKind.bits,IntKind.signed];omega
 have hv2:IntKind.u8.wrap ((c:Int)-48)=(c:Int)-48:=by simp[IntKind.wrap,IntKind.bits,IntKind.signed];omega
 have HV:Hid ((((c-48:Nat):Nat):Int)=(c:Int)-48):=zh (by omega);clear hf hl aj;rcases hs with rfl|rfl
 all_goals
  go_enter Tryz.func141,Tryz.ntmps141
  go_wp2_with (at_builtin;refine wpList_append_own _ rfl (.tmp 52) (.tmp 56) 77 rfl base 5 i0 (.int .u8 0) 1 1 Tryz.underlying77 hi ki js j7 rfl (by decide) v ds.length (ds.map dH) rfl (HO.out.alloc _) ⟨w.heap.size,0,none⟩ 1 1 [dH (c-48)] rfl rfl ?c1 ?c2 ?c3 ?c4 ?c5 ?_)
  case c1=>intro j u hj;unfold dH at hj;rw[HV.out]at hj;exact tE _ _ _ _ j u (by simp) hj
  case c2=>intro u hu;simp at hu;subst hu;rfl
  case c3=>unfold maxLen;omega
  case c4=>omega
  case c5=>simp;omega
  intro v' w1 ep mh _;have qv:(((w.setCell ⟨b,0,none⟩ (.int .i64 4)).setCell ⟨b,4,none⟩ (.int .i64 ((bh+1:Nat):Int))).alloc (.cells #[dH (c-48)] 5)).grownBy w1 v.ownBlock:=by unfold dH;rw[HV.out];exact mh
  obtain⟨g,cap,rfl,hl1,dq,i7⟩:=sF (r:=⟨4,ng,np,ds,bh+1,pw⟩) hb (by simpa using uy) HL.out HO.out ep qv;have HR:=zh i7;have dz:=zh dq;have d3:=hl1.cell 3;have e3:=hl1.frozen 3;simp[dB]at d3;clear mh qv ep i7 dq hl1 c0 c3 c4 f0 f3 f4
  go_wp2_with fail
  go_end0
  exact⟨rfl,HR.out,(HK.out.trans dz.out).put 3 _⟩
set_option maxRecDepth 100000 in
theorem uCM(r:Rd)(c b base:Nat)(w:World)(h1:48<=c)(h2:c<=57)(h:RdIn w b base r)(hb:b<base)(hs:r.st=5\/r.st=6\/r.st=7)(hf:r.Fit) :
  Calls Tryz.prog 141 #[.pointer (some ⟨b,0,none⟩),.int .i32 (c:Int)] w fun e w'=>e=.returned (.tuple #[])/\RdIn w' b base (r.digit (c-48))/\Kept b base w w':=by
 have hD:r.digit (c-48)={ r with st:=7,pow:=eF r.pow (c-48) }:=by unfold Rd.digit;rw[if_neg (by omega),if_neg (by omega)]
 rw[hD];clear hD;obtain⟨v,hl,aj⟩:=h;obtain⟨st,ng,np,ds,bh,pw⟩:=r;have hpw:=hf.pow;dsimp only at hs hpw aj hl ⊢;have c0:=hl.cell 0;have c5:=hl.cell 5;have f0:=hl.frozen 0;have f5:=hl.frozen 5;simp[dB]at c0 c5;have HL:=zh hl;have HO:=zh aj;have hv1:IntKind.i32.wrap ((c:Int)-48)=(c:Int)-48:=by simp[IntKind.wrap,IntKind.bits,IntKind.signed];omega
 clear hf hl aj;obtain⟨p,hpp⟩:∃ p:Int,(pw:Int)=p:=⟨_,rfl⟩
 have hp0:0<=p:=by omega
 have uz:p<=2000000:=by omega
 rw[hpp]at c5;have HPP:=zh hpp;clear hpp hpw;by_cases hp:p<100000
 ·have HP:Hid (((eF pw (c-48):Nat):Int)=p*10+((c:Int)-48)):=zh (by have:=HPP.out;unfold eF;rw[if_pos (by omega)];omega);rcases hs with rfl|rfl|rfl
  all_goals
   go_enter Tryz.func141,Tryz.ntmps141
   go_wp2_with fail
   refine yt (v:=.tuple #[]) (by simp[results,Tryz.results141,go_sem]) rfl ?_;refine⟨rfl,⟨v,?_,ownsRow_setCell_below (ownsRow_setCell_below HO.out (a:=⟨b,0,none⟩) hb _) (a:=⟨b,5,none⟩) hb _⟩,((Kept.refl b base w).put 0 _).put 5 _⟩;have:=(HL.out.put 0 (.int .i64 7)).put 5 (.int .i64 ((eF pw (c-48):Nat):Int));rw[HP.out]at this;show Lies _ b _ (#[.int .i64 7,.bool ng,.bool np,v,.int .i64 bh,.int .i64 ((eF pw (c-48):Nat):Int)]);rw[HP.out];exact this
 have HP:Hid (eF pw (c-48)=pw):=zh (by have:=HPP.out;unfold eF;rw[if_neg (by omega)]);rcases hs with rfl|rfl|rfl
 all_goals
  go_enter Tryz.func141,Tryz.ntmps141
  go_wp2_with fail
  refine yt (v:=.tuple #[]) (by simp[results,Tryz.results141,go_sem]) rfl ?_;refine⟨rfl,⟨v,?_,ownsRow_setCell_below HO.out (a:=⟨b,0,none⟩) hb _⟩,(Kept.refl b base w).put 0 _⟩;rw[HP.out];exact HL.out.put 0 (.int .i64 7)
theorem uHH(r:Rd)(c b base:Nat)(w:World)(h1:48<=c)(h2:c<=57)(h:RdIn w b base r)(hb:b<base)(uy:base<=w.heap.size)(hf:r.Fit) :
  Calls Tryz.prog 141 #[.pointer (some ⟨b,0,none⟩),.int .i32 (c:Int)] w fun e w'=>e=.returned (.tuple #[])/\RdIn w' b base (r.digit (c-48))/\Kept b base w w':=by
 have:=hf.st;rcases(by omega:r.st<=2\/(r.st=3\/r.st=4)\/(r.st=5\/r.st=6\/r.st=7)) with hs|hs|hs
 ·exact uHI r c b base w h1 h2 h hb uy hs hf
 ·exact uHJ r c b base w h1 h2 h hb uy hs hf
 exact uCM r c b base w h1 h2 h hb hs hf
theorem uF(r:Rd)(c:Nat)(h:48<=c/\c<=57):r.take c=some (r.digit (c-48)):=if_pos h
def gE(r:Rd)(c b base:Nat)(w:World)(e:Ending)(w':World):Prop :=
 match r.take c with
 |none=>e=.returned (.bool false)/\w=w'
 |some r'=>e=.returned (.bool true)/\RdIn w' b base r'/\Kept b base w w'
theorem eZ{r:Rd}{c b base:Nat}{w:World}(h:r.take c=none):gE r c b base w (.returned (.bool false)) w:=by
 unfold gE;rw[h];exact⟨rfl,rfl⟩
theorem fA{r r':Rd}{c b base:Nat}{w w':World}(h:r.take c=some r')(h1:RdIn w' b base r')(h2:Kept b base w w'):gE r c b base w (.returned (.bool true)) w':=by
 unfold gE;rw[h];exact⟨rfl,h1,h2⟩
theorem jX{w:World}{b base i:Nat}{r r':Rd}{u:Value}(h:RdIn w b base r)(hb:b<base)(hd:r'.ds=r.ds)(hc:∀ v,(dB r v).setIfInBounds i u=dB r' v):RdIn (w.setCell ⟨b,i,none⟩ u) b base r':=by
 obtain⟨v,hl,aj⟩:=h;refine⟨v,by rw[<- hc];exact hl.put i u,?_⟩;rw[hd];exact ownsRow_setCell_below aj (a:=⟨b,i,none⟩) hb u
set_option maxRecDepth 100000 in
theorem uGG(r:Rd)(c b base:Nat)(w:World)(hc31:c<=2147483647)(h:RdIn w b base r)(ht:r.take c=none) :
  Calls Tryz.prog 135 #[.pointer (some ⟨b,0,none⟩),.int .i32 (c:Int)] w fun e w'=>gE r c b base w e w':=by
 have HT:=zh ht;have ow:¬ (48<=c/\c<=57):=fun g=>by rw[uF r c g]at ht;cases ht
 have kg:¬ (c=45/\r.st=0):=fun g=>by unfold Rd.take at ht;rw[if_neg ow,if_pos g]at ht;cases ht
 have j6:¬ (c=46/\r.st<=2):=fun g=>by unfold Rd.take at ht;rw[if_neg ow,if_neg kg,if_pos g]at ht;cases ht
 have hE:¬ ((c=101\/c=69)/\(r.st=2\/r.st=4)):=fun g=>by unfold Rd.take at ht;rw[if_neg ow,if_neg kg,if_neg j6,if_pos g]at ht;cases ht
 have hP:¬ ((c=45\/c=43)/\r.st=5):=fun g=>by unfold Rd.take at ht;rw[if_neg ow,if_neg kg,if_neg j6,if_neg hE,if_pos g]at ht;cases ht
 clear ht;obtain⟨v,hl,aj⟩:=h;have c0:=hl.cell 0;simp[dB]at c0;obtain⟨s,hs⟩:∃ s:Int,(r.st:Int)=s:=⟨_,rfl⟩
 rw[hs]at c0;have hs0:0<=s:=by omega
 by_cases g45:c=45
 ·subst g45;have b0:(s==0)=false:=by rw[beq_eq_false_iff_ne];omega
  have b5:(s==5)=false:=by rw[beq_eq_false_iff_ne];omega
  clear ow kg j6 hE hP hs hl aj
  go_enter Tryz.func135,Tryz.ntmps135
  go_wp2_with fail
  go_ret
  exact eZ HT.out
 by_cases g46:c=46
 ·subst g46;have b2:(s==2)=false:=by rw[beq_eq_false_iff_ne];omega
  have b1:decide (s<=1)=false:=by simp;omega
  clear ow kg j6 hE hP hs hl aj
  go_enter Tryz.func135,Tryz.ntmps135
  go_wp2_with fail
  go_ret
  exact eZ HT.out
 by_cases g101:c=101
 ·subst g101;have b2:(s==2)=false:=by rw[beq_eq_false_iff_ne];omega
  have b4:(s==4)=false:=by rw[beq_eq_false_iff_ne];omega
  clear ow kg j6 hE hP hs hl aj
  go_enter Tryz.func135,Tryz.ntmps135
  go_wp2_with fail
  go_ret
  exact eZ HT.out
 by_cases g69:c=69
 ·subst g69;have b2:(s==2)=false:=by rw[beq_eq_false_iff_ne];omega
  have b4:(s==4)=false:=by rw[beq_eq_false_iff_ne];omega
  clear ow kg j6 hE hP hs hl aj
  go_enter Tryz.func135,Tryz.ntmps135
  go_wp2_with fail
  go_ret
  exact eZ HT.out
 by_cases g43:c=43
 ·subst g43;have b5:(s==5)=false:=by rw[beq_eq_false_iff_ne];omega
  clear ow kg j6 hE hP hs hl aj
  go_enter Tryz.func135,Tryz.ntmps135
  go_wp2_with fail
  go_ret
  exact eZ HT.out
 have q45:((c:Int)==45)=false:=by rw[beq_eq_false_iff_ne];omega
 have q46:((c:Int)==46)=false:=by rw[beq_eq_false_iff_ne];omega
 have q101:((c:Int)==101)=false:=by rw[beq_eq_false_iff_ne];omega
 have q69:((c:Int)==69)=false:=by rw[beq_eq_false_iff_ne];omega
 have q43:((c:Int)==43)=false:=by rw[beq_eq_false_iff_ne];omega
 clear kg j6 hE hP hs hl aj g45 g46 g101 g69 g43
 go_enter Tryz.func135,Tryz.ntmps135
 go_wp2_with fail
 all_goals go_ret
 all_goals exact eZ HT.out
set_option maxRecDepth 100000 in
theorem take_yes(r r':Rd)(c b base:Nat)(w:World)(h:RdIn w b base r)(hb:b<base)(uy:base<=w.heap.size)(hf:r.Fit)(ht:r.take c=some r') :
  Calls Tryz.prog 135 #[.pointer (some ⟨b,0,none⟩),.int .i32 (c:Int)] w fun e w'=>gE r c b base w e w':=by
 have HT:=zh ht;have HI:=zh h;by_cases hd:48<=c/\c<=57
 ·obtain⟨d1,d2⟩:=hd;have e:=uF r c ⟨d1,d2⟩;rw[ht]at e;injection e with e;have HE:=zh e;clear e ht
  go_enter Tryz.func135,Tryz.ntmps135
  go_wp2_with fail
  refine(uHH r c b base _ d1 d2 HI.out hb uy hf).mono ?_;rintro e w1 ⟨rfl,h1,h2⟩;have H1:=zh h1;have H2:=zh h2;clear h1 h2
  go_wp2_with fail
  go_ret
  exact fA HT.out (by rw[HE.out];exact H1.out) H2.out
 have el:=hf.st;obtain⟨v,hl,aj⟩:=h;have c0:=hl.cell 0;have c1:=hl.cell 1;have c2:=hl.cell 2;have f0:=hl.frozen 0;have f1:=hl.frozen 1;have f2:=hl.frozen 2;simp[dB]at c0 c1 c2;obtain⟨st,ng,np,ds,bh,pw⟩:=r;dsimp only at c0 c1 c2 el;unfold Rd.take at ht;rw[if_neg hd]at ht;clear hl aj;by_cases kg:c=45/\st=0
 ·rw[if_pos kg]at ht;obtain⟨rfl,rfl⟩:=kg;injection ht with ht;subst ht;clear hd hf el
  go_enter Tryz.func135,Tryz.ntmps135
  go_wp2_with fail
  go_ret
  exact fA HT.out (jX (r:=⟨0,true,np,ds,bh,pw⟩) (jX HI.out hb rfl (fun _=>rfl)) hb rfl (fun _=>rfl)) (((Kept.refl b base w).put 1 _).put 0 _)
 rw[if_neg kg]at ht;by_cases j6:c=46/\st<=2
 ·rw[if_pos j6]at ht;obtain⟨rfl,qw⟩:=j6;injection ht with ht;subst ht;clear hd hf el kg;rcases(by omega:st=0\/st=1\/st=2) with rfl|rfl|rfl
  all_goals
   go_enter Tryz.func135,Tryz.ntmps135
   go_wp2_with fail
   go_ret
   exact fA HT.out (jX HI.out hb rfl (fun _=>rfl)) ((Kept.refl b base w).put 0 _)
 rw[if_neg j6]at ht;by_cases hE:(c=101\/c=69)/\(st=2\/st=4)
 ·rw[if_pos hE]at ht;injection ht with ht;subst ht;clear hd hf el kg j6;obtain⟨hc,hs⟩:=hE;rcases hc with rfl|rfl <;> rcases hs with rfl|rfl
  all_goals
   go_enter Tryz.func135,Tryz.ntmps135
   go_wp2_with fail
   go_ret
   exact fA HT.out (jX HI.out hb rfl (fun _=>rfl)) ((Kept.refl b base w).put 0 _)
 rw[if_neg hE]at ht;by_cases hP:(c=45\/c=43)/\st=5
 ·rw[if_pos hP]at ht;injection ht with ht;subst ht;clear hd hf el kg j6 hE;obtain⟨hc,rfl⟩:=hP;rcases hc with rfl|rfl
  ·go_enter Tryz.func135,Tryz.ntmps135
   go_wp2_with fail
   go_ret
   exact fA HT.out (jX (r:=⟨5,ng,true,ds,bh,pw⟩) (jX HI.out hb rfl (fun _=>rfl)) hb rfl (fun _=>rfl)) (((Kept.refl b base w).put 2 _).put 0 _)
  go_enter Tryz.func135,Tryz.ntmps135
  go_wp2_with fail
  go_ret
  exact fA HT.out (jX (r:=⟨5,ng,false,ds,bh,pw⟩) (jX HI.out hb rfl (fun _=>rfl)) hb rfl (fun _=>rfl)) (((Kept.refl b base w).put 2 _).put 0 _)
 rw[if_neg hP]at ht;cases ht
def BSl(w:World)(base:Nat)(A:Option Addr)(cap:Nat)(ds:List Nat):Prop :=
 ds.length<=cap/\cap<=maxLen/\(0<ds.length->∃ b off,A=some ⟨b,off,none⟩/\base<=b/\b<w.heap.size/\∀ j (h:j<ds.length),w.cell? ⟨b,off+j,none⟩=some (dH ds[j])/\w.frozen? ⟨b,off+j,none⟩=false)
def yE(A0:Option Addr)(base:Nat)(ds:List Nat)(w:World)(e:Ending)(w':World):Prop:=∃ A cap,e=.returned (.slice A (dG ds).length cap)/\BSl w base A cap (dG ds)/\w=w'/\(∀ a,A=some a->∃ a0,A0=some a0/\a.block=a0.block)
theorem BSl.tail{w:World}{base b off cap:Nat}{d:Nat}{ds:List Nat}(h:BSl w base (some ⟨b,off,none⟩) cap (d::ds)):BSl w base (if cap=1 then some ⟨b,off,none⟩ else some ⟨b,off+1,none⟩) (cap-1) ds:=by
 obtain⟨h1,h2,h3⟩:=h;simp only[yi]at h1 h3;refine⟨by omega,by omega,fun hp=>?_⟩;obtain⟨b',off',e,hb,hlt,hc⟩:=h3 (by omega);injection e with e;injection e with e1 e2 e3;subst e1;subst e2;rw[if_neg (by omega)];refine⟨b,off+1,rfl,hb,hlt,fun j hj=>?_⟩;have:=hc (j+1) (by omega);simpa [Nat.add_assoc,Nat.add_comm 1 j] using this
set_option maxRecDepth 100000 in
theorem rX(A:Option Addr)(cap base:Nat)(ds:List Nat)(w:World)(h:BSl w base A cap ds) :
  Calls Tryz.prog 142 #[.slice A ds.length cap] w fun e w'=>yE A base ds w e w':=by
 have HB:=zh h;clear h
 go_enter Tryz.func142,Tryz.ntmps142
 go_wp2_with fail
 go_loop [0] (fun v=>∃ (L:List Nat) (A':Option Addr) (gu n:Nat),v=.slice A' n gu/\Hid (n=L.length)/\Hid (BSl w base A' gu L)/\Hid (dG L=dG ds)/\Hid (∀ a,A'=some a->∃ a0,A=some a0/\a.block=a0.block)) (fun v=>match v with|.slice _ n _=>n|_=>0)
 case atStart=>exact⟨ds,A,cap,ds.length,rfl,zh rfl,HB,zh rfl,zh (fun a h=>⟨a,h,rfl⟩)⟩
 case round=>
  obtain⟨L,A',gu,n,rfl,hn,hB,hq,hA⟩:=hrel;cases L with
  |nil=>
   have h0:n=0:=by rw[hn.out];rfl
   subst h0;have hr:Hid (dG ds=[]):=zh (by rw[<- hq.out];rfl)
   go_wp2_with fail
   go_ret
   exact⟨A',gu,by rw[hr.out];rfl,by rw[hr.out];exact hB.out,rfl,hA.out⟩
  |cons d L=>
   obtain⟨b,off,rfl,kb,hlt,hc⟩:=hB.out.2.2 (by simp);have c0:=(hc 0 (by simp)).1;simp only[Nat.add_zero,List.getElem_cons_zero,dH]at c0;have eu:=hB.out.1;have sn:=hB.out.2.1;unfold maxLen at sn;have au:0<n:=by rw[hn.out];simp
   have sq:n<=gu:=by rw[hn.out];exact eu
   clear hc eu;by_cases hd:d=0
   ·subst hd;have hB2:=zh hB.out.tail;have hA2:Hid (∀ a,(if gu=1 then some (⟨b,off,none⟩:Addr) else some ⟨b,off+1,none⟩)=some a->∃ a0,A=some a0/\a.block=a0.block):=zh (fun a h=>by
     obtain⟨a0,h1,h2⟩:=hA.out _ rfl;refine⟨a0,h1,?_⟩
     split at h <;> (injection h with h;subst h;exact h2))
    have ew:Hid (n-1=L.length):=zh (by rw[hn.out];simp);have ls:Hid (dG L=dG ds):=zh hq.out
    go_wp2_with fail
    go_round
    case rel=>exact⟨L,_,gu-1,n-1,rfl,ew,hB2,ls,hA2⟩
    case measure=>simp;omega
   have bd:((d:Int)==0)=false:=by rw[beq_eq_false_iff_ne];omega
   have hr:Hid (dG ds=d::L):=zh (by
    rw[<- hq.out];cases d with
    |zero=>exact absurd rfl hd
    |succ d=>rfl)
   clear hd
   go_wp2_with fail
   go_ret
   exact⟨some ⟨b,off,none⟩,gu,by rw[hr.out,hn.out];rfl,by rw[hr.out];exact hB.out,rfl,hA.out⟩
end Go.Proofs.YtmgjidnalpgegaaGreatDoor
