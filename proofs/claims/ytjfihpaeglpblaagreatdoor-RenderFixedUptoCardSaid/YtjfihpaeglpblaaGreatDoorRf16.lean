/-
  Lemmas, part 16: PaK PaL PaR PaU PaX.
-/
import Derived.Sort.LoopGhostIn
import Derived.Sort.CutIn
import Derived.Test.YtjfihpaeglpblaaGreatDoorRf11
import Derived.Test.YtjfihpaeglpblaaGreatDoorRf12
import Derived.Test.YtjfihpaeglpblaaGreatDoorRf15
set_option maxHeartbeats 100000000
set_option maxRecDepth 1000000
namespace Go.Proofs.YtjfihpaeglpblaaGreatDoor
open Go.RowKit Go.Shelf
attribute [local go_sem] Oper.semAt_some
mutual
def Tree.depths:Tree->Nat->List Nat
 | .mk _ l,d=>d::eP l (d+1)
def eP:List Tree->Nat->List Nat
 | [],_=>[]
 |t::r,d=>t.depths d++eP r d
end
mutual
theorem gE:∀ (t:Tree) (d:Nat),(t.depths d).length=t.size
 | .mk h l,d=>by unfold Tree.depths Tree.size;rw[yi,oT l (d+1)]
theorem oT:∀ (l:List Tree) (d:Nat),(eP l d).length=aM l
 | [],_=>rfl
 |t::r,d=>by unfold eP aM;rw[yl,gE t d,oT r d]
end
theorem sH(t:Tree):1<=t.size:=by cases t;unfold Tree.size;omega
theorem tP(t:Tree):1<=t.depth:=by cases t;unfold Tree.depth;omega
mutual
theorem qO:∀ (t:Tree) (d a:Nat),(t.depths d).foldl max a=max a (d+t.depth-1)
 | .mk h l,d,a=>by
  unfold Tree.depths Tree.depth;rw[List.foldl_cons,oU l (d+1) (max a d)];by_cases hz:cD l=0
  ·rw[if_pos hz,hz];rfl
  rw[if_neg hz];omega
theorem oU:∀ (l:List Tree) (d a:Nat),(eP l d).foldl max a=if cD l=0 then a else max a (d+cD l-1)
 | [],_,_=>rfl
 |t::r,d,a=>by
  unfold eP cD;rw[List.foldl_append,qO t d a,oU r d _];have:=tP t;by_cases hz:cD r=0
  ·rw[if_pos hz,if_neg (by omega),hz];omega
  rw[if_neg hz,if_neg (by omega)];omega
end
structure SE where
 g:Nat
 o:Nat
 d:Nat
 t:Tree
def SE.cells(x:SE):List Value:=[vP x.g x.o,vI (x.d:Int)]
def stC(l:List SE):List Value:=l.flatMap SE.cells
theorem wB:∀ (l:List SE),(stC l).length=l.length*2
 | []=>rfl
 |x::r=>by
  have:=wB r;unfold stC at *;rw[List.flatMap_cons,yl,this,yi];show 2+r.length*2=_;omega
theorem xZ(l:List SE)(x:SE):stC (l++[x])=stC l++x.cells:=by unfold stC;simp
def gR(l:List SE):List Nat:=l.reverse.flatMap (fun x=>x.t.depths x.d)
theorem uN(l:List SE)(x:SE):gR (l++[x])=x.t.depths x.d++gR l:=by unfold gR;simp
theorem xL(l m:List SE):gR (l++m)=gR m++gR l:=by unfold gR;simp
theorem xM:∀ (l:List SE),l.length<=(gR l).length
 | []=>zm _
 |x::r=>by
  have:=xM r;have h1:gR (x::r)=gR r++x.t.depths x.d:=by
   have:=xL [x] r;rw[List.singleton_append]at this;rw[this];unfold gR;simp
  have h2:=gE x.t x.d;have h3:=sH x.t;rw[h1,yl,yi];omega
def fO(g d:Nat):Nat->List Tree->List SE
 |_,[]=>[]
 |i,t::r=>⟨g,i,d,t⟩::fO g d (i+22) r
theorem kJ(g d:Nat):∀ (l:List Tree) (i:Nat),(fO g d i l).length=l.length
 | [],_=>rfl
 |t::r,i=>by unfold fO;rw[yi,kJ g d r (i+22),yi]
theorem tY(g d:Nat):∀ (l:List Tree) (i k:Nat) (hk:k<l.length),(fO g d i l)[k]?=some ⟨g,i+k*22,d,l[k]⟩
 | [],_,_,hk=>absurd hk (by simp)
 |t::r,i,0,_=>by unfold fO;simp
 |t::r,i,k+1,hk=>by
  unfold fO;rw[zf,tY g d r (i+22) k (by simpa using hk),show i+22+k*22=i+(k+1)*22 by omega];rfl
theorem rG(g d:Nat):∀ (l:List Tree) (i:Nat),(fO g d i l).flatMap (fun x=>x.t.depths x.d)=eP l d
 | [],_=>rfl
 |t::r,i=>by unfold fO eP;rw[List.flatMap_cons,rG g d r (i+22)]
def SeOk(w:World)(X:List Nat)(m:Nat)(x:SE):Prop:=x.g<w.heap.size/\x.g∉X/\NodeAt w X x.g x.o x.t/\x.d+x.t.size<=m
theorem wX{w:World}{X:List Nat}{m g d:Nat}(hg:g<w.heap.size)(hx:g∉X):∀ (l:List Tree) (i:Nat),KidsAt w X g i l->d+aM l<=m->∀ x∈fO g d i l,SeOk w X m x
 | [],_,_,_,x,hm=>by cases hm
 |t::r,i,hk,hs,x,hm=>by
  unfold aM at hs;rcases ym.1 hm with rfl|hm
  ·exact⟨hg,hx,hk.1,by show d+t.size<=m;omega⟩
  exact wX hg hx r (i+22) hk.2 (by omega) x hm
theorem own_pop{w:World}{b e k g cap:Nat}{xs:List Value}{u v:Value}(h:w.ownsRow b e 2 (.slice (some ⟨g,0,none⟩) (k+1) cap) (k+1) (xs++[u,v])):w.ownsRow b e 2 (.slice (some ⟨g,0,none⟩) k cap) k xs:=by
 obtain⟨h1,h2⟩:=h;rw[yl]at h1;have hl:xs.length=k*2:=by simp at h1;omega
 refine⟨hl,?_⟩;rcases h2 with⟨h3,_⟩|⟨g',o5,cur,hv,hb,hh,hc,hm,hs,ht⟩
 ·cases h3
 cases hv;refine .inr ⟨g,cap,cur,rfl,hb,hh,by omega,hm,hs,?_⟩;have h9:=congrArg (List.take (k*2)) ht;rw[List.take_take,Nat.min_eq_left (by omega)]at h9;rw[h9,<- hl,List.take_left]
theorem infoStep:(Tryz.prog.info? 204).map (fun i=>(i.zero,i.size,i.bytes))=some (some (.agg #[.pointer none,vI 0]),2,16):=by kernel_rfl
end Go.Proofs.YtjfihpaeglpblaaGreatDoor
namespace Go.Proofs.YtjfihpaeglpblaaGreatDoor
open Go.RowKit Go.Shelf
attribute [local go_sem] Oper.semAt_some
def encD(x:SE):Array Value:=#[vP x.g x.o,vI (x.d:Int)]
theorem own_at{w w':World}{b e s g n c:Nat}{xs:List Value}(h:w.ownsRow b e s (.slice (some ⟨g,0,none⟩) n c) n xs)(hg:w'.heap[g]?=w.heap[g]?):w'.ownsRow b e s (.slice (some ⟨g,0,none⟩) n c) n xs:=by
 refine⟨h.1,?_⟩;rcases h.2 with⟨h3,_⟩|⟨g',o5,cur,hv,hb,hh,rest⟩
 ·cases h3
 cases hv;exact .inr ⟨g,c,cur,rfl,hb,hg.trans hh,rest⟩
theorem iP{W W':World}(hb:Below W.heap.size W W'):W.grownBy W' none:=⟨hb.os,hb.tape,hb.output,hb.size,fun k hk _=>hb.block k hk⟩
structure WSt(w W:World)(X:List Nat)(m:Nat)(ds:List Nat)(J:List SE->World->Prop)(pre st:List SE)(g cap:Nat)(wr:World):Prop where
 own:wr.ownsRow W.heap.size 204 2 (.slice (some ⟨g,0,none⟩) st.length cap) st.length (stC st)
 key:pre.map SE.d++gR st=ds
 ok:∀ x∈st,SeOk w X m x
 j:J pre wr
 size:W.heap.size<=wr.heap.size
 cell:∀ p:Addr,p.block<w.heap.size->p.block∉X->wr.cell? p=w.cell? p
structure WIn(w W:World)(X:List Nat)(J:List SE->World->Prop)(pre:List SE)(q d:Nat)(L:List SE)(g cap:Nat)(wr:World):Prop where
 own:wr.ownsRow W.heap.size 204 2 (.slice (some ⟨g,0,none⟩) L.length cap) L.length (stC L)
 j:J pre wr
 top:wr.cell? ⟨q,1,none⟩=some (vI (d:Int))
 ne:g≠q
 qs:q<wr.heap.size
 size:W.heap.size<=wr.heap.size
 cell:∀ p:Addr,p.block<w.heap.size->p.block∉X->wr.cell? p=w.cell? p
theorem WIn.next{w W wr wr':World}{X:List Nat}{J:List SE->World->Prop}{pre L:List SE}{q d g cap:Nat}(h:WIn w W X J pre q d L g cap wr)(hJ:OwnAll W.heap.size J)(hb:Below wr.heap.size wr wr')(hw:w.heap.size<=W.heap.size):WIn w W X J pre q d L g cap wr' :=
 ⟨own_at h.own (hb.block g (h.own.lt g rfl).2),hJ _ _ _ none h.j (iP hb) (fun r e=>by cases e),(hb.cell (p:=⟨q,1,none⟩) h.qs).trans h.top,h.ne,yu h.qs hb.size,yv h.size hb.size,fun p h1 h2=>(hb.cell (p:=p) (yu h1 (yv hw h.size))).trans (h.cell p h1 h2)⟩
theorem WIn.push{w W wr wr':World}{X:List Nat}{J:List SE->World->Prop}{pre L:List SE}{q d g cap gg cy:Nat}{x:SE}(h:WIn w W X J pre q d L g cap wr)(hJ:OwnAll W.heap.size J)(hw:w.heap.size<=W.heap.size)(az:wr'.ownsRow W.heap.size 204 2 (.slice (some ⟨gg,0,none⟩) (L.length+1) cy) (L.length+1) (stC L++x.cells))(hg:wr.grownBy wr' (some g))(im:some g=some gg\/gg=wr.heap.size):WIn w W X J pre q d (L++[x]) gg cy wr':=by
 have mu:=(h.own.lt g rfl).1;refine⟨by rw[xZ,yl,List.length_singleton];exact az,hJ _ _ _ (some g) h.j hg (fun r e=>by cases e;exact mu),(World.cell?_of_block (hg.block q h.qs (fun e=>h.ne (by injection e with e;exact e.symm)))).trans h.top,?_,yu h.qs hg.size,yv h.size hg.size,fun p h1 h2=>(World.cell?_of_block (hg.block p.block (yu h1 (yv hw h.size)) (fun e=>by injection e with e;omega))).trans (h.cell p h1 h2)⟩;rcases im with im|im
 ·injection im with im;rw[<- im];exact h.ne
 have:=h.qs;omega
theorem kid_push{l:List Tree}{g o d k:Nat}(hk:k<l.length):(fO g d o l).reverse.take (l.length-k)=(fO g d o l).reverse.take (l.length-(k+1))++[⟨g,o+k*22,d,l[k]⟩]:=by
 have hl:=kJ g d l o;have hlt:l.length-(k+1)<(fO g d o l).reverse.length:=by rw[List.length_reverse,hl];omega
 rw[show l.length-k=l.length-(k+1)+1 by omega,yw hlt]
 congr 1
 have h1:(fO g d o l).reverse[l.length-(k+1)]?=some ⟨g,o+k*22,d,l[k]⟩:=by
  rw[List.getElem?_reverse (by rw[hl];omega),hl,show l.length-1-(l.length-(k+1))=k by omega,tY g d l o k hk]
 rw[List.getElem?_eq_getElem hlt]at h1;rw[Option.some.inj h1]
theorem uFE(g d o:Nat)(l:List Tree):gR (fO g d o l).reverse=eP l d:=by
 unfold gR;rw[List.reverse_reverse,rG]
theorem uA:∀ (l:List Tree),l.length<=aM l
 | []=>zm _
 |t::r=>by
  have:=uA r;have h1:=sH t;unfold aM;rw[yi];omega
theorem walk1_in(n:Nat)(hn:1<=n)(X:List Nat)(t:Tree)(g0 o0 B:Nat)(w:World)(ht:t.size<=1000000)(hb:w.cell? ⟨B,0,none⟩=some (vP g0 o0))(hB:B<w.heap.size)(hg0:g0<w.heap.size)(hgX:g0∉X)(xz:NodeAt w X g0 o0 t) :
  SeqQ Fence.wide n Tryz.prog 160 #[vP B 0] encD (fun p=>p.block<w.heap.size/\p.block∉X) (fun pre x=>(pre++[x]).map SE.d <+: t.depths 1) (fun xs=>xs.map SE.d=t.depths 1) (fun pre=>pre.map SE.d <+: t.depths 1) w:=fun l J Jx W hW hJ hJx hY h0=>by
 have hbW:W.cell? ⟨B,0,none⟩=some (vP g0 o0):=(hW.cell (p:=⟨B,0,none⟩) (by show B<w.heap.size;omega)).trans hb;have ap:w.heap.size<=W.heap.size:=hW.size;have HJ:=zh hJ;have HY:=zh hY;have HT:=zh ht;obtain⟨i0,hi,m6,ix,ku⟩:=info_parts infoStep;obtain⟨W1,am⟩:=zD (W.alloc (.cells #[vP g0 o0,vI 1] 204))
 have pf:Hid (WSt w W X 1000001 (t.depths 1) J [] [⟨g0,o0,1,t⟩] W.heap.size 1 W1):=zh (by
  have ab:Below W.heap.size W W1:=by rw[am];exact(zp _)
  refine⟨⟨rfl,.inr ⟨W.heap.size,1,#[vP g0 o0,vI 1],rfl,zr,by rw[am];exact heap_alloc_new W _,zr,by decide,rfl,rfl⟩⟩,by simp[gR],?_,hJ [] W W1 none h0 (iP ab) (fun r e=>by cases e),ab.size,fun p hp _=>?_⟩
  ·intro x hx;rw[yf.1 hx];exact⟨hg0,hgX,xz,by show 1+t.size<=1000001;omega⟩
  exact(ab.cell (p:=p) (by omega)).trans (hW.cell (p:=p) hp))
 clear hJ hY hW hJx hb h0 xz ht;have HWe:=zh am;clear am;refine callsIn_of_wp Tryz.func160 rfl trivial ?_ rfl;simp only[Tryz.ntmps160,yd,yi,List.length_nil,Nat.reduceAdd,Nat.reduceSub,Array.replicate_succ,Array.replicate_zero,List.push_toArray,List.append_toArray,List.nil_append,yp]
 gi_wp2
 rw[<- HWe.out]
 gi_loopg [3] ((t.depths 1).length) (fun k v wr=>∃ (pre st:List SE) (g cap:Nat),v=.slice (some ⟨g,0,none⟩) st.length cap/\k=(gR st).length/\Hid (WSt w W X 1000001 (t.depths 1) J pre st g cap wr))
 case atStart=>exact⟨[],[⟨g0,o0,1,t⟩],W.heap.size,1,rfl,by simp[gR],pf⟩
 case round=>
  obtain⟨pre,st,g,cap,rfl,hk,HS⟩:=hrel;clear pf HWe hbW;have HK:=zh hk;clear hk;rcases List.eq_nil_or_concat st with rfl|⟨st0,x,rfl⟩
  ·gi_wp2
   go_end0
   exact⟨⟨_,rfl⟩,.inl ⟨pre,by have:=HS.out.key;simpa [gR] using this,HS.out.j⟩⟩
  rw[List.concat_eq_append]at HS HK ⊢;have hlen:(st0++[x]).length=st0.length+1:=by simp
  rw[hlen];have uq:st0.length<=1000000:=by
   have a:=congrArg List.length HS.out.key;have b:=xM (st0++[x]);rw[yl,gE]at a;have:=HT.out;omega
  have xf:=HS.out.own;rw[hlen,xZ]at xf;have hce:=xf.cells (g:=g) rfl;have c0:wr.cell? ⟨g,st0.length*2,none⟩=some (vP x.g x.o):=by
   have:=hce (st0.length*2) (vP x.g x.o) (by rw[<- wB,List.getElem?_append_right zr,Nat.sub_self];rfl)
   rwa [Addr.add_mid,Nat.zero_add]at this
  have c1:wr.cell? ⟨g,st0.length*2+1,none⟩=some (vI (x.d:Int)):=by
   have:=hce (st0.length*2+1) (vI (x.d:Int)) (by rw[<- wB,List.getElem?_append_right (by omega),Nat.add_sub_cancel_left];rfl)
   rwa [Addr.add_mid,Nat.zero_add]at this
  have s9:=zh (own_pop xf);clear xf hce hlen;have oq:(0:Int)<=(st0.length:Int):=Int.natCast_nonneg _;have fw:(st0.length:Int)<(st0.length:Int)+1:=by omega
  have jd:st0.length<=cap:=by
   rcases s9.out.2 with⟨h9,_⟩|⟨_,_,_,h9,_,_,hc,_⟩
   ·cases h9
   cases h9;exact hc
  have hso:=HS.out.ok x (by simp);obtain⟨xg,xo,xd,⟨h,l'⟩⟩:=x;obtain⟨hxg,hxX,⟨A,cp,ep,vm⟩,hxd⟩:=hso;dsimp only at c0 c1 hxg hxX ep vm hxd;have l9:=ep 21 (by decide);have hgl:g<wr.heap.size:=s9.out.lt g rfl |>.2;obtain⟨Wy,td⟩:=zD (wr.alloc (.cells #[vP xg xo,vI (xd:Int)] 204))
  have mo:Below wr.heap.size wr Wy:=by rw[td];exact(zp _)
  have HJy:Hid (J pre Wy):=zh (HJ.out pre wr Wy none HS.out.j (iP mo) (fun r e=>by cases e));have hszr:=HS.out.size;have jm:Wy.cell? ⟨xg,xo+21,none⟩=some (.slice A l'.length cp):=(mo.cell (p:=⟨xg,xo+21,none⟩) (by show xg<wr.heap.size;omega)).trans ((HS.out.cell ⟨xg,xo+21,none⟩ hxg hxX).trans l9);have t0:Wy.cell? ⟨wr.heap.size,0,none⟩=some (vP xg xo):=by rw[td];simp[go_sem]
  have t1:Wy.cell? ⟨wr.heap.size,1,none⟩=some (vI (xd:Int)):=by rw[td];simp[go_sem]
  have HKEY:Hid ((pre++[SE.mk xg xo xd ⟨h,l'⟩]).map SE.d++(eP l' (xd+1)++gR st0)=t.depths 1):=zh (by
   rw[<- HS.out.key,uN];simp[Tree.depths])
  have rj:Hid ((pre++[SE.mk xg xo xd ⟨h,l'⟩]).map SE.d <+: t.depths 1):=zh ⟨_,HKEY.out⟩;have HOk:Hid (∀ y∈st0,SeOk w X 1000001 y):=zh (fun y hy=>HS.out.ok y (by simp[hy]));have qn:Hid (∀ p:Addr,p.block<w.heap.size->p.block∉X->wr.cell? p=w.cell? p):=zh HS.out.cell;have HBy:=zh mo;obtain⟨fn,tmps,assign,body,hy,hRd⟩:=HY.out pre ⟨xg,xo,xd,⟨h,l'⟩⟩ Wy (by have:=mo.size;omega) HJy.out rj.out;dsimp only[encD]at hy;have HRd:=zh hRd;have HWy:=zh td;have HKS:=zh vm;have HXD:=zh hxd;clear td mo ep l9 HS hRd vm hxd
  gi_upto_region 3 with fail
  rw[<- HWy.out]
  gi_wp2_with fail
  refine HRd.out.mono ?_;rintro e W' (⟨rfl,hJ',hk⟩|⟨rfl,hJx'⟩)
  ·obtain⟨g',o',hKS⟩:∃ g' o',l'=[]\/(A=some ⟨g',o',none⟩/\g'∉X/\g'<w.heap.size/\KidsAt w X g' o' l'):=by
    rcases HKS.out with h9|⟨g',o',h9⟩
    ·exact⟨0,0,.inl h9⟩
    exact⟨g',o',.inr h9⟩
   have HKS2:=zh hKS;have hqy:wr.heap.size<Wy.heap.size:=by rw[HWy.out,World.size_alloc];omega
   have t1':W'.cell? ⟨wr.heap.size,1,none⟩=some (vI (xd:Int)):=(World.cell?_of_block (hk.2.2.2 wr.heap.size hszr hqy)).trans t1;have HOW3:=zh (own_at s9.out ((hk.2.2.2 g (by have:=(s9.out.lt g rfl).1;omega) (by omega)).trans (HBy.out.block g hgl)));have HC':Hid (∀ p:Addr,p.block<w.heap.size->p.block∉X->W'.cell? p=w.cell? p):=zh (fun p h1 h2=>(hk.2.1 p ⟨h1,h2⟩).trans (((HBy.out.cell (p:=p) (by omega))).trans (qn.out p h1 h2)));have kl:Hid (wr.heap.size<W'.heap.size):=zh (by have:=hk.1;omega);have HJ2:=zh hJ';have hlb:l'.length<=1000000:=by
    have h1:=HXD.out;have h2:=uA l';have h3:(Tree.mk h l').size=aM l'+1:=rfl;omega
   have hgq:g≠wr.heap.size:=by omega
   have HIN:Hid (WIn w W X J (pre++[SE.mk xg xo xd ⟨h,l'⟩]) wr.heap.size xd st0 g cap W'):=zh ⟨HOW3.out,HJ2.out,t1',hgq,kl.out,yv hszr (Nat.le_of_lt kl.out),HC'.out⟩;have hxdb:xd<=1000001:=by have:=HXD.out;omega
   clear hk hJ' hKS HKS HRd HY HJy HBy HWy qn s9 c0 c1 t0 t1 jm hy
   gi_wp2_with fail
   refine wpIn_wide.2 ?_;clear HOW3 HC' kl HJ2 t1';generalize hq:wr.heap.size=q at *
   go_loopw [3,6] (fun v i wr2=>∃ (L:List SE) (g2 cy m:Nat) (z:Int),v=.slice (some ⟨g2,0,none⟩) L.length cy/\i=vI z/\m<=l'.length/\Hid (z=(m:Int)-1/\L=st0++(fO g' (xd+1) o' l').reverse.take (l'.length-m))/\Hid (WIn w W X J (pre++[SE.mk xg xo xd ⟨h,l'⟩]) q xd L g2 cy wr2)) (fun _ i _=>(intOf i+1).toNat)
   case atStart=>exact⟨st0,g,cap,l'.length,_,rfl,rfl,zr,zh ⟨rfl,by simp⟩,HIN⟩
   case round=>
    obtain⟨L,g2,cy,m,z,rfl,rfl,hm,hz,HW⟩:=hrel;cases m with
    |zero=>
     obtain rfl:z=-1:=by have:=hz.out.1;omega
     go_wp2_with fail
     obtain⟨E,hE⟩:∃ E,E=(fO g' (xd+1) o' l').reverse:=⟨_,rfl⟩
     have hL:L=st0++E:=by
      rw[hz.out.2,hE,Nat.sub_zero,List.take_of_length_le (by rw[List.length_reverse,kJ];exact zr)]
     have hrm:gR L=eP l' (xd+1)++gR st0:=by rw[hL,hE,xL,uFE]
     have HRm:=zh hrm;have HLE:=zh hL;have HEE:=zh hE;clear hL hrm hE
     go_roundg (gR L).length
     case measure=>rw[HRm.out,HK.out,uN];simp[Tree.depths]
     case rel=>exact⟨pre++[SE.mk xg xo xd ⟨h,l'⟩],L,g2,cy,rfl,rfl,zh ⟨HW.out.own,by rw[HRm.out];exact HKEY.out,fun y hy=>by
      rw[HLE.out,List.mem_append]at hy;rcases hy with hy|hy
      ·exact HOk.out y hy
      rw[HEE.out,List.mem_reverse]at hy;rcases HKS2.out with h9|⟨_,h7,h8,h9⟩
      ·subst h9;cases hy
      exact wX h8 h7 l' o' h9 (by have h1:=HXD.out;have h2:(Tree.mk h l').size=aM l'+1:=rfl;omega) y hy,HW.out.j,HW.out.size,HW.out.cell⟩⟩
    |succ k=>
     obtain rfl:z=(k:Int):=by have:=hz.out.1;omega
     rcases HKS2.out with h9|⟨rfl,hgX',hgl',hka⟩
     ·subst h9;simp at hm
     have o9:k<l'.length:=by omega
     have ip:(k:Int)<(l'.length:Int):=by omega
     have hk00:(0:Int)<=(k:Int):=Int.natCast_nonneg _;have htop:=HW.out.top;have lg:Hid (L.length<=2000000):=zh (by
      rw[hz.out.2,yl,zc,List.length_reverse,kJ];omega)
     have H63:Hid (L.length+1<=maxLen):=zh (by have:=lg.out;unfold maxLen;omega);have H47:Hid ((L.length+1)*16<=140737488355328):=zh (by have:=lg.out;omega);have HA:=zh (HW.out.next HJ.out (((Below.refl _ wr).alloc zr (.cells #[vP g' (o'+k*22),vI ((xd:Int)+1)] 204)).drew) ap);have HPu:=zh (kid_push (g:=g') (o:=o') (d:=xd+1) o9);have HZ:=zh hz.out.2;have HSW:=zh HW.out.size;have hqs:=HW.out.qs;have hwx:IntKind.i64.wrap ((xd:Int)+1)=(xd:Int)+1:=IntWalk.i64_in _ (by omega);clear hz HKS2
     go_wp2_with fail
     go_region_law (refine step_append_lies _ (by rfl) _ _ _ (by rfl) W.heap.size 204 i0 _ 2 16 Tryz.underlying205 hi m6 ix ku rfl (by decide) (.slice (some ⟨g2,0,none⟩) L.length cy) L.length (stC L) (by rfl) HA.out.own ⟨wr.heap.size,0,none⟩ 1 1 [vP g' (o'+k*22),vI ((xd:Int)+1)] (by rfl) (by rfl) (World.news_of_block (cs:=#[vP g' (o'+k*22),vI ((xd:Int)+1)]) (t:=204) (fr:=(0,0)) (heap_alloc_new wr _)) (fun x hx=>by simp at hx;rcases hx with rfl|rfl <;> rfl) (by decide) H63.out H47.out (yv HSW.out (by simp)) (wr.heap.size+1) (by simp) ?_;intro gg cap3 w1 fo dg im hlt1;have bf:=zh (HA.out.push HJ.out ap (x:=⟨g',o'+k*22,xd+1,l'[k]⟩) fo dg (by simpa [Value.ownBlock] using im));clear fo dg im hlt1)
     go_wp2_with fail
     go_roundw
     case rel=>exact⟨L++[⟨g',o'+k*22,xd+1,l'[k]⟩],gg,cap3,k,_,by rw[yl,List.length_singleton],rfl,by omega,zh ⟨rfl,by rw[HPu.out,<- List.append_assoc,<- HZ.out]⟩,bf⟩
     case measure=>first |(simp[intOf];done) |(simp[intOf];omega)
  gi_wp2_with fail
  refine yt (results_none rfl _ _ _) rfl ?_;exact⟨⟨_,rfl⟩,.inr ⟨pre++[SE.mk xg xo xd ⟨h,l'⟩],rj.out,hJx'⟩⟩
end Go.Proofs.YtjfihpaeglpblaaGreatDoor
namespace Go.Proofs.YtjfihpaeglpblaaGreatDoor
open Go.RowKit Go.Shelf
attribute [local go_sem] Oper.semAt_some
theorem walk_any(g o:Nat)(w:World) :
  Calls Tryz.prog 96 #[vP g o] w fun e w'=>e=.returned (.func (.func 160) #[] #[vP w.heap.size 0])/\w'=w.alloc (.cells #[vP g o] 163):=by
 go_in
 go_wp2_with fail
 go_ret
 exact⟨rfl,rfl⟩
structure CkI(w:World)(q:Nat)(cs:Array Value)(pre:List SE)(X:World):Prop where
 box:Lies X q 34 cs
 res:Lies X (q+1) 56 #[vI 0]
 sz:Lies X (q+2) 3 #[vI (pre.length:Int)]
 dp:Lies X (q+3) 3 #[vI (((pre.map SE.d).foldl max 0:Nat):Int)]
 few:pre.length<=256
 bel:Below q w X
structure CkX(w:World)(q:Nat)(c:Code)(pre:List SE)(X:World):Prop where
 ret:c=.ret
 res:Lies X (q+1) 56 #[vI 5]
 many:256<pre.length
 bel:Below q w X
theorem fG{b c:Nat}{w X Y:World}{row:Option Nat}(h:Below b w X)(hg:X.grownBy Y row)(hr:∀ r,row=some r->c<=r)(i8:b<=c)(hbX:b<=X.heap.size):Below b w Y :=
 ⟨hg.os.trans h.os,hg.tape.trans h.tape,hg.output.trans h.output,yv h.size hg.size,fun j hj=>(hg.block j (by omega) (fun e=>by have:=hr j e.symm;omega)).trans (h.block j hj)⟩
theorem CkI.own{w:World}{q b:Nat}{cs:Array Value}(hb:q+4<=b):OwnAll b (CkI w q cs):=fun s A B row h hg hr=>by
 have ne:∀ k,k<b->some k≠row:=fun k hk e=>by have:=hr k e.symm;omega
 exact⟨h.box.grown hg (ne _ (by omega)),h.res.grown hg (ne _ (by omega)),h.sz.grown hg (ne _ (by omega)),h.dp.grown hg (ne _ (by omega)),h.few,fG h.bel hg hr (by omega) (Nat.le_of_lt h.box.lt)⟩
theorem CkX.own{w:World}{q b:Nat}(hb:q+4<=b):∀ c,OwnAll b (CkX w q c):=fun c s A B row h hg hr=>by
 have ne:∀ k,k<b->some k≠row:=fun k hk e=>by have:=hr k e.symm;omega
 exact⟨h.ret,h.res.grown hg (ne _ (by omega)),h.many,fG h.bel hg hr (by omega) (by have:=h.res.lt;omega)⟩
theorem gJ{n₀:Addr->Prop}{b c o:Nat}{W:World}(hb:∀ p,n₀ p->p.block≠b)(hc:b<c)(v:Value):KeepsQ n₀ c W (W.setCell ⟨b,o,none⟩ v) :=
 ⟨by simp,fun p hp=>World.cell?_setCell_other _ _ _ _ (fun e=>hb p hp (by rw[<- e])),fun p _=>World.frozen?_setCell _ _ _ _,fun k hk _=>heap_setCell_other W ⟨b,o,none⟩ k v (by show k≠b;omega)⟩
theorem CkI.step{w X:World}{q:Nat}{cs:Array Value}{pre:List SE}(x:SE)(h:CkI w q cs pre X)(hn:pre.length<256):CkI w q cs (pre++[x]) ((X.setCell ⟨q+2,0,none⟩ (vI ((pre.length:Int)+1))).setCell ⟨q+3,0,none⟩ (vI ((max ((pre.map SE.d).foldl max 0) x.d:Nat):Int))):=by
 refine⟨aB (aB h.box (by omega) _ _) (by omega) _ _,aB (aB h.res (by omega) _ _) (by omega) _ _,?_,?_,by simp;omega,(h.bel.setCell (by show q<=q+2;omega) _).setCell (by show q<=q+3;omega) _⟩
 ·have:=aB (b:=q+3) (h.sz.put 0 (vI ((pre.length:Int)+1))) (by omega) 0 (vI ((max ((pre.map SE.d).foldl max 0) x.d:Nat):Int));rw[yl,List.length_singleton];exact this
 have:=(aB (b:=q+2) h.dp (by omega) 0 (vI ((pre.length:Int)+1))).put 0 (vI ((max ((pre.map SE.d).foldl max 0) x.d:Nat):Int));rw[List.map_append,List.foldl_append];exact this
theorem yZ{w X:World}{q D:Nat}{v:Value}(hb:Below q w X)(hr:Lies X (q+1) 56 #[v])(hD:q+2<=D):(X.putObj D (.deferred none)).cell? ⟨q+1,0,none⟩=some v/\Below q w (X.putObj D (.deferred none)):=by
 have hg:=grownBy_putObj' X D (.deferred none);refine⟨?_,⟨hg.os.trans hb.os,hg.tape.trans hb.tape,hg.output.trans hb.output,yv hb.size hg.size,fun j hj=>(World.putObj_heap_other (by omega)).trans (hb.block j hj)⟩⟩;have:Lies (X.putObj D (.deferred none)) (q+1) 56 #[v]:=(World.putObj_heap_other (by omega)).trans hr;exact this.cell 0
theorem zO{t:Tree}{l:List Nat}(h:l <+: t.depths 1):l.length<=t.size:=by
 have:=h.length_le
 rwa [gE]at this
theorem qL(t:Tree)(cs:Array Value)(w:World)(ht:TreeIn w t cs)(ap:t.size<=1000000)(hf:t.fine) :
  Calls Tryz.prog 52 #[.agg cs] w fun e w'=>e=.returned (vI (cL t:Nat))/\Below w.heap.size w w':=by
 rw[<- callsIn_wide (n:=5)];obtain⟨A,cp,rfl,hk⟩:=ht;have CW:=zh (fun g o X=>(callsIn_wide (n:=4)).2 (walk_any g o X));have HK:=zh hk;have HF:=zh hf;have HS:=zh ap;clear hk hf ap;obtain⟨ek,uv⟩:∃ x,cL t=x:=⟨_,rfl⟩
 rw[uv];have HE:=zh uv;clear uv;obtain⟨W1,am⟩:∃ W1,W1=(((w.alloc (.cells (aH t.h A t.l.length cp) 34)).alloc (.cells #[vI 0] 56)).alloc (.cells #[vI 0] 3)).alloc (.cells #[vI 0] 3):=⟨_,rfl⟩
 have HI:Hid (CkI w w.heap.size (aH t.h A t.l.length cp) [] W1):=zh (by
  rw[am];have e1:=Lies.new w 34 (aH t.h A t.l.length cp);have e2:=Lies.new (w.alloc (.cells (aH t.h A t.l.length cp) 34)) 56 #[vI 0];have e3:=Lies.new ((w.alloc (.cells (aH t.h A t.l.length cp) 34)).alloc (.cells #[vI 0] 56)) 3 #[vI 0];have e4:=Lies.new (((w.alloc (.cells (aH t.h A t.l.length cp) 34)).alloc (.cells #[vI 0] 56)).alloc (.cells #[vI 0] 3)) 3 #[vI 0];simp only[World.size_alloc]at e2 e3 e4;exact⟨((e1.alloc _).alloc _).alloc _,(e2.alloc _).alloc _,e3.alloc _,e4,by simp,((((Below.refl _ w).alloc zr _).alloc (by simp) _).alloc (by simp;omega) _).alloc (by simp;omega) _⟩)
 have ix:W1.heap.size=w.heap.size+4:=by rw[am];simp
 have al:=zh am;clear am;refine callsIn_of_wp_marks Tryz.func52 rfl trivial ?_ rfl;simp only[Tryz.ntmps52,yd,yi,List.length_nil,Nat.reduceAdd,Nat.reduceSub,Array.replicate_succ,Array.replicate_zero,List.push_toArray,List.append_toArray,List.nil_append,yp]
 gi_upto_region 2 with fail
 rw[<- al.out];generalize hq:w.heap.size=q at *;clear al
 gi_wp2_with fail
 refine⟨trivial,?_⟩;refine(CW.out q 0 W1).mono ?_;rintro e W2 ⟨rfl,dx⟩;rw[ix];have ku:W2.heap.size=q+5:=by rw[dx,World.size_alloc,ix]
 have hbB:W2.cell? ⟨q+4,0,none⟩=some (vP q 0):=by
  have:=Lies.new W1 163 #[vP q 0];rw[<- dx,ix]at this;exact this.cell 0
 have hb2:Below W1.heap.size W1 W2:=by rw[dx];exact(zp _)
 have i5:Hid (CkI w q (aH t.h A t.l.length cp) [] W2):=zh ⟨HI.out.box.next hb2,HI.out.res.next hb2,HI.out.sz.next hb2,HI.out.dp.next hb2,by simp,HI.out.bel.trans (hb2.mono (by omega))⟩;have HNA:Hid (∀ X:World,Lies X q 34 (aH t.h A t.l.length cp)->Below q w X->NodeAt X [q+1,q+2,q+3] q 0 t):=zh (fun X hl hb=>by
  have un:KidsOk X [q+1,q+2,q+3] A t.l:=by
   have h0:KidsOk w [q+1,q+2,q+3] A t.l:=by
    rcases HK.out with h|⟨g2,o2,hA2,_,li,er⟩
    ·exact .inl h
    exact .inr ⟨g2,o2,hA2,by simp;omega,li,KidsAt.anti (fun y hy hlt=>by simp at hy;omega) er⟩
   exact h0.kp ((Kp.of_below (by rw[hq];exact hb:Below w.heap.size w X)).mono (Y:=[]) (fun k hk _=>by cases hk))
  obtain⟨th,tl⟩:=t;exact⟨A,cp,fun j _=>by rw[Nat.zero_add];exact hl.cell j,un⟩)
 have LI:=zh (walk1_in 4 (by decide) [q+1,q+2,q+3] t q 0 (q+4) W2 HS.out hbB (by omega) (by omega) (by simp) (HNA.out W2 i5.out.box i5.out.bel));clear dx hbB hb2 HI CW;obtain⟨N0,hN0⟩:∃ N0:Addr->Prop,N0=(fun p=>p.block<W2.heap.size/\p.block∉[q+1,q+2,q+3]):=⟨_,rfl⟩
 rw[<- hN0]at LI;have HN0:=zh hN0;have dv:=zh ku;clear hN0 ku
 gi_wp2_with fail
 refine yJ rfl (by decide) (gf:=160) (lb:=#[vP (q+4) 0]) rfl trivial (enters_of Tryz.func160 (by kernel_rfl) rfl) LI.out (fun p h=>by rw[HN0.out]at h;exact h.1) (fun _=>rfl) (CkI w q (aH t.h A t.l.length cp)) (CkX w q) (CkI.own (by rw[dv.out];omega)) (CkX.own (by rw[dv.out];omega)) i5.out
  (fun x=>{ tmps:=#[.agg (aH t.h A t.l.length cp),vP q 0,vP (q+1) 0,vP (q+2) 0,vP (q+3) 0,undef,vI (x.d:Int),.func (.func 160) #[] #[vP (q+4) 0],vP x.g x.o,vI (x.d:Int),undef,undef,undef,undef,undef,undef,undef,undef,undef,undef,undef],defers:=[] }) ?assign ?body ?done ?stop
 case assign=>
  intro l' x X K hK;dsimp only[encD]
  gi_wp2
  exact hK
 case body=>
  rintro l' pre x X hX hI hR;have HI:=zh hI;have s2:=hI.sz.cell 0;have f2:=hI.sz.frozen 0;have s3:=hI.dp.cell 0;have f3:=hI.dp.frozen 0;have s1:=hI.res.cell 0;have f1:=hI.res.frozen 0;have hfw:=hI.few;simp only[za,zb]at s1 s2 s3;clear hI HK LI HNA i5;obtain⟨a,ha⟩:∃ a,(pre.map SE.d).foldl max 0=a:=⟨_,rfl⟩
  rw[ha]at s3;obtain⟨n,hn⟩:=zE pre.length
  rw[hn]at s2 hfw;have HA:=zh (And.intro ha hn);clear ha hn;rcases Nat.lt_or_ge n 256 with hlt|hge
  ·have hnb:¬ (256:Int)<(n:Int)+1:=by omega
   have bw:=zh (HI.out.step x (by have:=HA.out.2;omega));have hkq:Hid (∀ v1 v2:Value,KeepsQ N0 W2.heap.size X ((X.setCell ⟨q+2,0,none⟩ v1).setCell ⟨q+3,0,none⟩ v2)):=zh (fun v1 v2=>(gJ (fun p hp e=>by rw[HN0.out]at hp;exact hp.2 (by rw[e];simp)) (by rw[dv.out];omega) v1).trans (gJ (fun p hp e=>by rw[HN0.out]at hp;exact hp.2 (by rw[e];simp)) (by rw[dv.out];omega) v2));rw[HA.out.1,HA.out.2]at bw;obtain⟨d,hd⟩:∃ d,x.d=d:=⟨_,rfl⟩
   rw[hd]at bw ⊢;rcases Nat.le_total a d with hm|hm
   ·rw[Nat.max_eq_right hm]at bw;have hmi:max (a:Int) (d:Int)=(d:Int):=by omega
    gi_wp2_with fail
    exact⟨hkq.out _ _,bw.out⟩
   rw[Nat.max_eq_left hm]at bw;have hmi:max (a:Int) (d:Int)=(a:Int):=by omega
   gi_wp2_with fail
   exact⟨hkq.out _ _,bw.out⟩
  obtain rfl:n=256:=by omega
  have hkq:Hid (∀ v1 v2:Value,KeepsQ N0 W2.heap.size X ((X.setCell ⟨q+2,0,none⟩ v1).setCell ⟨q+1,0,none⟩ v2)):=zh (fun v1 v2=>(gJ (fun p hp e=>by rw[HN0.out]at hp;exact hp.2 (by rw[e];simp)) (by rw[dv.out];omega) v1).trans (gJ (fun p hp e=>by rw[HN0.out]at hp;exact hp.2 (by rw[e];simp)) (by rw[dv.out];omega) v2));have hx:Hid (CkX w q .ret (pre++[x]) ((X.setCell ⟨q+2,0,none⟩ (vI 257)).setCell ⟨q+1,0,none⟩ (vI 5))):=zh ⟨rfl,(aB HI.out.res (b:=q+2) (by omega) _ _).put 0 _,by rw[yl,HA.out.2];simp,(HI.out.bel.setCell (by show q<=q+2;omega) _).setCell (by show q<=q+1;omega) _⟩
  gi_wp2_with fail
  exact⟨hkq.out _ _,hx.out⟩
 case done=>
  rintro D xs X hD hS hI hK;have hDq:q+5<=D:=by rw[dv.out]at hD;exact hD
  clear hD;have hlen:xs.length=t.size:=by rw[<- List.length_map (f:=SE.d),hS,gE]
  have rm:=hI.few;have hmx:(xs.map SE.d).foldl max 0=t.depth:=by
   have:=tP t;rw[hS,qO];omega
  have xm:=zh (NodeAt.anti (Y:=[]) (fun y hy _=>by cases hy) (HNA.out X hI.box hI.bel));have s3:=hI.dp.cell 0;have s1:=hI.res.cell 0;have f1:=hI.res.frozen 0;rw[hmx]at s3;simp only[za,zb]at s1 s3;rw[show q+3=q+1+1+1 by omega]at s3;have HI:=zh hI;have uw:=zh hK;have HP:Hid (ek=if 32<t.depth then 8 else if t.right 6 then 0 else 6):=zh (by rw[<- HE.out];unfold cL;rw[if_neg (by omega)]);have xp:q<X.heap.size:=hI.box.lt;clear hS hI hK LI HNA i5 HK hmx HE;by_cases hd:32<t.depth
  ·rw[if_pos hd]at HP;have hdi:(32:Int)<(t.depth:Int):=by omega
   have hKX:Hid ((X.setCell ⟨q+1,0,none⟩ (vI 8)).heap[D]?=some (.deferred (some []))):=zh ((heap_setCell_other X ⟨q+1,0,none⟩ D _ (by show D≠q+1;omega)).trans uw.out);have hE:=zh (yZ (D:=D) (HI.out.bel.setCell (p:=⟨q+1,0,none⟩) (by show q<=q+1;omega) (vI 8)) (HI.out.res.put 0 (vI 8)) (by omega))
   gi_wp2_with fail
   refine⟨by simp,.inl ⟨_,_,rfl,run_takeDeferred hKX.out,?_⟩⟩;have hc:=hE.out.1;refine⟨vI 8,by simp[results,Tryz.results52,go_sem,hc],by rw[HP.out];rfl,by first|exact hE.out.2 |(rw[hq];exact hE.out.2)⟩
  rw[if_neg hd]at HP;have hdi:¬ (32:Int)<(t.depth:Int):=by omega
  have CR:=zh ((callsIn_wide (n:=4)).2 (uBU t.size t 6 q 0 X zr HS.out HF.out xp xm.out));obtain⟨b,hb⟩:=zE (t.right 6)
  rw[hb]at CR HP;clear hb xm
  gi_wp2_with fail
  refine⟨trivial,?_⟩;refine CR.out.mono ?_;rintro e w3 ⟨rfl,dt⟩;have HI3:Hid (Below q w w3/\Lies w3 (q+1) 56 #[vI 0]/\w3.heap[D]?=some (.deferred (some []))):=zh ⟨HI.out.bel.trans (dt.mono (by omega)),HI.out.res.next dt,(dt.block D (zk.1 uw.out).1).trans uw.out⟩;have r1:=HI3.out.2.1.cell 0;have rf1:=HI3.out.2.1.frozen 0;simp only[za,zb]at r1;clear s1 s3 f1 dt CR HI uw;have hKX:Hid (∀ v:Value,(w3.setCell ⟨q+1,0,none⟩ v).heap[D]?=some (.deferred (some []))):=zh (fun v=>(heap_setCell_other w3 ⟨q+1,0,none⟩ D _ (by show D≠q+1;omega)).trans HI3.out.2.2);have hE:=zh (fun v:Value=>yZ (D:=D) (HI3.out.1.setCell (p:=⟨q+1,0,none⟩) (by show q<=q+1;omega) v) (HI3.out.2.1.put 0 v) (by omega));cases b
  ·gi_wp2_with fail
   refine⟨by simp,.inl ⟨_,_,rfl,run_takeDeferred (hKX.out _),?_⟩⟩;have hc:=(hE.out (vI 6)).1;refine⟨vI 6,by simp[results,Tryz.results52,go_sem,hc],by rw[HP.out];rfl,by first|exact(hE.out _).2 |(rw[hq];exact(hE.out _).2)⟩
  gi_wp2_with fail
  refine⟨by simp,.inl ⟨_,_,rfl,run_takeDeferred (hKX.out _),?_⟩⟩;have hc:=(hE.out (vI 0)).1;refine⟨vI 0,by simp[results,Tryz.results52,go_sem,hc],by rw[HP.out];rfl,by first|exact(hE.out _).2 |(rw[hq];exact(hE.out _).2)⟩
 case stop=>
  rintro D c pre X hD vt hI hK;have hDq:q+5<=D:=by rw[dv.out]at hD;exact hD
  have hlen:=zO vt;rw[List.length_map]at hlen;have hmany:=hI.many;obtain rfl:=hI.ret;have HP:Hid (ek=5):=zh (by rw[<- HE.out];unfold cL;rw[if_pos (by omega)]);have hE:=zh (yZ (D:=D) hI.bel hI.res (by omega));have uw:=zh hK;clear LI HNA i5 HK HE hI hK vt hD
  gi_wp2_with fail
  refine⟨by simp,.inl ⟨_,_,rfl,run_takeDeferred uw.out,?_⟩⟩;have hc:=hE.out.1;refine⟨vI 5,by simp[results,Tryz.results52,go_sem,hc],by rw[HP.out];rfl,by first|exact hE.out.2 |(rw[hq];exact hE.out.2)⟩
theorem kp_below{W W':World}(h:Kp [] W W'):Below W.heap.size W W':=h.below (fun k hk=>by cases hk) zr
theorem pAxis_nd(ids:List IdR):∀ k,k<=ids.length->(bD (ids.take k)).Nodup/\id0∉bD (ids.take k):=by
 intro k
 induction k with
 |zero=>intro _;exact⟨List.nodup_nil,by simp[bD]⟩
 |succ k ih=>
  intro h;obtain⟨h1,h2⟩:=ih (by omega);rw[gL ids k h];unfold iO
  split
  ·exact⟨h1,h2⟩
  rename_i hn
  rw[not_or]at hn;refine⟨?_,?_⟩
  ·rw[List.nodup_append];refine⟨h1,by simp,fun a ha b hb=>?_⟩;rw[yf.1 hb];exact fun e=>hn.2 (e ▸ ha)
  rw[List.mem_append,not_or];exact⟨h2,fun h=>hn.1 (yf.1 h).symm⟩
theorem nT(ids:List IdR):(bD ids).Nodup/\id0∉bD ids/\(bD ids).length<=ids.length/\∀ y∈bD ids,y∈ids:=by
 have h1:=pAxis_nd ids ids.length zr;have h2:=nU ids ids.length zr;have h3:=uE ids ids.length zr;rw[List.take_length]at h1 h2 h3;exact⟨h1.1,h1.2,h2,h3⟩
end Go.Proofs.YtjfihpaeglpblaaGreatDoor
