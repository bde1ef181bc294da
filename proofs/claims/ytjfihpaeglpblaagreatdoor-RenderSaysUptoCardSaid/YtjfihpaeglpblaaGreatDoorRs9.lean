/-
  Lemmas, part 9: PaL WrA ParP ParO PlSim ParS ParX PaH ParY.
-/
import Derived.Test.YtjfihpaeglpblaaGreatDoorRs8
set_option maxHeartbeats 100000000
set_option maxRecDepth 1000000
namespace Go.Proofs.YtjfihpaeglpblaaGreatDoor
open Go.RowKit Go.Shelf
attribute [local go_sem] Oper.semAt_some
def encD(x:SE):Array Value:=#[vP x.g x.o,vI (x.d:Int)]
theorem own_at{w w':World}{b e s g n c:Nat}{xs:List Value}(h:w.ownsRow b e s (.slice (some ⟨g,0,none⟩) n c) n xs)(hg:w'.heap[g]?=w.heap[g]?):w'.ownsRow b e s (.slice (some ⟨g,0,none⟩) n c) n xs:=by
 refine⟨h.1,?_⟩;rcases h.2 with⟨h3,_⟩|⟨g',ou,cur,hv,hb,hh,rest⟩
 ·cases h3
 cases hv;exact .inr ⟨g,c,cur,rfl,hb,hg.trans hh,rest⟩
theorem jH{W W':World}(hb:Below W.heap.size W W'):W.grownBy W' none:=⟨hb.os,hb.tape,hb.output,hb.size,fun k hk _=>hb.block k hk⟩
structure WSt(w W:World)(X:List Nat)(m:Nat)(ds:List Nat)(J:List SE->World->Prop)(pre st:List SE)(g cap:Nat)(wr:World):Prop where
 own:wr.ownsRow W.heap.size 204 2 (.slice (some ⟨g,0,none⟩) st.length cap) st.length (stC st)
 key:pre.map SE.d++iI st=ds
 ok:∀ x∈st,SeOk w X m x
 j:J pre wr
 size:W.heap.size<=wr.heap.size
 cell:∀ p:Addr,p.block<w.heap.size->p.block∉X->wr.cell? p=w.cell? p
structure WIn(w W:World)(X:List Nat)(J:List SE->World->Prop)(pre:List SE)(q d:Nat)(L:List SE)(g cap:Nat)(wr:World):Prop where
 own:wr.ownsRow W.heap.size 204 2 (.slice (some ⟨g,0,none⟩) L.length cap) L.length (stC L)
 j:J pre wr
 top:wr.cell? ⟨q,1,none⟩=some (vI (d:Int))
 ne:g≠q
 qs:q<wr.heap.size
 size:W.heap.size<=wr.heap.size
 cell:∀ p:Addr,p.block<w.heap.size->p.block∉X->wr.cell? p=w.cell? p
theorem WIn.next{w W wr wr':World}{X:List Nat}{J:List SE->World->Prop}{pre L:List SE}{q d g cap:Nat}(h:WIn w W X J pre q d L g cap wr)(hJ:OwnAll W.heap.size J)(hb:Below wr.heap.size wr wr')(hw:w.heap.size<=W.heap.size):WIn w W X J pre q d L g cap wr' :=
 ⟨own_at h.own (hb.block g (h.own.lt g rfl).2),hJ _ _ _ none h.j (jH hb) (fun r e=>by cases e),(hb.cell (p:=⟨q,1,none⟩) h.qs).trans h.top,h.ne,yu h.qs hb.size,yv h.size hb.size,fun p h1 h2=>(hb.cell (p:=p) (yu h1 (yv hw h.size))).trans (h.cell p h1 h2)⟩
theorem WIn.push{w W wr wr':World}{X:List Nat}{J:List SE->World->Prop}{pre L:List SE}{q d g cap gg di:Nat}{x:SE}(h:WIn w W X J pre q d L g cap wr)(hJ:OwnAll W.heap.size J)(hw:w.heap.size<=W.heap.size)(ba:wr'.ownsRow W.heap.size 204 2 (.slice (some ⟨gg,0,none⟩) (L.length+1) di) (L.length+1) (stC L++x.cells))(hg:wr.grownBy wr' (some g))(iq:some g=some gg\/gg=wr.heap.size):WIn w W X J pre q d (L++[x]) gg di wr':=by
 have mq:=(h.own.lt g rfl).1;refine⟨by rw[zI,yl,List.length_singleton];exact ba,hJ _ _ _ (some g) h.j hg (fun r e=>by cases e;exact mq),(World.cell?_of_block (hg.block q h.qs (fun e=>h.ne (by injection e with e;exact e.symm)))).trans h.top,?_,yu h.qs hg.size,yv h.size hg.size,fun p h1 h2=>(World.cell?_of_block (hg.block p.block (yu h1 (yv hw h.size)) (fun e=>by injection e with e;omega))).trans (h.cell p h1 h2)⟩;rcases iq with iq|iq
 ·injection iq with iq;rw[<- iq];exact h.ne
 have:=h.qs;omega
theorem kid_push{l:List Tree}{g o d k:Nat}(hk:k<l.length):(gC g d o l).reverse.take (l.length-k)=(gC g d o l).reverse.take (l.length-(k+1))++[⟨g,o+k*22,d,l[k]⟩]:=by
 have hl:=lP g d l o;have hlt:l.length-(k+1)<(gC g d o l).reverse.length:=by rw[List.length_reverse,hl];omega
 rw[show l.length-k=l.length-(k+1)+1 by omega,yw hlt]
 congr 1
 have h1:(gC g d o l).reverse[l.length-(k+1)]?=some ⟨g,o+k*22,d,l[k]⟩:=by
  rw[List.getElem?_reverse (by rw[hl];omega),hl,show l.length-1-(l.length-(k+1))=k by omega,uQ g d l o k hk]
 rw[List.getElem?_eq_getElem hlt]at h1;rw[Option.some.inj h1]
theorem uFR(g d o:Nat)(l:List Tree):iI (gC g d o l).reverse=eY l d:=by
 unfold iI;rw[List.reverse_reverse,sB]
theorem uS:∀ (l:List Tree),l.length<=aM l
 | []=>zm _
 |t::r=>by
  have:=uS r;have h1:=tG t;unfold aM;rw[yi];omega
theorem walk1_in(n:Nat)(hn:1<=n)(X:List Nat)(t:Tree)(g0 o0 B:Nat)(w:World)(ht:t.size<=1000000)(hb:w.cell? ⟨B,0,none⟩=some (vP g0 o0))(hB:B<w.heap.size)(hg0:g0<w.heap.size)(hgX:g0∉X)(ny:NodeAt w X g0 o0 t) :
  SeqQ Fence.wide n Tryz.prog 160 #[vP B 0] encD (fun p=>p.block<w.heap.size/\p.block∉X) (fun pre x=>(pre++[x]).map SE.d <+: t.depths 1) (fun xs=>xs.map SE.d=t.depths 1) (fun pre=>pre.map SE.d <+: t.depths 1) w:=fun l J Jx W hW hJ hJx hY h0=>by
 have hbW:W.cell? ⟨B,0,none⟩=some (vP g0 o0):=(hW.cell (p:=⟨B,0,none⟩) (by show B<w.heap.size;omega)).trans hb;have aq:w.heap.size<=W.heap.size:=hW.size;have HJ:=zh hJ;have HY:=zh hY;have HT:=zh ht;obtain⟨i0,hi,my,i5,lm⟩:=info_parts infoStep;obtain⟨W1,an⟩:=zD (W.alloc (.cells #[vP g0 o0,vI 1] 204))
 have tq:Hid (WSt w W X 1000001 (t.depths 1) J [] [⟨g0,o0,1,t⟩] W.heap.size 1 W1):=zh (by
  have hb1:Below W.heap.size W W1:=by rw[an];exact(zp _)
  refine⟨⟨rfl,.inr ⟨W.heap.size,1,#[vP g0 o0,vI 1],rfl,zr,by rw[an];exact heap_alloc_new W _,zr,by decide,rfl,rfl⟩⟩,by simp[iI],?_,hJ [] W W1 none h0 (jH hb1) (fun r e=>by cases e),hb1.size,fun p hp _=>?_⟩
  ·intro x hx;rw[yf.1 hx];exact⟨hg0,hgX,ny,by show 1+t.size<=1000001;omega⟩
  exact(hb1.cell (p:=p) (by omega)).trans (hW.cell (p:=p) hp))
 clear hJ hY hW hJx hb h0 ny ht;have HWe:=zh an;clear an;refine callsIn_of_wp Tryz.func160 rfl trivial ?_ rfl;simp only[Tryz.ntmps160,yd,yi,List.length_nil,Nat.reduceAdd,Nat.reduceSub,Array.replicate_succ,Array.replicate_zero,List.push_toArray,List.append_toArray,List.nil_append,yp]
 gi_wp2
 rw[<- HWe.out]
 gi_loopg [3] ((t.depths 1).length) (fun k v wr=>∃ (pre st:List SE) (g cap:Nat),v=.slice (some ⟨g,0,none⟩) st.length cap/\k=(iI st).length/\Hid (WSt w W X 1000001 (t.depths 1) J pre st g cap wr))
 case atStart=>exact⟨[],[⟨g0,o0,1,t⟩],W.heap.size,1,rfl,by simp[iI],tq⟩
 case round=>
  obtain⟨pre,st,g,cap,rfl,hk,HS⟩:=hrel;clear tq HWe hbW;have HK:=zh hk;clear hk;rcases List.eq_nil_or_concat st with rfl|⟨st0,x,rfl⟩
  ·gi_wp2
   go_end0
   exact⟨⟨_,rfl⟩,.inl ⟨pre,by have:=HS.out.key;simpa [iI] using this,HS.out.j⟩⟩
  rw[List.concat_eq_append]at HS HK ⊢;have hlen:(st0++[x]).length=st0.length+1:=by simp
  rw[hlen];have u7q:st0.length<=1000000:=by
   have a:=congrArg List.length HS.out.key;have b:=yL (st0++[x]);rw[yl,gT]at a;have:=HT.out;omega
  have xt:=HS.out.own;rw[hlen,zI]at xt;have hce:=xt.cells (g:=g) rfl;have c0:wr.cell? ⟨g,st0.length*2,none⟩=some (vP x.g x.o):=by
   have:=hce (st0.length*2) (vP x.g x.o) (by rw[<- xD,List.getElem?_append_right zr,Nat.sub_self];rfl)
   rwa [Addr.add_mid,Nat.zero_add]at this
  have c1:wr.cell? ⟨g,st0.length*2+1,none⟩=some (vI (x.d:Int)):=by
   have:=hce (st0.length*2+1) (vI (x.d:Int)) (by rw[<- xD,List.getElem?_append_right (by omega),Nat.add_sub_cancel_left];rfl)
   rwa [Addr.add_mid,Nat.zero_add]at this
  have t8:=zh (own_pop xt);clear xt hce hlen;have gu:(0:Int)<=(st0.length:Int):=Int.natCast_nonneg _;have ec:(st0.length:Int)<(st0.length:Int)+1:=by omega
  have jl:st0.length<=cap:=by
   rcases t8.out.2 with⟨h9,_⟩|⟨_,_,_,h9,_,_,hc,_⟩
   ·cases h9
   cases h9;exact hc
  have hso:=HS.out.ok x (by simp);obtain⟨xg,xo,xd,⟨h,l'⟩⟩:=x;obtain⟨hxg,hxX,⟨A,cp,fh,vq⟩,hxd⟩:=hso;dsimp only at c0 c1 hxg hxX fh vq hxd;have li:=fh 21 (by decide);have hgl:g<wr.heap.size:=t8.out.lt g rfl |>.2;obtain⟨Wy,t9⟩:=zD (wr.alloc (.cells #[vP xg xo,vI (xd:Int)] 204))
  have ng:Below wr.heap.size wr Wy:=by rw[t9];exact(zp _)
  have HJy:Hid (J pre Wy):=zh (HJ.out pre wr Wy none HS.out.j (jH ng) (fun r e=>by cases e));have hszr:=HS.out.size;have jp:Wy.cell? ⟨xg,xo+21,none⟩=some (.slice A l'.length cp):=(ng.cell (p:=⟨xg,xo+21,none⟩) (by show xg<wr.heap.size;omega)).trans ((HS.out.cell ⟨xg,xo+21,none⟩ hxg hxX).trans li);have t0:Wy.cell? ⟨wr.heap.size,0,none⟩=some (vP xg xo):=by rw[t9];simp[go_sem]
  have t1:Wy.cell? ⟨wr.heap.size,1,none⟩=some (vI (xd:Int)):=by rw[t9];simp[go_sem]
  have HKEY:Hid ((pre++[SE.mk xg xo xd ⟨h,l'⟩]).map SE.d++(eY l' (xd+1)++iI st0)=t.depths 1):=zh (by
   rw[<- HS.out.key,vH];simp[Tree.depths])
  have ry:Hid ((pre++[SE.mk xg xo xd ⟨h,l'⟩]).map SE.d <+: t.depths 1):=zh ⟨_,HKEY.out⟩;have HOk:Hid (∀ y∈st0,SeOk w X 1000001 y):=zh (fun y hy=>HS.out.ok y (by simp[hy]));have rl:Hid (∀ p:Addr,p.block<w.heap.size->p.block∉X->wr.cell? p=w.cell? p):=zh HS.out.cell;have HBy:=zh ng;obtain⟨fn,tmps,assign,body,hy,hRd⟩:=HY.out pre ⟨xg,xo,xd,⟨h,l'⟩⟩ Wy (by have:=ng.size;omega) HJy.out ry.out;dsimp only[encD]at hy;have HRd:=zh hRd;have HWy:=zh t9;have HKS:=zh vq;have HXD:=zh hxd;clear t9 ng fh li HS hRd vq hxd
  gi_upto_region 3 with fail
  rw[<- HWy.out]
  gi_wp2_with fail
  refine HRd.out.mono ?_;rintro e W' (⟨rfl,hJ',hk⟩|⟨rfl,hJx'⟩)
  ·obtain⟨g',o',hKS⟩:∃ g' o',l'=[]\/(A=some ⟨g',o',none⟩/\g'∉X/\g'<w.heap.size/\KidsAt w X g' o' l'):=by
    rcases HKS.out with h9|⟨g',o',h9⟩
    ·exact⟨0,0,.inl h9⟩
    exact⟨g',o',.inr h9⟩
   have HKS2:=zh hKS;have hqy:wr.heap.size<Wy.heap.size:=by rw[HWy.out,World.size_alloc];omega
   have t1':W'.cell? ⟨wr.heap.size,1,none⟩=some (vI (xd:Int)):=(World.cell?_of_block (hk.2.2.2 wr.heap.size hszr hqy)).trans t1;have HOW3:=zh (own_at t8.out ((hk.2.2.2 g (by have:=(t8.out.lt g rfl).1;omega) (by omega)).trans (HBy.out.block g hgl)));have HC':Hid (∀ p:Addr,p.block<w.heap.size->p.block∉X->W'.cell? p=w.cell? p):=zh (fun p h1 h2=>(hk.2.1 p ⟨h1,h2⟩).trans (((HBy.out.cell (p:=p) (by omega))).trans (rl.out p h1 h2)));have mh:Hid (wr.heap.size<W'.heap.size):=zh (by have:=hk.1;omega);have HJ2:=zh hJ';have hlb:l'.length<=1000000:=by
    have h1:=HXD.out;have h2:=uS l';have h3:(Tree.mk h l').size=aM l'+1:=rfl;omega
   have hgq:g≠wr.heap.size:=by omega
   have HIN:Hid (WIn w W X J (pre++[SE.mk xg xo xd ⟨h,l'⟩]) wr.heap.size xd st0 g cap W'):=zh ⟨HOW3.out,HJ2.out,t1',hgq,mh.out,yv hszr (Nat.le_of_lt mh.out),HC'.out⟩;have hxdb:xd<=1000001:=by have:=HXD.out;omega
   clear hk hJ' hKS HKS HRd HY HJy HBy HWy rl t8 c0 c1 t0 t1 jp hy
   gi_wp2_with fail
   refine wpIn_wide.2 ?_;clear HOW3 HC' mh HJ2 t1';generalize hq:wr.heap.size=q at *
   go_loopw [3,6] (fun v i wr2=>∃ (L:List SE) (g2 di m:Nat) (z:Int),v=.slice (some ⟨g2,0,none⟩) L.length di/\i=vI z/\m<=l'.length/\Hid (z=(m:Int)-1/\L=st0++(gC g' (xd+1) o' l').reverse.take (l'.length-m))/\Hid (WIn w W X J (pre++[SE.mk xg xo xd ⟨h,l'⟩]) q xd L g2 di wr2)) (fun _ i _=>(intOf i+1).toNat)
   case atStart=>exact⟨st0,g,cap,l'.length,_,rfl,rfl,zr,zh ⟨rfl,by simp⟩,HIN⟩
   case round=>
    obtain⟨L,g2,di,m,z,rfl,rfl,hm,hz,HW⟩:=hrel;cases m with
    |zero=>
     obtain rfl:z=-1:=by have:=hz.out.1;omega
     go_wp2_with fail
     obtain⟨E,hE⟩:∃ E,E=(gC g' (xd+1) o' l').reverse:=⟨_,rfl⟩
     have hL:L=st0++E:=by
      rw[hz.out.2,hE,Nat.sub_zero,List.take_of_length_le (by rw[List.length_reverse,lP];exact zr)]
     have hrm:iI L=eY l' (xd+1)++iI st0:=by rw[hL,hE,yK,uFR]
     have HRm:=zh hrm;have HLE:=zh hL;have HEE:=zh hE;clear hL hrm hE
     go_roundg (iI L).length
     case measure=>rw[HRm.out,HK.out,vH];simp[Tree.depths]
     case rel=>exact⟨pre++[SE.mk xg xo xd ⟨h,l'⟩],L,g2,di,rfl,rfl,zh ⟨HW.out.own,by rw[HRm.out];exact HKEY.out,fun y hy=>by
      rw[HLE.out,List.mem_append]at hy;rcases hy with hy|hy
      ·exact HOk.out y hy
      rw[HEE.out,List.mem_reverse]at hy;rcases HKS2.out with h9|⟨_,h7,h8,h9⟩
      ·subst h9;cases hy
      exact xW h8 h7 l' o' h9 (by have h1:=HXD.out;have h2:(Tree.mk h l').size=aM l'+1:=rfl;omega) y hy,HW.out.j,HW.out.size,HW.out.cell⟩⟩
    |succ k=>
     obtain rfl:z=(k:Int):=by have:=hz.out.1;omega
     rcases HKS2.out with h9|⟨rfl,hgX',hgl',hka⟩
     ·subst h9;simp at hm
     have o5:k<l'.length:=by omega
     have iu:(k:Int)<(l'.length:Int):=by omega
     have hk00:(0:Int)<=(k:Int):=Int.natCast_nonneg _;have htop:=HW.out.top;have qd:Hid (L.length<=2000000):=zh (by
      rw[hz.out.2,yl,zc,List.length_reverse,lP];omega)
     have H63:Hid (L.length+1<=maxLen):=zh (by have:=qd.out;unfold maxLen;omega);have H47:Hid ((L.length+1)*16<=140737488355328):=zh (by have:=qd.out;omega);have HA:=zh (HW.out.next HJ.out (((Below.refl _ wr).alloc zr (.cells #[vP g' (o'+k*22),vI ((xd:Int)+1)] 204)).drew) aq);have HPu:=zh (kid_push (g:=g') (o:=o') (d:=xd+1) o5);have HZ:=zh hz.out.2;have HSW:=zh HW.out.size;have hqs:=HW.out.qs;have hwx:IntKind.i64.wrap ((xd:Int)+1)=(xd:Int)+1:=IntWalk.i64_in _ (by omega);clear hz HKS2
     go_wp2_with fail
     go_region_law (refine step_append_lies _ (by rfl) _ _ _ (by rfl) W.heap.size 204 i0 _ 2 16 Tryz.underlying205 hi my i5 lm rfl (by decide) (.slice (some ⟨g2,0,none⟩) L.length di) L.length (stC L) (by rfl) HA.out.own ⟨wr.heap.size,0,none⟩ 1 1 [vP g' (o'+k*22),vI ((xd:Int)+1)] (by rfl) (by rfl) (World.news_of_block (cs:=#[vP g' (o'+k*22),vI ((xd:Int)+1)]) (t:=204) (fr:=(0,0)) (heap_alloc_new wr _)) (fun x hx=>by simp at hx;rcases hx with rfl|rfl <;> rfl) (by decide) H63.out H47.out (yv HSW.out (by simp)) (wr.heap.size+1) (by simp) ?_;intro gg cap3 w1 cq dr iq hlt1;have bq:=zh (HA.out.push HJ.out aq (x:=⟨g',o'+k*22,xd+1,l'[k]⟩) cq dr (by simpa [Value.ownBlock] using iq));clear cq dr iq hlt1)
     go_wp2_with fail
     go_roundw
     case rel=>exact⟨L++[⟨g',o'+k*22,xd+1,l'[k]⟩],gg,cap3,k,_,by rw[yl,List.length_singleton],rfl,by omega,zh ⟨rfl,by rw[HPu.out,<- List.append_assoc,<- HZ.out]⟩,bq⟩
     case measure=>first |(simp[intOf];done) |(simp[intOf];omega)
  gi_wp2_with fail
  refine yt (results_none rfl _ _ _) rfl ?_;exact⟨⟨_,rfl⟩,.inr ⟨pre++[SE.mk xg xo xd ⟨h,l'⟩],ry.out,hJx'⟩⟩
end Go.Proofs.YtjfihpaeglpblaaGreatDoor
namespace Go.Proofs.YtjfihpaeglpblaaGreatDoor
open Go.RowKit Go.Shelf
attribute [local go_sem] Oper.semAt_some
theorem slB_nil(w:World):(binOp .eql 148 (.slice none 0 0) (.slice none 0 0)).run Tryz.prog w=.ok (.bool true) w:=by kernel_rfl
theorem slB_some(a:Addr)(n c:Nat)(w:World):(binOp .eql 148 (.slice (some a) n c) (.slice none 0 0)).run Tryz.prog w=.ok (.bool false) w:=by kernel_rfl
theorem uEM(l:List Bool):∀ u∈dX l,u.oneCell'=true:=by
 intro u hu;unfold dX at hu;obtain⟨x,_,rfl⟩:=yj.1 hu;rfl
theorem uEL(l:List Bool):(dX l).length=l.length*1:=by simp[dX]
theorem uAM(g off n c:Nat)(l:List Bool)(w:World)(hl:l.length=n)(hn:n<=300)(hc:∀ j u,(dX l)[j]?=some u->w.cell? ⟨g,off+j,none⟩=some u) :
  Calls Tryz.prog 256 #[.slice (some ⟨g,off,none⟩) n c] w fun e w'=>∃ A' c',e=.returned (.slice A' n c')/\w'.ownsRow w.heap.size 4 1 (.slice A' n c') n (dX l)/\Below w.heap.size w w':=by
 have dw:=slB_some ⟨g,off,none⟩ n c;have HC:=zh hc;have HL:=zh hl;clear hc hl;obtain⟨i1,gi,gz0,gz1,gz2⟩:=info_parts nQ;have HO:Hid ((w.alloc (.cells #[] 4)).ownsRow w.heap.size 4 1 (.slice (some ⟨w.heap.size,0,none⟩) 0 0) 0 []):=zh ⟨rfl,.inr ⟨_,0,#[],rfl,zr,heap_alloc_new _ _,zr,by unfold maxLen;omega,rfl,rfl⟩⟩;have HB:Hid (Below w.heap.size w (w.alloc (.cells #[] 4))):=zh ((Below.refl _ w).alloc zr _);have HN:Hid (∀ j u,(dX l)[j]?=some u->(w.alloc (.cells #[] 4)).cell? ((⟨g,off,none⟩:Addr).add j)=some u):=zh (fun j u hj=>by
  have h0:=HC.out j u hj;have e:(⟨g,off,none⟩:Addr).add j=⟨g,off+j,none⟩:=by cases j <;> simp[Addr.add]
  rw[e];exact(HB.out.cell (p:=⟨g,off+j,none⟩) (dN h0)).trans h0)
 go_in
 go_wp2_with (first |(refine wpList_append_own (P:=Tryz.prog) _ rfl (.tmp 5) (.tmp 6) 148 rfl w.heap.size 4 i1 (.bool false) 1 1 Tryz.underlying148 gi gz0 gz1 gz2 rfl (by decide) _ 0 [] rfl HO.out ⟨g,off,none⟩ n c (dX l) rfl (by rw[uEL,HL.out]) HN.out (uEM l) (by unfold maxLen;omega) (by omega) HB.out.size (fun v' w' k1 k2 _=>?_);obtain⟨A',c',rfl⟩:=aV k1;have K1:=zh k1;have K2:=zh k2;clear k1 k2))
 go_ret
 have h1:=K1.out;rw[Nat.zero_add,List.nil_append]at h1;have h2:Below w.heap.size w w':=HB.out.grown K2.out HB.out.size (fun k hk=>by injection hk with hk;exact Nat.le_of_eq hk);exact⟨A',c',rfl,h1,h2⟩
theorem uAN(w:World) :
  Calls Tryz.prog 256 #[.slice none 0 0] w fun e w'=>e=.returned (.slice none 0 0)/\Below w.heap.size w w':=by
 have dw:=slB_nil
 go_in
 go_wp2_with fail
 go_ret
 exact⟨rfl,Below.refl _ _⟩
theorem uES{base n:Nat}{v:Value}{l:List IdR}{W0:World}(h:W0.ownsRow base 27 2 v n (aI l))(hl:l.length=n)(hn:n<=300):∀ W,Below W0.heap.size W0 W->Calls Tryz.prog 244 #[v] W fun e w'=>∃ A c,e=.returned (.slice A n c)/\w'.ownsRow W.heap.size 27 2 (.slice A n c) n (aI l)/\Below W.heap.size W w':=fun W hb=>by
 have h':=aD hb h;rcases h'.2 with⟨rfl,h0⟩|⟨g,cap,cur,rfl,h1,h2,h3⟩
 ·subst h0;refine(pR W).mono ?_;rintro e w' ⟨rfl,uz⟩;obtain rfl:l=[]:=List.eq_nil_of_length_eq_zero hl;exact⟨none,0,rfl,⟨rfl,.inl ⟨rfl,rfl⟩⟩,uz⟩
 refine(pQ g 0 n cap l W hl hn (fun j u hj=>?_)).mono ?_
 ·have:=h'.cells (g:=g) rfl j u hj
  rwa [Addr.add_mid]at this
 rintro e w' ⟨A,c,rfl,k1,k2⟩;exact⟨A,c,rfl,k1,k2⟩
theorem xL{base n:Nat}{v:Value}{l:List Bool}{W0:World}(h:W0.ownsRow base 4 1 v n (dX l))(hl:l.length=n)(hn:n<=300):∀ W,Below W0.heap.size W0 W->Calls Tryz.prog 256 #[v] W fun e w'=>∃ A c,e=.returned (.slice A n c)/\w'.ownsRow W.heap.size 4 1 (.slice A n c) n (dX l)/\Below W.heap.size W w':=fun W hb=>by
 have h':=aD hb h;rcases h'.2 with⟨rfl,h0⟩|⟨g,cap,cur,rfl,h1,h2,h3⟩
 ·subst h0;refine(uAN W).mono ?_;rintro e w' ⟨rfl,uz⟩;obtain rfl:l=[]:=List.eq_nil_of_length_eq_zero hl;exact⟨none,0,rfl,⟨rfl,.inl ⟨rfl,rfl⟩⟩,uz⟩
 refine(uAM g 0 n cap l W hl hn (fun j u hj=>?_)).mono ?_
 ·have:=h'.cells (g:=g) rfl j u hj
  rwa [Addr.add_mid]at this
 rintro e w' ⟨A,c,rfl,k1,k2⟩;exact⟨A,c,rfl,k1,k2⟩
theorem AxF.lists{W:World}{b:Nat}{ids:List IdR}{fl:List Bool}(h:AxF W (some b) (some (ids,fl))):∃ v1 v2 b1 b2,W.cell? ⟨b,0,none⟩=some v1/\W.cell? ⟨b,1,none⟩=some v2/\W.ownsRow b1 27 2 v1 ids.length (aI ids)/\W.ownsRow b2 4 1 v2 fl.length (dX fl)/\b<W.heap.size:=by
 obtain⟨_,_,_,_,⟨base,v1,v2,g⟩|⟨base,g⟩⟩:=h
 ·exact⟨v1,v2,base,base,g.ax.cell 0,g.ax.cell 1,g.r1,g.r2,g.ax.lt⟩
 obtain⟨v1,v2,_,_,_,_,h1,⟨b1,h2⟩,⟨b2,h3⟩,_⟩:=g.ex;exact⟨v1,v2,b1,b2,h1.cell 0,h1.cell 1,h2,h3,h1.lt⟩
theorem gF:∀ (l:List IdR) (k:Nat) (h:k<l.length),(aI l)[k*2]?=some (vI l[k].a)/\(aI l)[k*2+1]?=some (vI l[k].n)
 | [],_,h=>absurd h (by simp)
 |x::r,0,_=>⟨rfl,rfl⟩
 |x::r,k+1,h=>by
  have:=gF r k (by simpa using h);have e:aI (x::r)=[vI x.a,vI x.n]++aI r:=rfl;rw[e,List.getElem?_append_right (by simp;omega),List.getElem?_append_right (by simp;omega)];simp only[yi,List.length_nil,Nat.zero_add];rw[show (k+1)*2-2=k*2 by omega,show (k+1)*2+1-2=k*2+1 by omega];exact this
theorem retB{A B C:Prop}{e:Ending}(h:(e=.returned (.bool true)/\A/\B)\/(e=.returned (.bool false)/\C)):∃ r:Bool,e=.returned (.bool r)/\((r=true/\A/\B)\/(r=false/\C)):=by
 rcases h with⟨h1,h2⟩|⟨h1,h2⟩
 ·exact⟨true,h1,.inl ⟨rfl,h2⟩⟩
 exact⟨false,h1,.inr ⟨rfl,h2⟩⟩
def encA(x:IdR×Bool):Array Value:=#[idV x.1,.bool x.2]
structure ASt(W:World)(J:List (IdR×Bool)->World->Prop)(ids:List IdR)(fl:List Bool)(n c1 c2:Nat)(A1 A2:Option Addr)(i:Nat)(wr:World):Prop where
 o1:wr.ownsRow W.heap.size 27 2 (.slice A1 n c1) n (aI ids)
 o2:wr.ownsRow W.heap.size 4 1 (.slice A2 n c2) n (dX fl)
 j:J ((ids.zip fl).take i) wr
 size:W.heap.size<=wr.heap.size
theorem yE{w w':World}{b e s n:Nat}{v:Value}{xs:List Value}(h:w.ownsRow b e s v n xs)(hk:∀ k,b<=k->k<w.heap.size->w'.heap[k]?=w.heap[k]?):w'.ownsRow b e s v n xs:=by
 obtain⟨h1,h2⟩:=h;refine⟨h1,?_⟩;rcases h2 with h2|⟨g,cap,cur,hv,hb,hh,r⟩
 ·exact .inl h2
 exact .inr ⟨g,cap,cur,hv,hb,(hk g hb (zk.1 hh).1).trans hh,r⟩
theorem all1_in(n0:Nat)(hn:1<=n0)(ids:List IdR)(fl:List Bool)(b B:Nat)(w:World)(hb:w.cell? ⟨B,0,none⟩=some (vP b 0))(hA:AxF w (some b) (some (ids,fl))) :
  SeqQ Fence.wide n0 Tryz.prog 255 #[vP B 0] encA (fun _=>False) (fun pre x=>pre++[x] <+: ids.zip fl) (fun xs=>xs=ids.zip fl) (fun pre=>pre <+: ids.zip fl) w:=fun l J Jx W hW hJ hJx hY h0=>by
 have hbW:W.cell? ⟨B,0,none⟩=some (vP b 0):=(hW.cell (p:=⟨B,0,none⟩) (dN hb)).trans hb;obtain⟨v1,v2,b1,b2,a0,a1,o1,o2,hbs⟩:=(hA.next hW).lists;obtain⟨hl,hn3,-⟩:=id hA;obtain⟨n,dw⟩:=zD ids.length
 have CI:=zh (uES (n:=n) (by rw[dw];exact o1) dw.symm (by omega));have CB:=zh (xL (n:=n) (by rw[dw,hl];exact o2) (by omega) (by omega));have hBs:=dN hbW;have ap:Hid (∀ W',Below W.heap.size W W'->W'.cell? ⟨B,0,none⟩=some (vP b 0)/\W'.cell? ⟨b,0,none⟩=some v1/\W'.cell? ⟨b,1,none⟩=some v2/\Below W.heap.size W W'):=zh (fun W' h=>⟨(h.cell (p:=⟨B,0,none⟩) hBs).trans hbW,(h.cell (p:=⟨b,0,none⟩) hbs).trans a0,(h.cell (p:=⟨b,1,none⟩) hbs).trans a1,h⟩);have HJ:=zh hJ;have HY:=zh hY;have H0:=zh h0;have HN:Hid (ids.length=n/\fl.length=n/\n<=300):=zh ⟨dw.symm,by omega,by omega⟩;have hni:(n:Int)<=300:=by omega
 clear hJ hY hW hJx h0 hb hA hbW hBs o1 o2 hbs a0 a1 hl hn3 dw;obtain⟨m0,a0,a1,dc⟩:=ap.out _ zB;refine callsIn_of_wp Tryz.func255 rfl trivial ?_ rfl;simp only[Tryz.ntmps255,yd,yi,List.length_nil,Nat.reduceAdd,Nat.reduceSub,Array.replicate_succ,Array.replicate_zero,List.push_toArray,List.append_toArray,List.nil_append,yp]
 gi_upto_region 1 with fail
 gi_cut [3,4] from 40 (fun v3 v4 wx=>∃ A1 c1 A2 c2,v3=.slice A1 n c1/\v4=.slice A2 n c2/\Hid (wx.ownsRow W.heap.size 27 2 (.slice A1 n c1) n (aI ids))/\Hid (wx.ownsRow W.heap.size 4 1 (.slice A2 n c2) n (dX fl))/\Hid (Below W.heap.size W wx))
 case first=>
  refine wpIn_wide.2 ?_
  go_region_held3 (fun w'=>w'.cell? ⟨B,0,none⟩=some (vP b 0)/\w'.cell? ⟨b,0,none⟩=some v1/\w'.cell? ⟨b,1,none⟩=some v2/\Below W.heap.size W w')
   (first|exact ap.out _ dc|exact ap.out _ dc.drew |(go_split_ands;exact ap.out _ (Below.trans (by assumption) (Below.mono hb (Below.size (by assumption)))))|assumption)
   (first
    |(go_at_call 244;(with_reducible refine(CI.out _ ?hz).mono ?_);(case hz=>(first|assumption |(go_split_ands;assumption)));rintro e wx ⟨A1,ls,rfl,ho,hb⟩;have b7:Hid (World.ownsRow _ W.heap.size _ _ _ _ _):=zh (aL ho (by first|exact Below.size (by assumption) |(go_split_ands;exact Below.size (by assumption)))))
    |(go_at_call 256;(with_reducible refine(CB.out _ ?hz).mono ?_);(case hz=>(first|assumption |(go_split_ands;assumption)));rintro e wx ⟨A2,oh,rfl,ho,hb⟩;have ee:Hid (World.ownsRow _ W.heap.size _ _ _ _ _):=zh (aL ho (by first|exact Below.size (by assumption) |(go_split_ands;exact Below.size (by assumption))));replace b7:=zh (aD hb b7.out)))
  all_goals go_wp2_with fail
  all_goals go_meet
  all_goals refine⟨A1,ls,A2,oh,rfl,rfl,b7,ee,zh ?_⟩
  all_goals first|assumption |(go_split_ands;assumption)
 case rest=>
 obtain⟨A1,ls,A2,oh,rfl,rfl,b7,ee,HB⟩:=hcut;clear dc CI CB ap m0 a0 a1;obtain⟨W3,gw⟩:=zD wc
 subst gw;have tq:Hid (ASt W J ids fl n ls oh A1 A2 0 W3):=zh ⟨b7.out,ee.out,by rw[List.take_zero];exact HJ.out [] W W3 none H0.out ⟨HB.out.os,HB.out.tape,HB.out.output,HB.out.size,fun k hk _=>HB.out.block k hk⟩ (fun r e=>by cases e),HB.out.size⟩;clear b7 ee HB H0
 gi_wp2_with fail
 gi_loopg [21] n (fun k v wr=>∃ i:Nat,v=vI (i:Int)/\i<=n/\k=n-i/\Hid (ASt W J ids fl n ls oh A1 A2 i wr))
 case atStart=>exact⟨0,rfl,zm _,rfl,tq⟩
 case round=>
  obtain⟨i,rfl,hi,hk,HS⟩:=hrel;have HK:=zh hk;clear hk tq;by_cases hlt:i<n
  ·have hlti:(i:Int)<(n:Int):=by omega
   have hi1:i<ids.length:=by rw[HN.out.1];exact hlt
   have hi2:i<fl.length:=by rw[HN.out.2.1];exact hlt
   obtain⟨g1,cp1,q1,-,-,fj⟩:=fT HS.out.o1 (by omega);obtain⟨g2,cp2,q2,-,-,lp⟩:=fT HS.out.o2 (by omega);injection q1 with q1 _ q3;injection q2 with q2 _ q4;subst q1 q2 q3 q4;obtain⟨k0,k1⟩:=gF ids i hi1;have c0:=fj _ _ k0;have c1:=fj _ _ k1;have d0:=lp i (.bool fl[i]) (by simp[dX,hi2]);obtain⟨x,hx⟩:=zD (ids[i])
   obtain⟨f,hf⟩:=zD (fl[i])
   rw[<- hx]at c0 c1;rw[<- hf]at d0;have ry:Hid ((ids.zip fl).take i++[(x,f)]=(ids.zip fl).take (i+1)):=zh (by
    rw[yw (by rw[List.length_zip];omega),hx,hf];simp)
   have lq:=dN d0;have ix:=dN c0;obtain⟨Wy,t9⟩:=zD (wr.alloc (.cells #[vI x.a,vI x.n] 27))
   have ng:Below wr.heap.size wr Wy:=by rw[t9];exact(zp _)
   have HBy:=zh ng;have u7q:=ng.drew;have hJy:J ((ids.zip fl).take i) Wy.drew:=HJ.out _ wr Wy.drew none HS.out.j ⟨u7q.os,u7q.tape,u7q.output,u7q.size,fun k hk _=>u7q.block k hk⟩ (fun r e=>by cases e);obtain⟨fn,tmps,assign,body,hy,hRd⟩:=HY.out ((ids.zip fl).take i) (x,f) Wy.drew (yv HS.out.size u7q.size) hJy (by rw[ry.out];exact List.take_prefix _ _);have HRd:=zh hRd;dsimp only[encA,idV]at hy;have z0:Wy.cell? ⟨wr.heap.size,0,none⟩=some (vI x.a):=by rw[t9];simp[go_sem]
   have z1:Wy.cell? ⟨wr.heap.size,1,none⟩=some (vI x.n):=by rw[t9];simp[go_sem]
   have zif:Wy.cell? ⟨g2,i,none⟩=some (.bool f):=(ng.cell (p:=⟨g2,i,none⟩) lq).trans d0;have b7:Hid (Wy.ownsRow W.heap.size 27 2 (.slice (some ⟨g1,0,none⟩) n ls) n (aI ids)):=zh (aD ng HS.out.o1);have ee:Hid (Wy.ownsRow W.heap.size 4 1 (.slice (some ⟨g2,0,none⟩) n oh) n (dX fl)):=zh (aD ng HS.out.o2);have HSy:Hid (W.heap.size<=Wy.heap.size):=zh (yv HS.out.size ng.size);have HWy:=zh t9;clear t9 ng u7q hJy hRd fj lp k0 k1 hx hf ix lq HS HY HJ
   gi_upto_region 5 with fail
   rw[<- HWy.out]
   gi_wp2_with fail
   gi_region_with (refine HRd.out.mono ?_;rintro e w5 h5;obtain⟨r,rfl,hr⟩:=retB h5;have HR:=zh hr;clear h5 hr)
   all_goals
    clear HRd hy z0 z1 zif c0 c1 d0;cases r
    ·obtain⟨-,hj5⟩:=HR.out.resolve_left (fun h=>by cases h.1);have HJ5:=zh hj5;clear HR hj5
     gi_wp2_with fail
     refine yt (results_none rfl _ _ _) rfl ?_;exact⟨⟨_,rfl⟩,.inr ⟨_,by rw[ry.out];exact List.take_prefix _ _,HJ5.out⟩⟩
    obtain⟨-,hj5,rz⟩:=HR.out.resolve_right (fun h=>by cases h.1);have HN5:Hid (ASt W J ids fl n ls oh (some ⟨g1,0,none⟩) (some ⟨g2,0,none⟩) (i+1) w5):=zh ⟨yE (aD (Below.refl _ Wy).drew b7.out) rz.2.2.2,yE (aD (Below.refl _ Wy).drew ee.out) rz.2.2.2,by rw[<- ry.out];exact hj5,yv HSy.out rz.1⟩;clear HR hj5 rz b7 ee
    gi_wp2_with fail
    go_roundg (n-(i+1))
    case measure=>rw[HK.out];omega
    case rel=>exact⟨i+1,by go_num,by omega,rfl,HN5⟩
  obtain rfl:i=n:=by omega
  gi_wp2_with fail
  refine bodyPost_end (results_none rfl _ _ _) rfl ?_;exact⟨⟨_,rfl⟩,.inl ⟨ids.zip fl,rfl,by have:=HS.out.j;rwa [List.take_of_length_le (by rw[List.length_zip,HN.out.1,HN.out.2.1];omega)]at this⟩⟩
def iT(ops:Array Oper):Nat->Nat->Nat->Bool
 |0,a,b=>a==b
 |f+1,a,b=>a==b||((ops[a]?).map fun o=>o.after.any fun e=>Region.binds .any e&&iT ops f e.on b).getD false
section
variable {ops:Array Oper} {S:List Nat} {T:List (Nat×Nat×Value)} {X w:World} {R F:World->Prop} {ic is N:Nat} {a0 a:Act} {zl:Array Bool} {Q:Exit->Act->World->Prop} {o:Oper}
theorem lF(hd:∀ i o,ops[i]?=some o->Up zl i->∀ e∈o.after,Region.binds .any e=true->Up zl e.on):∀ (f a b:Nat),iT ops f a b=true->Up zl a->Up zl b
 |0,a,b,h,hu=>by
  simp only[iT,beq_iff_eq]at h;rw[<- h];exact hu
 |f+1,a,b,h,hu=>by
  simp only[iT,Bool.or_eq_true,beq_iff_eq]at h;rcases h with h|h
  ·rw[<- h];exact hu
  cases ho:ops[a]? with
  |none=>rw[ho]at h;cases h
  |some o=>
   rw[ho]at h;simp only[Option.map_some,Option.getD_some,Array.any_eq_true',yh]at h;obtain⟨e,he,hb,hr⟩:=h;exact lF hd f e.on b hr (hd a o ho hu e he hb)
end
theorem fL(x y:IdR)(w:World):(binOp .neq 27 (idV x) (idV y)).run Tryz.prog w=.ok (.bool (decide (x≠y))) w:=by
 obtain⟨a,n⟩:=x;obtain⟨a2,n2⟩:=y
 go_simp
 by_cases h0:a=a2
 case neg=>simp[h0]
 by_cases h1:n=n2
 case neg=>simp[h0,h1]
 simp[h0,h1]
section
variable {ρ:Tok->Tok->Prop} {G B:Prop} {d N:Nat}
theorem headSame(h:NodeH):NodeH.same h h=true:=by
 unfold NodeH.same;simp[tM]
theorem uCH(l:List Tree)(x:Tree):aM (l++[x])=aM l+x.size:=by
 induction l with
 |nil=>simp[aM]
 |cons t l ih=>rw[yp,aM,aM,ih];omega
theorem yR(l:List Tree)(x:Tree)(k:Int):aZ (l++[x]) k=(aZ l k&&((decide (k≠8)||decide (x.h.kind=0))&&x.right k)):=by
 induction l with
 |nil=>simp[aZ]
 |cons t l ih=>rw[yp,aZ,aZ,ih];simp[Bool.and_assoc]
end
theorem uEV:(Tryz.prog.info? 34).map (fun i=>(i.size,i.bytes))=some (22,192):=by kernel_rfl
def Ph(zl:Array Bool):List (Nat×(World->Prop))->(World->Prop)->World->Prop
 | [],P,w=>P w
 |(m,Q)::r,P,w=>(¬ Up zl m->P w)/\(Up zl m->Ph zl r Q w)
theorem Ph.same{l l':Array Bool}:∀ {ms:List (Nat×(World->Prop))} {P:World->Prop} {w:World},(∀ m∈ms,(Up l' m.1↔Up l m.1))->Ph l ms P w->Ph l' ms P w
 | [],_,_,_,h=>h
 |(m,Q)::r,P,w,hm,h=>by
  have h0:=hm (m,Q) (.head _);exact⟨fun hn=>h.1 (fun hu=>hn (h0.2 hu)),fun hu=>Ph.same (fun m' mi=>hm m' (.tail _ mi)) (h.2 (h0.1 hu))⟩
theorem Ph.step{l':Array Bool}{i:Nat}{Q:World->Prop}{post:List (Nat×(World->Prop))}{w1:World}(hi:Up l' i)(o7:∀ m∈post,¬ Up l' m.1)(hQ:Q w1):∀ {pre:List (Nat×(World->Prop))} {P:World->Prop},(∀ m∈pre,Up l' m.1)->Ph l' (pre++(i,Q)::post) P w1
 | [],P,_=>⟨fun hn=>absurd hi hn,fun _=>by
  cases post with
  |nil=>exact hQ
  |cons m r=>exact⟨fun _=>hQ,fun hu=>absurd hu (o7 m (.head _))⟩⟩
 |(m,R)::r,P,hp=>⟨fun hn=>absurd (hp (m,R) (.head _)) hn,fun _=>Ph.step hi o7 hQ (fun m' mi=>hp m' (.tail _ mi))⟩
def uBU:List (Nat×(World->Prop))->(World->Prop)->Nat->World->Prop
 |_,P,0=>P
 | [],P,_+1=>P
 |(_,Q)::r,_,j+1=>uBU r Q j
theorem Ph.ahead{l:Array Bool}{i:Nat}{Q:World->Prop}{post:List (Nat×(World->Prop))}{w:World}(hi:¬ Up l i):∀ {pre:List (Nat×(World->Prop))} {P:World->Prop},(∀ m∈pre,Up l m.1)->Ph l (pre++(i,Q)::post) P w->uBU (pre++(i,Q)::post) P pre.length w
 | [],_,_,h=>h.1 hi
 |(m,R)::r,_,hp,h=>Ph.ahead (pre:=r) (P:=R) hi (fun m' mi=>hp m' (.tail _ mi)) (h.2 (hp (m,R) (.head _)))
theorem Ph.low{l:Array Bool}{w:World}:∀ {ms:List (Nat×(World->Prop))} {P:World->Prop} (k:Nat),k<=ms.length->(∀ m,ms[k]?=some m->¬ Up l m.1)->Ph l ms P w->∃ j,j<=k/\uBU ms P j w
 | [],_,_,_,_,h=>⟨0,zm _,h⟩
 |(m,Q)::r,P,0,_,hm,h=>⟨0,zr,h.1 (hm (m,Q) rfl)⟩
 |(m,Q)::r,P,k+1,hk,hm,h=>by
  by_cases hu:Up l m
  ·obtain⟨j,h1,h2⟩:=Ph.low k (by simpa using hk) (fun m' mi=>hm m' (by simpa using mi)) (h.2 hu);exact⟨j+1,by omega,h2⟩
  exact⟨0,zm _,h.1 hu⟩
theorem Ph.last{l:Array Bool}{w:World}:∀ {ms:List (Nat×(World->Prop))} {P:World->Prop},(∀ m∈ms,Up l m.1)->Ph l ms P w->uBU ms P ms.length w
 | [],_,_,h=>h
 |(m,Q)::r,_,hp,h=>Ph.last (ms:=r) (P:=Q) (fun m' mi=>hp m' (.tail _ mi)) (h.2 (hp (m,Q) (.head _)))
structure GU(ops:Array Oper)(S:List Nat)(T:List (Nat×Nat×Value))(ms:List (Nat×(World->Prop)))(P:World->Prop)(a0:Act)(zl:Array Bool)(a:Act)(w:World):Prop where
 off:Off S a0 a
 pt:PT T zl a
 dn:∀ i o,ops[i]?=some o->Up zl i->∀ e∈o.after,Region.binds .any e=true->Up zl e.on
 st:Ph zl ms P w
def okU(nums:List (Nat×Nat))(S:List Nat)(N:Nat):Bool :=
 nums.all (fun e=>S.contains e.2&&decide (e.2<N))&&decide (nums.Pairwise (fun p q=>p.1≠q.1/\p.2≠q.2))
def eX(ops:Array Oper):List Nat->Bool
 |a::b::r=>iT ops 40 b a&&a != b&&eX ops (b::r)
 |_=>true
section
variable {ops:Array Oper} {S:List Nat} {T:List (Nat×Nat×Value)} {ms:List (Nat×(World->Prop))} {P:World->Prop} {w w1:World} {N:Nat} {a0 a:Act} {zl:Array Bool} {Q:Exit->Act->World->Prop} {o:Oper} {i s:Nat} {v:Value}
theorem uEA(hk:okU (T.map fun e=>(e.1,e.2.1)) S N=true){e:Nat×Nat×Value}(he:e∈T):e.2.1∈S/\e.2.1<N:=by
 simp only[okU,yh,List.all_eq_true,decide_eq_true_eq,List.contains_iff_mem,yj,forall_exists_index,and_imp,forall_apply_eq_imp_iff₂]at hk;exact hk.1 e he
theorem nU(hk:okU (T.map fun e=>(e.1,e.2.1)) S N=true){e e':Nat×Nat×Value}(he:e∈T)(kc:e'∈T)(hs:e.1=e'.1\/e.2.1=e'.2.1):e=e':=by
 by_cases heq:e=e'
 ·exact heq
 exfalso
 simp only[okU,yh,decide_eq_true_eq,List.pairwise_map]at hk;have h2:=hk.2;have key:∀ l:List (Nat×Nat×Value),l.Pairwise (fun p q=>p.1≠q.1/\p.2.1≠q.2.1)->∀ x∈l,∀ y∈l,x≠y->x.1≠y.1/\x.2.1≠y.2.1:=by
  intro l
  induction l with
  |nil=>intro _ x hx;cases hx
  |cons c l ih=>
   intro hp x hx y hy dg;rw[List.pairwise_cons]at hp;rcases ym.1 hx with ex|hx <;> rcases ym.1 hy with ey|hy
   ·exact absurd (ex.trans ey.symm) dg
   ·rw[ex];exact hp.1 y hy
   ·rw[ey];exact⟨fun e=>(hp.1 x hx).1 e.symm,fun e=>(hp.1 x hx).2 e.symm⟩
   exact ih hp.2 x hx y hy dg
 have:=key T h2 e he e' kc heq;rcases hs with hs|hs
 ·exact this.1 hs
 exact this.2 hs
theorem GU.start(a:Act)(m:Nat)(hX:P w):GU ops S T ms P a (Array.replicate m false) a w :=
 ⟨Off.refl _ _,PT.start _ _ _,fun _ _ _ h=>absurd h (Up.none _ _),by
  cases ms with
  |nil=>exact hX
  |cons m r=>exact⟨fun _=>hX,fun h=>absurd h (Up.none _ _)⟩⟩
theorem dnU{zl:Array Bool}(hd:∀ i o,ops[i]?=some o->Up zl i->∀ e∈o.after,Region.binds .any e=true->Up zl e.on)(aj:zl.getD i true=false)(ho:ops[i]?=some o)(zd:∀ e∈o.after,Region.binds .any e=true->Up zl e.on) :
  ∀ j o',ops[j]?=some o'->Up (zl.setIfInBounds i true) j->∀ e∈o'.after,Region.binds .any e=true->Up (zl.setIfInBounds i true) e.on:=by
 intro j o' hj hu e he hb;have hi:=Up.of_false aj;rcases(Up.set hi).1 hu with rfl|hu
 ·rw[ho]at hj;injection hj with hj;subst hj;exact eP hi (zd e he hb)
 exact eP hi (hd j o' hj hu e he hb)
theorem vG(hd:∀ i o,ops[i]?=some o->Up zl i->∀ e∈o.after,Region.binds .any e=true->Up zl e.on)(ho:ops[i]?=some o)(zd:∀ e∈o.after,Region.binds .any e=true->Up zl e.on){b f:Nat}(hr:iT ops f i b=true)(dg:i≠b):Up zl b:=by
 cases f with
 |zero=>simp only[iT,beq_iff_eq]at hr;exact absurd hr dg
 |succ f=>
  simp only[iT,Bool.or_eq_true,beq_iff_eq]at hr;rcases hr with hr|hr
  ·exact absurd hr dg
  rw[ho]at hr;simp only[Option.map_some,Option.getD_some,Array.any_eq_true',yh]at hr;obtain⟨e,he,hb,hr⟩:=hr;exact lF hd f e.on b hr (zd e he hb)
theorem oO(hd:∀ i o,ops[i]?=some o->Up zl i->∀ e∈o.after,Region.binds .any e=true->Up zl e.on):∀ (pre:List Nat) (x:Nat) (post:List Nat),eX ops (pre++x::post)=true->(∀ f b,iT ops f x b=true->x≠b->Up zl b)->∀ m∈pre,Up zl m
 | [],_,_,_,_,m,hm=>by cases hm
 | [a],x,post,hc,hx,m,hm=>by
  rw[yf.1 hm];simp only[yp,List.nil_append,eX,yh,bne_iff_ne]at hc;exact hx 40 a hc.1.1 (Ne.symm hc.1.2)
 |a::b::r,x,post,hc,hx,m,hm=>by
  simp only[yp,eX,yh,bne_iff_ne]at hc;have hrec:=oO hd (b::r) x post (by simpa using hc.2) hx;rcases ym.1 hm with rfl|hm
  ·exact lF hd 40 b m hc.1.1 (hrec b (.head _))
  exact hrec m hm
theorem mS(hd:∀ i o,ops[i]?=some o->Up zl i->∀ e∈o.after,Region.binds .any e=true->Up zl e.on):∀ (post:List Nat) (x:Nat),eX ops (x::post)=true->¬ Up zl x->∀ m∈post,¬ Up zl m
 | [],_,_,_,m,hm=>by cases hm
 |b::r,x,hc,hx,m,hm=>by
  simp only[eX,yh,bne_iff_ne]at hc;have hb:¬ Up zl b:=fun h=>hx (lF hd 40 b x hc.1.1 h)
  rcases ym.1 hm with rfl|hm
  ·exact hb
  exact mS hd r b hc.2 hb m hm
theorem jM:∀ (pre:List Nat) (l:List Nat),eX ops (pre++l)=true->eX ops l=true
 | [],_,h=>h
 | [a],[],_=>rfl
 | [a],b::r,h=>by
  simp only[yp,List.nil_append,eX,yh]at h;exact h.2
 |a::b::r,l,h=>by
  simp only[yp,eX,yh]at h;exact jM (b::r) l (by simpa using h.2)
theorem nO(hk:okU (T.map fun e=>(e.1,e.2.1)) S N=true)(hI:GU ops S T ms P a0 zl a w)(hN:N<=a0.tmps.size)(he:(i,s,v)∈T)(hm:∀ m∈ms,m.1≠i)(aj:zl.getD i true=false)(ho:ops[i]?=some o)(zd:∀ e∈o.after,Region.binds .any e=true->Up zl e.on):GU ops S T ms P a0 (zl.setIfInBounds i true) (a.put (some s) v) w:=by
 have hi:=Up.of_false aj;obtain⟨h2,h3⟩:=uEA hk he;exact⟨hI.off.put h2 v,hI.pt.step hi (by rw[hI.off.size];exact yu h3 hN) (fun e' kc hs=>by rw[nU hk kc he (.inr hs)]) (fun e' kc hs=>by rw[nU hk kc he (.inl hs)]),dnU hI.dn aj ho zd,hI.st.same (fun m mi=>⟨fun h=>lK hi h (hm m mi),fun h=>eP hi h⟩)⟩
theorem fJ(hk:okU (T.map fun e=>(e.1,e.2.1)) S N=true)(hI:GU ops S T ms P a0 zl a w)(hN:N<=a0.tmps.size)(he:(i,s,v)∈T)(hm:∀ m∈ms,m.1≠i)(aj:zl.getD i true=false)(ho:ops[i]?=some o)(zd:∀ e∈o.after,Region.binds .any e=true->Up zl e.on)(hw:Region.wanted o (yielded ops a.tmps)=true)(hd:o.dst=some s)
  (hr:(execOp a.eval o).run Tryz.prog w=.ok (.value v) w):wpOp Tryz.prog ops Q i (GU ops S T ms P a0 (zl.setIfInBounds i true)) a w:=by
 unfold wpOp;rw[ho];simp only;rw[if_pos hw];refine .inl (pM v hr ?_);rw[hd];exact nO hk hI hN he hm aj ho zd
theorem uDS(hk:okU (T.map fun e=>(e.1,e.2.1)) S N=true)(hI:GU ops S T ms P a0 zl a w)(hN:N<=a0.tmps.size)(he:(i,s,undef)∈T)(hm:∀ m∈ms,m.1≠i)(aj:zl.getD i true=false)(ho:ops[i]?=some o)(zd:∀ e∈o.after,Region.binds .any e=true->Up zl e.on)(hw:Region.wanted o (yielded ops a.tmps)=false)(hd:o.dst=some s):wpOp Tryz.prog ops Q i (GU ops S T ms P a0 (zl.setIfInBounds i true)) a w:=by
 unfold wpOp;rw[ho];simp only;rw[if_neg (by rw[hw];decide),hd];exact nO hk hI hN he hm aj ho zd
theorem GU.at(hI:GU ops S T ms P a0 zl a w)(hc:eX ops (ms.map (·.1))=true)(pre post:List (Nat×(World->Prop)))(R:World->Prop)(hms:ms=pre++(i,R)::post)(aj:zl.getD i true=false)(ho:ops[i]?=some o)(zd:∀ e∈o.after,Region.binds .any e=true->Up zl e.on):uBU ms P pre.length w/\∀ w1,R w1->Ph (zl.setIfInBounds i true) ms P w1:=by
 have hi:=Up.of_false aj;subst hms;rw[List.map_append,List.map_cons]at hc;have hpre:∀ m∈pre,Up zl m.1:=fun m hm=>oO hI.dn _ _ _ hc (fun f b hr dg=>vG hI.dn ho zd hr dg) m.1 (yj.2 ⟨m,hm,rfl⟩)
 have o7:∀ m∈post,¬ Up zl m.1:=fun m hm=>mS hI.dn _ _ (jM _ _ hc) (jT aj) m.1 (yj.2 ⟨m,hm,rfl⟩)
 refine⟨Ph.ahead (jT aj) hpre hI.st,fun w1 hR=>Ph.step (qY hi) (fun m hm hu=>?_) hR (fun m hm=>eP hi (hpre m hm))⟩;rcases(Up.set hi).1 hu with h|h
 ·have h0:=mS (zl:=Array.replicate zl.size false) (fun _ _ _ h=>absurd h (Up.none _ _)) _ _ (jM _ _ hc) (Up.none _ _);clear h0;have hnd:∀ (l:List Nat) (x:Nat),eX ops (x::l)=true->(∀ y∈l,¬ Up zl y)->(∀ e∈o.after,Region.binds .any e=true->Up zl e.on)->ops[x]?=some o->x∉l:=by
   intro l
   induction l with
   |nil=>intro _ _ _ _ _ hm;cases hm
   |cons y l _=>
    intro x hc' hy hd' ho' mi;have ig:=hc';simp only[eX,yh,bne_iff_ne]at ig;rcases ym.1 mi with e|mi
    ·exact ig.1.2 e
    -- x stands behind y: it waits for y
    obtain⟨l1,l2,rfl⟩:=List.append_of_mem mi;have:=oO (ops:=ops) (zl:=zl) hI.dn (y::l1) x l2 (by simpa using ig.2) (fun f b hr dg=>vG hI.dn ho' hd' hr dg) y (.head _);exact hy y (.head _) this
  exact hnd (post.map (·.1)) i (jM _ _ hc) (fun y hy=>by obtain⟨m',mi,rfl⟩:=yj.1 hy;exact o7 m' mi) zd ho (yj.2 ⟨m,hm,h⟩)
 exact o7 m hm h
theorem GU.low(hI:GU ops S T ms P a0 zl a w)(k:Nat)(hk:k<=ms.length)(hr:∀ m,ms[k]?=some m->iT ops 40 m.1 i=true)(aj:zl.getD i true=false):∃ j,j<=k/\uBU ms P j w :=
 Ph.low k hk (fun m hm hu=>jT aj (lF hI.dn 40 m.1 i (hr m hm) hu)) hI.st
theorem gu_mark(hk:okU (T.map fun e=>(e.1,e.2.1)) S N=true)(hI:GU ops S T ms P a0 zl a w)(hN:N<=a0.tmps.size)(he:(i,s,v)∈T)(hc:eX ops (ms.map (·.1))=true)(pre post:List (Nat×(World->Prop)))(R:World->Prop)(hms:ms=pre++(i,R)::post)(aj:zl.getD i true=false)(ho:ops[i]?=some o)(zd:∀ e∈o.after,Region.binds .any e=true->Up zl e.on)(hw:Region.wanted o (yielded ops a.tmps)=true)(hd:o.dst=some s)
  (hr:uBU ms P pre.length w->Oper.wp Tryz.prog o a w (fun a' w'=>a'=a.put o.dst v/\R w') Q):wpOp Tryz.prog ops Q i (GU ops S T ms P a0 (zl.setIfInBounds i true)) a w:=by
 have hi:=Up.of_false aj;obtain⟨h1,h2⟩:=hI.at hc pre post R hms aj ho zd;obtain⟨h3,h4⟩:=uEA hk he;unfold wpOp;rw[ho];simp only;rw[if_pos hw];refine .inl (Oper.wp_mono (fun a' w' hh=>?_) (hr h1));obtain⟨rfl,hR⟩:=hh;rw[hd];exact⟨hI.off.put h3 v,hI.pt.step hi (by rw[hI.off.size];exact yu h4 hN) (fun e' kc hs=>by rw[nU hk kc he (.inr hs)]) (fun e' kc hs=>by rw[nU hk kc he (.inl hs)]),dnU hI.dn aj ho zd,h2 w' hR⟩
theorem sK(f:FuncId)(xs:Array Value){K:Act->World->Prop}(hr:(execOp a.eval o).run Tryz.prog w=.ok (.enter f xs) w)(hc:Calls Tryz.prog f xs w fun e w1=>e=.returned v/\K (a.put o.dst v) w1):Oper.wp Tryz.prog o a w K Q:=by
 unfold Oper.wp;rw[hr];refine hc.mono ?_;rintro e w1 ⟨rfl,h⟩;exact h
theorem bS{y:Nat->Option Bool}(h:o.guard=none):Region.wanted o y=true:=by unfold Region.wanted;rw[h]
theorem aS{g sg:Nat}{pol b:Bool}(h:o.guard=some (g,pol)){og:Oper}(hg:ops[g]?=some og)(hd:og.dst=some sg)(hv:a.eval (.tmp sg)=.bool b):Region.wanted o (yielded ops a.tmps)=(b==pol):=by
 have h1:a.tmps[sg]?=some (.bool b):=by
  have:=cD hv;cases hq:a.tmps[sg]? with
  |none=>rw[hq]at this;cases this
  |some x=>rw[hq]at this;simpa using this
 unfold Region.wanted yielded;rw[h];simp only[hg,Option.bind_some,hd,h1];cases b <;> cases pol <;> rfl
theorem bV{id:Nat}{w0:World}(F0:Act->Prop)(S:List Nat)(T:List (Nat×Nat×Value))(ms:List (Nat×(World->Prop)))(P:World->Prop)(hm:Tryz.prog.follows .mixedOrders=true)(hb:fI ops=true)(hF0:F0 a)(hX:P w0.drew)
  (cg:∀ a0,F0 a0->∀ zl a w i o,zl.size=ops.size->GU ops S T ms P a0 zl a w->zl.getD i true=false->ops[i]?=some o->(∀ e∈o.after,Region.binds .any e=true->Up zl e.on)->wpOp Tryz.prog ops Q i (GU ops S T ms P a0 (zl.setIfInBounds i true)) a w)
  (co:∀ zl a' w',GU ops S T ms P a zl a' w'->(∀ i,i<ops.size->Up zl i)->Q .normal a' w'):(Code.region id ops true).wp Tryz.prog Q a w0 :=
 fE hm hb F0 (GU ops S T ms P) hF0 (GU.start _ _ hX) cg co
end
structure RG(ops:Array Oper)(S:List Nat)(T:List (Nat×Nat×Value))(P:World->Prop)(a0:Act)(N:Nat)(zl:Array Bool)(a:Act)(w:World)(i:Nat)(o:Oper):Prop where
 k:okU (T.map fun e=>(e.1,e.2.1)) S N=true
 I:GU ops S T [] P a0 zl a w
 z:N<=a0.tmps.size
 u:zl.getD i true=false
 p:ops[i]?=some o
 e:∀ e∈o.after,Region.binds .any e=true->Up zl e.on
section
variable {ops:Array Oper} {S:List Nat} {T:List (Nat×Nat×Value)} {P:World->Prop} {a0 a:Act} {zl:Array Bool} {w:World} {N i j s:Nat} {v:Value} {o:Oper} {Q:Exit->Act->World->Prop}
theorem Off.q{S:List Nat}{a0 a:Act}(h:Off S a0 a){t:Nat}{v:Value}(e:a0.eval (.tmp t)=v)(ht:t∉S:=by decide):a.tmps[t]?.getD undef=v:=cD ((h.eval ht).trans e)
theorem RG.d(G:RG ops S T P a0 N zl a w j o)(n:Nat)(h:T[n]?=some (i,s,v):=by exact rfl)(hm:{ on:=i,ground:=.data }∈o.after:=by simp):a.eval (.tmp s)=v:=G.I.pt (i,s,v) (List.mem_of_getElem? h) (G.e _ hm rfl)
theorem RG.g(G:RG ops S T P a0 N zl a w j o)(n:Nat)(h:T[n]?=some (i,s,v):=by exact rfl)(hm:{ on:=i,ground:=.guard }∈o.after:=by simp):a.eval (.tmp s)=v:=G.I.pt (i,s,v) (List.mem_of_getElem? h) (G.e _ hm rfl)
theorem wq{sg:Nat}{pol b:Bool}(hq:(o.guard.bind fun gp=>(ops[gp.1]?).bind fun og=>og.dst.map fun d=>(d,gp.2))=some (sg,pol))(hv:a.eval (.tmp sg)=.bool b):Region.wanted o (yielded ops a.tmps)=(b==pol):=by
 obtain⟨⟨g,p⟩,h1,h2⟩:=Option.bind_eq_some_iff.1 hq;obtain⟨og,h3,h4⟩:=Option.bind_eq_some_iff.1 h2;obtain⟨d,h5,h6⟩:=Option.map_eq_some_iff.1 h4;cases h6;exact aS h1 h3 h5 hv
theorem wqu{sg:Nat}{pol:Bool}(hq:(o.guard.bind fun gp=>(ops[gp.1]?).bind fun og=>og.dst.map fun d=>(d,gp.2))=some (sg,pol))(hv:a.eval (.tmp sg)=undef):Region.wanted o (yielded ops a.tmps)=false:=by
 obtain⟨⟨g,p⟩,h1,h2⟩:=Option.bind_eq_some_iff.1 hq;obtain⟨og,h3,h4⟩:=Option.bind_eq_some_iff.1 h2;obtain⟨d,h5,h6⟩:=Option.map_eq_some_iff.1 h4;cases h6;have e:=cD hv;unfold Region.wanted yielded;rw[h1];simp only[h3,Option.bind_some,h5];cases hq:a.tmps[sg]? with
 |none=>rfl
 |some x=>
  rw[hq]at e;have h2:x=undef:=e;subst h2;rfl
theorem RG.sk(G:RG ops S T P a0 N zl a w i o)(n:Nat){sg:Nat}{pol b:Bool}(hv:a.eval (.tmp sg)=.bool b)(h:T[n]?=some (i,s,undef):=by exact rfl)(hq:(o.guard.bind fun gp=>(ops[gp.1]?).bind fun og=>og.dst.map fun d=>(d,gp.2))=some (sg,pol):=by exact rfl)(hb:(b==pol)=false:=by rfl)(hd:o.dst=some s:=by rfl):wpOp Tryz.prog ops Q i (GU ops S T [] P a0 (zl.setIfInBounds i true)) a w :=
 uDS G.k G.I G.z (List.mem_of_getElem? h) (fun _ hm=>by cases hm) G.u G.p G.e ((wq hq hv).trans hb) hd
theorem RG.su(G:RG ops S T P a0 N zl a w i o)(n:Nat){sg:Nat}{pol:Bool}(hv:a.eval (.tmp sg)=undef)(h:T[n]?=some (i,s,undef):=by exact rfl)(hq:(o.guard.bind fun gp=>(ops[gp.1]?).bind fun og=>og.dst.map fun d=>(d,gp.2))=some (sg,pol):=by exact rfl)(hd:o.dst=some s:=by rfl):wpOp Tryz.prog ops Q i (GU ops S T [] P a0 (zl.setIfInBounds i true)) a w :=
 uDS G.k G.I G.z (List.mem_of_getElem? h) (fun _ hm=>by cases hm) G.u G.p G.e (wqu hq hv) hd
theorem RG.vl(G:RG ops S T P a0 N zl a w i o)(n:Nat)(h:T[n]?=some (i,s,v)){sg:Nat}{pol b:Bool}(hv:a.eval (.tmp sg)=.bool b)(hr:(execOp a.eval o).run Tryz.prog w=.ok (.value v) w)(hq:(o.guard.bind fun gp=>(ops[gp.1]?).bind fun og=>og.dst.map fun d=>(d,gp.2))=some (sg,pol):=by exact rfl)(hb:(b==pol)=true:=by rfl)(hd:o.dst=some s:=by rfl):wpOp Tryz.prog ops Q i (GU ops S T [] P a0 (zl.setIfInBounds i true)) a w :=
 fJ G.k G.I G.z (List.mem_of_getElem? h) (fun _ hm=>by cases hm) G.u G.p G.e ((wq hq hv).trans hb) hd hr
theorem RG.nl(G:RG ops S T P a0 N zl a w i o)(n:Nat)(h:T[n]?=some (i,s,v))(hr:(execOp a.eval o).run Tryz.prog w=.ok (.value v) w)(hg:o.guard=none:=by rfl)(hd:o.dst=some s:=by rfl):wpOp Tryz.prog ops Q i (GU ops S T [] P a0 (zl.setIfInBounds i true)) a w :=
 fJ G.k G.I G.z (List.mem_of_getElem? h) (fun _ hm=>by cases hm) G.u G.p G.e (bS hg) hd hr
theorem RG.cx(G:RG ops S T P a0 N zl a w i o)(n:Nat)(h:T[n]?=some (i,s,v))(hw:Region.wanted o (yielded ops a.tmps)=true)(hd:o.dst=some s)(f:FuncId)(xs:Array Value)(hr:(execOp a.eval o).run Tryz.prog w=.ok (.enter f xs) w)(hc:Calls Tryz.prog f xs w fun e w1=>e=.returned v/\P w1):wpOp Tryz.prog ops Q i (GU ops S T [] P a0 (zl.setIfInBounds i true)) a w:=by
 have h:=nO G.k G.I G.z (List.mem_of_getElem? h) (fun _ hm=>by cases hm) G.u G.p G.e;unfold wpOp;rw[G.p];simp only;rw[if_pos hw];refine .inl (sK (v:=v) f xs hr (hc.mono ?_));rintro e w1 ⟨rfl,hP⟩;rw[hd];exact⟨rfl,h.off,h.pt,h.dn,hP⟩
theorem RG.cn(G:RG ops S T P a0 N zl a w i o)(n:Nat)(h:T[n]?=some (i,s,v))(f:FuncId)(xs:Array Value)(hr:(execOp a.eval o).run Tryz.prog w=.ok (.enter f xs) w)(hc:Calls Tryz.prog f xs w fun e w1=>e=.returned v/\P w1)(hg:o.guard=none:=by rfl)(hd:o.dst=some s:=by rfl):wpOp Tryz.prog ops Q i (GU ops S T [] P a0 (zl.setIfInBounds i true)) a w:=G.cx n h (bS hg) hd f xs hr hc
theorem RG.cw(G:RG ops S T P a0 N zl a w i o)(n:Nat)(h:T[n]?=some (i,s,v)){sg:Nat}{pol b:Bool}(hv:a.eval (.tmp sg)=.bool b)(f:FuncId)(xs:Array Value)(hr:(execOp a.eval o).run Tryz.prog w=.ok (.enter f xs) w)(hc:Calls Tryz.prog f xs w fun e w1=>e=.returned v/\P w1)(hq:(o.guard.bind fun gp=>(ops[gp.1]?).bind fun og=>og.dst.map fun d=>(d,gp.2))=some (sg,pol):=by exact rfl)(hb:(b==pol)=true:=by rfl)(hd:o.dst=some s:=by rfl):wpOp Tryz.prog ops Q i (GU ops S T [] P a0 (zl.setIfInBounds i true)) a w:=G.cx n h ((wq hq hv).trans hb) hd f xs hr hc
theorem RG.t(G:RG ops S T P a0 N zl a w j o)(n:Nat)(h:T[n]?=some (i,s,v):=by exact rfl)(hm:{ on:=i,ground:=.data }∈o.after:=by simp):a.tmps[s]?.getD undef=v:=cD (RG.d G n h hm)
theorem RG.gv(G:RG ops S T P a0 N zl a w i o)(g n:Nat){jg sg:Nat}{b:Bool}(hr:b=true->(execOp a.eval o).run Tryz.prog w=.ok (.value v) w)(hg:T[g]?=some (jg,sg,.bool b):=by exact rfl)(h:T[n]?=some (i,s,bif b then v else undef):=by exact rfl)(hq:(o.guard.bind fun gp=>(ops[gp.1]?).bind fun og=>og.dst.map fun d=>(d,gp.2))=some (sg,true):=by exact rfl)(hm:{ on:=jg,ground:=.guard }∈o.after:=by simp)(hd:o.dst=some s:=by rfl):wpOp Tryz.prog ops Q i (GU ops S T [] P a0 (zl.setIfInBounds i true)) a w:=by
 have pg:=RG.g G g hg hm;cases b
 ·exact RG.sk G n pg h hq rfl hd
 exact RG.vl G n h pg (hr rfl) hq rfl hd
theorem RG.gn(G:RG ops S T P a0 N zl a w i o)(g n:Nat){jg sg:Nat}{b:Bool}(hr:b=false->(execOp a.eval o).run Tryz.prog w=.ok (.value v) w)(hg:T[g]?=some (jg,sg,.bool b):=by exact rfl)(h:T[n]?=some (i,s,bif b then undef else v):=by exact rfl)(hq:(o.guard.bind fun gp=>(ops[gp.1]?).bind fun og=>og.dst.map fun d=>(d,gp.2))=some (sg,false):=by exact rfl)(hm:{ on:=jg,ground:=.guard }∈o.after:=by simp)(hd:o.dst=some s:=by rfl):wpOp Tryz.prog ops Q i (GU ops S T [] P a0 (zl.setIfInBounds i true)) a w:=by
 have pg:=RG.g G g hg hm;cases b
 ·exact RG.vl G n h pg (hr rfl) hq rfl hd
 exact RG.sk G n pg h hq rfl hd
theorem RG.gz(G:RG ops S T P a0 N zl a w i o)(g n:Nat){jg sg:Nat}{b:Bool}(hr:b=false->(execOp a.eval o).run Tryz.prog w=.ok (.value v) w)(hg:T[g]?=some (jg,sg,.bool (!b)):=by exact rfl)(h:T[n]?=some (i,s,bif b then undef else v):=by exact rfl)(hq:(o.guard.bind fun gp=>(ops[gp.1]?).bind fun og=>og.dst.map fun d=>(d,gp.2))=some (sg,true):=by exact rfl)(hm:{ on:=jg,ground:=.guard }∈o.after:=by simp)(hd:o.dst=some s:=by rfl):wpOp Tryz.prog ops Q i (GU ops S T [] P a0 (zl.setIfInBounds i true)) a w:=by
 have pg:=RG.g G g hg hm;cases b
 ·exact RG.vl G n h pg (hr rfl) hq rfl hd
 exact RG.sk G n pg h hq rfl hd
end
section
variable {ops:Array Oper} {Q:Exit->Act->World->Prop}
theorem uAC{S:List Nat}{T:List (Nat×Nat×Value)}{ms:List (Nat×(World->Prop))}{P:World->Prop}{a0:Act}(hb:fI ops=true)
  (cg:∀ zl a w i o,zl.size=ops.size->GU ops S T ms P a0 zl a w->zl.getD i true=false->ops[i]?=some o->(∀ e∈o.after,Region.binds .any e=true->Up zl e.on)->wpOp Tryz.prog ops Q i (GU ops S T ms P a0 (zl.setIfInBounds i true)) a w)
  (co:∀ zl a' w',GU ops S T ms P a0 zl a' w'->(∀ i,i<ops.size->Up zl i)->Q .normal a' w') :
  ∀ (m i:Nat) (zl:Array Bool) (a:Act) (w:World),i+m=ops.size->zl.size=ops.size->(∀ j,Up zl j↔j<i)->GU ops S T ms P a0 zl a w->wpOps Tryz.prog ops Q (List.range' i m) a w
 |0,i,zl,a,w,hm,hs,hu,hI=>co zl a w hI (fun j hj=>(hu j).2 (by omega))
 |m+1,i,zl,a,w,hm,hs,hu,hI=>by
  rw[List.range'_succ,wpOps_cons];have hi:i<ops.size:=by omega
  have ho:ops[i]?=some ops[i]:=Array.getElem?_eq_getElem hi;have aj:zl.getD i true=false:=by
   cases h:zl.getD i true with
   |false=>rfl
   |true=>
    exfalso
    have lu:i<zl.size:=by omega
    have:Up zl i:=by
     unfold Up;rw[Array.getD_eq_getD_getElem?,Array.getElem?_eq_getElem lu]at h ⊢;exact h
    have:=(hu i).1 this;omega
  refine wpOp_mono (fun a' w' h'=>?_) (cg zl a w i _ hs hI aj ho (fun e he u7q=>(hu e.on).2 (gS hb ho e he u7q)));exact uAC hb cg co m (i+1) _ a' w' (by omega) (by rw[Array.size_setIfInBounds];exact hs) (fun j=>by rw[Up.set (by omega),hu j];omega) h'
theorem aX{id:Nat}{a:Act}{w0:World}(F0:Act->Prop)(S:List Nat)(T:List (Nat×Nat×Value))(ms:List (Nat×(World->Prop)))(P:World->Prop)(hb:fI ops=true)(hF0:F0 a)(hX:P w0)
  (cg:∀ a0,F0 a0->∀ zl a w i o,zl.size=ops.size->GU ops S T ms P a0 zl a w->zl.getD i true=false->ops[i]?=some o->(∀ e∈o.after,Region.binds .any e=true->Up zl e.on)->wpOp Tryz.prog ops Q i (GU ops S T ms P a0 (zl.setIfInBounds i true)) a w)
  (co:∀ zl a' w',GU ops S T ms P a zl a' w'->(∀ i,i<ops.size->Up zl i)->Q .normal a' w'):(Code.region id ops false).wp Tryz.prog Q a w0:=by
 refine wp_region ?_;rw[List.range_eq_range'];exact uAC hb (cg a hF0) co ops.size 0 (Array.replicate ops.size false) a w0 (by omega) (by simp) (fun j=>⟨fun h=>absurd h (Up.none _ _),fun h=>absurd h (by omega)⟩) (GU.start _ _ hX)
end
theorem aQ{o:Oper}{a:Act}{w:World}(ty:TypeId)(x:Operand)(ho:o.op=.load ty x)(b o':Nat)(hx:a.eval x=vP b o')(cs:List Value)(d:TypeDesc)(hc:w.rangeAt b o' cs)(hu:Tryz.prog.underlying ty=some d)(hd:d.isRow=true)(hi:(Tryz.prog.info? ty).map (·.size)=some cs.length) :
  (execOp a.eval o).run Tryz.prog w=.ok (.value (.agg cs.toArray)) w:=by
 unfold execOp;simp only[ho,hx,Instr.loadAt,Instr.sureAddr,Sem.run_bind,Sem.run_pure,Result.andThen_ok,run_loadVar_mid w b o' ty cs d hc hu hd hi]
end Go.Proofs.YtjfihpaeglpblaaGreatDoor
