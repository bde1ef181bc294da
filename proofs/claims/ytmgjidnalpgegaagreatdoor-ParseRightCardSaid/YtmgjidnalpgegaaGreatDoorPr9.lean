/-
  Lemmas, part 9: Par6 Par7 Par8 Par9 ParA.
-/
import Derived.Test.YtmgjidnalpgegaaGreatDoorPr8
set_option maxHeartbeats 100000000
namespace Go.Proofs.YtmgjidnalpgegaaGreatDoor
open Go.RowKit
def Env.isAx(E:Env)(p:Option Nat)(l:List IdR):Prop:=(p=E.pa/\l=E.ax.rows)\/(p=E.pb/\l=E.ax.cols)
theorem InE.axIn{E:Env}{k op nd pl er:Nat}{W:World}(h:InE E k op nd pl er W){p:Option Nat}{l:List IdR}(hp:E.isAx p l):AxIn W p l:=by
 rcases hp with⟨rfl,rfl⟩|⟨rfl,rfl⟩
 ·exact h.ar
 exact h.ac
theorem Env.isAx.mem{E:Env}{p:Option Nat}{l:List IdR}(hp:E.isAx p l):∀ y∈p.toList,y∈E.X:=by
 intro y hy;unfold Env.X;rcases hp with⟨rfl,_⟩|⟨rfl,_⟩
 ·exact zg _ (List.mem_append_left _ hy)
 exact zg _ (List.mem_append_right _ hy)
theorem InE.axed{E:Env}(hE:E.ok){k op nd pl er:Nat}{W W':World}(h:InE E k op nd pl er W){p:Option Nat}{l:List IdR}(hp:E.isAx p l)(hk:Kp p.toList W W')(ha:AxIn W' p l):InE E k op nd pl er W':=by
 have hx:=hp.mem;have hr:E.r∉p.toList:=fun hm=>by
  have e:p=some E.r:=by
   cases p with
   |none=>cases hm
   |some b=>rw[yf.1 (by simpa using hm:E.r∈[b])]
  rcases hp with⟨e2,_⟩|⟨e2,_⟩
  ·exact hE.ra _ (by rw[<- e2,e]) rfl
  exact hE.rb _ (by rw[<- e2,e]) rfl
 have nu:=(h.axIn hp).box;have hoth:∀ (p':Option Nat),(∀ b,p=some b->p'≠some b)->∀ y∈p.toList,some y≠p'/\∃ t cs,Lies W y t cs/\t≠34/\t≠4:=by
  intro p' bp y hy;cases p with
  |none=>cases hy
  |some b=>
   obtain rfl:y=b:=by simpa using hy
   obtain⟨cs,hc⟩:=nu y rfl;exact⟨fun e=>bp y rfl e.symm,_,cs,hc,by decide,by decide⟩
 refine⟨hk.lies h.rd hr,h.tk.kp hk (fun hm=>hE.gx (hx _ hm)),?_,?_,h.sg.kp hk (fun i hi hm=>hE.sx i hi (hx _ hm)),h.tb.below (hk.below (B:=E.lo) (fun y hy=>hE.lo _ (hx _ hy)) h.lo) hE.tb,yv h.lo hk.size⟩
 ·rcases hp with⟨e1,e2⟩|⟨e1,e2⟩
  ·rw[<- e1,<- e2];exact ha
  by_cases hn:E.pa=none
  ·rw[hn];have:=h.ar;rw[hn]at this;exact this
  exact h.ar.kp hk (hoth E.pa (fun b e e3=>hE.ab b e3 (by rw[<- e1,e])))
 rcases hp with⟨e1,e2⟩|⟨e1,e2⟩
 ·by_cases hn:E.pb=none
  ·rw[hn];have:=h.ac;rw[hn]at this;exact this
  exact h.ac.kp hk (hoth E.pb (fun b e e3=>hE.ab b (by rw[<- e1,e]) e3))
 rw[<- e1,<- e2];exact ha
theorem AxOwn.back{Y:List Nat}{W W':World}{p:Option Nat}{z:Nat}(h:AxOwn W' p z)(hk:Kp Y W W')(hb:∀ b,p=some b->b<W.heap.size/\b∉Y):AxOwn W p z:=by
 obtain⟨b,v1,v2,v3,v4,mm,e,hx,ho⟩:=h;obtain⟨h1,h2⟩:=hb b e;exact⟨b,v1,v2,v3,v4,mm,e,(hk.block b h1 h2).symm.trans hx,ho⟩
theorem AxIn.own_lt{W:World}{p:Option Nat}{l:List IdR}(h:AxIn W p l){z:Nat}(ho:AxOwn W p z):z<W.heap.size:=by
 obtain⟨b,v1,v2,v3,v4,mm,e,hx,ho⟩:=ho;subst e;rcases h with⟨base,ids,fl,u1,u2,⟨h1,h2,h3⟩,_⟩|⟨base,⟨u1,u2,u3,u4,m,h1,h2⟩⟩
 ·have he:=Lies.same h1 hx;simp at he;obtain⟨e1,e2,e3,e4,e5⟩:=he;subst e1 e2 e3;rcases ho with⟨_,ho|ho⟩|⟨hm,_⟩
  ·exact(bH h2 z ho).2
  ·exact(bH h3 z ho).2
  exact absurd rfl hm
 have he:=Lies.same h1 hx;simp at he;obtain⟨e1,e2,e3,e4,e5⟩:=he;subst e3 e5;rcases ho with⟨hm,_⟩|⟨_,ho⟩
 ·cases hm
 exact(bH h2 z ho).2
theorem AxIn.off{W W':World}{p:Option Nat}{l:List IdR}{z:Nat}(h:AxIn W p l)(hk:Kp [z] W W')(hb:∀ b,p=some b->b≠z)(hn:¬ AxOwn W p z):AxIn W' p l:=by
 cases p with
 |none=>exact h
 |some b=>
  have ru:b∉[z]:=fun hm=>hb b rfl (yf.1 hm)
  rcases h with⟨base,ids,fl,v1,v2,⟨h1,h2,h3⟩,h4⟩|⟨base,⟨v1,v2,v3,v4,m,h1,h2⟩⟩
  ·refine .inl ⟨base,ids,fl,v1,v2,⟨hk.lies h1 ru,dQ h2 hk (fun g hg hm=>?_),dQ h3 hk (fun g hg hm=>?_)⟩,h4⟩
   ·rw[yf.1 hm]at hg;exact hn ⟨b,_,_,_,_,_,rfl,h1,.inl ⟨rfl,.inl hg⟩⟩
   rw[yf.1 hm]at hg;exact hn ⟨b,_,_,_,_,_,rfl,h1,.inl ⟨rfl,.inr hg⟩⟩
  refine .inr ⟨base,⟨v1,v2,v3,v4,m,hk.lies h1 ru,dQ h2 hk (fun g hg hm=>?_)⟩⟩;rw[yf.1 hm]at hg;exact hn ⟨b,_,_,_,_,_,rfl,h1,.inr ⟨by simp,hg⟩⟩
structure Fr(E:Env)(W:World)(z:Nat):Prop where
 nx:z∉E.X
 ng:E.g≠z
 ns:∀ i,i<=6->E.sg+i≠z
 lo:E.lo<=z
 na:¬ AxOwn W E.pa z
 nb:¬ AxOwn W E.pb z
theorem InE.xlt{E:Env}{k op nd pl er:Nat}{W:World}(h:InE E k op nd pl er W):∀ y∈E.X,y<W.heap.size:=by
 intro y hy;unfold Env.X at hy;rcases ym.1 hy with rfl|hy
 ·exact h.rd.lt
 rcases List.mem_append.1 hy with hy|hy
 ·cases hp:E.pa with
  |none=>rw[hp]at hy;cases hy
  |some b=>
   rw[hp]at hy;obtain rfl:y=b:=by simpa using hy
   obtain⟨cs,hc⟩:=h.ar.box y hp;exact hc.lt
 cases hp:E.pb with
 |none=>rw[hp]at hy;cases hy
 |some b=>
  rw[hp]at hy;obtain rfl:y=b:=by simpa using hy
  obtain⟨cs,hc⟩:=h.ac.box y hp;exact hc.lt
theorem SgIn.lt{W:World}{q:Nat}(h:SgIn W q):∀ i,i<=6->q+i<W.heap.size:=by
 intro i hi;rcases Nat.eq_zero_or_pos i with h0|h0
 ·subst h0;exact(zk.1 h.out).1
 obtain⟨c,hc⟩:=h.ins (i-1) (show i-1<6 by omega);have:=(zk.1 hc).1;omega
theorem InE.fresh{E:Env}{k op nd pl er:Nat}{W:World}(h:InE E k op nd pl er W){z:Nat}(hz:W.heap.size<=z):Fr E W z :=
 ⟨fun hm=>by have:=h.xlt z hm;omega,by have:=h.tk.1;omega,fun i hi=>by have:=h.sg.lt i hi;omega,yv h.lo hz,fun ho=>by have:=h.ar.own_lt ho;omega,fun ho=>by have:=h.ac.own_lt ho;omega⟩
theorem InE.boxes{E:Env}{k op nd pl er:Nat}{W:World}(h:InE E k op nd pl er W):(∀ b,E.pa=some b->b<W.heap.size)/\(∀ b,E.pb=some b->b<W.heap.size) :=
 ⟨fun b e=>by obtain⟨cs,hc⟩:=h.ar.box b e;exact hc.lt,fun b e=>by obtain⟨cs,hc⟩:=h.ac.box b e;exact hc.lt⟩
theorem Fr.next{E:Env}{k op nd pl er:Nat}{W W':World}{z:Nat}(h:Fr E W z)(hI:InE E k op nd pl er W)(hk:Kp [E.r] W W')(hE:E.ok):Fr E W' z :=
 ⟨h.nx,h.ng,h.ns,h.lo,fun ho=>h.na (ho.back hk (fun b e=>⟨hI.boxes.1 b e,fun hm=>hE.ra b e (yf.1 hm)⟩)),fun ho=>h.nb (ho.back hk (fun b e=>⟨hI.boxes.2 b e,fun hm=>hE.rb b e (yf.1 hm)⟩))⟩
theorem Fr.at{E:Env}{k op nd pl er:Nat}{W W':World}{z:Nat}{p:Option Nat}{l:List IdR}(h:Fr E W z)(hE:E.ok)(hI:InE E k op nd pl er W)(hp:E.isAx p l)(hk:Kp p.toList W W')(ho:∀ z,AxOwn W' p z->AxOwn W p z\/W.heap.size<=z)(hz:z<W.heap.size):Fr E W' z:=by
 refine⟨h.nx,h.ng,h.ns,h.lo,fun hw=>?_,fun hw=>?_⟩
 ·rcases hp with⟨e,_⟩|⟨e,_⟩
  ·rw[<- e]at hw;rcases ho z hw with hw|hw
   ·exact h.na (by rw[<- e];exact hw)
   omega
  refine h.na (hw.back hk (fun b e2=>⟨hI.boxes.1 b e2,fun hm=>?_⟩));have:p=some b:=by
   cases p with
   |none=>cases hm
   |some c=>rw[show b=c by simpa using hm]
  exact hE.ab b e2 (by rw[<- e,this])
 rcases hp with⟨e,_⟩|⟨e,_⟩
 ·refine h.nb (hw.back hk (fun b e2=>⟨hI.boxes.2 b e2,fun hm=>?_⟩));have:p=some b:=by
   cases p with
   |none=>cases hm
   |some c=>rw[show b=c by simpa using hm]
  exact hE.ab b (by rw[<- e,this]) e2
 rw[<- e]at hw;rcases ho z hw with hw|hw
 ·exact h.nb (by rw[<- e];exact hw)
 omega
theorem InE.off{E:Env}(hE:E.ok){k op nd pl er:Nat}{W W':World}{z:Nat}(h:InE E k op nd pl er W)(hf:Fr E W z)(hk:Kp [z] W W'):InE E k op nd pl er W':=by
 have hz:∀ {y:Nat},y≠z->y∉[z]:=fun hn hm=>hn (yf.1 hm)
 have hxz:∀ y∈E.X,y≠z:=fun y hy e=>hf.nx (by rw[<- e];exact hy)
 have hpa:∀ b,E.pa=some b->b∈E.X:=fun b e=>by unfold Env.X;rw[e];simp
 have hpb:∀ b,E.pb=some b->b∈E.X:=fun b e=>by unfold Env.X;rw[e];simp
 exact⟨hk.lies h.rd (hz (hxz _ (.head _))),h.tk.kp hk (hz hf.ng),h.ar.off hk (fun b e=>hxz b (hpa b e)) hf.na,h.ac.off hk (fun b e=>hxz b (hpb b e)) hf.nb,h.sg.kp hk (fun i hi=>hz (hf.ns i hi)),h.tb.below (hk.below (B:=E.lo) (fun y hy=>by rw[yf.1 hy];exact hf.lo) h.lo) hE.tb,yv h.lo hk.size⟩
def StepX(E:Env)(w:World)(k op nd pl er:Nat)(v:Value)(e:Ending)(w':World):Prop:=e=.returned v/\InE E k op nd pl er w'/\Kp E.X w w'
theorem Kp.X{E:Env}{w w':World}(h:Kp [E.r] w w'):Kp E.X w w':=h.mono (fun k hk _=>by rw[yf.1 hk];exact .head _)
abbrev id0V:Value:=.agg #[.int .i64 0,.int .i64 0]
set_option maxRecDepth 100000 in
theorem oT(E:Env)(hE:E.ok)(k op nd pl er:Nat)(p:Option Nat)(l:List IdR)(place:Nat)(x:IdR)(w:World)(hI:InE E k op nd pl er w)(hp:E.isAx p l)(hl:place<=100000000)(hx:l[place]?=some x) :
  Calls Tryz.prog 134 #[.pointer (some ⟨E.r,0,none⟩),.pointer (ptr p),.int .i64 (place:Int)] w (StepX E w k op nd pl er (.tuple #[idV x,.bool true])):=by
 have ct:Below w.heap.size w (w.alloc (.cells #[.int .i64 0,.int .i64 0] 34)):=(zp _);have hI0:=hI.next ct;have vk:Fr E (w.alloc (.cells #[.int .i64 0,.int .i64 0] 34)) w.heap.size:=(hI.fresh zr).next hI (Kp.of_below ct) hE;have ki:w.heap.size<(w.alloc (.cells #[.int .i64 0,.int .i64 0] 34)).heap.size:=by simp
 have CA:=zh (yI p l place _ (hI0.axIn hp) hl);rw[hx]at CA;have HX:Hid (∀ W',AxIn W' p l->Kp p.toList (w.alloc (.cells #[.int .i64 0,.int .i64 0] 34)) W'->(∀ z,AxOwn W' p z->AxOwn (w.alloc (.cells #[.int .i64 0,.int .i64 0] 34)) p z\/(w.alloc (.cells #[.int .i64 0,.int .i64 0] 34)).heap.size<=z)->InE E k op nd pl er W'/\Kp E.X (w.alloc (.cells #[.int .i64 0,.int .i64 0] 34)) W'/\Fr E W' w.heap.size):=zh (fun W' h2 h3 h4=>⟨hI0.axed hE hp h3 h2,h3.mono (fun y hy _=>hp.mem y hy),vk.at hE hI0 hp h3 h4 ki⟩);have cj:Hid (Kp E.X w (w.alloc (.cells #[.int .i64 0,.int .i64 0] 34))):=zh ((Kp.refl _ _).alloc _);have tn:Hid (Lies (w.alloc (.cells #[.int .i64 0,.int .i64 0] 34)) w.heap.size 34 #[.int .i64 0,.int .i64 0]):=zh (Lies.new _ _ _)
 have HP:Hid (∀ W W',InE E k op nd pl er W->Fr E W w.heap.size->Kp E.X w W->Kp [w.heap.size] W W'->StepX E w k op nd pl er (.tuple #[idV x,.bool true]) (.returned (.tuple #[idV x,.bool true])) W'):=zh (fun W W' h1 h2 h3 h4=>⟨rfl,h1.off hE h2 h4,h3.andThen h4 (fun g hg=>.inr (by rw[yf.1 hg];exact zr))⟩);clear ct hI0 vk ki hx hI;obtain⟨xa,xn⟩:=x
 go_enter Tryz.func134,Tryz.ntmps134
 go_upto_region 1 with fail
 generalize w.alloc (.cells #[.int .i64 0,.int .i64 0] 34)=W1 at *;generalize w.heap.size=q at *
 go_wp2_with fail
 refine CA.out.mono ?_;rintro e w2 ⟨rfl,ha,hk,ho⟩;obtain⟨h1,h2,h3⟩:=HX.out w2 ha hk ho;have dg:=zh h1;have bq:=zh (cj.out.trans h2);have ol:=zh h3;have c6:Hid (Lies w2 q 34 #[.int .i64 0,.int .i64 0]):=zh (h2.lies tn.out h3.nx);clear ha hk ho h1 h2 h3 HX cj tn CA;have hqlt:=c6.out.lt;have aq:Hid (Below w2.heap.size w2 (w2.alloc (.cells #[.int .i64 xa,.int .i64 xn] 34))):=zh (zp _);have HC3:Hid (Lies (w2.alloc (.cells #[.int .i64 xa,.int .i64 xn] 34)) w2.heap.size 34 #[.int .i64 xa,.int .i64 xn]):=zh (Lies.new w2 _ _)
 go_upto_region 2 with fail
 generalize w2.alloc (.cells #[.int .i64 xa,.int .i64 xn] 34)=w3 at *;have ez:=zh (dg.out.next aq.out);have HF3:=zh (ol.out.next dg.out (Kp.of_below aq.out) hE);have fb:=zh (bq.out.trans (Kp.of_below aq.out));have fh:=zh (c6.out.next aq.out);have hqn:q≠w2.heap.size:=by omega
 generalize w2.heap.size=q2 at *;clear dg ol bq c6 aq hqlt;have x0:=fh.out.cell 0;have x1:=fh.out.cell 1;have f0:=fh.out.frozen 0;have f1:=fh.out.frozen 1;have c0:=HC3.out.cell 0;have c1:=HC3.out.cell 1;simp only[za,zb,zf]at x0 x1 c0 c1
 go_wp2_with fail
 refine yt (v:=.tuple #[.agg #[.int .i64 xa,.int .i64 xn],.bool true]) (by simp[results,Tryz.results134,go_sem,x0,x1]) rfl ?_;exact HP.out _ _ ez.out HF3.out fb.out (((Kp.refl _ _).set (.inl (.head _)) 0 _).set (.inl (.head _)) 1 _)
set_option maxRecDepth 100000 in
theorem xO(E:Env)(hE:E.ok)(k op nd pl er:Nat)(p:Option Nat)(l:List IdR)(place:Nat)(w:World)(hI:InE E k op nd pl er w)(hp:E.isAx p l)(hl:place<=100000000)(hx:l[place]?=none)(hk:k<E.L.length) :
  Calls Tryz.prog 134 #[.pointer (some ⟨E.r,0,none⟩),.pointer (ptr p),.int .i64 (place:Int)] w (StepX E w k op nd (E.at k).place 18 (.tuple #[id0V,.bool false])):=by
 have ct:Below w.heap.size w (w.alloc (.cells #[.int .i64 0,.int .i64 0] 34)):=(zp _);have hI0:=hI.next ct;have vk:Fr E (w.alloc (.cells #[.int .i64 0,.int .i64 0] 34)) w.heap.size:=(hI.fresh zr).next hI (Kp.of_below ct) hE;have ki:w.heap.size<(w.alloc (.cells #[.int .i64 0,.int .i64 0] 34)).heap.size:=by simp
 have CA:=zh (yI p l place _ (hI0.axIn hp) hl);have CW:=zh (fun W h=>eN E hE k op nd pl er 18 W h hk);rw[hx]at CA;have HX:Hid (∀ W',AxIn W' p l->Kp p.toList (w.alloc (.cells #[.int .i64 0,.int .i64 0] 34)) W'->(∀ z,AxOwn W' p z->AxOwn (w.alloc (.cells #[.int .i64 0,.int .i64 0] 34)) p z\/(w.alloc (.cells #[.int .i64 0,.int .i64 0] 34)).heap.size<=z)->InE E k op nd pl er W'/\Kp E.X (w.alloc (.cells #[.int .i64 0,.int .i64 0] 34)) W'/\Fr E W' w.heap.size):=zh (fun W' h2 h3 h4=>⟨hI0.axed hE hp h3 h2,h3.mono (fun y hy _=>hp.mem y hy),vk.at hE hI0 hp h3 h4 ki⟩);have cj:Hid (Kp E.X w (w.alloc (.cells #[.int .i64 0,.int .i64 0] 34))):=zh ((Kp.refl _ _).alloc _);have tn:Hid (Lies (w.alloc (.cells #[.int .i64 0,.int .i64 0] 34)) w.heap.size 34 #[.int .i64 0,.int .i64 0]):=zh (Lies.new _ _ _)
 have HP:Hid (∀ W W',InE E k op nd (E.at k).place 18 W->Fr E W w.heap.size->Kp E.X w W->Kp [w.heap.size] W W'->StepX E w k op nd (E.at k).place 18 (.tuple #[id0V,.bool false]) (.returned (.tuple #[id0V,.bool false])) W'):=zh (fun W W' h1 h2 h3 h4=>⟨rfl,h1.off hE h2 h4,h3.andThen h4 (fun g hg=>.inr (by rw[yf.1 hg];exact zr))⟩);clear ct hI0 vk ki hx hI
 go_enter Tryz.func134,Tryz.ntmps134
 go_upto_region 1 with fail
 generalize w.alloc (.cells #[.int .i64 0,.int .i64 0] 34)=W1 at *;generalize w.heap.size=q at *
 go_wp2_with fail
 refine CA.out.mono ?_;rintro e w2 ⟨rfl,ha,hk,ho⟩;obtain⟨h1,h2,h3⟩:=HX.out w2 ha hk ho;have dg:=zh h1;have bq:=zh (cj.out.trans h2);have ol:=zh h3;have c6:Hid (Lies w2 q 34 #[.int .i64 0,.int .i64 0]):=zh (h2.lies tn.out h3.nx);clear ha hk ho h1 h2 h3 HX cj tn CA;have aq:Hid (Below w2.heap.size w2 (w2.alloc (.cells #[.int .i64 0,.int .i64 0] 34))):=zh (zp _)
 go_upto_region 2 with fail
 generalize w2.alloc (.cells #[.int .i64 0,.int .i64 0] 34)=w3 at *;have ez:=zh (dg.out.next aq.out);have HF3:=zh (ol.out.next dg.out (Kp.of_below aq.out) hE);have fb:=zh (bq.out.trans (Kp.of_below aq.out));have fh:=zh (c6.out.next aq.out);generalize w2.heap.size=q2 at *;clear dg ol bq c6 aq
 go_wp2_with fail
 refine(CW.out w3 ez.out).mono ?_;rintro e w4 ⟨rfl,h1,h2⟩;have HF4:=zh (HF3.out.next ez.out h2 hE);have kz:=zh h1;have ke:=zh (fb.out.trans h2.X);have j8:=zh (h2.lies fh.out (fun hm=>HF4.out.nx (by rw[yf.1 hm];exact .head _)));clear ez HF3 fb fh h1 h2;have x0:=j8.out.cell 0;have x1:=j8.out.cell 1;have f0:=j8.out.frozen 0;have f1:=j8.out.frozen 1;simp only[za,zb,zf]at x0 x1
 go_wp2_with fail
 refine yt (v:=.tuple #[.agg #[.int .i64 0,.int .i64 0],.bool false]) (by simp[results,Tryz.results134,go_sem,x0,x1]) rfl ?_;exact HP.out _ _ kz.out HF4.out ke.out (((Kp.refl _ _).set (.inl (.head _)) 0 _).set (.inl (.head _)) 1 _)
theorem Fr.typed{E:Env}{k op nd pl er:Nat}{W0 W:World}{z:Nat}{t:TypeId}{cs:Array Value}(hf:Fr E W0 z)(hI:InE E k op nd pl er W)(hl:Lies W z t cs)(h1:t≠34)(h2:t≠4):Fr E W z:=by
 have ow:∀ (p:Option Nat) (l:List IdR),AxIn W p l->¬ AxOwn W p z:=by
  intro p l ha ⟨b,v1,v2,v3,v4,mm,e,hx,ho⟩;subst e;rcases ha with⟨base,ids,fl,u1,u2,⟨g1,g2,g3⟩,_⟩|⟨base,⟨u1,u2,u3,u4,m,g1,g2⟩⟩
  ·have he:=Lies.same g1 hx;simp at he;obtain⟨e1,e2,e3,e4,e5⟩:=he;subst e1 e2 e3;rcases ho with⟨_,ho|ho⟩|⟨hm,_⟩
   ·exact eE (Ne.symm h1) g2 hl ho.symm
   ·exact eE (Ne.symm h2) g3 hl ho.symm
   exact hm rfl
  have he:=Lies.same g1 hx;simp at he;obtain⟨e1,e2,e3,e4,e5⟩:=he;subst e3 e5;rcases ho with⟨hm,_⟩|⟨_,ho⟩
  ·cases hm
  exact eE (Ne.symm h1) g2 hl ho.symm
 exact⟨hf.nx,hf.ng,hf.ns,hf.lo,ow _ _ hI.ar,ow _ _ hI.ac⟩
structure Own1(E:Env)(W0 W:World)(z:Nat)(t:TypeId)(cs:Array Value):Prop where
 fr:Fr E W0 z
 ge:W0.heap.size<=z
 li:Lies W z t cs
theorem Own1.new{E:Env}{k op nd pl er:Nat}{W0 W:World}(hI:InE E k op nd pl er W0)(hk:Kp E.X W0 W)(t:TypeId)(cs:Array Value):Own1 E W0 (W.alloc (.cells cs t)) W.heap.size t cs:=⟨hI.fresh hk.size,hk.size,Lies.new _ _ _⟩
theorem Own1.next{E:Env}{W0 W W':World}{z:Nat}{t:TypeId}{cs:Array Value}(h:Own1 E W0 W z t cs)(hb:Below W.heap.size W W'):Own1 E W0 W' z t cs:=⟨h.fr,h.ge,h.li.next hb⟩
theorem Own1.kp{E:Env}{W0 W W':World}{z:Nat}{t:TypeId}{cs:Array Value}(h:Own1 E W0 W z t cs)(hk:Kp E.X W W'):Own1 E W0 W' z t cs:=⟨h.fr,h.ge,hk.lies h.li h.fr.nx⟩
theorem Own1.put{E:Env}{W0 W:World}{z:Nat}{t:TypeId}{cs:Array Value}(h:Own1 E W0 W z t cs)(i:Nat)(v:Value):Own1 E W0 (W.setCell ⟨z,i,none⟩ v) z t (cs.setIfInBounds i v):=⟨h.fr,h.ge,h.li.put i v⟩
theorem Own1.off{E:Env}{W0 W:World}{z y:Nat}{t:TypeId}{cs:Array Value}(h:Own1 E W0 W z t cs)(bp:z≠y)(i:Nat)(v:Value):Own1 E W0 (W.setCell ⟨y,i,none⟩ v) z t cs:=⟨h.fr,h.ge,aK h.li bp i v⟩
theorem InE.own{E:Env}(hE:E.ok){k op nd pl er:Nat}{W0 W W':World}{z:Nat}{t:TypeId}{cs:Array Value}(h:InE E k op nd pl er W)(ho:Own1 E W0 W z t cs)(h1:t≠34)(h2:t≠4)(hk:Kp [z] W W'):InE E k op nd pl er W':=h.off hE (ho.fr.typed h ho.li h1 h2) hk
theorem Kp.own{E:Env}{W0 W W':World}{z:Nat}{t:TypeId}{cs:Array Value}(h:Kp E.X W0 W)(ho:Own1 E W0 W z t cs)(hk:Kp [z] W W'):Kp E.X W0 W':=h.andThen hk (fun g hg=>.inr (by rw[yf.1 hg];exact ho.ge))
abbrev iC(c:Cor):Value:=.agg #[.int .i64 c.row.a,.int .i64 c.row.n,.int .i64 c.col.a,.int .i64 c.col.n,.bool c.fr,.bool c.fc]
abbrev bQ:Array Value:=#[.int .i64 0,.int .i64 0,.int .i64 0,.int .i64 0,.bool false,.bool false]
def yN(E:Env)(w:World)(k op nd pl er:Nat)(r:Except Nat Cor):Ending->World->Prop:=match r with
 | .error e=>StepX E w k op nd (E.at k).place e (.tuple #[iC aG,.bool false])
 | .ok c=>StepX E w (k+1) op nd pl er (.tuple #[iC c,.bool true])
set_option maxRecDepth 100000 in
theorem cell_ok(E:Env)(hE:E.ok)(k op nd pl er:Nat)(w:World)(hI:InE E k op nd pl er w)(hk:k<E.L.length)(hL:E.L.length<=1000000)(ht:(E.at k).text.length<=100000)(m:Mk)(x y:IdR)
  (h4:(E.at k).kind=4) (hm:bA (E.at k).text=some m) (hx:E.ax.rows[m.row]?=some x) (hy:E.ax.cols[m.col]?=some y) (hmr:m.row<=100000000) (hmc:m.col<=100000000) :
  Calls Tryz.prog 132 #[.pointer (some ⟨E.r,0,none⟩)] w (StepX E w (k+1) op nd pl er (.tuple #[iC ⟨x,y,m.fr,m.fc⟩,.bool true])):=by
 have CT:=zh (fun W h=>bX E k op nd pl er W h hk);have CP:=zh (fun W=>gX (E.at k).text W ht);unfold iL at CP;rw[hm]at CP;have CL1:=zh (fun W h=>oT E hE k op nd pl er E.pa E.ax.rows m.row x W h (.inl ⟨rfl,rfl⟩) hmr hx);have CL2:=zh (fun W h=>oT E hE k op nd pl er E.pb E.ax.cols m.col y W h (.inr ⟨rfl,rfl⟩) hmc hy);generalize E.at k=t at *;obtain⟨tk,tx,tp⟩:=t;obtain⟨mr,mc,mfr,mfc⟩:=m;dsimp only[tkV,jF]at CT CP h4 CL1 CL2 ⊢;subst h4;clear ht hm hx hy hmr hmc;have co:=zh (hI.next (zp (.cells bQ 36)));have cj:Hid (Kp E.X w (w.alloc (.cells bQ 36))):=zh ((Kp.refl _ _).alloc _);have cg:=zh (Own1.new hI (Kp.refl E.X w) 36 bQ);have HF:=zh hI;clear hI;have xz:=lK;have hf1:=mK;obtain⟨xa,xn⟩:=x;obtain⟨ya,yn⟩:=y
 go_enter Tryz.func132,Tryz.ntmps132
 go_upto_region 1 with fail
 generalize w.alloc (.cells bQ 36)=W1 at *;generalize w.heap.size=q at *
 go_wp2_with fail
 refine(CT.out W1 co.out).mono ?_;rintro e w1 ⟨rfl,hb⟩;have ip:=zh (co.out.next hb);have dz:=zh (cj.out.trans (Kp.of_below hb));have i9:=zh (cg.out.next hb);clear hb co cj cg
 go_wp2_with fail
 refine(CP.out w1).mono ?_;rintro e w2 ⟨rfl,hb⟩;have dg:=zh (ip.out.next hb);have bq:=zh (dz.out.trans (Kp.of_below hb));have bv:=zh (i9.out.next hb);clear hb ip dz i9
 go_upto_region 2 with fail
 have ez:=zh (dg.out.next (zp (.cells #[.int .i64 (mr:Int),.int .i64 (mc:Int),.bool mfr,.bool mfc] 150)));have iw:=zh (bv.out.next (zp (.cells #[.int .i64 (mr:Int),.int .i64 (mc:Int),.bool mfr,.bool mfc] 150)));have aq:=zh (Own1.new HF.out bq.out 150 #[.int .i64 (mr:Int),.int .i64 (mc:Int),.bool mfr,.bool mfc]);have fb:=zh (bq.out.alloc (.cells #[.int .i64 (mr:Int),.int .i64 (mc:Int),.bool mfr,.bool mfc] 150));have bp:q≠w2.heap.size:=by have:=bv.out.li.lt;omega
 generalize w2.alloc (.cells #[.int .i64 (mr:Int),.int .i64 (mc:Int),.bool mfr,.bool mfc] 150)=w3 at *;generalize w2.heap.size=q1 at *;clear dg bv bq
 go_wp2_with fail
 refine(CT.out w3 ez.out).mono ?_;rintro e w4 ⟨rfl,hb⟩;have kz:=zh (ez.out.next hb);have ke:=zh (fb.out.trans (Kp.of_below hb));have lm:=zh (iw.out.next hb);have cn:=zh (aq.out.next hb);clear hb ez fb iw aq;have b0:=cn.out.li.cell 0;have b1:=cn.out.li.cell 1;have b2:=cn.out.li.cell 2;have b3:=cn.out.li.cell 3;simp only[za,zb,zf]at b0 b1 b2 b3
 go_upto_region 5 with fail
 have ny:=zh (kz.out.next (zp (.cells #[.int .i64 0,.int .i64 0,.int .i64 0,.int .i64 0,.bool mfr,.bool mfc] 36)));have j2:=zh (lm.out.next (zp (.cells #[.int .i64 0,.int .i64 0,.int .i64 0,.int .i64 0,.bool mfr,.bool mfc] 36)));have de:=zh (cn.out.next (zp (.cells #[.int .i64 0,.int .i64 0,.int .i64 0,.int .i64 0,.bool mfr,.bool mfc] 36)));have HC5:=zh (Own1.new HF.out ke.out 36 #[.int .i64 0,.int .i64 0,.int .i64 0,.int .i64 0,.bool mfr,.bool mfc]);have jq:=zh (ke.out.alloc (.cells #[.int .i64 0,.int .i64 0,.int .i64 0,.int .i64 0,.bool mfr,.bool mfc] 36));have bz:q≠w4.heap.size:=by have:=lm.out.li.lt;omega
 have po:q1≠w4.heap.size:=by have:=cn.out.li.lt;omega
 generalize w4.alloc (.cells #[.int .i64 0,.int .i64 0,.int .i64 0,.int .i64 0,.bool mfr,.bool mfc] 36)=w5 at *;generalize w4.heap.size=q2 at *;clear kz lm cn ke b0 b1 b2 b3;have b0:=de.out.li.cell 0;have b1:=de.out.li.cell 1;have r4:=ny.out.rd.cell 4;have r5:=ny.out.rd.cell 5;simp only[za,zb,zf]at b0 b1 r4 r5
 go_cut [5] (fun v wx=>v=.bool true/\Hid (InE E k op nd pl er wx)/\Hid (Kp E.X w wx)/\Hid (Own1 E w wx q 36 bQ)/\Hid (Own1 E w wx q1 150 #[.int .i64 (mr:Int),.int .i64 (mc:Int),.bool mfr,.bool mfc])/\Hid (Own1 E w wx q2 36 #[.int .i64 xa,.int .i64 xn,.int .i64 0,.int .i64 0,.bool mfr,.bool mfc]))
 case first=>
  go_region_with ((go_at_call 134;refine(CL1.out w5.drew (ny.out.next (Below.refl _ _).drew)).mono ?_;rintro e w6 ⟨rfl,h1,h2⟩;have mv:=zh h1;have iv:=zh (jq.out.drew.trans h2);have ji:=zh ((j2.out.next (Below.refl _ _).drew).kp h2);have tj:=zh ((de.out.next (Below.refl _ _).drew).kp h2);have iy:=zh ((HC5.out.next (Below.refl _ _).drew).kp h2);clear h1 h2;have c0:=iy.out.li.cell 0;have c1:=iy.out.li.cell 1;have g0:=iy.out.li.frozen 0;have g1:=iy.out.li.frozen 1;simp only[za,zb,zf]at c0 c1))
  all_goals go_wp2_with fail
  all_goals go_meet
  all_goals exact⟨rfl,zh (mv.out.own hE iy.out (by decide) (by decide) (((Kp.refl _ _).set (.inl (.head _)) 0 _).set (.inl (.head _)) 1 _)),zh (iv.out.own iy.out (((Kp.refl _ _).set (.inl (.head _)) 0 _).set (.inl (.head _)) 1 _)),zh ((ji.out.off bz 0 _).off bz 1 _),zh ((tj.out.off po 0 _).off po 1 _),zh ((iy.out.put 0 _).put 1 _)⟩
 case rest=>
  obtain⟨rfl,f9,n9,dx,HB7,HC7⟩:=hcut;clear ny jq j2 de HC5 b0 b1 r4 r5;have b1:=HB7.out.li.cell 1;have r5:=f9.out.rd.cell 5;simp only[za,zb,zf]at b1 r5
  go_upto_region 8 with fail
  go_cut [5] (fun v wx=>v=.bool true/\Hid (InE E k op nd pl er wx)/\Hid (Kp E.X w wx)/\Hid (Own1 E w wx q 36 bQ)/\Hid (Own1 E w wx q2 36 #[.int .i64 xa,.int .i64 xn,.int .i64 ya,.int .i64 yn,.bool mfr,.bool mfc]))
  case first=>
   go_region_with ((go_at_call 134;refine(CL2.out wc.drew (f9.out.next (Below.refl _ _).drew)).mono ?_;rintro e w6 ⟨rfl,h1,h2⟩;have mv:=zh h1;have iv:=zh (n9.out.drew.trans h2);have ji:=zh ((dx.out.next (Below.refl _ _).drew).kp h2);have iy:=zh ((HC7.out.next (Below.refl _ _).drew).kp h2);clear h1 h2;have c2:=iy.out.li.cell 2;have c3:=iy.out.li.cell 3;have g2:=iy.out.li.frozen 2;have g3:=iy.out.li.frozen 3;simp only[za,zb,zf]at c2 c3))
   all_goals go_wp2_with fail
   all_goals go_meet
   all_goals exact⟨rfl,zh (mv.out.own hE iy.out (by decide) (by decide) (((Kp.refl _ _).set (.inl (.head _)) 2 _).set (.inl (.head _)) 3 _)),zh (iv.out.own iy.out (((Kp.refl _ _).set (.inl (.head _)) 2 _).set (.inl (.head _)) 3 _)),zh ((ji.out.off bz 2 _).off bz 3 _),zh ((iy.out.put 2 _).put 3 _)⟩
  case rest=>
   obtain⟨rfl,vm,lz,pq,HC8⟩:=hcut;clear f9 n9 dx HB7 HC7 b1 r5 CT CP CL1 CL2;have r1:=vm.out.rd.cell 1;have fr1:=vm.out.rd.frozen 1;simp only[za,zb,zf]at r1;have ll:(k:Int)<=1000000:=by omega
   have m6:Hid (Kp [E.r] wc (wc.setCell ⟨E.r,1,none⟩ (.int .i64 ((k:Int)+1)))):=zh ((Kp.refl _ _).set (.inl (.head _)) 1 _);have HI9:Hid (InE E (k+1) op nd pl er (wc.setCell ⟨E.r,1,none⟩ (.int .i64 ((k:Int)+1)))):=zh (vm.out.wrote hE m6.out (vm.out.rd.put 1 _));have mj:=zh (lz.out.trans m6.out.X);have ob:=zh (pq.out.kp m6.out.X);have HC9:=zh (HC8.out.kp m6.out.X)
   go_upto_region 12 with fail
   generalize wc.setCell ⟨E.r,1,none⟩ (.int .i64 ((k:Int)+1))=w9 at *;clear vm lz pq HC8 m6 r1 fr1;have HP:Hid (∀ W',Kp [q] w9 W'->StepX E w (k+1) op nd pl er (.tuple #[iC ⟨⟨xa,xn⟩,⟨ya,yn⟩,mfr,mfc⟩,.bool true]) (.returned (.tuple #[iC ⟨⟨xa,xn⟩,⟨ya,yn⟩,mfr,mfc⟩,.bool true])) W'):=zh (fun W' h=>⟨rfl,HI9.out.own hE ob.out (by decide) (by decide) h,mj.out.own ob.out h⟩);have c0:=HC9.out.li.cell 0;have c1:=HC9.out.li.cell 1;have c2:=HC9.out.li.cell 2;have c3:=HC9.out.li.cell 3;have c4:=HC9.out.li.cell 4;have c5:=HC9.out.li.cell 5;have a0:=ob.out.li.cell 0;have a1:=ob.out.li.cell 1;have a2:=ob.out.li.cell 2;have a3:=ob.out.li.cell 3;have a4:=ob.out.li.cell 4;have a5:=ob.out.li.cell 5;have g0:=ob.out.li.frozen 0;have g1:=ob.out.li.frozen 1;have g2:=ob.out.li.frozen 2;have g3:=ob.out.li.frozen 3;have g4:=ob.out.li.frozen 4;have g5:=ob.out.li.frozen 5
   simp only[bQ,za,zb,zf]at c0 c1 c2 c3 c4 c5 a0 a1 a2 a3 a4 a5
   go_wp2_with fail
   refine yt (v:=.tuple #[.agg #[.int .i64 xa,.int .i64 xn,.int .i64 ya,.int .i64 yn,.bool mfr,.bool mfc],.bool true]) (by simp[results,Tryz.results132,go_sem,a0,a1,a2,a3,a4,a5]) rfl ?_;exact HP.out _ ((((((((Kp.refl _ _).set (.inl (.head _)) 0 _).set (.inl (.head _)) 1 _).set (.inl (.head _)) 2 _).set (.inl (.head _)) 3 _).set (.inl (.head _)) 4 _).set (.inl (.head _)) 5 _))
theorem uDN(s:Bs):∃ a b c d,iL s=.tuple #[jF a b c d,.bool (bA s).isSome]:=by
 unfold iL;cases bA s with
 |none=>exact⟨_,_,_,_,rfl⟩
 |some m=>exact⟨_,_,_,_,rfl⟩
set_option maxRecDepth 100000 in
theorem vE(E:Env)(hE:E.ok)(k op nd pl er:Nat)(w:World)(hI:InE E k op nd pl er w)(hk:k<E.L.length)(ht:(E.at k).text.length<=100000)
  (ku:(E.at k).kind≠4\/bA (E.at k).text=none) :
  Calls Tryz.prog 132 #[.pointer (some ⟨E.r,0,none⟩)] w (StepX E w k op nd (E.at k).place 6 (.tuple #[iC aG,.bool false])):=by
 have CT:=zh (fun W h=>bX E k op nd pl er W h hk);have CP:=zh (fun W=>gX (E.at k).text W ht);have CW:=zh (fun W h=>eN E hE k op nd pl er 6 W h hk);obtain⟨mr,mc,mfr,mfc,hm⟩:=uDN (E.at k).text;rw[hm]at CP;have hok:(E.at k).kind=4->(bA (E.at k).text).isSome=false:=fun h4=>by
  rcases ku with h|h
  ·exact absurd h4 h
  rw[h];rfl
 have HOK:=zh hok;generalize (bA (E.at k).text).isSome=ok at *;clear hok ku hm;generalize E.at k=t at *;obtain⟨tk,tx,tp⟩:=t;dsimp only[tkV,jF]at CT CP HOK CW ⊢;clear ht;have co:=zh (hI.next (zp (.cells bQ 36)));have cj:Hid (Kp E.X w (w.alloc (.cells bQ 36))):=zh ((Kp.refl _ _).alloc _);have cg:=zh (Own1.new hI (Kp.refl E.X w) 36 bQ);have HF:=zh hI;clear hI;have xz:=lK;have hf1:=mK
 go_enter Tryz.func132,Tryz.ntmps132
 go_upto_region 1 with fail
 generalize w.alloc (.cells bQ 36)=W1 at *;generalize w.heap.size=q at *
 go_wp2_with fail
 refine(CT.out W1 co.out).mono ?_;rintro e w1 ⟨rfl,hb⟩;have ip:=zh (co.out.next hb);have dz:=zh (cj.out.trans (Kp.of_below hb));have i9:=zh (cg.out.next hb);clear hb co cj cg
 go_wp2_with fail
 refine(CP.out w1).mono ?_;rintro e w2 ⟨rfl,hb⟩;have dg:=zh (ip.out.next hb);have bq:=zh (dz.out.trans (Kp.of_below hb));have bv:=zh (i9.out.next hb);clear hb ip dz i9;have hib:Hid (∀ o,Below w2.heap.size w2 (w2.alloc o)):=zh (fun o=>zp o)
 go_upto_region 2 with fail
 have ez:=zh (dg.out.next (hib.out (.cells #[.int .i64 mr,.int .i64 mc,.bool mfr,.bool mfc] 150)));have iw:=zh (bv.out.next (hib.out (.cells #[.int .i64 mr,.int .i64 mc,.bool mfr,.bool mfc] 150)));have fb:=zh (bq.out.alloc (.cells #[.int .i64 mr,.int .i64 mc,.bool mfr,.bool mfc] 150));generalize w2.alloc (.cells #[.int .i64 mr,.int .i64 mc,.bool mfr,.bool mfc] 150)=w3 at *;generalize w2.heap.size=q1 at *;clear dg bv bq hib;have ik:Hid (tk≠4\/(tk=4/\ok=false)):=zh (by
  by_cases h:tk=4
  ·exact .inr ⟨h,HOK.out h⟩
  exact .inl h)
 go_cut [21] (fun v wx=>v=.bool true/\Hid (InE E k op nd pl er wx)/\Hid (Kp E.X w wx)/\Hid (Own1 E w wx q 36 bQ))
 case first=>
  rcases ik.out with h|⟨h,h2⟩
  ·have hb:((tk:Int) != 4)=true:=by simp;omega
   have ay:(!((tk:Int)==4))=true:=by simp;omega
   have b9:((tk:Int)==4)=false:=by simp;omega
   go_wp2_with fail
   refine(CT.out w3 ez.out).mono ?_;rintro e w4 ⟨rfl,hb⟩;have kz:=zh (ez.out.next hb);have ke:=zh (fb.out.trans (Kp.of_below hb));have lm:=zh (iw.out.next hb);clear hb
   go_wp2_with fail
   all_goals go_meet
   all_goals exact⟨rfl,kz,ke,lm⟩
  subst h h2
  go_wp2_with fail
  refine(CT.out w3 ez.out).mono ?_;rintro e w4 ⟨rfl,hb⟩;have kz:=zh (ez.out.next hb);have ke:=zh (fb.out.trans (Kp.of_below hb));have lm:=zh (iw.out.next hb);clear hb
  go_wp2_with fail
  all_goals go_meet
  all_goals exact⟨rfl,kz,ke,lm⟩
 case rest=>
  obtain⟨rfl,kz,ke,lm⟩:=hcut;clear ez fb iw;clear ik HOK CT CP
  go_wp2_with fail
  refine(CW.out wc kz.out).mono ?_;rintro e w5 ⟨rfl,h1,h2⟩;have j2:=zh (lm.out.kp h2.X);have ny:=zh h1;have jq:=zh (ke.out.trans h2.X);clear h1 h2 lm kz ke;have HP:Hid (∀ W',Kp [q] w5 W'->StepX E w k op nd tp 6 (.tuple #[iC aG,.bool false]) (.returned (.tuple #[iC aG,.bool false])) W'):=zh (fun W' h=>⟨rfl,ny.out.own hE j2.out (by decide) (by decide) h,jq.out.own j2.out h⟩);have a0:=j2.out.li.cell 0;have a1:=j2.out.li.cell 1;have a2:=j2.out.li.cell 2;have a3:=j2.out.li.cell 3;have a4:=j2.out.li.cell 4;have a5:=j2.out.li.cell 5;have g0:=j2.out.li.frozen 0;have g1:=j2.out.li.frozen 1;have g2:=j2.out.li.frozen 2;have g3:=j2.out.li.frozen 3;have g4:=j2.out.li.frozen 4;have g5:=j2.out.li.frozen 5;simp only[bQ,za,zb,zf]at a0 a1 a2 a3 a4 a5
  go_wp2_with fail
  refine yt (v:=.tuple #[iC aG,.bool false]) (by simp[results,Tryz.results132,go_sem,a0,a1,a2,a3,a4,a5]) rfl ?_;exact HP.out _ ((((((((Kp.refl _ _).set (.inl (.head _)) 0 _).set (.inl (.head _)) 1 _).set (.inl (.head _)) 2 _).set (.inl (.head _)) 3 _).set (.inl (.head _)) 4 _).set (.inl (.head _)) 5 _))
set_option maxRecDepth 100000 in
theorem cell_row(E:Env)(hE:E.ok)(k op nd pl er:Nat)(w:World)(hI:InE E k op nd pl er w)(hk:k<E.L.length)(ht:(E.at k).text.length<=100000)(m:Mk)
  (h4:(E.at k).kind=4) (hm:bA (E.at k).text=some m) (hx:E.ax.rows[m.row]?=none) (hmr:m.row<=100000000) :
  Calls Tryz.prog 132 #[.pointer (some ⟨E.r,0,none⟩)] w (StepX E w k op nd (E.at k).place 18 (.tuple #[iC aG,.bool false])):=by
 have CT:=zh (fun W h=>bX E k op nd pl er W h hk);have CP:=zh (fun W=>gX (E.at k).text W ht);unfold iL at CP;rw[hm]at CP;have CL1:=zh (fun W h=>xO E hE k op nd pl er E.pa E.ax.rows m.row W h (.inl ⟨rfl,rfl⟩) hmr hx hk);generalize E.at k=t at *;obtain⟨tk,tx,tp⟩:=t;obtain⟨mr,mc,mfr,mfc⟩:=m;dsimp only[tkV,jF]at CT CP h4 CL1 ⊢;subst h4;clear ht hm hx hmr;have co:=zh (hI.next (zp (.cells bQ 36)));have cj:Hid (Kp E.X w (w.alloc (.cells bQ 36))):=zh ((Kp.refl _ _).alloc _);have cg:=zh (Own1.new hI (Kp.refl E.X w) 36 bQ);have HF:=zh hI;clear hI;have xz:=lK;have hf1:=mK
 go_enter Tryz.func132,Tryz.ntmps132
 go_upto_region 1 with fail
 generalize w.alloc (.cells bQ 36)=W1 at *;generalize w.heap.size=q at *
 go_wp2_with fail
 refine(CT.out W1 co.out).mono ?_;rintro e w1 ⟨rfl,hb⟩;have ip:=zh (co.out.next hb);have dz:=zh (cj.out.trans (Kp.of_below hb));have i9:=zh (cg.out.next hb);clear hb co cj cg
 go_wp2_with fail
 refine(CP.out w1).mono ?_;rintro e w2 ⟨rfl,hb⟩;have dg:=zh (ip.out.next hb);have bq:=zh (dz.out.trans (Kp.of_below hb));have bv:=zh (i9.out.next hb);clear hb ip dz i9
 go_upto_region 2 with fail
 have ez:=zh (dg.out.next (zp (.cells #[.int .i64 (mr:Int),.int .i64 (mc:Int),.bool mfr,.bool mfc] 150)));have iw:=zh (bv.out.next (zp (.cells #[.int .i64 (mr:Int),.int .i64 (mc:Int),.bool mfr,.bool mfc] 150)));have aq:=zh (Own1.new HF.out bq.out 150 #[.int .i64 (mr:Int),.int .i64 (mc:Int),.bool mfr,.bool mfc]);have fb:=zh (bq.out.alloc (.cells #[.int .i64 (mr:Int),.int .i64 (mc:Int),.bool mfr,.bool mfc] 150));have bp:q≠w2.heap.size:=by have:=bv.out.li.lt;omega
 generalize w2.alloc (.cells #[.int .i64 (mr:Int),.int .i64 (mc:Int),.bool mfr,.bool mfc] 150)=w3 at *;generalize w2.heap.size=q1 at *;clear dg bv bq
 go_wp2_with fail
 refine(CT.out w3 ez.out).mono ?_;rintro e w4 ⟨rfl,hb⟩;have kz:=zh (ez.out.next hb);have ke:=zh (fb.out.trans (Kp.of_below hb));have lm:=zh (iw.out.next hb);have cn:=zh (aq.out.next hb);clear hb ez fb iw aq;have b0:=cn.out.li.cell 0;have b1:=cn.out.li.cell 1;have b2:=cn.out.li.cell 2;have b3:=cn.out.li.cell 3;simp only[za,zb,zf]at b0 b1 b2 b3
 go_upto_region 5 with fail
 have ny:=zh (kz.out.next (zp (.cells #[.int .i64 0,.int .i64 0,.int .i64 0,.int .i64 0,.bool mfr,.bool mfc] 36)));have j2:=zh (lm.out.next (zp (.cells #[.int .i64 0,.int .i64 0,.int .i64 0,.int .i64 0,.bool mfr,.bool mfc] 36)));have de:=zh (cn.out.next (zp (.cells #[.int .i64 0,.int .i64 0,.int .i64 0,.int .i64 0,.bool mfr,.bool mfc] 36)));have HC5:=zh (Own1.new HF.out ke.out 36 #[.int .i64 0,.int .i64 0,.int .i64 0,.int .i64 0,.bool mfr,.bool mfc]);have jq:=zh (ke.out.alloc (.cells #[.int .i64 0,.int .i64 0,.int .i64 0,.int .i64 0,.bool mfr,.bool mfc] 36));have bz:q≠w4.heap.size:=by have:=lm.out.li.lt;omega
 have po:q1≠w4.heap.size:=by have:=cn.out.li.lt;omega
 generalize w4.alloc (.cells #[.int .i64 0,.int .i64 0,.int .i64 0,.int .i64 0,.bool mfr,.bool mfc] 36)=w5 at *;generalize w4.heap.size=q2 at *;clear kz lm cn ke b0 b1 b2 b3;have b0:=de.out.li.cell 0;have b1:=de.out.li.cell 1;have r4:=ny.out.rd.cell 4;have r5:=ny.out.rd.cell 5;simp only[za,zb,zf]at b0 b1 r4 r5
 go_cut [5] (fun v wx=>v=.bool false/\Hid (InE E k op nd tp 18 wx)/\Hid (Kp E.X w wx)/\Hid (Own1 E w wx q 36 bQ))
 case first=>
  go_region_with ((go_at_call 134;refine(CL1.out w5.drew (ny.out.next (Below.refl _ _).drew)).mono ?_;rintro e w6 ⟨rfl,h1,h2⟩;have mv:=zh h1;have iv:=zh (jq.out.drew.trans h2);have ji:=zh ((j2.out.next (Below.refl _ _).drew).kp h2);have iy:=zh ((HC5.out.next (Below.refl _ _).drew).kp h2);clear h1 h2;have c0:=iy.out.li.cell 0;have c1:=iy.out.li.cell 1;have g0:=iy.out.li.frozen 0;have g1:=iy.out.li.frozen 1;simp only[za,zb,zf]at c0 c1))
  all_goals go_wp2_with fail
  all_goals go_meet
  all_goals exact⟨rfl,zh (mv.out.own hE iy.out (by decide) (by decide) (((Kp.refl _ _).set (.inl (.head _)) 0 _).set (.inl (.head _)) 1 _)),zh (iv.out.own iy.out (((Kp.refl _ _).set (.inl (.head _)) 0 _).set (.inl (.head _)) 1 _)),zh ((ji.out.off bz 0 _).off bz 1 _)⟩
 case rest=>
  obtain⟨rfl,f9,n9,dx⟩:=hcut;clear ny jq j2 de HC5 b0 b1 r4 r5 CT CP CL1;have HP:Hid (∀ W',Kp [q] wc W'->StepX E w k op nd tp 18 (.tuple #[iC aG,.bool false]) (.returned (.tuple #[iC aG,.bool false])) W'):=zh (fun W' h=>⟨rfl,f9.out.own hE dx.out (by decide) (by decide) h,n9.out.own dx.out h⟩);have a0:=dx.out.li.cell 0;have a1:=dx.out.li.cell 1;have a2:=dx.out.li.cell 2;have a3:=dx.out.li.cell 3;have a4:=dx.out.li.cell 4;have a5:=dx.out.li.cell 5;have g0:=dx.out.li.frozen 0;have g1:=dx.out.li.frozen 1;have g2:=dx.out.li.frozen 2;have g3:=dx.out.li.frozen 3;have g4:=dx.out.li.frozen 4;have g5:=dx.out.li.frozen 5;simp only[bQ,za,zb,zf]at a0 a1 a2 a3 a4 a5
  go_wp2_with fail
  refine yt (v:=.tuple #[iC aG,.bool false]) (by simp[results,Tryz.results132,go_sem,a0,a1,a2,a3,a4,a5]) rfl ?_;exact HP.out _ ((((((((Kp.refl _ _).set (.inl (.head _)) 0 _).set (.inl (.head _)) 1 _).set (.inl (.head _)) 2 _).set (.inl (.head _)) 3 _).set (.inl (.head _)) 4 _).set (.inl (.head _)) 5 _))
set_option maxRecDepth 100000 in
theorem cell_col(E:Env)(hE:E.ok)(k op nd pl er:Nat)(w:World)(hI:InE E k op nd pl er w)(hk:k<E.L.length)(ht:(E.at k).text.length<=100000)(m:Mk)(x:IdR)
  (h4:(E.at k).kind=4) (hm:bA (E.at k).text=some m) (hx:E.ax.rows[m.row]?=some x) (hy:E.ax.cols[m.col]?=none) (hmr:m.row<=100000000) (hmc:m.col<=100000000) :
  Calls Tryz.prog 132 #[.pointer (some ⟨E.r,0,none⟩)] w (StepX E w k op nd (E.at k).place 18 (.tuple #[iC aG,.bool false])):=by
 have CT:=zh (fun W h=>bX E k op nd pl er W h hk);have CP:=zh (fun W=>gX (E.at k).text W ht);unfold iL at CP;rw[hm]at CP;have CL1:=zh (fun W h=>oT E hE k op nd pl er E.pa E.ax.rows m.row x W h (.inl ⟨rfl,rfl⟩) hmr hx);have CL2:=zh (fun W h=>xO E hE k op nd pl er E.pb E.ax.cols m.col W h (.inr ⟨rfl,rfl⟩) hmc hy hk);generalize E.at k=t at *;obtain⟨tk,tx,tp⟩:=t;obtain⟨mr,mc,mfr,mfc⟩:=m;dsimp only[tkV,jF]at CT CP h4 CL1 CL2 ⊢;subst h4;clear ht hm hx hy hmr hmc;have co:=zh (hI.next (zp (.cells bQ 36)));have cj:Hid (Kp E.X w (w.alloc (.cells bQ 36))):=zh ((Kp.refl _ _).alloc _);have cg:=zh (Own1.new hI (Kp.refl E.X w) 36 bQ);have HF:=zh hI;clear hI;have xz:=lK;have hf1:=mK;obtain⟨xa,xn⟩:=x
 go_enter Tryz.func132,Tryz.ntmps132
 go_upto_region 1 with fail
 generalize w.alloc (.cells bQ 36)=W1 at *;generalize w.heap.size=q at *
 go_wp2_with fail
 refine(CT.out W1 co.out).mono ?_;rintro e w1 ⟨rfl,hb⟩;have ip:=zh (co.out.next hb);have dz:=zh (cj.out.trans (Kp.of_below hb));have i9:=zh (cg.out.next hb);clear hb co cj cg
 go_wp2_with fail
 refine(CP.out w1).mono ?_;rintro e w2 ⟨rfl,hb⟩;have dg:=zh (ip.out.next hb);have bq:=zh (dz.out.trans (Kp.of_below hb));have bv:=zh (i9.out.next hb);clear hb ip dz i9
 go_upto_region 2 with fail
 have ez:=zh (dg.out.next (zp (.cells #[.int .i64 (mr:Int),.int .i64 (mc:Int),.bool mfr,.bool mfc] 150)));have iw:=zh (bv.out.next (zp (.cells #[.int .i64 (mr:Int),.int .i64 (mc:Int),.bool mfr,.bool mfc] 150)));have aq:=zh (Own1.new HF.out bq.out 150 #[.int .i64 (mr:Int),.int .i64 (mc:Int),.bool mfr,.bool mfc]);have fb:=zh (bq.out.alloc (.cells #[.int .i64 (mr:Int),.int .i64 (mc:Int),.bool mfr,.bool mfc] 150));have bp:q≠w2.heap.size:=by have:=bv.out.li.lt;omega
 generalize w2.alloc (.cells #[.int .i64 (mr:Int),.int .i64 (mc:Int),.bool mfr,.bool mfc] 150)=w3 at *;generalize w2.heap.size=q1 at *;clear dg bv bq
 go_wp2_with fail
 refine(CT.out w3 ez.out).mono ?_;rintro e w4 ⟨rfl,hb⟩;have kz:=zh (ez.out.next hb);have ke:=zh (fb.out.trans (Kp.of_below hb));have lm:=zh (iw.out.next hb);have cn:=zh (aq.out.next hb);clear hb ez fb iw aq;have b0:=cn.out.li.cell 0;have b1:=cn.out.li.cell 1;have b2:=cn.out.li.cell 2;have b3:=cn.out.li.cell 3;simp only[za,zb,zf]at b0 b1 b2 b3
 go_upto_region 5 with fail
 have ny:=zh (kz.out.next (zp (.cells #[.int .i64 0,.int .i64 0,.int .i64 0,.int .i64 0,.bool mfr,.bool mfc] 36)));have j2:=zh (lm.out.next (zp (.cells #[.int .i64 0,.int .i64 0,.int .i64 0,.int .i64 0,.bool mfr,.bool mfc] 36)));have de:=zh (cn.out.next (zp (.cells #[.int .i64 0,.int .i64 0,.int .i64 0,.int .i64 0,.bool mfr,.bool mfc] 36)));have HC5:=zh (Own1.new HF.out ke.out 36 #[.int .i64 0,.int .i64 0,.int .i64 0,.int .i64 0,.bool mfr,.bool mfc]);have jq:=zh (ke.out.alloc (.cells #[.int .i64 0,.int .i64 0,.int .i64 0,.int .i64 0,.bool mfr,.bool mfc] 36));have bz:q≠w4.heap.size:=by have:=lm.out.li.lt;omega
 have po:q1≠w4.heap.size:=by have:=cn.out.li.lt;omega
 generalize w4.alloc (.cells #[.int .i64 0,.int .i64 0,.int .i64 0,.int .i64 0,.bool mfr,.bool mfc] 36)=w5 at *;generalize w4.heap.size=q2 at *;clear kz lm cn ke b0 b1 b2 b3;have b0:=de.out.li.cell 0;have b1:=de.out.li.cell 1;have r4:=ny.out.rd.cell 4;have r5:=ny.out.rd.cell 5;simp only[za,zb,zf]at b0 b1 r4 r5
 go_cut [5] (fun v wx=>v=.bool true/\Hid (InE E k op nd pl er wx)/\Hid (Kp E.X w wx)/\Hid (Own1 E w wx q 36 bQ)/\Hid (Own1 E w wx q1 150 #[.int .i64 (mr:Int),.int .i64 (mc:Int),.bool mfr,.bool mfc])/\Hid (Own1 E w wx q2 36 #[.int .i64 xa,.int .i64 xn,.int .i64 0,.int .i64 0,.bool mfr,.bool mfc]))
 case first=>
  go_region_with ((go_at_call 134;refine(CL1.out w5.drew (ny.out.next (Below.refl _ _).drew)).mono ?_;rintro e w6 ⟨rfl,h1,h2⟩;have mv:=zh h1;have iv:=zh (jq.out.drew.trans h2);have ji:=zh ((j2.out.next (Below.refl _ _).drew).kp h2);have tj:=zh ((de.out.next (Below.refl _ _).drew).kp h2);have iy:=zh ((HC5.out.next (Below.refl _ _).drew).kp h2);clear h1 h2;have c0:=iy.out.li.cell 0;have c1:=iy.out.li.cell 1;have g0:=iy.out.li.frozen 0;have g1:=iy.out.li.frozen 1;simp only[za,zb,zf]at c0 c1))
  all_goals go_wp2_with fail
  all_goals go_meet
  all_goals exact⟨rfl,zh (mv.out.own hE iy.out (by decide) (by decide) (((Kp.refl _ _).set (.inl (.head _)) 0 _).set (.inl (.head _)) 1 _)),zh (iv.out.own iy.out (((Kp.refl _ _).set (.inl (.head _)) 0 _).set (.inl (.head _)) 1 _)),zh ((ji.out.off bz 0 _).off bz 1 _),zh ((tj.out.off po 0 _).off po 1 _),zh ((iy.out.put 0 _).put 1 _)⟩
 case rest=>
  obtain⟨rfl,f9,n9,dx,HB7,HC7⟩:=hcut;clear ny jq j2 de HC5 b0 b1 r4 r5;have b1:=HB7.out.li.cell 1;have r5:=f9.out.rd.cell 5;simp only[za,zb,zf]at b1 r5
  go_upto_region 8 with fail
  go_cut [5] (fun v wx=>v=.bool false/\Hid (InE E k op nd tp 18 wx)/\Hid (Kp E.X w wx)/\Hid (Own1 E w wx q 36 bQ))
  case first=>
   go_region_with ((go_at_call 134;refine(CL2.out wc.drew (f9.out.next (Below.refl _ _).drew)).mono ?_;rintro e w6 ⟨rfl,h1,h2⟩;have mv:=zh h1;have iv:=zh (n9.out.drew.trans h2);have ji:=zh ((dx.out.next (Below.refl _ _).drew).kp h2);have iy:=zh ((HC7.out.next (Below.refl _ _).drew).kp h2);clear h1 h2;have c2:=iy.out.li.cell 2;have c3:=iy.out.li.cell 3;have g2:=iy.out.li.frozen 2;have g3:=iy.out.li.frozen 3;simp only[za,zb,zf]at c2 c3))
   all_goals go_wp2_with fail
   all_goals go_meet
   all_goals exact⟨rfl,zh (mv.out.own hE iy.out (by decide) (by decide) (((Kp.refl _ _).set (.inl (.head _)) 2 _).set (.inl (.head _)) 3 _)),zh (iv.out.own iy.out (((Kp.refl _ _).set (.inl (.head _)) 2 _).set (.inl (.head _)) 3 _)),zh ((ji.out.off bz 2 _).off bz 3 _)⟩
  case rest=>
   obtain⟨rfl,vm,lz,pq⟩:=hcut;clear f9 n9 dx HB7 HC7 b1 r5 CT CP CL1 CL2;have HP:Hid (∀ W',Kp [q] wc W'->StepX E w k op nd tp 18 (.tuple #[iC aG,.bool false]) (.returned (.tuple #[iC aG,.bool false])) W'):=zh (fun W' h=>⟨rfl,vm.out.own hE pq.out (by decide) (by decide) h,lz.out.own pq.out h⟩);have a0:=pq.out.li.cell 0;have a1:=pq.out.li.cell 1;have a2:=pq.out.li.cell 2;have a3:=pq.out.li.cell 3;have a4:=pq.out.li.cell 4;have a5:=pq.out.li.cell 5;have g0:=pq.out.li.frozen 0;have g1:=pq.out.li.frozen 1;have g2:=pq.out.li.frozen 2;have g3:=pq.out.li.frozen 3;have g4:=pq.out.li.frozen 4;have g5:=pq.out.li.frozen 5;simp only[bQ,za,zb,zf]at a0 a1 a2 a3 a4 a5
   go_wp2_with fail
   refine yt (v:=.tuple #[iC aG,.bool false]) (by simp[results,Tryz.results132,go_sem,a0,a1,a2,a3,a4,a5]) rfl ?_;exact HP.out _ ((((((((Kp.refl _ _).set (.inl (.head _)) 0 _).set (.inl (.head _)) 1 _).set (.inl (.head _)) 2 _).set (.inl (.head _)) 3 _).set (.inl (.head _)) 4 _).set (.inl (.head _)) 5 _))
theorem tG{l:Bs}{c:Nat}(hc:bR l=some c):c<=1000000:=by
 unfold bR at hc
 split at hc
 ·cases hc
 rename_i h3
 split at hc
 ·rename_i bk
  have:=lB l (fun c hc=>List.all_eq_true.1 bk c hc) 3 (by omega);rw[List.take_of_length_le (by rcases Nat.lt_or_ge 3 l.length with h|h;exact absurd (.inr h) h3;exact h)]at this;injection hc with hc;omega
 cases hc
theorem qR{s:Bs}{m:Mk}(h:bA s=some m):m.row<=100000000/\m.col<=100000000:=by
 unfold bA at h;dsimp only at h
 split at h
 ·cases h
 rename_i c hc
 split at h
 ·cases h
 rename_i n hn
 injection h with h;subst h;have h1:=nU hn;have h2:=tG hc;exact⟨by show n-1<=_;omega,by show c<=_;omega⟩
theorem cell_any(E:Env)(hE:E.ok)(k op nd pl er:Nat)(w:World)(hI:InE E k op nd pl er w)(hk:k<E.L.length)(hL:E.L.length<=1000000)(ht:(E.at k).text.length<=100000) :
  Calls Tryz.prog 132 #[.pointer (some ⟨E.r,0,none⟩)] w (yN E w k op nd pl er (fS E.ax (E.L.drop k))):=by
 have pr:fS E.ax (E.L.drop k)=if (E.at k).kind≠4 then .error 6
   else match bA (E.at k).text with
    |none=>.error 6
    |some m=>match E.ax.rows[m.row]? with
     |none=>.error 18
     |some r=>match E.ax.cols[m.col]? with
      |none=>.error 18
      |some k=>.ok ⟨r,k,m.fr,m.fc⟩:=rfl
 rw[pr];by_cases h4:(E.at k).kind=4
 ·rw[if_neg (fun h=>h h4)];cases hm:bA (E.at k).text with
  |none=>exact vE E hE k op nd pl er w hI hk ht (.inr hm)
  |some m=>
   have vo:=qR hm;dsimp only;cases hx:E.ax.rows[m.row]? with
   |none=>exact cell_row E hE k op nd pl er w hI hk ht m h4 hm hx vo.1
   |some x=>
    dsimp only;cases hy:E.ax.cols[m.col]? with
    |none=>exact cell_col E hE k op nd pl er w hI hk ht m x h4 hm hx hy vo.1 vo.2
    |some y=>exact cell_ok E hE k op nd pl er w hI hk hL ht m x y h4 hm hx hy vo.1 vo.2
 rw[if_pos h4];exact vE E hE k op nd pl er w hI hk ht (.inl h4)
def NV(W:World)(X:List Nat)(nd:Nat)(t:Tree)(cs:Array Value):Prop:=cs.size=22/\cs.all (·.oneCell')=true/\(nd<=256->∃ A cp,cs=aY t.h A t.l.length cp/\KidsOk W X A t.l)
theorem NV.kp{W W':World}{X:List Nat}{nd:Nat}{t:Tree}{cs:Array Value}(h:NV W X nd t cs)(hk:Kp X W W'):NV W' X nd t cs :=
 ⟨h.1,h.2.1,fun hn=>by obtain⟨A,cp,e,h3⟩:=h.2.2 hn;exact⟨A,cp,e,h3.kp hk⟩⟩
theorem NV.mono{W:World}{X:List Nat}{nd nd':Nat}{t:Tree}{cs:Array Value}(h:NV W X nd t cs)(hn:nd<=nd'):NV W X nd' t cs:=⟨h.1,h.2.1,fun h'=>h.2.2 (yv hn h')⟩
mutual
theorem NodeAt.anti{W:World}{X Y:List Nat}(hs:∀ y∈Y,y<W.heap.size->y∈X){g o:Nat}:∀ {t:Tree},NodeAt W X g o t->NodeAt W Y g o t
 | .mk h l,hn=>by
  obtain⟨A,c,h1,h2⟩:=hn;refine⟨A,c,h1,?_⟩;rcases h2 with h2|⟨g',e,h3,h4,h5⟩
  ·exact .inl h2
  exact .inr ⟨g',e,fun hm=>h3 (hs g' hm h4),h4,KidsAt.anti hs h5⟩
theorem KidsAt.anti{W:World}{X Y:List Nat}(hs:∀ y∈Y,y<W.heap.size->y∈X){g:Nat}:∀ {l:List Tree} {i:Nat},KidsAt W X g i l->KidsAt W Y g i l
 | [],_,_=>trivial
 |_::_,_,hn=>⟨NodeAt.anti hs hn.1,KidsAt.anti hs hn.2⟩
end
theorem NV.anti{W:World}{X Y:List Nat}{nd:Nat}{t:Tree}{cs:Array Value}(h:NV W X nd t cs)(hs:∀ y∈Y,y<W.heap.size->y∈X):NV W Y nd t cs :=
 ⟨h.1,h.2.1,fun hn=>by
  obtain⟨A,cp,e,h3⟩:=h.2.2 hn;refine⟨A,cp,e,?_⟩;rcases h3 with h3|⟨g',e2,h4,h5,h6⟩
  ·exact .inl h3
  exact .inr ⟨g',e2,fun hm=>h4 (hs g' hm h5),h5,KidsAt.anti hs h6⟩⟩
theorem NV.fresh{W:World}{X:List Nat}{nd:Nat}{t:Tree}{cs:Array Value}(h:NV W X nd t cs){z:Nat}(hz:W.heap.size<=z):NV W (z::X) nd t cs :=
 h.anti (fun y hy hl=>by rcases ym.1 hy with rfl|hy;omega;exact hy)
theorem NV.kpX{W W':World}{X Y:List Nat}{nd:Nat}{t:Tree}{cs:Array Value}(h:NV W X nd t cs)(hk:Kp Y W W')(hs:∀ y∈Y,y∈X):NV W' X nd t cs:=h.kp (hk.mono (fun y hy _=>hs y hy))
def NPost(E:Env)(w:World)(k op nd pl er:Nat)(o:Out)(e:Ending)(w':World):Prop:=match o with
 | .ok t ts c=>∃ k' cs,e=.returned (.tuple #[.agg cs,.bool true])/\k<=k'/\k'<E.L.length/\ts=E.L.drop k'/\c+k<=nd+k'/\nd<=c/\InE E k' op c pl er w'/\Kp E.X w w'/\NV w' (List.range w.heap.size) c t cs
 | .bad er' p=>∃ cs k' op' nd',e=.returned (.tuple #[.agg cs,.bool false])/\cs.size=22/\cs.all (·.oneCell')=true/\k<=k'/\k'<E.L.length/\nd'+k<=nd+k'/\InE E k' op' nd' p er' w'/\Kp E.X w w'
def Env.ends(E:Env):Prop:=0<E.L.length/\∀ k,k<E.L.length->((E.at k).kind=0↔k+1=E.L.length)
theorem Env.more{E:Env}(h:E.ends){k:Nat}(hk:k<E.L.length)(hn:(E.at k).kind≠0):k+1<E.L.length:=by
 rcases Nat.lt_or_ge (k+1) E.L.length with h1|h1
 ·exact h1
 exact absurd ((h.2 k hk).2 (by omega)) hn
set_option maxRecDepth 100000 in
theorem mC(t:Tok)(w:World)(ht:t.text.length<=100000) :
  Calls Tryz.prog 128 #[tkV t] w fun e w'=>e=.returned (.bool (cM t))/\Below w.heap.size w w':=by
 have CF:=zh (fun W=>kG t.text W (by unfold maxLen;omega));obtain⟨tk,tx,tp⟩:=t;unfold cM;dsimp only at CF ⊢;have hB:Below w.heap.size w (w.alloc (.cells #[.int .i64 tk,.string ⟨tx.toArray⟩,.int .i64 tp] 70)):=(Below.refl _ w).alloc zr _;have HB:=zh hB;clear hB ht;by_cases h:tk=3
 ·subst h;by_cases h1:aO tx=jN
  ·rw[h1]at CF ⊢
   go_enter Tryz.func128,Tryz.ntmps128
   go_wp2_with fail
   refine(CF.out _).mono ?_;rintro e w2 ⟨rfl,hb⟩;have cq:=zh (HB.out.trans (hb.mono HB.out.size));clear hb HB CF;unfold jN
   go_wp2_with fail
   go_ret
   exact⟨rfl,cq.out⟩
  by_cases h2:aO tx=gQ
  ·rw[h2]at CF ⊢
   go_enter Tryz.func128,Tryz.ntmps128
   go_wp2_with fail
   refine(CF.out _).mono ?_;rintro e w2 ⟨rfl,hb⟩;have cq:=zh (HB.out.trans (hb.mono HB.out.size));clear hb HB CF;unfold gQ
   go_wp2_with fail
   go_ret
   exact⟨rfl,cq.out⟩
  have e1:(aO tx==jN)=false:=by simpa using h1
  have e2:(aO tx==gQ)=false:=by simpa using h2
  rw[e1,e2];unfold jN at h1 e1;unfold gQ at h2 e2
  go_enter Tryz.func128,Tryz.ntmps128
  go_wp2_with fail
  refine(CF.out _).mono ?_;rintro e w2 ⟨rfl,hb⟩;have cq:=zh (HB.out.trans (hb.mono HB.out.size));clear hb HB CF
  go_wp2_with fail
  go_ret
  exact⟨by simp,cq.out⟩
 have hb:((tk:Int) != 3)=true:=by simp;omega
 have b9:((tk:Int)==3)=false:=by simp;omega
 have hd:decide (tk=3)=false:=decide_eq_false h;rw[hd];clear h hd CF
 go_enter Tryz.func128,Tryz.ntmps128
 go_wp2_with fail
 go_ret
 exact⟨by simp,HB.out⟩
end Go.Proofs.YtmgjidnalpgegaaGreatDoor
