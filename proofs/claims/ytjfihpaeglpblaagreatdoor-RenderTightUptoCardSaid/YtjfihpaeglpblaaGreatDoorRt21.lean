/-
  Lemmas, part 21: PlR6 TtA RenderTightW LaidH OpenX RenderTightC.
-/
import Derived.Lib.LaidTab
import Derived.Test.YtjfihpaeglpblaaGreatDoorRt20
set_option maxHeartbeats 100000000
set_option maxRecDepth 1000000
namespace Go.Proofs.YtjfihpaeglpblaaGreatDoor
open Go.RowKit
def qL(c:UInt8):Bool:=c==45||c==43||c==40||c==123||c==36||c==35||c==95||aB c||aW c
def NoBl(s:Bs):Prop:=∀ c∈s,c≠32
def OkS(s:Bs):Prop:=NoBl s/\∃ c r,s=c::r/\qL c=true
theorem NoBl.of{s:Bs}(h:s.all (· != 32)=true):NoBl s:=fun c hc=>by simpa using List.all_eq_true.1 h c hc
theorem NoBl.app{a b:Bs}(ha:NoBl a)(hb:NoBl b):NoBl (a++b):=fun c hc=>(List.mem_append.1 hc).elim (ha c) (hb c)
theorem OkS.of{s:Bs}(h:(s.all (· != 32)&&qL (s.headD 32))=true):OkS s:=by
 simp only[yh]at h;cases s with
 |nil=>exact absurd h.2 (by decide)
 |cons c r=>exact⟨NoBl.of h.1,c,r,rfl,h.2⟩
theorem OkS.app{a b:Bs}(ha:OkS a)(hb:NoBl b):OkS (a++b):=by
 obtain⟨h,c,r,rfl,hc⟩:=ha;exact⟨h.app hb,c,r++b,rfl,hc⟩
theorem zW{s:Bs}(h:AllDig s):NoBl s:=fun c hc e=>by
 subst e;exact absurd (h 32 hc) (by decide)
theorem nb_cap{s:Bs}(h:∀ c∈s,aW c=true):NoBl s:=fun c hc e=>by
 subst e;exact absurd (h 32 hc) (by decide)
theorem fir_dig{c:UInt8}(h:aB c=true):qL c=true:=by unfold qL;simp[h]
theorem uO{c:UInt8}(h:aW c=true):qL c=true:=by unfold qL;simp[h]
theorem uAE{s:Bs}(h:AllDig s)(h0:0<s.length):OkS s:=by
 cases s with
 |nil=>exact absurd h0 (by decide)
 |cons c r=>exact⟨zW h,c,r,rfl,fir_dig (h c List.mem_cons_self)⟩
theorem uAD(u:Nat):OkS (Lib.decDigits u):=uAE (uL u).1 (uCL u)
theorem uY(c:Nat)(h:0<c):OkS (dY c):=by
 have h1:=(lets_is c).1;have h2:=wH c h;generalize dY c=s at *;cases s with
 |nil=>exact absurd h2 (by decide)
 |cons x r=>exact⟨nb_cap h1,x,r,rfl,uO (h1 x List.mem_cons_self)⟩
theorem nb_dol(b:Bool):NoBl (qH b):=by cases b <;> exact NoBl.of rfl
theorem ok_dol(b:Bool){s:Bs}(h:OkS s):OkS (qH b++s):=by
 cases b
 ·exact h
 exact OkS.app (a:=[36]) (OkS.of rfl) h.1
theorem ok_mark(row col:Nat)(a b:Bool):OkS (mJ row col a b):=ok_dol b ((uY (col+1) (by omega)).app ((nb_dol a).app (uAD (row+1)).1))
theorem nb_rep(n:Nat):NoBl (List.replicate n 48):=fun c hc=>by rw[(List.mem_replicate.1 hc).2];decide
theorem ok_num(m e:Int)(h:0<=m):OkS (cF m e):=by
 have hd:=(uL m.natAbs).1;have hp:=uCL m.natAbs;unfold cF;simp only[if_neg (show ¬ m<0 by omega),List.nil_append];generalize Lib.decDigits m.natAbs=t at *
 split
 ·exact(uAE hd hp).app (nb_rep _)
 split
 ·rename_i h1 h2
  have h3:OkS (t.take ((t.length:Int)+e).toNat):=uAE (fun c hc=>hd c (List.mem_of_mem_take hc)) (by rw[zc];omega);exact(h3.app (b:=[46]) (NoBl.of rfl)).app (zW fun c hc=>hd c (List.mem_of_mem_drop hc))
 exact(OkS.app (a:=[48,46]) (OkS.of rfl) (nb_rep _)).app (zW hd)
structure TxT(t:RTok):Prop where
 k:t.kind≠2
 nb:NoBl t.text
 fs:Fst t=true->∃ c r,t.text=c::r/\qL c=true
def TxL(ts:List RTok):Prop:=∀ t∈ts,TxT t
theorem TxT.ok{k:Int}{s:Bs}(h:OkS s)(hk:k≠2):TxT (tk k s):=⟨hk,h.1,fun _=>h.2⟩
theorem TxT.sg{s:Bs}(h1:s.all (· != 32)=true)(h2:(!(Fst (tk 5 s))||qL (s.headD 32))=true):TxT (tk 5 s):=⟨(by decide:(5:Int)≠2),NoBl.of h1,fun h=>by
 rw[h]at h2;cases s with
 |nil=>exact absurd h2 (by decide)
 |cons c r=>exact⟨c,r,rfl,by simpa using h2⟩⟩
theorem TxL.nil:TxL []:=fun _ h=>by cases h
theorem TxL.cons{t:RTok}{l:List RTok}(h:TxT t)(hl:TxL l):TxL (t::l):=fun x hx=>(ym.1 hx).elim (fun e=>e ▸ h) (hl x)
theorem TxL.app{a b:List RTok}(ha:TxL a)(hb:TxL b):TxL (a++b):=fun x hx=>(List.mem_append.1 hx).elim (ha x) (hb x)
theorem pO:TxL dS:=TxL.cons (TxT.ok (OkS.of rfl) (by decide)) TxL.nil
theorem pQ(r c:Nat)(a b:Bool):TxT (eJ .plain r c a b):=TxT.ok (ok_mark r c a b) (by decide)
theorem row_tx(r:Nat)(a:Bool):TxT (gI .plain r a):=by
 cases a
 ·exact TxT.ok (uAD _) (by decide)
 exact TxT.ok (OkS.app (a:=[36]) (OkS.of rfl) (uAD _).1) (by decide)
theorem col_tx(r:Nat)(a:Bool):TxT (gH .plain r a):=by
 cases a
 ·exact TxT.ok (uY _ (by omega)) (by decide)
 exact TxT.ok (OkS.app (a:=[36]) (OkS.of rfl) (uY _ (by omega)).1) (by decide)
theorem cell_tx(R C:AxV)(h:NodeH):TxL (gZ .plain R C h):=by
 unfold gZ
 split
 ·exact pO
 split
 ·exact TxL.cons (pQ _ _ _ _) (TxL.cons (TxT.sg rfl rfl) TxL.nil)
 exact TxL.cons (pQ _ _ _ _) TxL.nil
theorem span_tx(R C:AxV)(a b:Cor):TxL (jD .plain R C a b):=by
 unfold jD
 split
 ·split
  ·exact pO
  exact TxL.cons (col_tx _ _) (TxL.cons (TxT.sg rfl rfl) (TxL.cons (col_tx _ _) TxL.nil))
 split
 ·split
  ·exact pO
  exact TxL.cons (row_tx _ _) (TxL.cons (TxT.sg rfl rfl) (TxL.cons (row_tx _ _) TxL.nil))
 split
 ·exact TxL.cons (pQ _ _ _ _) (TxL.cons (TxT.sg rfl rfl) (TxL.cons (pQ _ _ _ _) TxL.nil))
 exact pO
theorem fault_ok(n:Int)(h1:1<=n)(h2:n<=9):OkS (bA n):=by
 unfold bA;rw[if_pos ⟨h1,h2⟩];have h3:∀ k,k<10->1<=k->((jP k).all (· != 32)&&qL ((jP k).headD 32))=true:=by decide
 exact OkS.of (h3 _ (by omega) (by omega))
theorem lit_tx{v:Val}(h2:v.kind≠2)(h0:v.kind≠0)(hr:aR v=true):TxL (kR v):=by
 unfold kR;by_cases h1:v.kind=1
 ·rw[if_pos h1]
  split
  ·exact TxL.cons (TxT.sg rfl rfl) (TxL.cons (TxT.ok (ok_num _ _ (by omega)) (by decide)) TxL.nil)
  exact TxL.cons (TxT.ok (ok_num _ _ (by omega)) (by decide)) TxL.nil
 rw[if_neg h1,if_neg h2];unfold aR at hr;rw[if_neg h1,if_neg h2]at hr;simp only[yh,Bool.or_eq_true,decide_eq_true_eq]at hr;by_cases h4:v.kind=4
 ·rw[if_pos h4];have h5:1<=v.fault/\v.fault<=9:=by
   rcases hr.2 with(h|h)|h
   ·omega
   ·omega
   exact⟨h.1.2,h.2⟩
  exact TxL.cons (TxT.ok (fault_ok _ h5.1 h5.2) (by decide)) TxL.nil
 rw[if_neg h4];have h3:v.kind=3:=by
  rcases hr.2 with(h|h)|h
  ·exact absurd h h0
  ·exact h
  exact absurd h.1.1 h4
 unfold dW;rw[if_neg h1,if_neg h2,if_pos h3];cases v.truth
 ·exact TxL.cons (TxT.ok (OkS.of rfl) (by decide)) TxL.nil
 exact TxL.cons (TxT.ok (OkS.of rfl) (by decide)) TxL.nil
theorem ok_all{s:Bs}(p q:UInt8->Bool)(h0:0<s.length)(h1:q (s.headD 0)=true)(h2:s.all p=true)(hp:p 32=false)(hq:∀ c,q c=true->qL c=true):OkS s:=by
 cases s with
 |nil=>exact absurd h0 (by decide)
 |cons c r=>
  refine⟨fun x hx e=>?_,c,r,rfl,hq c h1⟩;subst e;rw[List.all_eq_true.1 h2 32 hx]at hp;cases hp
theorem call_ok{s:Bs}(h:bI s=true):OkS s:=by
 unfold bI at h;simp only[yh,decide_eq_true_eq]at h;exact ok_all (fun c=>aW c||aB c||c==46) aW h.1.1.1.1 h.1.1.2 h.1.2 (by decide) (fun c hc=>uO hc)
theorem name_ok{s:Bs}(h:bB s=true):OkS s:=by
 unfold bB at h;simp only[yh,decide_eq_true_eq]at h;exact ok_all (fun c=>aW c||aB c||c==95||c==46) (fun c=>aW c||c==95) h.1.1.1.1.1 h.1.1.1.2 h.1.1.2 (by decide) (fun c hc=>by
  simp only[Bool.or_eq_true]at hc;rcases hc with hc|hc
  ·exact uO hc
  rw[beq_iff_eq.1 hc];rfl)
theorem vE{h:NodeH}{n:Nat}{ks:List Int}{k:Int}(hr:aV h n ks k=true)(hk:h.kind=4):bI h.name=true:=by
 unfold aV at hr;rw[if_neg (by omega),if_neg (by omega),if_neg (by omega),if_pos hk]at hr;simp only[yh]at hr;exact hr.1.1.1
theorem vF{h:NodeH}{n:Nat}{ks:List Int}{k:Int}(hr:aV h n ks k=true)(hk:h.kind=7):bB h.name=true:=by
 unfold aV at hr;rw[if_neg (by omega),if_neg (by omega),if_neg (by omega),if_neg (by omega),if_neg (by omega),if_neg (by omega),if_pos hk]at hr;simp only[yh]at hr;exact hr.1.1
theorem pV{a b:Int}{ts:List RTok}(h:TxL ts):TxL (wrapT a b ts):=by
 unfold wrapT
 split
 ·exact h
 exact TxL.cons (TxT.sg rfl rfl) (h.app (TxL.cons (TxT.sg rfl rfl) TxL.nil))
theorem uW:∀ (l:List (List RTok)),(∀ a∈l,TxL a)->TxL (bO l)
 | [],_=>TxL.nil
 | [a],h=>h a List.mem_cons_self
 |a::b::r,h=>(h a List.mem_cons_self).app (TxL.cons (TxT.sg rfl rfl) (uW (b::r) fun x hx=>h x (zg _ hx)))
theorem uDE(wide:Nat)(ts:List (List RTok))(h:∀ a∈ts,TxL a):∀ k,TxL (cA wide ts k)
 |0=>TxL.nil
 |k+1=>by
  rw[cA];refine(uDE wide ts h k).app (TxL.cons ?_ (uW _ fun a ha=>h a (List.mem_of_mem_drop (List.mem_of_mem_take ha))))
  split
  ·exact TxT.sg rfl rfl
  exact TxT.sg rfl rfl
theorem pP{ts:List (List RTok)}(h:∀ a∈ts,TxL a):TxL (ts.headD []):=by
 cases ts with
 |nil=>exact TxL.nil
 |cons a r=>exact h a List.mem_cons_self
theorem un_tx{s:Bs}(h:unB s=true):TxT (tk 5 s):=by
 unfold unB at h;simp only[Bool.or_eq_true,beq_iff_eq]at h;rcases h with(h|h)|h <;> subst h <;> exact TxT.sg rfl rfl
theorem bin_tx{s:Bs}(h:iM s=true):TxT (tk 5 s):=by
 unfold iM at h;simp only[Bool.or_eq_true,beq_iff_eq]at h;rcases h with((((((((((h|h)|h)|h)|h)|h)|h)|h)|h)|h)|h)|h <;> subst h <;> exact TxT.sg rfl rfl
theorem node_tx(R C:AxV)(h:NodeH)(lv:List Int)(ts:List (List RTok))(n:Nat)(k:Int)(ks:List Int)(hr:aV h n ks k=true)(ht:h.kind=0->h.v.kind≠2)(hm:∀ a∈ts,TxL a):TxL (dT .plain R C h lv ts):=by
 unfold dT;by_cases h0:h.kind=0
 ·rw[if_pos h0];obtain⟨a,b⟩:=lS hr h0;exact lit_tx (ht h0) b a
 rw[if_neg h0];by_cases h1:h.kind=1\/h.kind=3
 ·rw[if_pos h1];exact cell_tx R C h
 rw[if_neg h1];by_cases h2:h.kind=2
 ·rw[if_pos h2];exact span_tx R C _ _
 rw[if_neg h2];by_cases h4:h.kind=4
 ·rw[if_pos h4];exact TxL.cons (TxT.ok (call_ok (vE hr h4)) (by decide)) (TxL.cons (TxT.sg rfl rfl) ((uW ts hm).app (TxL.cons (TxT.sg rfl rfl) TxL.nil)))
 rw[if_neg h4];by_cases h5:h.kind=5
 ·rw[if_pos h5];have hu:=un_tx (kH hr h5).1
  split
  ·exact(pV (pP hm)).app (TxL.cons hu TxL.nil)
  exact TxL.cons hu (pV (pP hm))
 rw[if_neg h5];by_cases h6:h.kind=6
 ·rw[if_pos h6];exact(pV (pP hm)).app (TxL.cons (bin_tx (eX hr h6).1) (pV (pP fun a ha=>hm a (List.mem_of_mem_tail ha))))
 rw[if_neg h6];by_cases h7:h.kind=7
 ·rw[if_pos h7];exact TxL.cons (TxT.ok (name_ok (vF hr h7)) (by decide)) TxL.nil
 rw[if_neg h7]
 split
 ·exact(uDE _ _ hm _).app (TxL.cons (TxT.sg rfl rfl) TxL.nil)
 exact TxL.nil
mutual
theorem uDF(R C:AxV):∀ (t:Tree) (k:Int),t.right k=true->t.plainT->TxL (t.toks .plain R C)
 | .mk h l,k,hr,hp=>by
  obtain⟨h1,h2⟩:=cX hr;rw[Tree.plainT]at hp;rw[Tree.toks];exact node_tx R C h _ _ _ k _ h1 hp.1 (xQ R C l h.kind h2 hp.2)
theorem xQ(R C:AxV):∀ (l:List Tree) (k:Int),aQ l k=true->fO l->∀ a∈bE .plain R C l,TxL a
 | [],_,_,_=>fun a ha=>by cases ha
 |t::r,k,hr,hp=>by
  simp only[aQ,yh]at hr;rw[fO]at hp;intro a ha;rw[bE]at ha;rcases ym.1 ha with rfl|ha
  ·exact uDF R C t k hr.1.2 hp.1
  exact xQ R C r k hr.2 hp.2 a ha
end
theorem uBJ(R C:AxV)(t:Tree)(hc:cI t=0)(hp:t.plainT):OkS (cZ .plain R C t):=by
 obtain⟨hr,_⟩:=iV hc;obtain⟨f,r,l,e,hf,hl,hL,hs⟩:=nZ .plain R C t 6 hr hp (pB hr (by decide));have hx:=uDF R C t 6 hr hp;unfold cZ;rw[if_neg (by rw[hc];simp)];rw[oN _ none (by
  rw[cC,hs,hl,bY,bY];show (true&&(!(bT l ⟨0,[],0⟩)&&true))=true;rw[iR hL (.inr rfl)];rfl)]
 rw[List.map_append,List.flatten_append];refine OkS.app ?_ (NoBl.of rfl);have ho:∀ x,TxT x->lO x=x.text:=fun x h=>by
  unfold lO;rw[if_neg (by rw[beq_iff_eq];exact h.k)]
 have hn:∀ ts:List RTok,TxL ts->NoBl ((ts.map lO).flatten):=fun ts h c hc=>by
  obtain⟨s,hs,ed⟩:=List.mem_flatten.1 hc;obtain⟨x,hx,rfl⟩:=yj.1 hs;rw[ho x (h x hx)]at ed;exact(h x hx).nb c ed
 have hfx:=hx f (by rw[e];exact List.mem_cons_self);rw[e];have e2:((f::r).map lO).flatten=f.text++(r.map lO).flatten:=by rw[List.map_cons,List.flatten_cons,ho f hfx]
 rw[e2];obtain⟨c,q,e3,e4⟩:=hfx.fs hf;exact OkS.app ⟨hfx.nb,c,q,e3,e4⟩ (hn r fun x hx'=>hx x (by rw[e];exact zg _ hx'))
mutual
theorem wS:∀ (t:Tree),(∀ n∈t.pre,n.h.kind=0->n.h.v.kind≠2)->t.plainT
 | .mk h l,hp=>by
  rw[Tree.pre]at hp;rw[Tree.plainT];exact⟨hp _ List.mem_cons_self,tL l fun n hn=>hp n (zg _ hn)⟩
theorem tL:∀ (l:List Tree),(∀ n∈kS l,n.h.kind=0->n.h.v.kind≠2)->fO l
 | [],_=>by rw[fO];trivial
 |t::r,hp=>by
  rw[kS]at hp;rw[fO];exact⟨wS t fun n hn=>hp n (List.mem_append_left _ hn),tL r fun n hn=>hp n (List.mem_append_right _ hn)⟩
end
mutual
theorem uCZ:∀ t:Tree,t.pre.length=t.size
 | .mk h l=>by rw[Tree.pre,Tree.size,yi,wU l]
theorem wU:∀ l:List Tree,(kS l).length=aL l
 | []=>by rw[kS,aL];rfl
 |t::r=>by rw[kS,aL,yl,uCZ t,wU r]
end
theorem PCells.kinds:∀ {xs:List Value} {l:List Tree},PCells xs l->∀ (i:Nat) (hi:i<l.length),xs[i*22]?=some (vI (l[i]'hi).h.kind)/\xs[i*22+1]?=some (vI (l[i]'hi).h.v.kind)
 |xs,[],_,_,hi=>absurd hi (by simp)
 |xs,t::l,⟨c,r,h1,h3,⟨A,cp,h4⟩,h5⟩,0,_=>by
  have hc:c=(aH t.h A t.l.length cp).toList:=by rw[<- h4]
  have key:∀ k v,k<22->(aH t.h A t.l.length cp).toList[k]?=some v->xs[0*22+k]?=some v:=fun k v hk hv=>by
   rw[h1,Nat.zero_mul,Nat.zero_add,List.getElem?_append_left (by omega),hc];exact hv
  exact⟨key 0 _ (by decide) rfl,key 1 _ (by decide) rfl⟩
 |xs,t::l,⟨c,r,h1,h3,_,h5⟩,i+1,hi=>by
  obtain⟨k1,k2⟩:=PCells.kinds h5 i (by simpa using hi);have key:∀ k v,r[i*22+k]?=some v->xs[(i+1)*22+k]?=some v:=fun k v hv=>by
   rw[h1,List.getElem?_append_right (by omega),h3,show (i+1)*22+k-22=i*22+k by omega];exact hv
  exact⟨key 0 _ k1,key 1 _ k2⟩
theorem uEM{W:World}{base g cap n:Nat}{xs:List Value}{l:List Tree}(h:W.ownsRow base 34 22 (.slice (some ⟨g,0,none⟩) n cap) n xs)(hp:PCells xs l)(i:Nat)(hi:i<l.length):W.cell? ⟨g,i*22,none⟩=some (vI (l[i]'hi).h.kind)/\W.cell? ⟨g,i*22+1,none⟩=some (vI (l[i]'hi).h.v.kind):=by
 obtain⟨k1,k2⟩:=hp.kinds i hi;have hc:=h.cells (g:=g) rfl;have h1:=hc _ _ k1;have h2:=hc _ _ k2;rw[Addr.add_mid,Nat.zero_add]at h1 h2;exact⟨h1,h2⟩
theorem uAX{W:World}{R C:AxV}{p q:Option Nat}(hp:AxQ W p R)(hq:AxQ W q C)(t:Tree)(hc:cI t=0):(cZ .plain R C t).length<=4000000:=by
 obtain⟨hr,ap⟩:=iV hc;have htl:=iF .plain R C t 6 hr;have htx:=vK (v:=.plain) trivial hp.av hq.av t 6 hr;unfold cZ;rw[if_neg (by rw[hc];simp)];have h:=nK (t.toks .plain R C++[⟨0,[],0⟩]) none (fun x hx=>by
  rcases List.mem_append.1 hx with hx|hx
  ·exact(htx x hx).1
  rw[yf.1 hx];decide)
 rw[yl]at h;simp only[yi,List.length_nil]at h;omega
theorem tight_any(t:Tree)(N:Nat)(Cn:List Value)(A B D:Option Addr)(ca cb cd:Nat)(ids jds dead:List IdR)(w:World)(hg:Gl w)(hP:TreeP nB w t Cn.toArray)(ho:t.ok N)(ap:t.size<=1000000)(hA:eA w A ids)(hB:eA w B jds)(hD:eA w D dead)(hf:∀ y∈ids,y.fits)(qp:∀ y∈jds,y.fits) :
  Calls Tryz.prog 4 #[.agg Cn.toArray,axesV A B D ids.length jds.length dead.length ca cb cd] w fun e w'=>e=.returned (.bool true)/\Below w.heap.size w w':=by
 obtain⟨W0,ak⟩:∃ W0,W0=(w.alloc (.cells Cn.toArray 34)).alloc (.cells #[.slice A ids.length ca,.slice B jds.length cb,.slice D dead.length cd] 37):=⟨_,rfl⟩
 have ai:=zh ak;have au:Hid (Below w.heap.size w W0):=zh (by rw[ak];exact((Below.refl _ w).alloc zr _).alloc (by rw[World.size_alloc];omega) _);have HL:Hid (Lies W0 w.heap.size 34 Cn.toArray):=zh (by rw[ak];exact(Lies.new w _ _).alloc _);have i9:Hid (Lies W0 (w.heap.size+1) 37 #[.slice A ids.length ca,.slice B jds.length cb,.slice D dead.length cd]):=zh (by
  rw[ak];have h:=Lies.new (w.alloc (.cells Cn.toArray 34)) 37 #[.slice A ids.length ca,.slice B jds.length cb,.slice D dead.length cd];rw[World.size_alloc]at h;exact h)
 have iw:Cn.length=22:=by
  obtain⟨A,j7,e,_⟩:=hP;exact oP e
 have bk:=zh (dE iw);have CA:=zh (pZ W0 (hg.next au.out));have HC:Hid (∀ W,Below w.heap.size w W->Below W0.heap.size W0 W->W.cell? ⟨w.heap.size+1,0,none⟩=some (.slice A ids.length ca)/\W.cell? ⟨w.heap.size+1,1,none⟩=some (.slice B jds.length cb)/\W.cell? ⟨w.heap.size+1,2,none⟩=some (.slice D dead.length cd)):=zh (fun W _ hb=>⟨(i9.out.next hb).cell 0,(i9.out.next hb).cell 1,(i9.out.next hb).cell 2⟩);have HG:=zh hg;have CG:Hid (∀ W,Below w.heap.size w W->Calls Tryz.prog 11 #[.agg Cn.toArray,axesV A B D ids.length jds.length dead.length ca cb cd] W fun e w'=>e=.returned (.bool (uP t ids.length jds.length dead.length))/\Below W.heap.size W w'):=zh (fun W (hb:Below w.heap.size w W)=>zO t Cn A B D ids.length jds.length dead.length ca cb cd W (hP.nextA hb) ap);have HX:Hid (eA w A ids/\eA w B jds/\eA w D dead):=zh ⟨hA,hB,hD⟩;have HP:=zh hP
 have HF:=zh (And.intro hf qp);have rv:=zh (uDW (n1:=ids.length) (n2:=jds.length) (n3:=dead.length) ho);obtain⟨gb,lg⟩:=zD (uP t ids.length jds.length dead.length)
 rw[<- lg]at CG rv;clear ak hP ap iw hg hA hB hD hf qp ho lg i9;cases gb
 case' true=>
  go_in
  go_upto_region 1 with fail
  rw[<- ai.out];clear ai rv HF HX
  go_wp2_with (first
   |((with_reducible refine CA.out.mono ?_);rintro e w1 ⟨rfl,hb⟩;have b6:=zT au hb;have kn:=zh (HL.out.next hb).rangeM;obtain⟨x0,x1,x2⟩:=HC.out _ b6.out hb;clear hb)
   |(refine aG (Eq.trans (aP rfl rfl rfl rfl) rfl) 34 (.tmp 2) rfl w.heap.size 0 rfl Cn _ kn.out Tryz.underlying34 rfl bk.out ?_)
   |((with_reducible refine(CG.out _ b6.out).mono ?_);rintro e w2 ⟨rfl,hb⟩;have bm:=zT b6 hb;have CA2:=zh (pZ w2 (HG.out.next bm.out));clear hb x0 x1 x2)
   |((with_reducible refine CA2.out.mono ?_);rintro e w3 ⟨rfl,hb⟩;have bj:=zT bm hb;clear hb))
  go_ret
  exact⟨rfl,bj.out⟩
 obtain⟨k1,-,k2,k3,k4,k5⟩:=rv.out rfl;have HK:=zh (And.intro k1 k2);have HM:Hid (∀ W,Below w.heap.size w W->_):=zh (fun W (hb:Below w.heap.size w W)=>made_any A B D ca cb cd ids jds dead W (dX HX.out.1 hb) (dX HX.out.2.1 hb) (dX HX.out.2.2 hb) (by omega) (by omega) (by omega) HF.out.1 HF.out.2);clear rv HF HX k1 k2 k3 k4 k5
 go_in
 go_upto_region 1 with fail
 rw[<- ai.out];clear ai
 go_upto_region 4 with(first
  |((with_reducible refine CA.out.mono ?_);rintro e w1 ⟨rfl,hb⟩;have b6:=zT au hb;have gy:=zh hb;have kn:=zh (HL.out.next hb).rangeM;obtain⟨x0,x1,x2⟩:=HC.out _ b6.out hb;clear hb)
  |(refine aG (Eq.trans (aP rfl rfl rfl rfl) rfl) 34 (.tmp 2) rfl w.heap.size 0 rfl Cn _ kn.out Tryz.underlying34 rfl bk.out ?_)
  |((with_reducible refine(CG.out _ b6.out).mono ?_);rintro e w2 ⟨rfl,hb⟩;have bm:=zT b6 hb;have ct:=zT gy hb;clear x0 x1 x2;obtain⟨x0,x1,x2⟩:=HC.out _ bm.out ct.out;clear hb)
  |((with_reducible refine(HM.out _ bm.out).mono ?_);rintro e w3 ⟨r,c,m1,m2,rfl,hm⟩;have HMd:=zh hm;clear hm x0 x1 x2))
 have HS:Hid (LawW w w.heap.size t Cn (dQ ids dead) (dQ jds dead) (some r) (some c) (some m1) (some m2) w3):=zh (LawW.of_made HMd.out bm.out (HG.out.next bm.out) ⟨_,HL.out.next ct.out⟩ (HL.out.next ct.out).rangeM (HP.out.nextA bm.out));have HTI:=zh (HS.out.any.nextIn zB);have CN:=zh (lR 1000 (by decide) t Cn.toArray w3 (by have:=HK.out.2;omega) HTI.out);have jq:=zh HS.out.row;clear HMd kn gy ct b6 bm CA CG HC HM HL au HP HG HTI;generalize dQ ids dead=R at *;generalize dQ jds dead=C at *;obtain⟨S,hS⟩:∃ S:World->Prop,∀ W,S W↔LawW w w.heap.size t Cn R C (some r) (some c) (some m1) (some m2) W:=⟨_,fun _=>Iff.rfl⟩
 have sj:Hid (∀ W W',S W->Below W.heap.size W W'->S W'):=zh (fun W W' h hb=>(hS W').2 (((hS W).1 h).next hb));have CS:Hid (∀ W,S W->Calls Tryz.prog 13 #[.agg Cn.toArray,vP r 0,vP c 0] W fun e w'=>e=.returned (strV (cZ .plain R C t))/\S w'):=zh (fun W h=>(((hS W).1 h).says HK.out.1 HK.out.2).mono (fun _ _ ⟨a,b⟩=>⟨a,(hS _).2 b⟩));have CC:Hid (∀ W,S W->Calls Tryz.prog 16 #[.agg Cn.toArray] W fun e w'=>e=.returned (vI (cI t:Nat))/\Below W.heap.size W w'):=zh (fun W h=>uAT t Cn.toArray W HK.out.1.fine (by have:=HK.out.2;omega) (((hS W).1 h).any.nextIn zB));have jv:Hid (∀ W,S W->W.rangeAt w.heap.size 0 Cn):=zh (fun W h=>((hS W).1 h).row);have HBl:Hid (∀ W,S W->Below w.heap.size w W):=zh (fun W h=>((hS W).1 h).bel)
 have j9:Hid (cI t=0->(cZ .plain R C t).length<=4000000):=zh (fun h=>uAX HS.out.p HS.out.q t h);have HXe:Hid (cI t≠0->cZ .plain R C t=[]):=zh (fun h=>if_pos h);have jy:Hid (t.size<=400):=zh HK.out.2;have HOk:Hid (cI t=0->t.plainT->OkS (cZ .plain R C t)):=zh (fun h hp=>uBJ R C t h hp);have bp:=zh ((hS w3).2 HS.out);clear HS hS HK;generalize cZ .plain R C t=X at *
 go_wp2_with (first |(refine yr rfl 34 (.tmp 2) rfl w.heap.size 0 rfl Cn _ jq.out Tryz.underlying34 rfl bk.out ?_))
 refine CN.out.mono ?_;rintro e' w4 ⟨A7,c7,xs,rfl,ho7,hp7,hb7⟩;have vp:=zh hp7;have ik:=zh (sj.out _ _ bp.out hb7);have fz:0<t.size:=by cases t;rw[Tree.size];exact Nat.succ_pos _
 obtain⟨g,cap,hv,lg,hgl⟩:=ho7.form fz;cases hv;have HO7:=zh ho7;have HPL:=zh (uCZ t);obtain⟨n,ev⟩:=zD t.size
 have hnb:(n:Int)<=1000000:=by have:=jy.out;omega
 rw[<- ev]at HO7 HPL ⊢;clear hb7 ho7 hp7 fz lg hgl ev CN jq bp jy
 go_wp2_with fail
 go_loopw [10] (fun v wr=>∃ i:Nat,i<=n/\v=vI (i:Int)/\Hid (Below w4.heap.size w4 wr)/\Hid (∀ (k:Nat) (hk:k<t.pre.length),k<i->(t.pre[k]'hk).h.kind=0->(t.pre[k]'hk).h.v.kind≠2)) (fun v _=>n-(intOf v).toNat)
 case atStart=>exact⟨0,zm _,rfl,zh zB,zh (fun k _ h=>absurd h (by omega))⟩
 case round=>
  obtain⟨i,hi,rfl,l8,hpr⟩:=hrel;by_cases hlt:i<n
  ·have qr:(i:Int)<(n:Int):=by omega
   have hip:i<t.pre.length:=by rw[HPL.out];exact hlt
   obtain⟨k1,k2⟩:=uEM (aI l8.out HO7.out) vp.out i hip;have sd:Hid ((((t.pre[i]'hip).h.kind=0->(t.pre[i]'hip).h.v.kind≠2))->∀ (k:Nat) (hk:k<t.pre.length),k<i+1->(t.pre[k]'hk).h.kind=0->(t.pre[k]'hk).h.v.kind≠2):=zh (fun h k hk ii=>by
    by_cases e:k=i
    ·subst e;exact h
    exact hpr.out k hk (by omega))
   clear hpr;generalize (t.pre[i]'hip).h.kind=kk at *;generalize (t.pre[i]'hip).h.v.kind=vk at *;by_cases h0:kk=0
   ·subst h0;by_cases h2:vk=2
    ·subst h2;clear sd;have bg:=zh (HBl.out _ (sj.out _ _ ik.out l8.out))
     go_wp2_with fail
     go_ret
     exact⟨rfl,bg.out⟩
    have HP3:=zh (sd.out (fun _=>h2));have x2:(vk==2)=false:=by simpa using h2
    clear sd
    go_wp2_with fail
    go_roundw
    case rel=>exact⟨i+1,by omega,by go_num,l8,HP3⟩
    case measure=>simp[intOf];omega
   have HP3:=zh (sd.out (fun h=>absurd h h0));have x0:(kk==0)=false:=by simpa using h0
   clear sd
   go_wp2_with fail
   go_roundw
   case rel=>exact⟨i+1,by omega,by go_num,l8,HP3⟩
   case measure=>simp[intOf];omega
  have qy:¬ ((i:Int)<(n:Int)):=by omega
  have hpl:t.plainT:=wS t (fun m hm=>by
   obtain⟨k,hk,rfl⟩:=List.getElem_of_mem hm;exact hpr.out k hk (by rw[HPL.out]at hk;omega))
  have qo:=zh (sj.out _ _ ik.out l8.out);have HOx:=zh (fun h=>HOk.out h hpl);clear hpl hpr l8 HOk ik HO7 vp HPL
  go_wp2_with (first |(refine yr rfl 34 (.tmp 2) rfl w.heap.size 0 rfl Cn _ (jv.out _ qo.out) Tryz.underlying34 rfl bk.out ?_))
  refine(CS.out _ qo.out).mono ?_;rintro e' w6 ⟨rfl,hs6⟩;have dq:=zh hs6;clear hs6 CS qo;by_cases hc:cI t=0
  ·obtain⟨hnbl,ch,rr,hX,hf⟩:=HOx.out hc;have hlen:=j9.out hc;have HNB:=zh hnbl;have ot:=zh (HBl.out _ dq.out);have h0:0<X.length:=by rw[hX];simp
   have hc0:X[0]'h0=ch:=by simp[hX]
   have cv:(X==([]:Bs))=false:=by rw[hX];rfl
   have qr:(0:Int)<(X.length:Int):=by omega
   have hlb:(X.length:Int)<=4000000:=by omega
   clear hX hnbl HOx j9 hc jv HBl sj CC
   go_wp2_with fail
   go_loop [12] (fun v=>∃ k:Nat,k<=X.length/\v=vI (k:Int)) (fun v=>X.length-(intOf v).toNat)
   case atStart=>exact⟨0,zm _,rfl⟩
   case round=>
    obtain⟨k,hk,rfl⟩:=hrel;by_cases mq:k<X.length
    ·have ii:(k:Int)<(X.length:Int):=by omega
     have hb:=beq_u8 (X[k]'mq) 32 32 rfl;rw[show ((X[k]'mq)==32)=false from by
      rw[beq_eq_false_iff_ne];exact HNB.out _ (List.getElem_mem mq)]at hb
     go_wp2_with fail
     go_round
     case rel=>exact⟨k+1,by omega,by go_num⟩
     case measure=>simp[intOf];omega
    have hkn:¬ ((k:Int)<(X.length:Int)):=by omega
    go_upto_region 19 with fail
    have hx1:∃ x:Int,(ch.toNat:Int)=x/\(x=45\/x=43\/x=40\/x=123\/x=36\/x=35\/x=95\/(48<=x/\x<=57)\/(65<=x/\x<=90)):=by
     refine⟨_,rfl,?_⟩;unfold qL aB aW at hf;simp only[Bool.or_eq_true,yh,beq_iff_eq,decide_eq_true_eq]at hf;rcases hf with(((((((h|h)|h)|h)|h)|h)|h)|h)|h
     ·subst h;left;rfl
     ·subst h;right;left;rfl
     ·subst h;right;right;left;rfl
     ·subst h;right;right;right;left;rfl
     ·subst h;right;right;right;right;left;rfl
     ·subst h;right;right;right;right;right;left;rfl
     ·subst h;right;right;right;right;right;right;left;rfl
     ·right;right;right;right;right;right;right;left;omega
     right;right;right;right;right;right;right;right;omega
    obtain⟨x,hx,hx2⟩:=hx1;rw[hx];clear hx hc0 hf;rcases hx2 with rfl|rfl|rfl|rfl|rfl|rfl|rfl|⟨q1,q2⟩|⟨q1,q2⟩
    all_goals try have e1:(x==45)=false:=by rw[beq_eq_false_iff_ne];omega
    all_goals try have e2:(x==43)=false:=by rw[beq_eq_false_iff_ne];omega
    all_goals try have e3:(x==40)=false:=by rw[beq_eq_false_iff_ne];omega
    all_goals try have e4:(x==123)=false:=by rw[beq_eq_false_iff_ne];omega
    all_goals try have e5:(x==36)=false:=by rw[beq_eq_false_iff_ne];omega
    all_goals try have e6:(x==35)=false:=by rw[beq_eq_false_iff_ne];omega
    all_goals try have e7:(x==95)=false:=by rw[beq_eq_false_iff_ne];omega
    case inr.inr.inr.inr.inr.inr.inr.inr=>
     have q3:(48:Int)<=x:=by omega
     have q4:¬ (x<=57):=by omega
     go_wp2_with fail
     go_ret
     exact⟨rfl,ot.out⟩
    all_goals go_wp2_with fail
    all_goals go_ret
    all_goals exact⟨rfl,ot.out⟩
  have hXe:X=[]:=HXe.out hc;have hck:((cI t:Int)==0)=false:=by rw[beq_eq_false_iff_ne];omega
  have nh:((cI t:Int) != 0)=true:=by rw[bne,hck];rfl
  subst hXe;clear HOx j9 HXe sj
  go_wp2_with (first |(refine yr rfl 34 (.tmp 2) rfl w.heap.size 0 rfl Cn _ (jv.out _ dq.out) Tryz.underlying34 rfl bk.out ?_))
  have ot:=zh (HBl.out _ dq.out);refine(CC.out _ dq.out).mono ?_;rintro e' w7 ⟨rfl,hb7⟩;have mp:=zT ot hb7;clear hb7 CC
  go_wp2_with fail
  go_ret
  exact⟨rfl,mp.out⟩
open Go.ChangeShapes Go.WideShapes Go.ChangeAt Go.RowKit
theorem own:ownKnob Tryz.prog.godebug=none:=by kernel_rfl
theorem laidOut:laidOutB Tryz.prog=true:=by kernel_rfl
theorem sH{H:Type}{enc:TypeId×Value->H}{P:Program}{w:World}{base:Nat}{sp:Nat->Bool}{held:Bool}{fuel:Nat}{t e:TypeId}{n:Nat}{cs:List Value}{ss:List Bs}{p:List MemPlace}
  (ht:P.underlying t=some (.array n e)) (he:P.underlying e=some .string) (hce:P.cellsOf e=1) (hct:P.cellsOf t=n)
  (h:DataW.trod enc P w base sp held fuel t cs=some (.agg (ss.map fun s=>.lit (.string s)),p)):cs=ss.map fun s=>Value.string ⟨s.toArray⟩:=by
 cases fuel with
 |zero=>simp[DataW.trod]at h
 |succ fuel=>
  simp only[DataW.trod,ht,hce,hct,Nat.mul_one]at h
  split at h
  ·rename_i hl
   obtain⟨xs,hm,hx⟩:=Option.map_eq_some_iff.1 h;have hxs:xs.map (·.1)=ss.map fun s=>(DataW.lit (.string s):DataW H):=by
    have:=congrArg Prod.fst hx;simpa using this
   have hxl:xs.length=n:=by simpa using Lib.mapM_length hm
   have hzl:ss.length=n:=by
    have:=congrArg List.length hxs;simp at this;omega
   apply List.ext_getElem?;intro i;by_cases hi:i<n
   ·obtain⟨b,hb,hf⟩:=Lib.mapM_at hm i i (by simp[hi]);obtain⟨z,hc,rfl,_⟩:=DataW.trod_string he hf;have h1:cs[i]?=some (.string z):=by
     have:=congrArg (·[0]?) hc;simpa [List.getElem?_take,List.getElem?_drop] using this
    have h2:(xs.map (·.1))[i]?=some (DataW.lit (.string z.data.toList):DataW H):=by simp[hb]
    rw[hxs]at h2;simp only[List.getElem?_map,Option.map_eq_some_iff,DataW.lit.injEq,Lit.string.injEq]at h2;obtain⟨z',hz',j0⟩:=h2;simp[h1,hz',j0]
   rw[List.getElem?_eq_none (by omega),List.getElem?_eq_none (by simp;omega)]
  cases h
theorem qX{P:Program}{w:World}:∀ {laid:List (String×DataW Unit)} {ps:List MemPlace},DataW.LaidVars P w laid ps->∀ {n:String} {d:DataW Unit},(n,d)∈laid ->
  ∃ g t cs fuel p,P.globalNamed n=some g/\(P.globals[g]?).map (·.type)=some t/\w.var? P n=some cs/\DataW.trod (fun _=>()) P w 0 (fun _=>true) false fuel t cs.toList=some (d,p)
 | [],_,_,_,_,hm=>by simp at hm
 |(n',d')::r,ps,h,n,d,hm=>by
  obtain⟨g,t,cs,fuel,p,q,h1,h2,h3,h4,h5,_⟩:=h;rcases ym.1 hm with e|e
  ·injection e with e1 e2;subst e1 e2;exact⟨g,t,cs,fuel,p,h1,h2,h3,h4⟩
  exact qX h5 e
def faultName:String:= "counterpane/value.faultTexts"
theorem gFault:Tryz.prog.globalNamed faultName=some 0:=by kernel_rfl
theorem zJ:(Tryz.prog.globals[0]?).map (·.type)=some 219:=by kernel_rfl
theorem tab_of_laid{laid:List (String×DataW Unit)}{W:World}(h:laidMet Tryz.prog laid W)(hm:(faultName,Rows.laid_counterpane_value_faultTexts)∈laid):Tab W:=by
 obtain⟨ps,hl,_⟩:=h;obtain⟨g,t,cs,fuel,p,h1,h2,h3,h4⟩:=qX hl hm;obtain rfl:=Option.some.inj (gFault.symm.trans h1);obtain rfl:=Option.some.inj (zJ.symm.trans h2);have ed:=sH (ss:=(List.range 10).map jP) Tryz.underlying219 Tryz.underlying9 (by kernel_rfl) (by kernel_rfl) h4;intro i hi;have h5:=World.var?_cell gFault h3 i;rw[h5];have h6:cs[i]?=cs.toList[i]?:=by simp
 rw[h6,ed];simp[hi]
open Go.ChangeShapes Go.WideShapes Go.ChangeAt Go.RowKit
open Go.ChangeShapes Go.WideShapes Go.ChangeAt Go.RowKit
theorem gPowType:(Tryz.prog.globals[4]?).map (·.type)=some 268:=by kernel_rfl
theorem pow_of_laid{laid:List (String×DataW Unit)}{W:World}(h:laidMet Tryz.prog laid W)(hm:("internal/strconv.uint64pow10",Rows.laid_internal_strconv_uint64pow10)∈laid):PowTab W:=by
 obtain⟨ps,hl,_⟩:=h;obtain⟨g,t,cs,fuel,p,h1,h2,h3,h4⟩:=qX hl hm;obtain rfl:=Option.some.inj (gPow.symm.trans h1);obtain rfl:=Option.some.inj (gPowType.symm.trans h2);have ed:=Lib.cells_of_tab (zs:=Lib.pow10Tab) Tryz.underlying268 Tryz.underlying216 (by kernel_rfl) (by kernel_rfl) h4;unfold PowTab Lib.TabIs;rw[h3,<- ed]
open Go.ChangeShapes Go.WideShapes Go.ChangeAt Go.RowKit
theorem max_of_shaped{W:World}(h:W.ShapedOpen Tryz.prog):MaxVar W :=
 Go.Proofs.cell_of_shapedOpen_int (zero:=#[.int .i64 0]) (t:=3) h (of_decide_eq_true (by kernel_rfl)) (by kernel_rfl) rfl (by kernel_rfl) (by kernel_rfl) Tryz.underlying3
def cells1:DataW Unit->List Value
 | .lit (.int k z)=>[.int k z]
 | .lit (.string s)=>[.string ⟨s.toArray⟩]
 | .agg l=>l.map fun d=>match d with|.lit (.int k z)=>Value.int k z | .lit (.string s)=>Value.string ⟨s.toArray⟩|_=>Value.bool false
 |_=>[]
def uFF:DataW Unit->Array Value
 | .agg l=>(l.flatMap cells1).toArray
 |_=>#[]
def putTab2(d:DataW Unit):Obj->Obj
 | .cells _ t frozen=>.cells (uFF d) t frozen
 |o=>o
noncomputable def laidWorldD (os:Os):World :=
 { World.holding Tryz.prog os ⟨#[],#[],[]⟩ with heap:=((((((World.holding Tryz.prog os ⟨#[],#[],[]⟩).heap.modify 0 (putTab2 Rows.laid_counterpane_value_faultTexts)).modify 4 (putTab2 Rows.laid_internal_strconv_uint64pow10)).modify 5 (putTab2 Rows.laid_math_bits_deBruijn32tab)).modify 6 (putTab2 Rows.laid_math_bits_deBruijn64tab)).modify 2 (putTab2 Rows.laid_unicode_utf8_first)).modify 3 (putTab2 Rows.laid_unicode_utf8_acceptRanges) }
end Go.Proofs.YtjfihpaeglpblaaGreatDoor
namespace Go.Proofs.YtjfihpaeglpblaaGreatDoor
open Go.ChangeShapes Go.WideShapes Go.ChangeAt Go.RowKit
theorem cellsAx:Tryz.prog.cellsOf 37=3:=by kernel_rfl
theorem qA:Tryz.prog.cellsOf 35=1:=by kernel_rfl
section
variable {H:Type} {enc:TypeId×Value->H} {W:World}
theorem open_node{r:Reach}{b0:Nat}{v:Value}{d:DataW H}{p:List MemPlace}(hv:Value.okWide Tryz.prog W r b0 34 v)(h:DataW.Trod enc Tryz.prog W 0 (fun _=>true) true 34 v d p) :
  ∃ (t:Tree) (Cn:List Value),v=.agg Cn.toArray/\TreeP nB W t Cn.toArray/\t.ok (Rows.uptoBulk d)/\7*t.size<=Rows.uptoBulk d:=by
 obtain⟨cs,rfl,ap⟩:=okWide_struct Tryz.underlying34 hv;obtain⟨fuel,hf⟩:=h;have qp:DataW.trod enc Tryz.prog W 0 (fun _=>true) true fuel 34 cs.toList=some (d,p):=by simpa [Value.cells] using hf
 obtain⟨t,A,cp,h1,h2,h3,h4,h5⟩:=uFH _ _ _ _ zr qp;refine⟨t,(aH t.h A t.l.length cp).toList,by rw[<- h1],⟨A,cp,rfl,h2,h3⟩,h4,h5⟩
theorem nY{n:Nat}{c:Value}{y:DataW H×List MemPlace}(hf:DataW.trod enc Tryz.prog W 0 (fun _=>true) true n 35 [c]=some y) :
  ∃ (A:Option Addr) (cap:Nat) (l:List IdR),c=.slice A l.length cap/\eA W A l/\∀ x∈l,x.fits:=by
 have key:∃ A len cap,c=.slice A len cap:=by
  rcases Go.Deep.open_slice Tryz.underlying35 hf with⟨ed,_⟩|⟨x,len,c',m,n,D,Pl,ed,_⟩
  ·injection ed with ed _;exact⟨_,_,_,ed⟩
  injection ed with ed _;exact⟨_,_,_,ed⟩
 obtain⟨A,len,cap,rfl⟩:=key;obtain⟨l,rfl,h1,h2⟩:=in_ids (enc:=enc) (W:=W) (d:=y.1) (p:=y.2) ⟨n,by simpa [Value.cells] using hf⟩;exact⟨A,cap,l,rfl,h1,h2⟩
theorem open_axes{r:Reach}{b0:Nat}{v:Value}{d:DataW H}{p:List MemPlace}(hv:Value.okWide Tryz.prog W r b0 37 v)(h:DataW.Trod enc Tryz.prog W 0 (fun _=>true) true 37 v d p) :
  ∃ (A B D:Option Addr) (ca cb cd:Nat) (ids jds dead:List IdR),v=axesV A B D ids.length jds.length dead.length ca cb cd/\eA W A ids/\eA W B jds/\eA W D dead/\(∀ x∈ids,x.fits)/\∀ x∈jds,x.fits:=by
 obtain⟨cs,rfl,ap⟩:=okWide_struct Tryz.underlying37 hv;obtain⟨l⟩:=cs
 match l,ap.trans cellsAx with
 | [c0,c1,c2],_=>
  obtain⟨fuel,hf⟩:=h;have qp:DataW.trod enc Tryz.prog W 0 (fun _=>true) true fuel 37 [c0,c1,c2]=some (d,p):=by simpa [Value.cells] using hf
  obtain⟨xs,n,_,hx,_,hlen,hg⟩:=DataW.trod_struct Tryz.underlying37 qp
  match xs,hlen with
  | [y0,y1,y2],_=>
   have g0:DataW.trod enc Tryz.prog W 0 (fun _=>true) true n 35 [c0]=some y0:=by have:=hg 0 _ rfl;simpa [qA] using this
   have g1:DataW.trod enc Tryz.prog W 0 (fun _=>true) true n 35 [c1]=some y1:=by have:=hg 1 _ rfl;simpa [qA] using this
   have g2:DataW.trod enc Tryz.prog W 0 (fun _=>true) true n 35 [c2]=some y2:=by have:=hg 2 _ rfl;simpa [qA] using this
   obtain⟨A,ca,ids,rfl,a1,a2⟩:=nY g0;obtain⟨B,cb,jds,rfl,b1,b2⟩:=nY g1;obtain⟨D,cd,dead,rfl,c1,c2⟩:=nY g2;exact⟨A,B,D,ca,cb,cd,ids,jds,dead,rfl,a1,b1,c1,a2,b2⟩
end
end Go.Proofs.YtjfihpaeglpblaaGreatDoor
namespace Go.Proofs.YtjfihpaeglpblaaGreatDoor.renderTight
open Go.ChangeShapes Go.WideShapes Go.ChangeAt Go.RowKit
open Go.ChangeMaps (open_string shut_string)
theorem contract(H:Type)(enc:TypeId×Value->H)(W:World)(base:Nat)(args:Array Value)(ds gs:List (DataW H))(before:List MemPlace)
  (hval:∀ (j:Nat) t v,Tryz.f4.params[j]?=some t->args[j]?=some v->Value.okWide Tryz.prog W .any base t v)
  (hW:DataW.Whole enc Tryz.prog Tryz.f4.params.toList Rows.renderTightSpec.vars false W args.toList ds gs before) (hL:laidMetH Tryz.prog Rows.renderTightUptoRow.laid W) (hSh:W.ShapedOpen Tryz.prog) (hcd:Rows.uptoSmall H (ds++gs)=true) :
  Calls Tryz.prog 4 args W fun e W'=>∃ v,e=.returned v/\Rows.renderTightSpec.post enc Tryz.prog Tryz.f4 false true false false W args v W':=by
 have hW':=hW;obtain⟨p,q,hA0,hV,rfl,hfz,hnd⟩:=hW;have hA:DataW.TrodAll enc Tryz.prog W 0 (fun _=>true) true Tryz.f4.params.toList args.toList ds p:=hA0;rw[Tryz.params4]at hA hval;obtain⟨v0,vs0,d0,ds0,p0,q0,hargs,rfl,rfl,h0,r0⟩:=trodAll_cons hA;obtain⟨v1,vs1,d1,ds1,p1,q1,rfl,rfl,rfl,h1,r1⟩:=trodAll_cons r0;obtain⟨rfl,rfl,rfl⟩:=trodAll_nil r1;obtain rfl:args=#[v0,v1]:=by cases args;simp_all
 obtain⟨rfl,rfl⟩:=trodVars_none hV;have hb:=of_decide_eq_true hcd;have k0:=h0;have lt0:∀ x∈p0,x.block<W.heap.size:=by obtain⟨m,hm⟩:=k0;exact DataW.trod_lt m _ _ _ hm
 obtain⟨t0,Cn0,rfl,P0,o0,z0⟩:=open_node (hval 0 34 v0 rfl rfl) h0;have b0:Rows.uptoBulk d0<=1048576:=yv (bulk_part (by simp)) hb;have k1:=h1;have lt1:∀ x∈p1,x.block<W.heap.size:=by obtain⟨m,hm⟩:=k1;exact DataW.trod_lt m _ _ _ hm
 obtain⟨A1,B1,D1,ca1,cb1,cd1,is1,js1,ks1,rfl,ha1,hb1,hd1,fa1,fb1⟩:=open_axes (hval 1 37 v1 rfl rfl) h1;have hgl:Gl W:=⟨tab_of_laid (laid:=Rows.renderTightUptoRow.laid) hL (by first|exact List.mem_cons_self .. |(unfold faultName;simp[Rows.renderTightUptoRow])),pow_of_laid (laid:=Rows.renderTightUptoRow.laid) hL (by simp[Rows.renderTightUptoRow]),max_of_shaped hSh⟩
 clear hA0 hval hcd;have walk:Calls Tryz.prog 4 #[.agg Cn0.toArray,axesV A1 B1 D1 is1.length js1.length ks1.length ca1 cb1 cd1] W fun e w'=>e=.returned (.bool true)/\Below W.heap.size W w':=by
  exact tight_any t0 _ Cn0 A1 B1 D1 ca1 cb1 cd1 is1 js1 ks1 W hgl P0 o0 (by omega) ha1 hb1 hd1 fa1 fb1
 refine walk.mono fun e W' ⟨he,bel⟩=>?_
 subst he;exact⟨_,rfl,_,_,_,[],_,[],hW',trodAll_mk1 (shut_bool Tryz.underlying4 _),(trodAll_cons_mk (Below.trod laidOut (by kernel_rfl) (of_decide_eq_true (by kernel_rfl)) k0 bel lt0) (trodAll_cons_mk (Below.trod laidOut (by kernel_rfl) (of_decide_eq_true (by kernel_rfl)) k1 bel lt1) trodAll_mk0)),rfl,bel.frame _,fun h=>by cases h⟩
end Go.Proofs.YtjfihpaeglpblaaGreatDoor.renderTight
