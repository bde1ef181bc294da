/-
  Lemmas of ParseFolds: RefB4 PlFo PlSt PlBr PaZ ParseFoldsW.
-/
import Derived.Test.YtmgjidnalpgegaaGreatDoorPg27
namespace Go.Proofs.YtmgjidnalpgegaaGreatDoor
open Go.RowKit
theorem yY(w:World)(n:Nat)(c:UInt8)(x:Int)(hx:((c.toNat:Nat):Int)=x)(hn:n=w.heap.size):(convert 77 9 (.slice (some ⟨n,0,none⟩) 1 1)).run Tryz.prog (w.alloc (.cells #[.int .u8 x] 5))=.ok (.string ⟨[c].toArray⟩) (w.alloc (.cells #[.int .u8 x] 5)):=by
 subst hn;subst hx;refine vO [c] _ w.heap.size 1 1 rfl ?_;intro j hj;have hl:=Lies.new w 5 #[.int .u8 (c.toNat:Int)];have:j=0:=by simpa using hj
 subst this;exact⟨hl.cell 0,hl.frozen 0⟩
set_option maxRecDepth 100000 in
set_option maxHeartbeats 1600000 in
theorem uID(l:Bs)(w:World)(hs:l.length≤1000000) :
  Calls Tryz.prog 16 #[.string ⟨l.toArray⟩] w fun e w'=>e=.returned (.string ⟨(aG l).toArray⟩)∧Below w.heap.size w w':=by
 go_enter Tryz.func16,Tryz.ntmps16
 go_wp2_with fail
 go_loopw [3,4] (fun v i wr=>∃ k:Nat,k≤l.length∧i=.int .i64 k∧v=.string ⟨(aG (l.take k)).toArray⟩∧Hid (Below w.heap.size w wr)) (fun _ i _=>l.length-(intOf i).toNat)
 case atStart=>exact⟨0,Nat.zero_le _,rfl,rfl,zh (Below.refl _ _)⟩
 case round=>
  obtain⟨k,hk,rfl,rfl,hb⟩:=hrel;by_cases hlt:k<l.length
  ·have hsn:aG (l.take (k+1))=aG (l.take k)++[up l[k]]:=by rw[List.take_succ_eq_append_getElem hlt];unfold aG;rw[List.map_append];rfl
   have HSn:=zh hsn;have hpl:(aG (l.take k)).length≤1000000:=by rw[cR,List.length_take];omega
   have HB2:Hid (∀ o,Below w.heap.size w (wr.alloc o)):=zh (fun o=>hb.out.alloc hb.out.size o);clear hsn;generalize aG (l.take k)=D at *;cases hlow:gM l[k]
   ·have hu:=mZ _ hlow;rw[hu]at HSn;have hno:¬ (97≤(l[k].toNat:Int)∧(l[k].toNat:Int)≤122):=by
     intro h;have:gM l[k]=true:=(fM _).2 ⟨by omega,by omega⟩;rw[hlow]at this;cases this
    have hcv:=yY wr wr.heap.size l[k] (l[k].toNat:Int) rfl rfl;clear hu
    go_wp2_with fail
    all_goals go_roundw
    all_goals first
     | exact⟨k+1,by omega,by go_num,by rw[HSn.out],zh (HB2.out _)⟩
     |(simp[intOf];omega)
   ·obtain⟨h97,h122⟩:=(fM _).1 hlow;have hcv:=yY wr wr.heap.size (up l[k]) ((l[k].toNat:Int)-32) (by have:=uES _ hlow;omega) rfl
    go_wp2_with fail
    go_roundw
    case rel=>exact⟨k+1,by omega,by go_num,by rw[HSn.out],zh (HB2.out _)⟩
    case measure=>simp[intOf];omega
  ·have hall:Hid (l.take k=l):=zh (List.take_of_length_le (by omega))
   go_wp2_with fail
   go_ret
   exact⟨by rw[hall.out];rfl,hb.out⟩
theorem fo_word(c:UInt8):cC (up c)=cC c:=by
 have:=uGD (fun c=>cC (up c)==cC c) (by decide +kernel) c;simpa using this
theorem fo_numA(l:Bs):fJ (aG l)=fJ l:=by
 unfold fJ;rw[kC aC gJ,iY l _ 46 (by decide),gK,kC aC gJ]
theorem fo_pPow(l:Bs)(b:Nat):jO (aG l) b=jO l b:=by
 unfold jO;rw[iY l _ 43 (by decide),iY l _ 45 (by decide)]
theorem fo_at_e(l:Bs)(b:Nat):(aP (aG l) b 101=false∧aP (aG l) b 69=false)↔(aP l b 101=false∧aP l b 69=false):=by
 unfold aP aG;rw[List.getElem?_map];cases l[b]? with
 | none=>exact Iff.rfl
 | some c=>
  have h:=fo_e c;show ((some (up c)==some 101)=false∧(some (up c)==some 69)=false)↔((some c==some 101)=false∧(some c==some 69)=false);simp only[Option.some_beq_some,beq_eq_false_iff_ne];constructor
  ·intro ⟨h1,h2⟩;exact⟨fun e=>(h.2 (.inl e)).elim h1 h2,fun e=>(h.2 (.inr e)).elim h1 h2⟩
  ·intro ⟨h1,h2⟩;exact⟨fun e=>(h.1 (.inl e)).elim h1 h2,fun e=>(h.1 (.inr e)).elim h1 h2⟩
theorem uHB(l:Bs):cP (aG l)=cP l:=by
 unfold cP;rw[fo_numA];unfold uAP;rw[fo_pPow,gK,kC aC gJ];simp only[fo_at_e]
theorem uFA(r:Bs):tV (aG r)=tV r:=by
 unfold tV;rw[kC aC gJ,cR,iY r 0 48 (by decide)]
theorem fo_empty(r:Bs):(aG r).isEmpty=r.isEmpty:=by cases r <;> rfl
theorem fo_mark(l:Bs):nO (aG l)=nO l:=by
 unfold nO;rw[iZ l 36 (by decide),kI l 36 (by decide)];generalize Lib.trimPrefix l [36]=s;unfold xZ;rw[kC aI kH,gK,fo_empty,kI _ 36 (by decide),uFA,uFA]
theorem uCP(l:Bs):dF (aG l)=dF l:=by
 unfold dF aG
 induction l with
 | nil=>rfl
 | cons c l ih=>rw[List.map_cons,List.count_cons,List.count_cons,ih,zH c 36 (by decide)]
theorem fo_pWord(l:Bs):iC (aG l)=((iC l).1,aG (iC l).2.1,(iC l).2.2):=by
 unfold iC;rw[kC cC fo_word,nA,fo_mark,uCP]
 split
 ·rfl
 ·split <;> rfl
theorem sY(l:Bs)(a b:UInt8)(ha:aI a=false)(hb:aI b=false):Lib.hasPrefix (aG l) [a,b]=Lib.hasPrefix l [a,b]:=by
 cases l with
 | nil=>rfl
 | cons c l=>cases l with
  | nil=>
   show ([a,b].isPrefixOf [up c])=([a,b].isPrefixOf [c]);simp[List.isPrefixOf]
  | cons d l=>
   have h1:=zH c a ha;have h2:=zH d b hb;show ([a,b].isPrefixOf (up c::up d::aG l))=([a,b].isPrefixOf (c::d::l));simp only[List.isPrefixOf,Bool.and_true];rw[BEq.comm (a:=a),BEq.comm (a:=b),BEq.comm (a:=a),BEq.comm (a:=b),h1,h2]
theorem fo_index(c:UInt8):decide (0≤Lib.indexByte gR (up c))=decide (0≤Lib.indexByte gR c):=by
 have:=uGD (fun c=>decide (0≤Lib.indexByte gR (up c))==decide (0≤Lib.indexByte gR c)) (by decide +kernel) c;simpa using this
theorem fo_sign(l:Bs)(hp:0<l.length):dZ (aG l)=dZ l:=by
 unfold dZ;rw[sY l _ _ (by decide) (by decide),sY l _ _ (by decide) (by decide),sY l _ _ (by decide) (by decide)];cases l with
 | nil=>simp at hp
 | cons c l=>
  have h:=fo_index c;show (if _ then 2 else if 0≤Lib.indexByte gR (up c) then 1 else 0)=(if _ then 2 else if 0≤Lib.indexByte gR c then 1 else 0);have h2:(0≤Lib.indexByte gR (up c))↔(0≤Lib.indexByte gR c):=by
   constructor
   ·intro h3;exact of_decide_eq_true (by rw[← h];exact decide_eq_true h3)
   ·intro h3;exact of_decide_eq_true (by rw[h];exact decide_eq_true h3)
  simp only[h2]
theorem uCR(l:Bs):fB (aG l)=fB l:=by
 cases l with
 | nil=>rfl
 | cons c l=>exact kH c
theorem uCQ(l:Bs)(k:Nat):eM (aG l) k=eM l k:=by
 unfold eM;rw[cR,nA,xK]
theorem uHA(l:Bs):bZ (aG l)=bZ l:=by
 unfold bZ kE;rw[iY l 0 35 (by decide),sU _ _ _ (uCQ l)]
theorem fo_token(l:Bs)(hp:0<l.length)(hq:aP l 0 34=false):aR (aG l)=((aR l).1,aG (aR l).2.1,(aR l).2.2):=by
 unfold aR;rw[uHB,uCR,iY l 0 95 (by decide),iY l 0 36 (by decide),iY l 0 34 (by decide),hq,uHA,fo_sign l hp,fo_pWord,nA,nA]
 split
 ·rfl
 ·split
  ·rfl
  ·simp only[Bool.false_eq_true,if_false]
   split
   ·rw[sX]
   ·split <;> rfl
def oT(t:Tok):Tok:=⟨t.kind,aG t.text,t.place⟩
def uFB:Except Nat (List Tok)→Except Nat (List Tok)
 | .error p=>.error p
 | .ok ts=>.ok (ts.map oT)
theorem fo_lexGo:∀ (f:Nat) (l:Bs) (k:Nat),34∉l→dR f (aG l) k=uFB (dR f l k):=by
 intro f
 induction f with
 | zero=>intro l k _;rfl
 | succ f ih=>
  intro l k h;cases l with
  | nil=>rfl
  | cons c r=>
   have hq:aP (c::r) 0 34=false:=by
    unfold aP;simp;intro e;exact h (by simp[e])
   have hT:=fo_token (c::r) (by simp) hq;have hc:(up c=32)↔(c=32):=by
    have:=zH c 32 (by decide);constructor
    ·intro e;rw[e]at this;simpa using this.symm
    ·intro e;rw[e]at this;simpa [e] using this
   show dR (f+1) (up c::aG r) k=_;have hT2:aR (up c::aG r)=((aR (c::r)).1,aG (aR (c::r)).2.1,(aR (c::r)).2.2):=hT;simp only[dR,hT2,hc]
   split
   ·exact ih r (k+1) (fun hm=>h (by simp[hm]))
   ·split
    ·rfl
    ·have hd:(up c::aG r).drop (aR (c::r)).2.2=aG ((c::r).drop (aR (c::r)).2.2):=gK (c::r) _;rw[hd,ih _ _ (fun hm=>h (List.mem_of_mem_drop hm))];cases dR f ((c::r).drop (aR (c::r)).2.2) (k+(aR (c::r)).2.2) <;> rfl
theorem fo_lex(l:Bs)(h:34∉l):iG (aG l)=uFB (iG l):=by
 unfold iG bF;rw[cR];exact fo_lexGo _ l 0 h
section
variable {z:UInt8} (hz:Stp z)
include hz
end
theorem uDG(s:Bs):iG (32::(s++[32]))=mU 1 (iG s):=by
 unfold iG;rw[eB];have h32:Stp 32:=.inl rfl;have hs:bF s (0+1)=mU 1 (bF s 0):=nN s 0 1;cases hx:bF s 0 with
 | error p=>
  rw[hx]at hs;rw[mK h32 s.length s (0+1) (p+1) (Nat.le_refl _) hs];rfl
 | ok ts=>
  rw[hx]at hs;rw[qU h32 [] s.length s (0+1) _ (Nat.le_refl _) hs,eB,jW];show Except.ok _=Except.ok _
  congr 1
  show ts.map (bL 1)++[]=_;rw[List.append_nil]
def QOk(e p q n:Nat):Prop:=(e≠5∧q=p+1)∨(e≠5∧p=n∧q=p+2∧(e=8→p≠0))∨((e=5∨e=8)∧p=0∧q=0)
theorem mS(ax:Ax)(e:Tok)(h:e.kind=0):dT ax [e]=.error (6,e.place):=by
 have hp:∀ (f op c:Nat),cD f ax op [e] c=.bad 6 e.place:=fun f op c=>by
  have hS:StopOk e ⟨5,[41],0⟩ [⟨0,[],0⟩]:=⟨h,.inl rfl,.one ⟨⟨rfl,.head _⟩,rfl,rfl,fun _=>rfl,fun h=>by cases h⟩ rfl⟩
  exact wW hS f op c
 unfold dT;rw[hp]
theorem zK(ax:Ax)(ha:lD ax)(s:Bs)(h34:34∉s) :
  (∃ t,aY ax s=.ok t∧aY ax (aG s)=.ok t∧aY ax (32::(s++[32]))=.ok t) ∨
  (∃ e p q,aY ax s=.error (e,p)∧aY ax (aG s)=.error (e,p)∧aY ax (32::(s++[32]))=.error (e,q)∧e≠0∧QOk e p q s.length):=by
 unfold aY;rw[fo_lex s h34,uDG,cR];cases hl:iG s with
 | error k=>exact .inr ⟨7,k,k+1,rfl,rfl,rfl,by decide,.inl ⟨by decide,rfl⟩⟩
 | ok ts=>
  obtain⟨f1,f2,f3⟩:=mL s ts hl;show (∃ t,dT ax (ts++[aW s.length])=.ok t∧dT ax (ts.map oT++[aW s.length])=.ok t∧dT ax (ts.map (bL 1)++[aW (32::(s++[32]):Bs).length])=.ok t)∨(∃ e p q,dT ax (ts++[aW s.length])=.error (e,p)∧dT ax (ts.map oT++[aW s.length])=.error (e,p)∧dT ax (ts.map (bL 1)++[aW (32::(s++[32]):Bs).length])=.error (e,q)∧e≠0∧QOk e p q s.length);rw[show (32::(s++[32]):Bs).length=s.length+2 by simp];have hle:∀ t∈ts,t.place≤s.length:=fun t ht=>by have:=(f1 t ht).hi;omega
  have E1:EndR (fun x y=>x.place=y.place) (ts++[aW s.length]) (ts.map oT++[aW s.length]) :=
   iX (ρ:=fun x y=>x.place=y.place) (e:=aW s.length) (e':=aW s.length) oT rfl (lL _ _ rfl rfl rfl rfl) ts (fun t ht=>⟨(f1 t ht).k0,⟨rfl,rfl,(xK _).symm,fun hk=>by
    rcases hk with h2 | h56
    ·exact absurd h2 ((f1 t ht).k2 h34)
    ·exact((f1 t ht).same h56).symm,(f1 t ht).num⟩,hle t ht⟩) f2
  have E2:EndR (fun x y=>y.place=x.place+1∨(x.place=s.length∧y.place=s.length+2)) (ts++[aW s.length]) (ts.map (bL 1)++[aW (s.length+2)]) :=
   iX (ρ:=fun x y=>y.place=x.place+1∨(x.place=s.length∧y.place=s.length+2)) (e:=aW s.length) (e':=aW (s.length+2)) (bL 1) rfl (lL _ _ rfl rfl rfl (.inr ⟨rfl,rfl⟩)) ts (fun t ht=>⟨(f1 t ht).k0,rW (f1 t ht) _ rfl rfl (.inl rfl),hle t ht⟩) f2
  by_cases hn:s.length=0
  ·have h0:s=[]:=List.eq_nil_of_length_eq_zero hn;subst h0;have:ts=[]:=by
    have:iG []=.ok []:=rfl;rw[this]at hl;injection hl with hl;exact hl.symm
   subst this;refine .inr ⟨6,0,2,?_,?_,?_,by decide,.inr (.inl ⟨by decide,rfl,rfl,fun h=>by cases h⟩)⟩
   ·exact mS ax (aW 0) rfl
   ·exact mS ax (aW 0) rfl
   ·exact mS ax (aW 2) rfl
  ·rcases jK ha E1 with⟨t,h1,h2,_⟩ | ⟨e,he,h1,h2⟩ | ⟨e,x,y,h1,h2,h3,h4⟩
   ·rcases jK ha E2 with⟨t',g1,g2,_⟩ | ⟨e,he,g1,g2⟩ | ⟨e,x,y,g1,g2,g3,g4⟩
    ·rw[h1]at g1;injection g1 with g1;subst g1;exact .inl ⟨t,h1,h2,g2⟩
    ·rw[h1]at g1;cases g1
    ·rw[h1]at g1;cases g1
   ·rcases jK ha E2 with⟨t',g1,g2,_⟩ | ⟨e',he',g1,g2⟩ | ⟨e',x,y,g1,g2,g3,g4⟩
    ·rw[h1]at g1;cases g1
    ·rw[h1]at g1;injection g1 with g1;injection g1 with g1 _;subst g1;exact .inr ⟨e,0,0,h1,h2,g2,by rcases he with rfl | rfl <;> decide,.inr (.inr ⟨he,rfl,rfl⟩)⟩
    ·rw[h1]at g1;injection g1 with g1;injection g1 with g1 g5;subst g1;refine .inr ⟨e,0,y.place,h1,h2,g2,by rcases he with rfl | rfl <;> decide,?_⟩;rcases g3 with g3 | ⟨g3,g6⟩
     ·exact .inl ⟨g4.2.1,by omega⟩
     ·omega
   ·rcases jK ha E2 with⟨t',g1,g2,_⟩ | ⟨e',he',g1,g2⟩ | ⟨e',x',y',g1,g2,g3,g4⟩
    ·rw[h1]at g1;cases g1
    ·rw[h1]at g1;injection g1 with g1;injection g1 with g1 g5;subst g1;refine .inr ⟨e,x.place,0,h1,by rw[h2,h3],g2,h4.1,.inr (.inr ⟨he',g5,rfl⟩)⟩
    ·rw[h1]at g1;injection g1 with g1;injection g1 with g1 g5;subst g1;refine .inr ⟨e,x.place,y'.place,h1,by rw[h2,h3],g2,h4.1,?_⟩;rcases g3 with g3 | ⟨g3,g6⟩
     ·exact .inl ⟨h4.2.1,by omega⟩
     ·exact .inr (.inl ⟨h4.2.1,by omega,by omega,fun _=>by omega⟩)
theorem uHC(ax:Ax)(ha:lD ax)(s:Bs)(h34:34∉s):∃ (t:Tree) (e p q:Nat),(nH (aY ax s)=t∧uDY (aY ax s)=p∧uDX (aY ax s)=e)∧(nH (aY ax (aG s))=t∧uDY (aY ax (aG s))=p∧uDX (aY ax (aG s))=e) ∧
  (nH (aY ax (32::(s++[32])))=t∧uDY (aY ax (32::(s++[32])))=q∧uDX (aY ax (32::(s++[32])))=e)∧p≤s.length∧((e=0∧p=0∧q=0)∨(e≠0∧QOk e p q s.length)):=by
 rcases zK ax ha s h34 with⟨t,h1,h2,h3⟩ | ⟨e,p,q,h1,h2,h3,he,hq⟩
 ·rw[h1,h2,h3];exact⟨t,0,0,0,⟨rfl,rfl,rfl⟩,⟨rfl,rfl,rfl⟩,⟨rfl,rfl,rfl⟩,Nat.zero_le _,.inl ⟨rfl,rfl,rfl⟩⟩
 ·have hp:=fU ax ha s e p h1;rw[h1,h2,h3];exact⟨lX,e,p,q,⟨rfl,rfl,rfl⟩,⟨rfl,rfl,rfl⟩,⟨rfl,rfl,rfl⟩,hp,.inr ⟨he,hq⟩⟩
theorem no_mem{s:Bs}{c:UInt8}{i:Nat}(h:∀ j,j<i→aP s j c=false)(hi:¬ i<s.length):c∉s:=fun hm=>by
 obtain⟨j,hj,e⟩:=List.getElem_of_mem hm;have h2:=h j (by omega);unfold aP at h2;rw[List.getElem?_eq_getElem hj,e]at h2;simp at h2
set_option maxRecDepth 1000000 in
set_option maxHeartbeats 12800000 in
theorem folds_any(s:Bs)(A B:Option Addr)(ca cb:Nat)(ids jds:List IdR)(w:World)(hT:Tab w)(hA:lW w A ids)(hB:lW w B jds)(hf:∀ y∈ids,y.fits)(hg:∀ y∈jds,y.fits) :
  Calls Tryz.prog 5 #[.string ⟨s.toArray⟩,.slice A ids.length ca,.slice B jds.length cb] w fun e w'=>e=.returned (.bool true)∧Below w.heap.size w w':=by
 have CA:=zh (sD w hT);have HA:=zh hA;have HB:=zh hB;have HFt:=zh (And.intro hf hg);have HT:=zh hT;clear hT hA hB hf hg
 go_enter Tryz.func5,Tryz.ntmps5
 go_wp2_with fail
 refine CA.out.mono ?_;rintro e W1 ⟨rfl,hb1⟩;have HT1:=zh (HT.out.next hb1);have HA1:=zh (lP HA.out hb1);have HB1:=zh (lP HB.out hb1);have HL1:=zh hb1;clear hb1 CA HA HB;by_cases hbig:1500<s.length∨200<ids.length∨200<jds.length
 ·have CG:=zh (jR s A B none ids.length jds.length 0 ca cb 0 W1 true (by simp;omega))
  go_wp2_with fail
  refine CG.out.mono ?_;rintro e W2 ⟨rfl,hW2⟩;rw[hW2];clear hW2 CG
  go_wp2_with fail
  go_ret
  exact⟨rfl,HL1.out⟩
 have CG:=zh (jR s A B none ids.length jds.length 0 ca cb 0 W1 false (by simp;omega));have HSm:Hid (s.length≤1500∧ids.length≤200∧jds.length≤200):=zh (by omega);clear hbig
 go_wp2_with fail
 refine CG.out.mono ?_;rintro e W2 ⟨rfl,hW2⟩;rw[hW2];clear hW2 CG;have hsz:(s.length:Int)≤1500:=by have:=HSm.out.1;omega
 go_wp2_with fail
 go_loop [7] (fun v=>∃ i:Nat,v=.int .i64 (i:Int)∧i≤s.length∧Hid (∀ j,j<i→aP s j 34=false)) (fun v=>s.length-(intOf v).toNat)
 case atStart=>exact⟨0,rfl,Nat.zero_le _,zh (fun j h=>by omega)⟩
 case round=>
  obtain⟨i,rfl,hi,hno⟩:=hrel;by_cases hlt:i<s.length
  ·have e34:=gS s i 34 34 rfl hlt;cases h34:aP s i 34
   ·rw[h34]at e34;have hno2:Hid (∀ j,j<i+1→aP s j 34=false):=zh (fun j hj=>by
     rcases(by omega:j<i∨j=i) with g | rfl
     ·exact hno.out j g
     ·exact h34)
    clear hno h34
    go_wp2_with fail
    go_round
    case rel=>exact⟨i+1,by go_num,by omega,hno2⟩
    case measure=>simp[intOf];omega
   ·rw[h34]at e34;clear hno h34
    go_wp2_with fail
    go_ret
    exact⟨rfl,HL1.out⟩
  ·have h34:=no_mem hno.out hlt;clear hno;have CX:=zh (yU A B ca cb ids jds W1 HT1.out HA1.out HB1.out (by have:=HSm.out;omega) (by have:=HSm.out;omega) HFt.out.1 HFt.out.2 w HL1.out HT.out.lt);clear HA1 HB1 HT1 HL1
   go_wp2_with fail
   refine CX.out.mono ?_;rintro e W2 ⟨⟨u,rfl⟩,hb2,hcx⟩;have CX2:=zh hcx;clear hcx hb2 CX
   go_wp2_with fail
   refine CX2.out.mono ?_;rintro e W3 ⟨⟨u2,rfl⟩,hL3⟩;have HL3:=zh hL3;clear hL3 CX2;generalize W1.heap.size=qa at *;generalize W2.heap.size=qb at *;obtain⟨ax,hax⟩:∃ ax:Ax,ax=⟨cO ids,cO jds⟩:=⟨_,rfl⟩
   have hok:lD ax:=by rw[hax];exact xA ids jds
   rw[← hax]at HL3;clear hax;have CF:=zh (fun W S hL hs=>zV ax hok qa qb w W S hL hs);have CS:=zh (fun W (t:Tree) (C C':Array Value) (hn:t.size≤256) (h1:TreeIn W t C) (h2:TreeIn W t C')=>uK 256 (by omega) t t C C' W hn h1 h2);obtain⟨t,e,p,q,hr1,hr2,hr3,hp,hq⟩:=uHC ax hok s h34;have HQ:=zh hq;have HR1:=zh hr1;have HR2:=zh hr2;have HR3:=zh hr3;have hpi:(p:Int)≤1500:=by omega
   have HFo:=zh (fun W=>uID s W (by omega));clear hq hr1 hr2 hr3 hok h34
   go_wp2_with fail
   refine(CF.out W3 (s) HL3.out (by have:=HSm.out;omega)).mono ?_;rintro e' W2' ⟨hL,hN,hs,h256,C1,rfl,hC,hC1,hk⟩;rw[HR1.out.1]at hk h256;rw[HR1.out.2.1,HR1.out.2.2];obtain⟨-,z2,z3,z4⟩:=oX hL HL3.out.qs hs hC hk;have HZ:=zh (And.intro z3 (And.intro z2 (And.intro h256 trivial)));have HTh:Hid (World.there (W2'.alloc (.cells aB.toArray 41)) W2'.heap.size 0 C1.toArray.size):=zh (kN hC);have HC1:=zh hC1;have zi:(Tryz.prog.info? 41).map (·.size)=some C1.toArray.size:=by rw[List.size_toArray,hC];exact aE
   clear z2 z3 z4 hL hN hs hC hC1 hk h256 HL3;simp only[aB]at HZ
   go_upto_region 13 with(first |(refine wpList_store_mid rfl 41 (.tmp 12) (.tmp 52) rfl W2'.heap.size 0 C1.toArray rfl rfl HTh.out zi HC1.out ?_;change wpList _ _ _ _ _ (World.setCells _ W2'.heap.size 0 C1);generalize World.setCells _ _ _ _=W2 at HZ ⊢))
   have HL12:=zh HZ.out.1;have HN1:=zh HZ.out.2.1;have H256:=zh HZ.out.2.2.1;clear HZ HTh HC1 zi;generalize W2'.heap.size=g1 at *
   go_wp2_with fail
   refine(HFo.out W2).mono ?_;rintro e' W2f ⟨rfl,hbf⟩;have HL12f:=zh (HL12.out.next hbf);have HN1f:=zh (HN1.out.next hbf);clear HL12 HN1 hbf;have HN1:=zh HN1f.out;clear HN1f
   go_wp2_with fail
   refine(CF.out W2f (aG s) HL12f.out (by rw[cR];have:=HSm.out;omega)).mono ?_;rintro e' W3' ⟨hL,hN,hs,h256,C2,rfl,hC,hC1,hk⟩;rw[HR2.out.1]at hk h256;rw[HR2.out.2.1,HR2.out.2.2];obtain⟨-,z2,z3,z4⟩:=oX hL HL12f.out.qs hs hC hk;have HZ:=zh (And.intro z3 (And.intro z2 (And.intro h256 (And.intro (z4 _ _ _ (hN _ _ _ HN1.out)) trivial))));have HTh:Hid (World.there (W3'.alloc (.cells aB.toArray 41)) W3'.heap.size 0 C2.toArray.size):=zh (kN hC);have HC1:=zh hC1;have zi:(Tryz.prog.info? 41).map (·.size)=some C2.toArray.size:=by rw[List.size_toArray,hC];exact aE
   clear z2 z3 z4 hL hN hs hC hC1 hk h256 HL12f HN1;simp only[aB]at HZ
   go_upto_region 14 with(first |(refine wpList_store_mid rfl 41 (.tmp 15) (.tmp 61) rfl W3'.heap.size 0 C2.toArray rfl rfl HTh.out zi HC1.out ?_;change wpList _ _ _ _ _ (World.setCells _ W3'.heap.size 0 C2);generalize World.setCells _ _ _ _=W3 at HZ ⊢))
   have HL13:=zh HZ.out.1;have HN2:=zh HZ.out.2.1;have HN1:=zh HZ.out.2.2.2.1;have H256:=zh HZ.out.2.2.1;clear HZ HTh HC1 zi;generalize W3'.heap.size=g2 at *
   go_wp2_with fail
   refine(CF.out W3 (32::(s++[32])) HL13.out (by have:=HSm.out;simp;omega)).mono ?_;rintro e' W4' ⟨hL,hN,hs,h256,C3,rfl,hC,hC1,hk⟩;rw[HR3.out.1]at hk h256;rw[HR3.out.2.1,HR3.out.2.2];obtain⟨-,z2,z3,z4⟩:=oX hL HL13.out.qs hs hC hk;have HZ:=zh (And.intro z3 (And.intro z2 (And.intro h256 (And.intro (z4 _ _ _ (hN _ _ _ HN1.out)) (And.intro (z4 _ _ _ (hN _ _ _ HN2.out)) trivial)))));have HTh:Hid (World.there (W4'.alloc (.cells aB.toArray 41)) W4'.heap.size 0 C3.toArray.size):=zh (kN hC);have HC1:=zh hC1;have zi:(Tryz.prog.info? 41).map (·.size)=some C3.toArray.size:=by rw[List.size_toArray,hC];exact aE
   clear z2 z3 z4 hL hN hs hC hC1 hk h256 HL13 HN1 HN2;simp only[aB]at HZ
   go_upto_region 15 with(first |(refine wpList_store_mid rfl 41 (.tmp 18) (.tmp 71) rfl W4'.heap.size 0 C3.toArray rfl rfl HTh.out zi HC1.out ?_;change wpList _ _ _ _ _ (World.setCells _ W4'.heap.size 0 C3);generalize World.setCells _ _ _ _=W4 at HZ ⊢))
   have HL14:=zh HZ.out.1;have HN3:=zh HZ.out.2.1;have HN1:=zh HZ.out.2.2.2.1;have HN2:=zh HZ.out.2.2.2.2.1;have H256:=zh HZ.out.2.2.1;clear HZ HTh HC1 zi;generalize W4'.heap.size=g3 at *;obtain⟨D1,hD1,hl1,ht1⟩:=HN1.out.tree;obtain⟨D2,hD2,hl2,ht2⟩:=HN2.out.tree;obtain⟨D3,hD3,hl3,ht3⟩:=HN3.out.tree;have hi1:(Tryz.prog.info? 41).map (·.size)=some D1.toArray.size:=by rw[List.size_toArray,hD1];exact aE
   have hi2:(Tryz.prog.info? 41).map (·.size)=some D2.toArray.size:=by rw[List.size_toArray,hD2];exact aE
   have hi3:(Tryz.prog.info? 41).map (·.size)=some D3.toArray.size:=by rw[List.size_toArray,hD3];exact aE
   obtain⟨cF,hcF⟩:∃ b:Bool,b=false:=⟨_,rfl⟩
   have hts:=wT t;clear HN1 HN2 HN3
   obtain⟨TT,hTT⟩:∃ TT:List (Nat×Nat×Value),TT=((0,74,.int .i64 (e:Int))::(1,75,.int .i64 (e:Int))::(2,76,.bool cF)::(3,77,.bool cF)::(4,78,(bif cF then undef else .int .i64 (p:Int)))::(5,79,(bif cF then undef else .int .i64 (p:Int)))::(6,80,(bif cF then undef else .bool cF))::(7,81,.bool cF)::(8,82,.bool cF)::(9,83,(bif cF then undef else .agg D1.toArray))::(10,84,(bif cF then undef else .agg D2.toArray))::(11,85,(bif cF then undef else .bool true))::(12,86,(bif cF then undef else .bool cF))::(13,87,.bool cF)::(14,88,.bool cF)::(15,89,(bif cF then undef else .agg D1.toArray))::(16,90,(bif cF then undef else .agg D3.toArray))::(17,91,(bif cF then undef else .bool true))::(18,92,(bif cF then undef else .bool cF))::(19,93,.bool cF)::(20,94,.bool cF)::(21,95,(bif cF then undef else .int .i64 (e:Int)))::(22,96,(bif cF then undef else .int .i64 (e:Int)))::(23,97,(bif cF then undef else .bool cF))::(24,98,.bool cF)::[]):=⟨_,rfl⟩
   have HTT:=zh hTT;clear hTT;refine bA (fun a0=>138≤a0.tmps.size∧a0.eval (.tmp 12)=.pointer (some ⟨g1,0,none⟩)∧a0.eval (.tmp 13)=.int .i64 (p:Int)∧a0.eval (.tmp 14)=.int .i64 (e:Int)∧a0.eval (.tmp 15)=.pointer (some ⟨g2,0,none⟩)∧a0.eval (.tmp 16)=.int .i64 (p:Int)∧a0.eval (.tmp 17)=.int .i64 (e:Int)∧a0.eval (.tmp 18)=.pointer (some ⟨g3,0,none⟩)∧a0.eval (.tmp 20)=.int .i64 (e:Int)) (74::75::76::77::78::79::80::81::82::83::84::85::86::87::88::89::90::91::92::93::94::95::96::97::98::[]) TT [] (fun w'=>Below W4.heap.size W4 w') (by kernel_rfl) ⟨by simp,rfl,rfl,rfl,rfl,rfl,rfl,rfl,rfl⟩ (Below.refl _ _) ?_ ?_
   ·rintro a0 ⟨hs,hq12,hq13,hq14,hq15,hq16,hq17,hq18,hq20⟩ zl a1 w1 zj o hsz hI hun ho zd;have hb1:Below W4.heap.size W4 w1:=hI.st;have hTT:=HTT.out;have hk:okU (TT.map fun e=>(e.1,e.2.1)) (74::75::76::77::78::79::80::81::82::83::84::85::86::87::88::89::90::91::92::93::94::95::96::97::98::[]) 138=true:=by rw[hTT];rfl
    subst hTT;have e12x:=aA ((hI.off.eval (by decide)).trans hq12);have e13x:=aA ((hI.off.eval (by decide)).trans hq13);have e14x:=aA ((hI.off.eval (by decide)).trans hq14);have e15x:=aA ((hI.off.eval (by decide)).trans hq15);have e16x:=aA ((hI.off.eval (by decide)).trans hq16);have e17x:=aA ((hI.off.eval (by decide)).trans hq17);have e18x:=aA ((hI.off.eval (by decide)).trans hq18);have e20x:=aA ((hI.off.eval (by decide)).trans hq20);have hj:=Up.of_false hun;have hj12:zj<25:=by rw[hsz]at hj;exact hj
    have G:RG _ _ _ _ _ _ _ _ _ _ _:=⟨hk,hI,hs,hun,ho,zd⟩
    rcases(by omega:zj=0∨zj=1∨zj=2∨zj=3∨zj=4∨zj=5∨zj=6∨zj=7∨zj=8∨zj=9∨zj=10∨zj=11∨zj=12∨zj=13∨zj=14∨zj=15∨zj=16∨zj=17∨zj=18∨zj=19∨zj=20∨zj=21∨zj=22∨zj=23∨zj=24) with rfl | rfl | rfl | rfl | rfl | rfl | rfl | rfl | rfl | rfl | rfl | rfl | rfl | rfl | rfl | rfl | rfl | rfl | rfl | rfl | rfl | rfl | rfl | rfl | rfl
    ·obtain rfl:=oi ho;exact G.nl 0 rfl (by simp[execOp,go_sem,e14x])
    ·obtain rfl:=oi ho;exact G.nl 1 rfl (by simp[execOp,go_sem,e17x])
    ·obtain rfl:=oi ho;have p0:=G.d 0 rfl;have p1:=G.d 1 rfl;exact G.nl 2 rfl (by simp[execOp,go_sem,aA p0,aA p1,hcF])
    ·obtain rfl:=oi ho;have p2:=G.d 2 rfl;exact G.nl 3 rfl (by simp[execOp,go_sem,aA p2,hcF])
    ·obtain rfl:=oi ho;have pg:=G.g 3 rfl;cases cF with
     | true=>exact G.sk 4 rfl pg rfl
     | false=>
      exact G.vl 4 rfl pg rfl (by simp[execOp,go_sem,e13x])
    ·obtain rfl:=oi ho;have pg:=G.g 3 rfl;cases cF with
     | true=>exact G.sk 5 rfl pg rfl
     | false=>
      exact G.vl 5 rfl pg rfl (by simp[execOp,go_sem,e16x])
    ·obtain rfl:=oi ho;have pg:=G.g 3 rfl;cases cF with
     | true=>exact G.sk 6 rfl pg rfl
     | false=>
      have p4:=G.d 4 rfl;have p5:=G.d 5 rfl;exact G.vl 6 rfl pg rfl (by simp[execOp,go_sem,aA p4,aA p5])
    ·obtain rfl:=oi ho;cases cF
     all_goals have p3:=G.d 3 rfl
     all_goals have p6:=G.d 6 rfl
     all_goals exact G.nl 7 rfl (by simp[execOp,go_sem,aA p3,aA p6])
    ·obtain rfl:=oi ho;have p7:=G.d 7 rfl;exact G.nl 8 rfl (by simp[execOp,go_sem,aA p7])
    ·obtain rfl:=oi ho;have pg:=G.g 8 rfl;cases cF with
     | true=>exact G.sk 9 rfl pg rfl
     | false=>
      have e12y:=(hI.off.eval (by decide)).trans hq12;exact G.vl 9 rfl pg rfl (aL 41 (.tmp 12) rfl g1 0 e12y D1 _ (hl1.next hb1).range Tryz.underlying41 rfl hi1)
    ·obtain rfl:=oi ho;have pg:=G.g 8 rfl;cases cF with
     | true=>exact G.sk 10 rfl pg rfl
     | false=>
      have e15y:=(hI.off.eval (by decide)).trans hq15;exact G.vl 10 rfl pg rfl (aL 41 (.tmp 15) rfl g2 0 e15y D2 _ (hl2.next hb1).range Tryz.underlying41 rfl hi2)
    ·obtain rfl:=oi ho;have pg:=G.g 8 rfl;cases cF with
     | true=>exact G.sk 11 rfl pg rfl
     | false=>
      have p9:=G.d 9 rfl;have p10:=G.d 10 rfl;refine dA (inT 11 rfl) hk hI hs hun ho zd (Eq.trans (aN rfl rfl rfl pg) rfl) rfl 12 #[.agg D1.toArray,.agg D2.toArray] (by simp[go_sem,aA p9,aA p10]) ?_;refine(CS.out w1 t D1.toArray D2.toArray H256.out (ht1 w1 hb1) (ht2 w1 hb1)).mono ?_;rintro e w2 ⟨rfl,hb⟩;rw[hts];exact⟨rfl,hb1.trans (hb.mono hb1.size)⟩
    ·obtain rfl:=oi ho;have pg:=G.g 8 rfl;cases cF with
     | true=>exact G.sk 12 rfl pg rfl
     | false=>
      have p11:=G.d 11 rfl;exact G.vl 12 rfl pg rfl (by simp[execOp,go_sem,aA p11])
    ·obtain rfl:=oi ho;cases cF
     all_goals have p8:=G.d 8 rfl
     all_goals have p12:=G.d 12 rfl
     all_goals exact G.nl 13 rfl (by simp[execOp,go_sem,aA p8,aA p12])
    ·obtain rfl:=oi ho;have p13:=G.d 13 rfl;exact G.nl 14 rfl (by simp[execOp,go_sem,aA p13])
    ·obtain rfl:=oi ho;have pg:=G.g 14 rfl;cases cF with
     | true=>exact G.sk 15 rfl pg rfl
     | false=>
      have e12y:=(hI.off.eval (by decide)).trans hq12;exact G.vl 15 rfl pg rfl (aL 41 (.tmp 12) rfl g1 0 e12y D1 _ (hl1.next hb1).range Tryz.underlying41 rfl hi1)
    ·obtain rfl:=oi ho;have pg:=G.g 14 rfl;cases cF with
     | true=>exact G.sk 16 rfl pg rfl
     | false=>
      have e18y:=(hI.off.eval (by decide)).trans hq18;exact G.vl 16 rfl pg rfl (aL 41 (.tmp 18) rfl g3 0 e18y D3 _ (hl3.next hb1).range Tryz.underlying41 rfl hi3)
    ·obtain rfl:=oi ho;have pg:=G.g 14 rfl;cases cF with
     | true=>exact G.sk 17 rfl pg rfl
     | false=>
      have p15:=G.d 15 rfl;have p16:=G.d 16 rfl;refine dA (inT 17 rfl) hk hI hs hun ho zd (Eq.trans (aN rfl rfl rfl pg) rfl) rfl 12 #[.agg D1.toArray,.agg D3.toArray] (by simp[go_sem,aA p15,aA p16]) ?_;refine(CS.out w1 t D1.toArray D3.toArray H256.out (ht1 w1 hb1) (ht3 w1 hb1)).mono ?_;rintro e w2 ⟨rfl,hb⟩;rw[hts];exact⟨rfl,hb1.trans (hb.mono hb1.size)⟩
    ·obtain rfl:=oi ho;have pg:=G.g 14 rfl;cases cF with
     | true=>exact G.sk 18 rfl pg rfl
     | false=>
      have p17:=G.d 17 rfl;exact G.vl 18 rfl pg rfl (by simp[execOp,go_sem,aA p17])
    ·obtain rfl:=oi ho;cases cF
     all_goals have p14:=G.d 14 rfl
     all_goals have p18:=G.d 18 rfl
     all_goals exact G.nl 19 rfl (by simp[execOp,go_sem,aA p14,aA p18])
    ·obtain rfl:=oi ho;have p19:=G.d 19 rfl;exact G.nl 20 rfl (by simp[execOp,go_sem,aA p19])
    ·obtain rfl:=oi ho;have pg:=G.g 20 rfl;cases cF with
     | true=>exact G.sk 21 rfl pg rfl
     | false=>
      exact G.vl 21 rfl pg rfl (by simp[execOp,go_sem,e14x])
    ·obtain rfl:=oi ho;have pg:=G.g 20 rfl;cases cF with
     | true=>exact G.sk 22 rfl pg rfl
     | false=>
      exact G.vl 22 rfl pg rfl (by simp[execOp,go_sem,e20x])
    ·obtain rfl:=oi ho;have pg:=G.g 20 rfl;cases cF with
     | true=>exact G.sk 23 rfl pg rfl
     | false=>
      have p21:=G.d 21 rfl;have p22:=G.d 22 rfl;exact G.vl 23 rfl pg rfl (by simp[execOp,go_sem,aA p21,aA p22])
    ·obtain rfl:=oi ho;cases cF
     all_goals have p20:=G.d 20 rfl
     all_goals have p23:=G.d 23 rfl
     all_goals exact G.nl 24 rfl (by simp[execOp,go_sem,aA p20,aA p23])
   ·intro zl a1 w1 hI hup;have hb1:Below W4.heap.size W4 w1:=hI.st;have hTT:=HTT.out;subst hTT;have z98:=hI.ptk 24 rfl (hup 24 (by decide));obtain⟨ff,rfl,hf⟩:=hI.off.forms;rw[← hf 98]at z98;clear hI;simp only[List.foldl,Act.put,List.setIfInBounds_toArray,List.set];rw[z98];have HB:Hid (Below w.heap.size w w1):=zh (HL14.out.bel.trans (hb1.mono HL14.out.bel.size));clear HL14 hb1 hl1 hl2 hl3 ht1 ht2 ht3 hi1 hi2 hi3;rw[hcF];rcases HQ.out with⟨rfl,rfl,rfl⟩ | ⟨he0,hq⟩
    ·go_wp2_with fail
     go_ret
     exact⟨rfl,HB.out⟩
    have x0:((e:Int)==0)=false:=by rw[Bool.eq_iff_iff];simp;try omega
    rcases hq with⟨he5,hqp⟩ | ⟨he5,hps,hqp,h80⟩ | ⟨h58,rfl,rfl⟩
    ·have x5:((e:Int)==5)=false:=by rw[Bool.eq_iff_iff];simp;try omega
     by_cases h8:e=8
     ·have x8:((e:Int)==8)=true:=by rw[Bool.eq_iff_iff];simp;try omega
      by_cases hp0:p=0
      ·have y0:((q:Int)==p)=false:=by rw[Bool.eq_iff_iff];simp;try omega
       have y1:((q:Int)==p+1)=true:=by rw[Bool.eq_iff_iff];simp;try omega
       have z0:((p:Int)==0)=true:=by rw[Bool.eq_iff_iff];simp;try omega
       go_wp2_with fail
       go_ret
       exact⟨rfl,HB.out⟩
      ·have y0:((q:Int)==p)=false:=by rw[Bool.eq_iff_iff];simp;try omega
       have y1:((q:Int)==p+1)=true:=by rw[Bool.eq_iff_iff];simp;try omega
       have z0:((p:Int)==0)=false:=by rw[Bool.eq_iff_iff];simp;try omega
       go_wp2_with fail
       go_ret
       exact⟨rfl,HB.out⟩
     ·have x8:((e:Int)==8)=false:=by rw[Bool.eq_iff_iff];simp;try omega
      have y0:((q:Int)==p)=false:=by rw[Bool.eq_iff_iff];simp;try omega
      have y1:((q:Int)==p+1)=true:=by rw[Bool.eq_iff_iff];simp;try omega
      clear hqp
      go_wp2_with fail
      go_ret
      exact⟨rfl,HB.out⟩
    ·have x5:((e:Int)==5)=false:=by rw[Bool.eq_iff_iff];simp;try omega
     by_cases h8:e=8
     ·have x8:((e:Int)==8)=true:=by rw[Bool.eq_iff_iff];simp;try omega
      have hp0:=h80 h8;have z0:((p:Int)==0)=false:=by rw[Bool.eq_iff_iff];simp;try omega
      have y1:((q:Int)==p+1)=false:=by rw[Bool.eq_iff_iff];simp;try omega
      have y2:((q:Int)==p+2)=true:=by rw[Bool.eq_iff_iff];simp;try omega
      have y3:((p:Int)==s.length)=true:=by rw[Bool.eq_iff_iff];simp;try omega
      clear hqp hps h80 hp0 h8
      go_wp2_with fail
      go_ret
      exact⟨rfl,HB.out⟩
     ·have x8:((e:Int)==8)=false:=by rw[Bool.eq_iff_iff];simp;try omega
      have y1:((q:Int)==p+1)=false:=by rw[Bool.eq_iff_iff];simp;try omega
      have y2:((q:Int)==p+2)=true:=by rw[Bool.eq_iff_iff];simp;try omega
      have y3:((p:Int)==s.length)=true:=by rw[Bool.eq_iff_iff];simp;try omega
      clear hqp hps h80
      go_wp2_with fail
      go_ret
      exact⟨rfl,HB.out⟩
    ·rcases h58 with rfl | rfl
     ·go_wp2_with fail
      go_ret
      exact⟨rfl,HB.out⟩
     ·go_wp2_with fail
      go_ret
      exact⟨rfl,HB.out⟩
end Go.Proofs.YtmgjidnalpgegaaGreatDoor
