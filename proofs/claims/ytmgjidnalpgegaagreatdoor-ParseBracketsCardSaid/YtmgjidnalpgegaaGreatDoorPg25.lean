/-
  Lemmas, part 25: PlSim3 PlLoc PlTok PlBr PaS.
-/
import Derived.Test.YtmgjidnalpgegaaGreatDoorPg24
namespace Go.Proofs.YtmgjidnalpgegaaGreatDoor
open Go.RowKit
def OpR(B:Prop)(op op' N:Nat):Prop:=(op=op'∨(op+N≤64∧op'+N≤64))∧(B→op+N≤64)
theorem OpR.more{B:Prop}{op op' M:Nat}(h:OpR B op op' (M+1)):OpR B (op+1) (op'+1) M :=
 ⟨by rcases h.1 with h1 | ⟨h1,h2⟩;exact .inl (by omega);exact .inr ⟨by omega,by omega⟩,fun hb=>by have:=h.2 hb;omega⟩
section
variable {ρ:Tok→Tok→Prop} {G B:Prop} {d N:Nat} {ax:Ax}
structure ArgI(l:List Tree)(ts:List Tok):Prop where
 right:bN l 4=true
 len:l.length≤31
 one:l=[]→isS (hd ts) [41]=false
def ArgsR(ρ:Tok→Tok→Prop)(G B:Prop)(d N c0:Nat)(o o':kB):Prop :=
 (∃ l ts ts' c1,o=.ok l ts c1∧o'=.ok l ts' (c1+d)∧EndR ρ ts ts'∧bM ts≤N∧isS (hd ts) [41]=true∧(G→c1=c0+dN l∧bN l 4=true∧l.length≤32∧¬ (l.length=1∧(l.map fun t=>t.h.kind)=[9]))) ∨
 (∃ e x y,o=.bad e x.place∧o'=.bad e y.place∧ρ x y∧Er B e)
theorem uED:uFT.right 4=true:=by
 have e:bE ⟨9,aF,[],aH,aH,0⟩ 0 [] 4=true:=by
  unfold bE;simp[fF]
 show (bE ⟨9,aF,[],aH,aH,0⟩ 0 [] 4&&bN [] 9)=true;rw[e];rfl
theorem yO{W W':List Tok→Nat→Out}(hW:PR ρ G B d N W W'):∀ (f:Nat) (l:List Tree) (ts ts':List Tok) (c0 c:Nat),EndR ρ ts ts'→bM ts≤N→(G→ArgI l ts∧c=c0+dN l) →
  ArgsR ρ G B d N c0 (bS W f l ts c) (bS W' f l ts' (c+d)):=by
 intro f
 induction f with
 | zero=>intro l ts ts' c0 c h hN _;exact .inr ⟨6,_,_,rfl,rfl,h.hd.rel,er6 B⟩
 | succ f ih=>
  intro l ts ts' c0 c h hN hI;have hA:(∃ x ts1 ts1' c1,kQ W ts c=.ok x ts1 c1∧kQ W' ts' (c+d)=.ok x ts1' (c1+d)∧EndR ρ ts1 ts1'∧bM ts1≤N∧(G→c1=c+x.size∧x.right 4=true∧(x.h.kind=9→l=[]→isS (hd ts1) [41]=false))) ∨
    (∃ e x y,kQ W ts c=.bad e x.place∧kQ W' ts' (c+d)=.bad e y.place∧ρ x y∧Er B e):=by
   unfold kQ;rw[← h.hd.isS [44],← h.hd.isS [41]];by_cases hb:(isS (hd ts) [44]||isS (hd ts) [41])=true
   ·rw[if_pos hb,if_pos hb];exact .inl ⟨_,_,_,_,rfl,by rw[show c+d+1=c+1+d by omega],h,hN,fun hg=>⟨rfl,uED,fun _ h0=>(hI hg).1.one h0⟩⟩
   ·rw[if_neg hb,if_neg hb];rcases hW ts ts' c h hN with⟨t,ts1,ts1',c1,h1,h2,h3,h4,h5⟩ | h1
    ·exact .inl ⟨t,ts1,ts1',c1,h1,h2,h3,h4,fun hg=>⟨(h5 hg).1,uI (h5 hg).2 4,fun h9=>absurd h9 (uEB (h5 hg).2)⟩⟩
    ·exact .inr h1
  unfold bS;rcases hA with⟨x,ts1,ts1',c1,h1,h2,h3,h4,h5⟩ | ⟨e,x,y,h1,h2,h3,h4⟩
  ·rw[h1,h2];dsimp only;rw[← h3.hd.isS [41],← h3.hd.isS [44]];have hr:G→bN (l++[x]) 4=true:=fun hg=>by
    rw[rH,(hI hg).1.right,(h5 hg).2.1];rfl
   have hc:G→c1=c0+dN (l++[x]):=fun hg=>by
    rw[uEM];have:=(hI hg).2;have:=(h5 hg).1;omega
   by_cases b1:isS (hd ts1) [41]=true
   ·rw[if_pos b1,if_pos b1];refine .inl ⟨_,_,_,_,rfl,rfl,h3,h4,b1,fun hg=>⟨hc hg,hr hg,by have:=(hI hg).1.len;simp;omega,?_⟩⟩;rintro⟨hl1,hk⟩;have hl0:l=[]:=by
     cases l with
     | nil=>rfl
     | cons a l=>simp at hl1
    subst hl0;have h9:x.h.kind=9:=by simpa using hk
    rw[(h5 hg).2.2 h9 rfl]at b1;cases b1
   ·rw[if_neg b1,if_neg b1];by_cases b2:isS (hd ts1) [44]=true
    ·rw[if_pos b2,if_pos b2];by_cases b3:32≤l.length+1
     ·rw[if_pos b3,if_pos b3];exact .inr ⟨10,_,_,rfl,rfl,h3.hd.rel,er10 B⟩
     ·rw[if_neg b3,if_neg b3];exact ih (l++[x]) _ _ c0 c1 (h3.tail (dD b2)) (Nat.le_trans (bK _) h4) (fun hg=>⟨⟨hr hg,by simp;omega,fun h0=>by simp at h0⟩,hc hg⟩)
    ·rw[if_neg b2,if_neg b2];exact .inr ⟨6,_,_,rfl,rfl,h3.hd.rel,er6 B⟩
  ·rw[h1,h2];exact .inr ⟨e,x,y,rfl,rfl,h3,h4⟩
theorem uEA{s:Bs}{l:List Tree}(hs:cE s=true)(h1:bN l 4=true)(h2:l.length≤32)(h3:¬ (l.length=1∧(l.map fun t=>t.h.kind)=[9])):(uBK s l).right 6=true:=by
 have e:bE ⟨4,aF,s,aH,aH,0⟩ l.length (l.map fun t=>t.h.kind) 6=true:=by
  have e4:∀ (n:Nat) (ks:List Int),bE ⟨4,aF,s,aH,aH,0⟩ n ks 6=(cE s&&decide (n≤32)&&!(decide (n=1)&&decide (ks=[9]))&&NodeH.same ⟨4,aF,s,aH,aH,0⟩ ⟨4,aF,s,aH,aH,0⟩):=fun _ _=>rfl
  rw[e4,hs,fF,decide_eq_true h2];simp only[Bool.and_true,Bool.true_and,Bool.not_eq_true'];cases hx:(decide (l.length=1)&&decide ((l.map fun t=>t.h.kind)=[9]))
  ·rfl
  ·simp only[Bool.and_eq_true,decide_eq_true_eq]at hx;exact absurd hx h3
 show (bE ⟨4,aF,s,aH,aH,0⟩ l.length (l.map fun t=>t.h.kind) 6&&bN l 4)=true;rw[e,h1];rfl
def InR(ρ:Tok→Tok→Prop)(G B:Prop)(d N op op':Nat)(W W':Nat→List Tok→Nat→Out):Prop:=∀ M,N=M+1→PR ρ G B d M (W (op+1)) (W' (op'+1))
theorem nxt_open{ρ:Tok→Tok→Prop}{ts ts':List Tok}(h:EndR ρ ts ts')(h3:(hd ts).kind≠0):nxt ts=hd ts.tail:=by
 cases h with
 | one h h0=>exact absurd h0 h3
 | more h h0 hm hr=>cases hr with
  | one h2 h3=>rfl
  | more h2 h3 hm2 hr=>rfl
theorem call_rel{op op':Nat}{W W':Nat→List Tok→Nat→Out}(ho:OpR B op op' N)(hW:InR ρ G B d N op op' W W'){ts ts':List Tok}{c:Nat}(h:EndR ρ ts ts')(hN:bM ts≤N)(h3:(hd ts).kind=3)(hs:isS (nxt ts) [40]=true) :
  OutR ρ G B d N c (mQ W op ts c) (mQ W' op' ts' (c+d)):=by
 have h0:(hd ts).kind≠0:=by omega
 have ht:=h.tail h0;rw[nxt_open h h0]at hs;have ht2:=ht.tail (dD hs);have hNt:bM ts.tail≤N:=Nat.le_trans (bK ts) hN;have hop:=tP hs;obtain⟨M,rfl⟩:∃ M,N=M+1:=⟨N-1,by omega⟩
 have hM:bM ts.tail.tail≤M:=by omega
 unfold mQ;rw[← h.hd.fold];by_cases hc:cE (aG (hd ts).text)=true
 ·have hcn:¬ (!cE (aG (hd ts).text))=true:=by rw[hc];decide
  rw[if_neg hcn,if_neg hcn];have h64:(64≤op↔64≤op')∧(64≤op→¬ B):=by
   rcases ho with⟨ho | ⟨o1,o2⟩,hb⟩
   ·exact⟨by rw[ho],fun h hB=>by have:=hb hB;omega⟩
   ·exact⟨⟨fun h=>by omega,fun h=>by omega⟩,fun h=>by omega⟩
  by_cases hd8:64≤op
  ·rw[if_pos hd8,if_pos (h64.1.1 hd8)];exact .inr ⟨8,_,_,rfl,rfl,ht.hd.rel,by decide,by decide,by decide,fun hB=>absurd hB (h64.2 hd8)⟩
  ·rw[if_neg hd8,if_neg (fun h=>hd8 (h64.1.2 h))];rw[← ht2.hd.isS [41],← h.len];have hargs:ArgsR ρ G B d M c (if isS (hd ts.tail.tail) [41]=true then kB.ok [] ts.tail.tail c else bS (W (op+1)) ts.length [] ts.tail.tail c) (if isS (hd ts.tail.tail) [41]=true then kB.ok [] ts'.tail.tail (c+d) else bS (W' (op'+1)) ts.length [] ts'.tail.tail (c+d)):=by
    by_cases b:isS (hd ts.tail.tail) [41]=true
    ·rw[if_pos b,if_pos b];exact .inl ⟨[],_,_,_,rfl,rfl,ht2,hM,b,fun _=>⟨rfl,rfl,by decide,fun h=>by simp at h⟩⟩
    ·rw[if_neg b,if_neg b];exact yO (hW M rfl) ts.length [] _ _ c c ht2 hM (fun _=>⟨⟨rfl,by decide,fun _=>by simpa using b⟩,rfl⟩)
   rcases hargs with⟨l,ts1,ts1',c1,h1,h2,h5,h6,h7,h8⟩ | ⟨e,x,y,h1,h2,h5,h6⟩
   ·rw[h1,h2];refine .inl ⟨_,_,_,_,rfl,by dsimp only;rw[show c1+d+1=c1+1+d by omega],h5.tail (dD h7),by have:=bK ts1;omega,fun hg=>?_⟩;obtain⟨g1,g2,g3,g4⟩:=h8 hg;exact⟨by show c1+1=c+(dN l+1);omega,uEA hc g2 g3 g4⟩
   ·rw[h1,h2];exact .inr ⟨e,x,y,rfl,rfl,h5,h6⟩
 ·have hcn:(!cE (aG (hd ts).text))=true:=by simpa using hc
  rw[if_pos hcn,if_pos hcn];exact gV h (er9 B)
theorem uEE{s:Bs}(hs:bV s=true):(uFU s).right 6=true:=by
 have e:bE ⟨7,aF,s,aH,aH,0⟩ 0 [] 6=true:=by
  have e7:bE ⟨7,aF,s,aH,aH,0⟩ 0 [] 6=(bV s&&NodeH.same ⟨7,aF,s,aH,aH,0⟩ ⟨7,aF,s,aH,aH,0⟩&&decide (0=0)):=rfl;rw[e7,hs,fF];rfl
 show (bE ⟨7,aF,s,aH,aH,0⟩ 0 [] 6&&bN [] 7)=true;rw[e];rfl
theorem name_rel{op op':Nat}{W W':Nat→List Tok→Nat→Out}(ho:OpR B op op' N)(hW:InR ρ G B d N op op' W W'){ts ts':List Tok}{c:Nat}(h:EndR ρ ts ts')(hN:bM ts≤N)(h3:(hd ts).kind=3) :
  OutR ρ G B d N c (mR W op ts c) (mR W' op' ts' (c+d)):=by
 unfold mR;rw[← h.nxt.isS [40],← qR h.hd,← h.hd.fold];by_cases b1:isS (nxt ts) [40]=true
 ·rw[if_pos b1,if_pos b1];exact call_rel ho hW h hN h3 b1
 ·rw[if_neg b1,if_neg b1];by_cases b2:cB (hd ts)=true
  ·rw[if_pos b2,if_pos b2];exact xS ts ts' c h hN
  ·rw[if_neg b2,if_neg b2];by_cases b3:bV (aG (hd ts).text)=true
   ·rw[if_pos b3,if_pos b3];exact .inl ⟨_,_,_,_,rfl,by rw[show c+d+1=c+1+d by omega],h.tail (by omega),Nat.le_trans (bK ts) hN,fun _=>⟨rfl,uEE b3⟩⟩
   ·rw[if_neg b3,if_neg b3];exact gV h (er9 B)
theorem uB(ha:lD ax){op op':Nat}{W W':Nat→List Tok→Nat→Out}(ho:OpR B op op' N)(hW:InR ρ G B d N op op' W W'):PR ρ G B d N (eO W ax op) (eO W' ax op'):=by
 intro ts ts' c h hN;unfold eO;rw[← h.hd.kind,← h.nxt.isS [58],← iD h.hd.fold,← h.hd.isS [40],← h.hd.isS [123]];by_cases k1:(hd ts).kind=1
 ·rw[if_pos k1,if_pos k1]
  split
  ·exact qE ha ts ts' c h hN
  ·exact xS ts ts' c h hN
 ·rw[if_neg k1,if_neg k1];by_cases k2:(hd ts).kind=2∨(hd ts).kind=6
  ·rw[if_pos k2,if_pos k2];exact xS ts ts' c h hN
  ·rw[if_neg k2,if_neg k2];by_cases k3:(hd ts).kind=3
   ·rw[if_pos k3,if_pos k3]
    split
    ·exact qE ha ts ts' c h hN
    ·exact name_rel ho hW h hN k3
   ·rw[if_neg k3,if_neg k3];by_cases k4:(hd ts).kind=4
    ·rw[if_pos k4,if_pos k4]
     split
     ·exact uGM ha ts ts' c h hN
     ·exact qE ha ts ts' c h hN
    ·rw[if_neg k4,if_neg k4];by_cases b1:isS (hd ts) [40]=true
     ·rw[if_pos b1,if_pos b1];have hop:=tP b1;have ht:=h.tail (dD b1);obtain⟨M,rfl⟩:∃ M,N=M+1:=⟨N-1,by omega⟩
      have hM:bM ts.tail≤M:=by omega
      have h64:(64≤op↔64≤op')∧(64≤op→¬ B):=by
       rcases ho with⟨ho | ⟨o1,o2⟩,hb⟩
       ·exact⟨by rw[ho],fun h hB=>by have:=hb hB;omega⟩
       ·exact⟨⟨fun h=>by omega,fun h=>by omega⟩,fun h=>by omega⟩
      by_cases hd8:64≤op
      ·rw[if_pos hd8,if_pos (h64.1.1 hd8)];exact .inr ⟨8,_,_,rfl,rfl,h.hd.rel,by decide,by decide,by decide,fun hB=>absurd hB (h64.2 hd8)⟩
      ·rw[if_neg hd8,if_neg (fun h=>hd8 (h64.1.2 h))];rcases hW M rfl ts.tail ts'.tail c ht hM with⟨t,ts1,ts1',c1,h1,h2,h3,h4,h5⟩ | ⟨e,x,y,h1,h2,h3,h4⟩
       ·rw[h1,h2];dsimp only;rw[← h3.hd.isS [41]];by_cases b2:isS (hd ts1) [41]=true
        ·rw[if_pos b2,if_pos b2];exact .inl ⟨t,_,_,_,rfl,rfl,h3.tail (dD b2),by have:=bK ts1;omega,h5⟩
        ·rw[if_neg b2,if_neg b2];exact gV h3 (er6 B)
       ·rw[h1,h2];exact .inr ⟨e,x,y,rfl,rfl,h3,h4⟩
     ·rw[if_neg b1,if_neg b1];by_cases b2:isS (hd ts) [123]=true
      ·rw[if_pos b2,if_pos b2];exact uDM h hN b2
      ·rw[if_neg b2,if_neg b2];exact gV h (er6 B)
theorem uFN:∀ (f:Nat) (t:Tree) (ts ts':List Tok) (c0 c:Nat),EndR ρ ts ts'→bM ts≤N→(G→c=c0+t.size∧t.right 6=true)→OutR ρ G B d N c0 (gC f t ts c) (gC f t ts' (c+d)):=by
 intro f
 induction f with
 | zero=>intro t ts ts' c0 c h hN hI;exact .inl ⟨t,ts,ts',c,rfl,rfl,h,hN,hI⟩
 | succ f ih=>
  intro t ts ts' c0 c h hN hI;unfold gC;rw[← h.hd.isS [37]];by_cases b:isS (hd ts) [37]=true
  ·rw[if_pos b,if_pos b,show c+d+1=c+1+d by omega];refine ih _ _ _ c0 (c+1) (h.tail (dD b)) (Nat.le_trans (bK ts) hN) (fun hg=>?_);obtain⟨g1,g2⟩:=uBE (s:=[37]) (by decide) (hI hg).2;exact⟨by rw[g2];have:=(hI hg).1;omega,g1⟩
  ·rw[if_neg b,if_neg b];exact .inl ⟨t,ts,ts',c,rfl,rfl,h,hN,hI⟩
theorem pK{P P':List Tok→Nat→Out}{ts ts':List Tok}{c:Nat}(h0:OutR ρ G B d N c (P ts c) (P' ts' (c+d))):OutR ρ G B d N c (bD P ts c) (bD P' ts' (c+d)):=by
 unfold bD;rcases h0 with⟨t,ts1,ts1',c1,h1,h2,h3,h4,h5⟩ | ⟨e,x,y,h1,h2,h3,h4⟩
 ·rw[h1,h2];dsimp only;rw[← h3.len];exact uFN _ t ts1 ts1' c c1 h3 h4 h5
 ·rw[h1,h2];exact .inr ⟨e,x,y,rfl,rfl,h3,h4⟩
theorem mT{P P':List Tok→Nat→Out}(hP:PR ρ G B d N P P'):PR ρ G B d N (bD P) (bD P'):=fun ts ts' c h hN=>pK (hP ts ts' c h hN)
theorem uGB{ts ts':List Tok}(h:EndR ρ ts ts'):aX ts=aX ts'∧EndR ρ (ts.drop (aX ts)) (ts'.drop (aX ts))∧bM (ts.drop (aX ts))≤bM ts ∧
  (∀ t,(ts.take (aX ts)).foldr (fun s n=>tUn s.text n) t=(ts'.take (aX ts)).foldr (fun s n=>tUn s.text n) t) ∧
  (∀ t:Tree,t.right 6=true→((ts.take (aX ts)).foldr (fun s n=>tUn s.text n) t).right 6=true∧((ts.take (aX ts)).foldr (fun s n=>tUn s.text n) t).size=t.size+aX ts):=by
 induction h with
 | @one e e' h h0=>
  have ha:dB e=false:=by
   unfold dB isS;simp[h0]
  have ha':dB e'=false:=by
   unfold dB isS;simp[← h.kind,h0]
  have e1:aX [e]=0:=by unfold aX;rw[ha];rfl
  have e2:aX [e']=0:=by unfold aX;rw[ha'];rfl
  rw[e1,e2];exact⟨rfl,.one h h0,Nat.le_refl _,fun _=>rfl,fun t ht=>⟨ht,rfl⟩⟩
 | @more t t' ts ts' h h0 hm hr ih=>
  have hA:dB t=dB t':=by
   unfold dB;rw[h.isS [43],h.isS [45]]
  cases ha:dB t with
  | false=>
   have e1:aX (t::ts)=0:=by unfold aX;rw[ha];rfl
   have e2:aX (t'::ts')=0:=by unfold aX;rw[← hA,ha];rfl
   rw[e1,e2];exact⟨rfl,.more h h0 hm hr,Nat.le_refl _,fun _=>rfl,fun t ht=>⟨ht,rfl⟩⟩
  | true=>
   obtain⟨i1,i2,i3,i4,i5⟩:=ih;have e1:aX (t::ts)=aX ts+1:=by rw[aX,ha,if_pos rfl]
   have e2:aX (t'::ts')=aX ts'+1:=by rw[aX,← hA,ha,if_pos rfl]
   have hk:t.kind=5∧(t.text=[43]∨t.text=[45]):=by
    unfold dB isS at ha;simp at ha;rcases ha with⟨h1,h2⟩ | ⟨h1,h2⟩
    ·exact⟨h1,.inl h2⟩
    ·exact⟨h1,.inr h2⟩
   have htx:=h.same (.inr (.inl hk.1));rw[e1,e2];refine⟨by rw[i1],i2,Nat.le_trans i3 (Nat.le_add_left _ _),fun x=>?_,fun x hx=>?_⟩
   ·show tUn t.text _=tUn t'.text _;rw[htx,i4 x]
   ·obtain⟨g1,g2⟩:=i5 x hx;obtain⟨g3,g4⟩:=uBE (s:=t.text) (by rcases hk.2 with e | e <;> rw[e] <;> decide) g1;refine⟨g3,?_⟩;show (tUn t.text _).size=_;rw[g4,g2];omega
theorem oI{P P':List Tok→Nat→Out}(hP:PR ρ G B d N P P'):PR ρ G B d N (cI P) (cI P'):=by
 intro ts ts' c h hN;obtain⟨i1,i2,i3,i4,i5⟩:=uGB h;unfold cI;rw[← i1];rcases hP _ _ c i2 (Nat.le_trans i3 hN) with⟨t,ts1,ts1',c1,h1,h2,h3,h4,h5⟩ | ⟨e,x,y,h1,h2,h3,h4⟩
 ·rw[h1,h2];refine .inl ⟨_,_,_,_,rfl,?_,h3,h4,fun hg=>?_⟩
  ·dsimp only;rw[i4 t,show c1+d+aX ts=c1+aX ts+d by omega]
  ·obtain⟨g1,g2⟩:=i5 t (h5 hg).2;refine⟨?_,g1⟩;rw[g2];have:=(h5 hg).1;omega
 ·rw[h1,h2];exact .inr ⟨e,x,y,rfl,rfl,h3,h4⟩
theorem uHH{t t':Tok}(h:TokR ρ t t')(sg:List Bs):eG sg t=eG sg t':=by
 unfold eG;by_cases h5:t.kind=5
 ·rw[h.same (.inr (.inl h5)),h.kind]
 ·rw[decide_eq_false h5,decide_eq_false (by rw[← h.kind];exact h5)];rfl
theorem xP{P P':List Tok→Nat→Out}(hP:PR ρ G B d N P P'){sg:List Bs}(hsg:∀ s∈sg,lG s=true):∀ (f:Nat) (t:Tree) (ts ts':List Tok) (c0 c:Nat),EndR ρ ts ts'→bM ts≤N→(G→c=c0+t.size∧t.right 6=true) →
  OutR ρ G B d N c0 (fT P sg f t ts c) (fT P' sg f t ts' (c+d)):=by
 intro f
 induction f with
 | zero=>intro t ts ts' c0 c h hN hI;exact .inl ⟨t,ts,ts',c,rfl,rfl,h,hN,hI⟩
 | succ f ih=>
  intro t ts ts' c0 c h hN hI;unfold fT;rw[← uHH h.hd sg];by_cases b:eG sg (hd ts)=true
  ·rw[if_pos b,if_pos b];have hb:=b;unfold eG at hb;simp only[Bool.and_eq_true,decide_eq_true_eq]at hb;have h0:(hd ts).kind≠0:=by omega
   have htx:=h.hd.same (.inr (.inl hb.1));rcases hP ts.tail ts'.tail c (h.tail h0) (Nat.le_trans (bK ts) hN) with⟨x,ts1,ts1',c1,h1,h2,h3,h4,h5⟩ | ⟨e,x,y,h1,h2,h3,h4⟩
   ·rw[h1,h2];dsimp only;rw[htx,show c1+d+1=c1+1+d by omega];refine ih _ ts1 ts1' c0 (c1+1) h3 h4 (fun hg=>?_);obtain⟨g1,g2⟩:=uIE (s:=(hd ts').text) (hsg _ (by rw[← htx];exact List.contains_iff_mem.1 hb.2)) (hI hg).2 (h5 hg).2;refine⟨?_,g1⟩;rw[g2];have:=(hI hg).1;have:=(h5 hg).1;omega
   ·rw[h1,h2];exact .inr ⟨e,x,y,rfl,rfl,h3,h4⟩
  ·rw[if_neg b,if_neg b];exact .inl ⟨t,ts,ts',c,rfl,rfl,h,hN,hI⟩
theorem gT{P P':List Tok→Nat→Out}(hP:PR ρ G B d N P P'){sg:List Bs}(hsg:∀ s∈sg,lG s=true){ts ts':List Tok}{c:Nat}(h0:OutR ρ G B d N c (P ts c) (P' ts' (c+d))):OutR ρ G B d N c (bH P sg ts c) (bH P' sg ts' (c+d)):=by
 unfold bH;rcases h0 with⟨t,ts1,ts1',c1,h1,h2,h3,h4,h5⟩ | ⟨e,x,y,h1,h2,h3,h4⟩
 ·rw[h1,h2];dsimp only;rw[← h3.len];exact xP hP hsg _ t ts1 ts1' c c1 h3 h4 h5
 ·rw[h1,h2];exact .inr ⟨e,x,y,rfl,rfl,h3,h4⟩
theorem dP{P P':List Tok→Nat→Out}(hP:PR ρ G B d N P P'){sg:List Bs}(hsg:∀ s∈sg,lG s=true):PR ρ G B d N (bH P sg) (bH P' sg):=fun ts ts' c h hN=>gT hP hsg (hP ts ts' c h hN)
theorem oG:∀ s∈qL,lG s=true:=by decide
theorem jJ:∀ s∈oH,lG s=true:=by decide
theorem kY:∀ s∈fX,lG s=true:=by decide
theorem kZ:∀ s∈pP,lG s=true:=by decide
theorem lA:∀ s∈nR,lG s=true:=by decide
theorem uBT{P P':List Tok→Nat→Out}(hP:PR ρ G B d N P P'):PR ρ G B d N (dK P) (dK P'):=by
 unfold dK;exact dP (dP (dP (dP (dP (oI (mT hP)) lA) kZ) kY) jJ) oG
end
theorem iS{ρ:Tok→Tok→Prop}{G B:Prop}{d:Nat}{ax:Ax}(ha:lD ax):∀ (f f' op op' N:Nat),OpR B op op' N→((op=op'∧f=f')∨(N<f∧N<f'))→PR ρ G B d N (cD f ax op) (cD f' ax op'):=by
 intro f
 induction f with
 | zero=>
  intro f' op op' N ho hf;rcases hf with⟨_,rfl⟩ | ⟨h,_⟩
  ·intro ts ts' c h hN;exact gV h (er6 B)
  ·omega
 | succ f ih=>
  intro f' op op' N ho hf;cases f' with
  | zero=>rcases hf with⟨_,h⟩ | ⟨_,h⟩ <;> omega
  | succ f'=>
   have hp:PR ρ G B d N (eO (cD f ax) ax op) (eO (cD f' ax) ax op'):=uB ha ho (fun M hM=>by
    subst hM;refine ih f' (op+1) (op'+1) M ho.more ?_;rcases hf with⟨h1,h2⟩ | ⟨h1,h2⟩
    ·exact .inl ⟨by omega,by omega⟩
    ·exact .inr ⟨by omega,by omega⟩)
   exact uBT hp
def ResR(ρ:Tok→Tok→Prop)(r r':Except (Nat×Nat) Tree):Prop :=
 (∃ t,r=.ok t∧r'=.ok t∧t.right 6=true∧t.size≤256∧t.depth≤32)∨(∃ e,(e=5∨e=8)∧r=.error (e,0)∧r'=.error (e,0)) ∨
 (∃ e x y,r=.error (e,x.place)∧r'=.error (e,y.place)∧ρ x y∧Er False e)
theorem mC{t:Tree}(h:t.right 6=true)(hs:t.size≤256):(dV t=0∧t.depth≤32)∨dV t=8:=by
 unfold dV;rw[if_neg (by omega),h];by_cases hd:32<t.depth
 ·rw[if_pos hd];exact .inr rfl
 ·rw[if_neg hd,if_pos rfl];exact .inl ⟨rfl,by omega⟩
theorem jK{ρ:Tok→Tok→Prop}{ax:Ax}(ha:lD ax){ts ts':List Tok}(h:EndR ρ ts ts'):ResR ρ (dT ax ts) (dT ax ts'):=by
 have hw:=iS (ρ:=ρ) (G:=True) (B:=False) (d:=0) ha 65 65 0 0 (bM ts) ⟨.inl rfl,fun h=>h.elim⟩ (.inl ⟨rfl,rfl⟩) ts ts' 0 h (Nat.le_refl _);unfold dT;rcases hw with⟨t,ts1,ts1',c1,h1,h2,h3,h4,h5⟩ | ⟨e,x,y,h1,h2,h3,h4⟩
 ·rw[h1,h2];dsimp only;obtain⟨g1,g2⟩:=h5 trivial;rw[← h3.hd.kind];by_cases k0:(hd ts1).kind≠0
  ·rw[if_pos k0,if_pos k0];exact .inr (.inr ⟨6,_,_,rfl,rfl,h3.hd.rel,er6 _⟩)
  ·rw[if_neg k0,if_neg k0,Nat.add_zero];by_cases k1:256<c1
   ·rw[if_pos k1];exact .inr (.inl ⟨5,.inl rfl,rfl,rfl⟩)
   ·rw[if_neg k1];rcases mC g2 (by omega) with⟨hc,hd⟩ | hc
    ·rw[hc];exact .inl ⟨t,rfl,rfl,g2,by omega,hd⟩
    ·rw[hc];exact .inr (.inl ⟨8,.inr rfl,rfl,rfl⟩)
 ·rw[h1,h2];exact .inr (.inr ⟨e,x,y,rfl,rfl,h3,h4⟩)
def uG(Y1:List Tok)(x z:Tok):Prop:=x=z∧x∈Y1
structure StopOk(e y:Tok)(Y1:List Tok):Prop where
 e0:e.kind=0
 ys:isS y [41]=true∨isS y [44]=true
 self:EndR (uG Y1) Y1 Y1
section
variable {e y:Tok} {Y1:List Tok} (hY:StopOk e y Y1) {ax:Ax}
include hY
theorem StopOk.enot(s:Bs):isS e s=false:=by
 unfold isS;rw[hY.e0];rfl
theorem wW(f:Nat)(op c:Nat):cD f ax op [e] c=.bad 6 e.place:=by
 cases f with
 | zero=>rfl
 | succ f=>
  have hp:∀ c,eO (cD f ax) ax op [e] c=.bad 6 e.place:=fun c=>by
   unfold eO;rw[show hd [e]=e from rfl,hY.e0,hY.enot,hY.enot];rfl
  have ha:aX [e]=0:=by
   unfold aX dB;rw[hY.enot,hY.enot];rfl
  have hs:∀ c,cI (bD (eO (cD f ax) ax op)) [e] c=.bad 6 e.place:=fun c=>by
   unfold cI bD;rw[ha,List.drop_zero,hp]
  have hl:∀ {P:List Tok→Nat→Out} {sg:List Bs},(∀ c,P [e] c=.bad 6 e.place)→∀ c,bH P sg [e] c=.bad 6 e.place:=fun hP c=>by
   unfold bH;rw[hP]
  unfold cD dK;exact hl (hl (hl (hl (hl hs)))) c
end
structure TW(s:Bs)(k:Nat)(t:Tok):Prop where
 k0:t.kind≠0
 num:t.kind=1→aP t.text 0 45=false
 same:t.kind=5∨t.kind=6→aG t.text=t.text
 k2:34∉s→t.kind≠2
 lo:k≤t.place
 hi:t.place<k+s.length
 br:∀ c:UInt8,t.kind=5→t.text=[c]→s[t.place-k]?=some c
theorem signs_up:∀ c∈gR,up c=c:=by decide
theorem sC(l:Bs)(c:UInt8)(h:aP l 0 c=true):∃ r,l=c::r:=by
 unfold aP at h;cases l with
 | nil=>simp at h
 | cons d r=>simp at h;exact⟨r,by rw[h]⟩
theorem uEJ(l:Bs)(h:0<dZ l)(hp:0<l.length):∃ c r,l=c::r∧((dZ l=1∧up c=c)∨(dZ l=2∧∃ d r',r=d::r'∧up c=c∧up d=d)):=by
 cases l with
 | nil=>simp at hp
 | cons c r=>
  refine⟨c,r,rfl,?_⟩;unfold dZ at h ⊢
  split
  ·rename_i h2
   refine .inr ⟨rfl,?_⟩;cases r with
   | nil=>simp[Lib.hasPrefix,List.isPrefixOf]at h2
   | cons d r'=>
    refine⟨d,r',rfl,?_⟩;simp[Lib.hasPrefix,List.isPrefixOf]at h2;rcases h2 with(⟨rfl,rfl⟩ | ⟨rfl,rfl⟩) | ⟨rfl,rfl⟩ <;> decide
  ·rename_i h2
   rw[if_neg h2]at h
   split
   ·rename_i h3
    refine .inl ⟨rfl,signs_up c ?_⟩;obtain⟨n,_,_,_,he⟩:=uFD gR c h3;rw[he];simp
   ·rename_i h3
    rw[if_neg h3]at h;omega
def TF(l:Bs)(k:Nat)(x:Bs):Prop:=k≠0∧(k=1→aP x 0 45=false)∧(k=5∨k=6→aG x=x)∧(34∉l→k≠2)∧(∀ c:UInt8,k=5→x=[c]→l[0]?=some c)
theorem tf1{l x:Bs}(h:aP x 0 45=false):TF l 1 x:=⟨by decide,fun _=>h,fun h=>(by rcases h with h | h <;> cases h),fun _=>(by decide),fun _ h=>(by cases h)⟩
theorem tf3{l x:Bs}:TF l 3 x:=⟨by decide,fun h=>(by cases h),fun h=>(by rcases h with h | h <;> cases h),fun _=>(by decide),fun _ h=>(by cases h)⟩
theorem tf4{l x:Bs}:TF l 4 x:=⟨by decide,fun h=>(by cases h),fun h=>(by rcases h with h | h <;> cases h),fun _=>(by decide),fun _ h=>(by cases h)⟩
theorem tf2{l x:Bs}(h:34∈l):TF l 2 x:=⟨by decide,fun h=>(by cases h),fun h=>(by rcases h with h | h <;> cases h),fun hn=>absurd h hn,fun _ h=>(by cases h)⟩
theorem tf6{l x:Bs}(h:aG x=x):TF l 6 x:=⟨by decide,fun h=>(by cases h),fun _=>h,fun _=>(by decide),fun _ h=>(by cases h)⟩
theorem tf5{l x:Bs}(h:aG x=x)(h2:∀ c:UInt8,x=[c]→l[0]?=some c):TF l 5 x:=⟨by decide,fun h=>(by cases h),fun _=>h,fun _=>(by decide),fun c _=>h2 c⟩
theorem uEQ(l:Bs)(hp:0<l.length)(h0:(aR l).2.2≠0):TF l (aR l).1 (aR l).2.1:=by
 unfold aR at h0 ⊢;by_cases h1:0<cP l
 ·rw[if_pos h1];refine tf1 ?_;rw[uGE];cases h45:aP l 0 45
  ·simp
  ·obtain⟨r,rfl⟩:=sC l 45 h45;rw[pI 45 r (by decide) (by decide)]at h1;omega
 ·rw[if_neg h1]at h0 ⊢;by_cases h2:(fB l||aP l 0 95||aP l 0 36)=true
  ·rw[if_pos h2]at h0 ⊢;unfold iC at h0 ⊢;by_cases hm:nO (l.take (aM cC l))=true
   ·rw[if_pos hm];exact tf4
   ·rw[if_neg hm]at h0 ⊢;by_cases hd:dF (l.take (aM cC l))=0
    ·rw[if_pos hd];exact tf3
    ·rw[if_neg hd]at h0;exact absurd rfl h0
  ·rw[if_neg h2]at h0 ⊢;by_cases h3:aP l 0 34=true
   ·rw[if_pos h3]at h0 ⊢;unfold eH at h0 ⊢;cases hx:bG (l.drop 1) with
    | none=>rw[hx]at h0;exact absurd rfl h0
    | some x=>
     obtain⟨r,rfl⟩:=sC l 34 h3;exact tf2 List.mem_cons_self
   ·rw[if_neg h3]at h0 ⊢;by_cases h4:0<(bZ l).length
    ·rw[if_pos h4];exact tf6 (sX l)
    ·rw[if_neg h4]at h0 ⊢;by_cases h5:0<dZ l
     ·rw[if_pos h5];obtain⟨c,r,rfl,h6⟩:=uEJ l h5 hp;refine tf5 ?_ (fun c' hc=>?_)
      ·show aG ((c::r).take (dZ (c::r)))=(c::r).take (dZ (c::r));rcases h6 with⟨e,hu⟩ | ⟨e,d,r',rfl,hu,hu2⟩
       ·rw[e];show [up c]=[c];rw[hu]
       ·rw[e];show [up c,up d]=[c,d];rw[hu,hu2]
      ·have hc2:(c::r).take (dZ (c::r))=[c']:=hc;rcases h6 with⟨e,hu⟩ | ⟨e,d,r',rfl,hu,hu2⟩
       ·rw[e]at hc2;injection hc2 with hc2 _;rw[← hc2];rfl
       ·rw[e]at hc2;injection hc2 with hc2 h7;cases h7
     ·rw[if_neg h5]at h0;exact absurd rfl h0
theorem TW.shift{s s':Bs}{k k':Nat}{t:Tok}(h:TW s' k' t)(hk:k≤k')(hl:k'+s'.length=k+s.length)(hm:∀ c∈s',c∈s)(hd:∀ j,s'[j]?=s[k'-k+j]?):TW s k t :=
 ⟨h.k0,h.num,h.same,fun hn=>h.k2 (fun hc=>hn (hm _ hc)),by have:=h.lo;omega,by have:=h.hi;omega,fun c h1 h2=>by
  have:=h.br c h1 h2;rw[hd]at this;have hlo:=h.lo;rw[show k'-k+(t.place-k')=t.place-k by omega]at this;exact this⟩
theorem uDE:∀ (f:Nat) (s:Bs) (k:Nat) (ts:List Tok),dR f s k=.ok ts→(∀ t∈ts,TW s k t)∧ts.Pairwise (fun a b=>a.place≤b.place)∧bM ts≤s.count 40:=by
 intro f
 induction f with
 | zero=>intro s k ts h;injection h with h;subst h;exact⟨fun t ht=>by(cases ht),.nil,Nat.zero_le _⟩
 | succ f ih=>
  intro s k ts h;cases s with
  | nil=>injection h with h;subst h;exact⟨fun t ht=>by(cases ht),.nil,Nat.zero_le _⟩
  | cons c r=>
   simp only[dR]at h
   split at h
   ·obtain⟨i1,i2,i3⟩:=ih r (k+1) ts h;refine⟨fun t ht=>(i1 t ht).shift (Nat.le_succ k) (by simp only[List.length_cons];omega) (fun c hc=>List.mem_cons_of_mem _ hc) (fun j=>by rw[show k+1-k+j=j+1 by omega];rfl),i2,?_⟩;rw[List.count_cons];omega
   ·split at h
    ·cases h
    ·rename_i h0
     cases hx:dR f ((c::r).drop (aR (c::r)).2.2) (k+(aR (c::r)).2.2) with
     | error q=>rw[hx]at h;cases h
     | ok us=>
      rw[hx]at h;injection h with h;subst h;obtain⟨i1,i2,i3⟩:=ih _ _ us hx;have hle:=iP (c::r) (by simp);obtain⟨f1,f2,f3,f4,f5⟩:=uEQ (c::r) (by simp) h0;have hus:∀ t∈us,TW (c::r) k t:=fun t ht=>(i1 t ht).shift (Nat.le_add_right _ _) (by rw[List.length_drop];omega) (fun c hc=>List.mem_of_mem_drop hc) (fun j=>by rw[List.getElem?_drop,Nat.add_sub_cancel_left])
      refine⟨fun t ht=>?_,?_,?_⟩
      ·rcases List.mem_cons.1 ht with rfl | ht
       ·exact⟨f1,f2,f3,f4,Nat.le_refl _,by simp,fun d h1 h2=>by rw[Nat.sub_self];exact f5 d h1 h2⟩
       ·exact hus t ht
      ·rw[List.pairwise_cons];exact⟨fun t ht=>(hus t ht).lo,i2⟩
      ·show (if isS _ [40] then 1 else 0)+bM us≤_;have hc2:((c::r).drop (aR (c::r)).2.2).count 40≤r.count 40:=by
        obtain⟨n,hn⟩:∃ n,(aR (c::r)).2.2=n+1:=⟨(aR (c::r)).2.2-1,by omega⟩
        rw[hn];exact(List.drop_sublist n r).count_le 40
       rw[List.count_cons];by_cases hs:isS (⟨(aR (c::r)).1,(aR (c::r)).2.1,k⟩:Tok) [40]=true
       ·rw[if_pos hs];unfold isS at hs;simp only[Bool.and_eq_true,decide_eq_true_eq,beq_iff_eq]at hs;have hh:=f5 40 hs.1 hs.2;simp at hh;subst hh;simp;omega
       ·rw[if_neg hs];omega
theorem mL(s:Bs)(ts:List Tok)(h:iG s=.ok ts):(∀ t∈ts,TW s 0 t)∧ts.Pairwise (fun a b=>a.place≤b.place)∧bM ts≤s.count 40:=uDE _ _ _ _ h
theorem iX{ρ:Tok→Tok→Prop}(g:Tok→Tok){e e':Tok}(h0:e.kind=0)(he:TokR ρ e e'):∀ (ts:List Tok),(∀ t∈ts,t.kind≠0∧TokR ρ t (g t)∧t.place≤e.place)→ts.Pairwise (fun a b=>a.place≤b.place)→EndR ρ (ts++[e]) (ts.map g++[e'])
 | [],_,_=>.one he h0
 | t::ts,h,hp=>by
  rw[List.pairwise_cons]at hp;obtain⟨h1,h2,h3⟩:=h t (.head _);refine .more h2 h1 ?_ (iX g h0 he ts (fun x hx=>h x (List.mem_cons_of_mem _ hx)) hp.2);cases ts with
  | nil=>exact h3
  | cons x r=>exact hp.1 x (.head _)
theorem rW{ρ:Tok→Tok→Prop}{s:Bs}{k:Nat}{t:Tok}(h:TW s k t)(t':Tok)(hk:t'.kind=t.kind)(ht:t'.text=t.text)(hr:ρ t t'):TokR ρ t t':=⟨hr,hk.symm,by rw[ht],fun _=>ht.symm,h.num⟩
theorem lL{ρ:Tok→Tok→Prop}(e e':Tok)(h0:e.kind=0)(hk:e'.kind=0)(ht:e'.text=e.text)(hr:ρ e e'):TokR ρ e e':=⟨hr,by rw[h0,hk],by rw[ht],fun _=>ht.symm,fun h=>by rw[h0]at h;cases h⟩
theorem fR{h:NodeH}(hv:h.v=aF)(hn:h.name.length≤100000):h.fine:=by
 unfold NodeH.fine;rw[hv];exact⟨by decide,by decide,by decide,hn⟩
theorem pD:([]:Bs).length≤100000:=by decide
theorem uGY(k:Int)(s:Bs)(hs:s.length≤100000):(Tree.mk ⟨k,aF,s,aH,aH,0⟩ []).fine:=by
 unfold Tree.fine;exact⟨fR rfl hs,trivial⟩
theorem chkLeaf:oM:=by
 intro h W hk hn he;have hf:(Tree.mk h []).fine:=by rw[he];exact uGY _ _ hn
 exact sI (.mk h []) _ W ⟨none,0,rfl,.inl rfl⟩ (by show dN []+1≤1000000;decide) hf
theorem cZ{h h':NodeH}(e:NodeH.same h h'=true):h.v=h'.v∧h.name=h'.name:=by
 unfold NodeH.same at e;simp only[Bool.and_eq_true,decide_eq_true_eq,beq_iff_eq]at e;exact⟨(iR _ _).1 e.1.1.1.1.2,e.1.1.1.2⟩
theorem zR{s:Bs}(h:cE s=true):s.length≤100000:=by
 unfold cE at h;simp only[Bool.and_eq_true,decide_eq_true_eq]at h;omega
theorem zS{s:Bs}(h:bV s=true):s.length≤100000:=by
 unfold bV at h;simp only[Bool.and_eq_true,decide_eq_true_eq]at h;omega
theorem unB_len{s:Bs}(h:unB s=true):s.length≤100000:=by
 unfold unB at h;simp only[Bool.or_eq_true,beq_iff_eq]at h;rcases h with(rfl | rfl) | rfl <;> decide
theorem binB_len{s:Bs}(h:lG s=true):s.length≤100000:=by
 unfold lG at h;simp only[Bool.or_eq_true,beq_iff_eq]at h;rcases h with((((((((((rfl | rfl) | rfl) | rfl) | rfl) | rfl) | rfl) | rfl) | rfl) | rfl) | rfl) | rfl <;> decide
theorem uBQ{v:Val}(h:cA v=true):-9223372036854775808≤v.mant∧v.mant≤9223372036854775807∧v.text.length≤1000000:=by
 by_cases k1:v.kind=1
 ·rw[uR v k1,Bool.and_eq_true]at h;have e:=(iR _ _).1 h.2;have ht:v.text=[]:=congrArg Val.text e;have hm:v.mant.natAbs<1000000000000000:=by
   by_cases m0:v.mant=0
   ·rw[m0];decide
   ·exact(wI h.1 m0).1
  rw[ht];exact⟨by omega,by omega,by decide⟩
 ·by_cases k2:v.kind=2
  ·have h2:=h;rw[rM v k2]at h;have e:=(iR _ _).1 h;unfold cA at h2;simp[k2]at h2;refine⟨?_,?_,?_⟩
   all_goals first | omega |(simp_all;done) | skip
   all_goals trace_state
  ·by_cases k3:v.kind=3
   ·rw[pV v k3]at h;have e:=(iR _ _).1 h;rw[show v.mant=0 from congrArg Val.mant e,show v.text=[] from congrArg Val.text e];exact⟨by decide,by decide,by decide⟩
   ·by_cases k4:v.kind=4
    ·rw[pT v k4]at h;have e:=(iR _ _).1 h;have hm:v.mant=0:=by rw[e];unfold oJ;split <;> rfl
     have ht:v.text=[]:=by rw[e];unfold oJ;split <;> rfl
     rw[hm,ht];exact⟨by decide,by decide,by decide⟩
    ·by_cases k0:v.kind=0
     ·rw[pS v k0]at h;have e:=(iR _ _).1 h;rw[show v.mant=0 from congrArg Val.mant e,show v.text=[] from congrArg Val.text e];exact⟨by decide,by decide,by decide⟩
     ·rw[pU v k0 k1 k2 k3 k4]at h;cases h
theorem uBB{h:NodeH}{n:Nat}{kids:List Int}{above:Int}(e:bE h n kids above=true):h.fine:=by
 unfold bE at e
 split at e
 ·simp only[Bool.and_eq_true]at e;obtain⟨⟨h1,h2⟩,_⟩:=e;unfold cL at h1;simp only[Bool.and_eq_true]at h1;obtain⟨a,b,c⟩:=uBQ h1.1.2;exact⟨a,b,c,by rw[(cZ h2).2];exact pD⟩
 ·split at e
  ·simp only[Bool.and_eq_true]at e;exact fR (cZ e.1.2).1 (by rw[(cZ e.1.2).2];exact pD)
  ·split at e
   ·simp only[Bool.and_eq_true]at e;exact fR (cZ e.1.2).1 (by rw[(cZ e.1.2).2];exact pD)
   ·split at e
    ·simp only[Bool.and_eq_true]at e;exact fR (cZ e.2).1 (zR e.1.1.1)
    ·split at e
     ·simp only[Bool.and_eq_true]at e;exact fR (cZ e.2).1 (unB_len e.1.1)
     ·split at e
      ·simp only[Bool.and_eq_true]at e;exact fR (cZ e.2).1 (binB_len e.1.1)
      ·split at e
       ·simp only[Bool.and_eq_true]at e;exact fR (cZ e.1.2).1 (zS e.1.1)
       ·split at e
        ·simp only[Bool.and_eq_true]at e;exact fR (cZ e.2).1 (by rw[(cZ e.2).2];exact pD)
        ·split at e
         ·simp only[Bool.and_eq_true]at e;exact fR (cZ e.1.2).1 (by rw[(cZ e.1.2).2];exact pD)
         ·cases e
mutual
theorem uH:∀ (t:Tree) (k:Int),t.right k=true→t.fine
 | .mk h l,k,e=>by
  unfold Tree.right at e;rw[Bool.and_eq_true]at e;unfold Tree.fine;exact⟨uBB e.1,rF l h.kind e.2⟩
theorem rF:∀ (l:List Tree) (k:Int),bN l k=true→uEZ l
 | [],_,_=>trivial
 | t::r,k,e=>by
  unfold bN at e;simp only[Bool.and_eq_true]at e;exact⟨uH t k e.1.2,rF r k e.2⟩
end
theorem uET{ax:Ax}(ha:lD ax){L:List Tok}(h:EndR (fun x y=>x.place=y.place) L L){t:Tree}{ts:List Tok}{c:Nat}(hw:cD 65 ax 0 L 0=.ok t ts c):c=t.size∧t.right 6=true:=by
 have hr:=iS (ρ:=fun x y=>x.place=y.place) (G:=True) (B:=False) (d:=0) ha 65 65 0 0 (bM L) ⟨.inl rfl,fun h=>h.elim⟩ (.inl ⟨rfl,rfl⟩) L L 0 h (Nat.le_refl _);rcases hr with⟨t',ts1,ts1',c1,h1,_,_,_,h5⟩ | ⟨e,x,y,h1,_,_,_⟩
 ·rw[hw]at h1;cases h1;obtain⟨h6,h7⟩:=h5 trivial;exact⟨by omega,h7⟩
 ·rw[hw]at h1;cases h1
theorem lex_ends{s:Bs}{ts:List Tok}(h:iG s=.ok ts):EndR (fun x y=>x.place=y.place) (ts++[aW s.length]) (ts++[aW s.length]):=by
 obtain⟨f1,f2,_⟩:=mL s ts h;have:=iX (ρ:=fun x y=>x.place=y.place) (e:=aW s.length) (e':=aW s.length) id rfl (lL _ _ rfl rfl rfl rfl) ts (fun t ht=>⟨(f1 t ht).k0,rW (f1 t ht) _ rfl rfl rfl,by have:=(f1 t ht).hi;show t.place≤s.length;omega⟩) f2
 rwa [List.map_id]at this
theorem oE:∀ (n:Nat) (l:Bs) (x:Bs×Nat),l.length≤n→bG l=some x→x.1.length≤l.length
 | _,[],_,_,h=>by cases h
 | _,[c],x,_,h=>by
  unfold bG at h
  split at h
  ·cases h;simp
  ·cases h
 | 0,_::_::_,_,hn,_=>by simp at hn
 | n+1,c::d::l,x,hn,h=>by
  unfold bG at h
  split at h
  ·split at h
   ·cases hp:bG l with
    | none=>rw[hp]at h;cases h
    | some y=>
     rw[hp]at h;cases h;have:=oE n l y (by simp at hn;omega) hp;simp;omega
   ·cases h;simp
  ·cases hp:bG (d::l) with
   | none=>rw[hp]at h;cases h
   | some y=>
    rw[hp]at h;cases h;have:=oE n (d::l) y (by simp at hn ⊢;omega) hp;simp at this ⊢;omega
theorem uAQ(l:Bs):(aR l).2.1.length≤l.length:=by
 have ht:∀ n,(l.take n).length≤l.length:=fun n=>by rw[List.length_take];omega
 unfold aR
 split
 ·exact ht _
 ·split
  ·unfold iC
   split
   ·exact ht _
   ·split
    ·exact ht _
    ·exact Nat.zero_le _
  ·split
   ·unfold eH;cases h:bG (l.drop 1) with
    | none=>exact Nat.zero_le _
    | some x=>
     have:=oE _ _ x (Nat.le_refl _) h;rw[List.length_drop]at this;show x.1.length≤l.length;omega
   ·split
    ·exact tR l
    ·split
     ·exact ht _
     ·exact Nat.zero_le _
theorem nX:∀ (f:Nat) (l:Bs) (k:Nat) (ts:List Tok),dR f l k=.ok ts→∀ t∈ts,t.text.length≤l.length
 | 0,_,_,ts,h,t,ht=>by cases h;cases ht
 | _+1,[],_,ts,h,t,ht=>by cases h;cases ht
 | f+1,c::r,k,ts,h,t,ht=>by
  unfold dR at h
  split at h
  ·have:=nX f r _ ts h t ht;rw[List.length_cons];omega
  ·split at h
   ·cases h
   ·cases hg:dR f ((c::r).drop (aR (c::r)).2.2) (k+(aR (c::r)).2.2) with
    | error p=>rw[hg]at h;cases h
    | ok us=>
     rw[hg]at h;cases h;rcases List.mem_cons.1 ht with rfl | ht
     ·exact uAQ (c::r)
     ·have:=nX f _ _ us hg t ht;rw[List.length_drop]at this;omega
theorem text_le2(s:Bs)(ts:List Tok)(h:iG s=.ok ts):∀ t∈ts,t.text.length≤s.length:=nX _ _ _ _ h
end Go.Proofs.YtmgjidnalpgegaaGreatDoor
