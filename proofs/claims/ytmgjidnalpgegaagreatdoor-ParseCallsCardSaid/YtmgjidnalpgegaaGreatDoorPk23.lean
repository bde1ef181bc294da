/-
  Lemmas, part 23: PlSim3 PlLoc PlTok PlBr PaS.
-/
import Derived.Test.YtmgjidnalpgegaaGreatDoorPk22
set_option maxHeartbeats 100000000
namespace Go.Proofs.YtmgjidnalpgegaaGreatDoor
open Go.RowKit
def OpR(B:Prop)(op op' N:Nat):Prop:=(op=op'\/(op+N<=64/\op'+N<=64))/\(B->op+N<=64)
theorem OpR.more{B:Prop}{op op' M:Nat}(h:OpR B op op' (M+1)):OpR B (op+1) (op'+1) M :=
 ⟨by rcases h.1 with h1|⟨h1,h2⟩;exact .inl (by omega);exact .inr ⟨by omega,by omega⟩,fun hb=>by have:=h.2 hb;omega⟩
section
variable {ρ:Tok->Tok->Prop} {G B:Prop} {d N:Nat} {ax:Ax}
structure ArgI(l:List Tree)(ts:List Tok):Prop where
 right:bP l 4=true
 len:l.length<=31
 one:l=[]->isS (hd ts) [41]=false
def ArgsR(ρ:Tok->Tok->Prop)(G B:Prop)(d N c0:Nat)(o o':fT):Prop :=
 (∃ l ts ah c1,o=.ok l ts c1/\o'=.ok l ah (c1+d)/\EndR ρ ts ah/\cA ts<=N/\isS (hd ts) [41]=true/\(G->c1=c0+bH l/\bP l 4=true/\l.length<=32/\¬ (l.length=1/\(l.map fun t=>t.h.kind)=[9]))) \/
 (∃ e x y,o=.bad e x.place/\o'=.bad e y.place/\ρ x y/\Er B e)
theorem pD:fS.right 4=true:=by
 have e:bJ ⟨9,aC,[],aG,aG,0⟩ 0 [] 4=true:=by
  unfold bJ;simp[fV]
 show (bJ ⟨9,aC,[],aG,aG,0⟩ 0 [] 4&&bP [] 9)=true;rw[e];rfl
theorem zW{W W':List Tok->Nat->Out}(hW:PR ρ G B d N W W'):∀ (f:Nat) (l:List Tree) (ts ah:List Tok) (c0 c:Nat),EndR ρ ts ah->cA ts<=N->(G->ArgI l ts/\c=c0+bH l) ->
  ArgsR ρ G B d N c0 (bN W f l ts c) (bN W' f l ah (c+d)):=by
 intro f
 induction f with
 |zero=>intro l ts ah c0 c h hN _;exact .inr ⟨6,_,_,rfl,rfl,h.hd.rel,er6 B⟩
 |succ f ih=>
  intro l ts ah c0 c h hN hI;have hA:(∃ x ts1 c6 c1,iP W ts c=.ok x ts1 c1/\iP W' ah (c+d)=.ok x c6 (c1+d)/\EndR ρ ts1 c6/\cA ts1<=N/\(G->c1=c+x.size/\x.right 4=true/\(x.h.kind=9->l=[]->isS (hd ts1) [41]=false))) \/
    (∃ e x y,iP W ts c=.bad e x.place/\iP W' ah (c+d)=.bad e y.place/\ρ x y/\Er B e):=by
   unfold iP;rw[<- h.hd.isS [44],<- h.hd.isS [41]];by_cases hb:(isS (hd ts) [44]||isS (hd ts) [41])=true
   ·rw[if_pos hb,if_pos hb];exact .inl ⟨_,_,_,_,rfl,by rw[show c+d+1=c+1+d by omega],h,hN,fun hg=>⟨rfl,pD,fun _ h0=>(hI hg).1.one h0⟩⟩
   rw[if_neg hb,if_neg hb];rcases hW ts ah c h hN with⟨t,ts1,c6,c1,h1,h2,h3,h4,h5⟩|h1
   ·exact .inl ⟨t,ts1,c6,c1,h1,h2,h3,h4,fun hg=>⟨(h5 hg).1,gA (h5 hg).2 4,fun h9=>absurd h9 (vN (h5 hg).2)⟩⟩
   exact .inr h1
  unfold bN;rcases hA with⟨x,ts1,c6,c1,h1,h2,h3,h4,h5⟩|⟨e,x,y,h1,h2,h3,h4⟩
  ·rw[h1,h2];dsimp only;rw[<- h3.hd.isS [41],<- h3.hd.isS [44]];have hr:G->bP (l++[x]) 4=true:=fun hg=>by
    rw[sJ,(hI hg).1.right,(h5 hg).2.1];rfl
   have hc:G->c1=c0+bH (l++[x]):=fun hg=>by
    rw[vU];have:=(hI hg).2;have:=(h5 hg).1;omega
   by_cases b1:isS (hd ts1) [41]=true
   ·rw[if_pos b1,if_pos b1];refine .inl ⟨_,_,_,_,rfl,rfl,h3,h4,b1,fun hg=>⟨hc hg,hr hg,by have:=(hI hg).1.len;simp;omega,?_⟩⟩;rintro⟨kn,hk⟩;have qp:l=[]:=by
     cases l with
     |nil=>rfl
     |cons a l=>simp at kn
    subst qp;have h9:x.h.kind=9:=by simpa using hk
    rw[(h5 hg).2.2 h9 rfl]at b1;cases b1
   rw[if_neg b1,if_neg b1];by_cases b2:isS (hd ts1) [44]=true
   ·rw[if_pos b2,if_pos b2];by_cases b3:32<=l.length+1
    ·rw[if_pos b3,if_pos b3];exact .inr ⟨10,_,_,rfl,rfl,h3.hd.rel,er10 B⟩
    rw[if_neg b3,if_neg b3];exact ih (l++[x]) _ _ c0 c1 (h3.tail (dR b2)) (yv (bU _) h4) (fun hg=>⟨⟨hr hg,by simp;omega,fun h0=>by simp at h0⟩,hc hg⟩)
   rw[if_neg b2,if_neg b2];exact .inr ⟨6,_,_,rfl,rfl,h3.hd.rel,er6 B⟩
  rw[h1,h2];exact .inr ⟨e,x,y,rfl,rfl,h3,h4⟩
theorem mM{s:Bs}{l:List Tree}(hs:bR s=true)(h1:bP l 4=true)(h2:l.length<=32)(h3:¬ (l.length=1/\(l.map fun t=>t.h.kind)=[9])):(eF s l).right 6=true:=by
 have e:bJ ⟨4,aC,s,aG,aG,0⟩ l.length (l.map fun t=>t.h.kind) 6=true:=by
  have e4:∀ (n:Nat) (ks:List Int),bJ ⟨4,aC,s,aG,aG,0⟩ n ks 6=(bR s&&decide (n<=32)&&!(decide (n=1)&&decide (ks=[9]))&&NodeH.same ⟨4,aC,s,aG,aG,0⟩ ⟨4,aC,s,aG,aG,0⟩):=fun _ _=>rfl
  rw[e4,hs,fV,decide_eq_true h2];simp only[Bool.and_true,Bool.true_and,Bool.not_eq_true'];cases hx:(decide (l.length=1)&&decide ((l.map fun t=>t.h.kind)=[9]))
  ·rfl
  simp only[yh,decide_eq_true_eq]at hx;exact absurd hx h3
 show (bJ ⟨4,aC,s,aG,aG,0⟩ l.length (l.map fun t=>t.h.kind) 6&&bP l 4)=true;rw[e,h1];rfl
def InR(ρ:Tok->Tok->Prop)(G B:Prop)(d N op op':Nat)(W W':Nat->List Tok->Nat->Out):Prop:=∀ M,N=M+1->PR ρ G B d M (W (op+1)) (W' (op'+1))
theorem nxt_open{ρ:Tok->Tok->Prop}{ts ah:List Tok}(h:EndR ρ ts ah)(h3:(hd ts).kind≠0):nxt ts=hd ts.tail:=by
 cases h with
 |one h h0=>exact absurd h0 h3
 |more h h0 hm hr=>cases hr with
  |one h2 h3=>rfl
  |more h2 h3 vu hr=>rfl
theorem call_rel{op op':Nat}{W W':Nat->List Tok->Nat->Out}(ho:OpR B op op' N)(hW:InR ρ G B d N op op' W W'){ts ah:List Tok}{c:Nat}(h:EndR ρ ts ah)(hN:cA ts<=N)(h3:(hd ts).kind=3)(hs:isS (nxt ts) [40]=true) :
  OutR ρ G B d N c (nM W op ts c) (nM W' op' ah (c+d)):=by
 have h0:(hd ts).kind≠0:=by omega
 have ht:=h.tail h0;rw[nxt_open h h0]at hs;have ou:=ht.tail (dR hs);have hNt:cA ts.tail<=N:=yv (bU ts) hN;have rl:=uT hs;obtain⟨M,rfl⟩:∃ M,N=M+1:=⟨N-1,by omega⟩
 have hM:cA ts.tail.tail<=M:=by omega
 unfold nM;rw[<- h.hd.fold];by_cases hc:bR (aN (hd ts).text)=true
 ·have ld:¬ (!bR (aN (hd ts).text))=true:=by rw[hc];decide
  rw[if_neg ld,if_neg ld];have h64:(64<=op↔64<=op')/\(64<=op->¬ B):=by
   rcases ho with⟨ho|⟨o1,o2⟩,hb⟩
   ·exact⟨by rw[ho],fun h hB=>by have:=hb hB;omega⟩
   exact⟨⟨fun h=>by omega,fun h=>by omega⟩,fun h=>by omega⟩
  by_cases zo:64<=op
  ·rw[if_pos zo,if_pos (h64.1.1 zo)];exact .inr ⟨8,_,_,rfl,rfl,ht.hd.rel,by decide,by decide,by decide,fun hB=>absurd hB (h64.2 zo)⟩
  rw[if_neg zo,if_neg (fun h=>zo (h64.1.2 h))];rw[<- ou.hd.isS [41],<- h.len];have hargs:ArgsR ρ G B d M c (if isS (hd ts.tail.tail) [41]=true then fT.ok [] ts.tail.tail c else bN (W (op+1)) ts.length [] ts.tail.tail c) (if isS (hd ts.tail.tail) [41]=true then fT.ok [] ah.tail.tail (c+d) else bN (W' (op'+1)) ts.length [] ah.tail.tail (c+d)):=by
   by_cases b:isS (hd ts.tail.tail) [41]=true
   ·rw[if_pos b,if_pos b];exact .inl ⟨[],_,_,_,rfl,rfl,ou,hM,b,fun _=>⟨rfl,rfl,by decide,fun h=>by simp at h⟩⟩
   rw[if_neg b,if_neg b];exact zW (hW M rfl) ts.length [] _ _ c c ou hM (fun _=>⟨⟨rfl,by decide,fun _=>by simpa using b⟩,rfl⟩)
  rcases hargs with⟨l,ts1,c6,c1,h1,h2,h5,h6,h7,h8⟩|⟨e,x,y,h1,h2,h5,h6⟩
  ·rw[h1,h2];refine .inl ⟨_,_,_,_,rfl,by dsimp only;rw[show c1+d+1=c1+1+d by omega],h5.tail (dR h7),by have:=bU ts1;omega,fun hg=>?_⟩;obtain⟨g1,g2,g3,g4⟩:=h8 hg;exact⟨by show c1+1=c+(bH l+1);omega,mM hc g2 g3 g4⟩
  rw[h1,h2];exact .inr ⟨e,x,y,rfl,rfl,h5,h6⟩
 have ld:(!bR (aN (hd ts).text))=true:=by simpa using hc
 rw[if_pos ld,if_pos ld];exact iU h (er9 B)
theorem uGH{s:Bs}(hs:bS s=true):(uID s).right 6=true:=by
 have e:bJ ⟨7,aC,s,aG,aG,0⟩ 0 [] 6=true:=by
  have e7:bJ ⟨7,aC,s,aG,aG,0⟩ 0 [] 6=(bS s&&NodeH.same ⟨7,aC,s,aG,aG,0⟩ ⟨7,aC,s,aG,aG,0⟩&&decide (0=0)):=rfl;rw[e7,hs,fV];rfl
 show (bJ ⟨7,aC,s,aG,aG,0⟩ 0 [] 6&&bP [] 7)=true;rw[e];rfl
theorem name_rel{op op':Nat}{W W':Nat->List Tok->Nat->Out}(ho:OpR B op op' N)(hW:InR ρ G B d N op op' W W'){ts ah:List Tok}{c:Nat}(h:EndR ρ ts ah)(hN:cA ts<=N)(h3:(hd ts).kind=3) :
  OutR ρ G B d N c (nN W op ts c) (nN W' op' ah (c+d)):=by
 unfold nN;rw[<- h.nxt.isS [40],<- rW h.hd,<- h.hd.fold];by_cases b1:isS (nxt ts) [40]=true
 ·rw[if_pos b1,if_pos b1];exact call_rel ho hW h hN h3 b1
 rw[if_neg b1,if_neg b1];by_cases b2:cJ (hd ts)=true
 ·rw[if_pos b2,if_pos b2];exact yY ts ah c h hN
 rw[if_neg b2,if_neg b2];by_cases b3:bS (aN (hd ts).text)=true
 ·rw[if_pos b3,if_pos b3];exact .inl ⟨_,_,_,_,rfl,by rw[show c+d+1=c+1+d by omega],h.tail (by omega),yv (bU ts) hN,fun _=>⟨rfl,uGH b3⟩⟩
 rw[if_neg b3,if_neg b3];exact iU h (er9 B)
theorem uCG(ha:lU ax){op op':Nat}{W W':Nat->List Tok->Nat->Out}(ho:OpR B op op' N)(hW:InR ρ G B d N op op' W W'):PR ρ G B d N (fI W ax op) (fI W' ax op'):=by
 intro ts ah c h hN;unfold fI;rw[<- h.hd.kind,<- h.nxt.isS [58],<- jI h.hd.fold,<- h.hd.isS [40],<- h.hd.isS [123]];by_cases k1:(hd ts).kind=1
 ·rw[if_pos k1,if_pos k1]
  split
  ·exact rE ha ts ah c h hN
  exact yY ts ah c h hN
 rw[if_neg k1,if_neg k1];by_cases k2:(hd ts).kind=2\/(hd ts).kind=6
 ·rw[if_pos k2,if_pos k2];exact yY ts ah c h hN
 rw[if_neg k2,if_neg k2];by_cases k3:(hd ts).kind=3
 ·rw[if_pos k3,if_pos k3]
  split
  ·exact rE ha ts ah c h hN
  exact name_rel ho hW h hN k3
 rw[if_neg k3,if_neg k3];by_cases k4:(hd ts).kind=4
 ·rw[if_pos k4,if_pos k4]
  split
  ·exact uIT ha ts ah c h hN
  exact rE ha ts ah c h hN
 rw[if_neg k4,if_neg k4];by_cases b1:isS (hd ts) [40]=true
 ·rw[if_pos b1,if_pos b1];have rl:=uT b1;have ht:=h.tail (dR b1);obtain⟨M,rfl⟩:∃ M,N=M+1:=⟨N-1,by omega⟩
  have hM:cA ts.tail<=M:=by omega
  have h64:(64<=op↔64<=op')/\(64<=op->¬ B):=by
   rcases ho with⟨ho|⟨o1,o2⟩,hb⟩
   ·exact⟨by rw[ho],fun h hB=>by have:=hb hB;omega⟩
   exact⟨⟨fun h=>by omega,fun h=>by omega⟩,fun h=>by omega⟩
  by_cases zo:64<=op
  ·rw[if_pos zo,if_pos (h64.1.1 zo)];exact .inr ⟨8,_,_,rfl,rfl,h.hd.rel,by decide,by decide,by decide,fun hB=>absurd hB (h64.2 zo)⟩
  rw[if_neg zo,if_neg (fun h=>zo (h64.1.2 h))];rcases hW M rfl ts.tail ah.tail c ht hM with⟨t,ts1,c6,c1,h1,h2,h3,h4,h5⟩|⟨e,x,y,h1,h2,h3,h4⟩
  ·rw[h1,h2];dsimp only;rw[<- h3.hd.isS [41]];by_cases b2:isS (hd ts1) [41]=true
   ·rw[if_pos b2,if_pos b2];exact .inl ⟨t,_,_,_,rfl,rfl,h3.tail (dR b2),by have:=bU ts1;omega,h5⟩
   rw[if_neg b2,if_neg b2];exact iU h3 (er6 B)
  rw[h1,h2];exact .inr ⟨e,x,y,rfl,rfl,h3,h4⟩
 rw[if_neg b1,if_neg b1];by_cases b2:isS (hd ts) [123]=true
 ·rw[if_pos b2,if_pos b2];exact uFL h hN b2
 rw[if_neg b2,if_neg b2];exact iU h (er6 B)
theorem uHX:∀ (f:Nat) (t:Tree) (ts ah:List Tok) (c0 c:Nat),EndR ρ ts ah->cA ts<=N->(G->c=c0+t.size/\t.right 6=true)->OutR ρ G B d N c0 (fQ f t ts c) (fQ f t ah (c+d)):=by
 intro f
 induction f with
 |zero=>intro t ts ah c0 c h hN hI;exact .inl ⟨t,ts,ah,c,rfl,rfl,h,hN,hI⟩
 |succ f ih=>
  intro t ts ah c0 c h hN hI;unfold fQ;rw[<- h.hd.isS [37]];by_cases b:isS (hd ts) [37]=true
  ·rw[if_pos b,if_pos b,show c+d+1=c+1+d by omega];refine ih _ _ _ c0 (c+1) (h.tail (dR b)) (yv (bU ts) hN) (fun hg=>?_);obtain⟨g1,g2⟩:=uCX (s:=[37]) (by decide) (hI hg).2;exact⟨by rw[g2];have:=(hI hg).1;omega,g1⟩
  rw[if_neg b,if_neg b];exact .inl ⟨t,ts,ah,c,rfl,rfl,h,hN,hI⟩
theorem zJ{P P':List Tok->Nat->Out}{ts ah:List Tok}{c:Nat}(h0:OutR ρ G B d N c (P ts c) (P' ah (c+d))):OutR ρ G B d N c (bM P ts c) (bM P' ah (c+d)):=by
 unfold bM;rcases h0 with⟨t,ts1,c6,c1,h1,h2,h3,h4,h5⟩|⟨e,x,y,h1,h2,h3,h4⟩
 ·rw[h1,h2];dsimp only;rw[<- h3.len];exact uHX _ t ts1 c6 c c1 h3 h4 h5
 rw[h1,h2];exact .inr ⟨e,x,y,rfl,rfl,h3,h4⟩
theorem sE{P P':List Tok->Nat->Out}(hP:PR ρ G B d N P P'):PR ρ G B d N (bM P) (bM P'):=fun ts ah c h hN=>zJ (hP ts ah c h hN)
theorem uIK{ts ah:List Tok}(h:EndR ρ ts ah):bD ts=bD ah/\EndR ρ (ts.drop (bD ts)) (ah.drop (bD ts))/\cA (ts.drop (bD ts))<=cA ts /\
  (∀ t,(ts.take (bD ts)).foldr (fun s n=>tUn s.text n) t=(ah.take (bD ts)).foldr (fun s n=>tUn s.text n) t) /\
  (∀ t:Tree,t.right 6=true->((ts.take (bD ts)).foldr (fun s n=>tUn s.text n) t).right 6=true/\((ts.take (bD ts)).foldr (fun s n=>tUn s.text n) t).size=t.size+bD ts):=by
 induction h with
 | @one e e' h h0=>
  have ha:dA e=false:=by
   unfold dA isS;simp[h0]
  have ha':dA e'=false:=by
   unfold dA isS;simp[<- h.kind,h0]
  have e1:bD [e]=0:=by unfold bD;rw[ha];rfl
  have e2:bD [e']=0:=by unfold bD;rw[ha'];rfl
  rw[e1,e2];exact⟨rfl,.one h h0,zr,fun _=>rfl,fun t ht=>⟨ht,rfl⟩⟩
 | @more t t' ts ah h h0 hm hr ih=>
  have hA:dA t=dA t':=by
   unfold dA;rw[h.isS [43],h.isS [45]]
  cases ha:dA t with
  |false=>
   have e1:bD (t::ts)=0:=by unfold bD;rw[ha];rfl
   have e2:bD (t'::ah)=0:=by unfold bD;rw[<- hA,ha];rfl
   rw[e1,e2];exact⟨rfl,.more h h0 hm hr,zr,fun _=>rfl,fun t ht=>⟨ht,rfl⟩⟩
  |true=>
   obtain⟨i1,i2,i3,i4,i5⟩:=ih;have e1:bD (t::ts)=bD ts+1:=by rw[bD,ha,if_pos rfl]
   have e2:bD (t'::ah)=bD ah+1:=by rw[bD,<- hA,ha,if_pos rfl]
   have hk:t.kind=5/\(t.text=[43]\/t.text=[45]):=by
    unfold dA isS at ha;simp at ha;rcases ha with⟨h1,h2⟩|⟨h1,h2⟩
    ·exact⟨h1,.inl h2⟩
    exact⟨h1,.inr h2⟩
   have htx:=h.same (.inr (.inl hk.1));rw[e1,e2];refine⟨by rw[i1],i2,yv i3 (Nat.le_add_left _ _),fun x=>?_,fun x hx=>?_⟩
   ·show tUn t.text _=tUn t'.text _;rw[htx,i4 x]
   obtain⟨g1,g2⟩:=i5 x hx;obtain⟨g3,g4⟩:=uCX (s:=t.text) (by rcases hk.2 with e|e <;> rw[e] <;> decide) g1;refine⟨g3,?_⟩;show (tUn t.text _).size=_;rw[g4,g2];omega
theorem vT{P P':List Tok->Nat->Out}(hP:PR ρ G B d N P P'):PR ρ G B d N (cP P) (cP P'):=by
 intro ts ah c h hN;obtain⟨i1,i2,i3,i4,i5⟩:=uIK h;unfold cP;rw[<- i1];rcases hP _ _ c i2 (yv i3 hN) with⟨t,ts1,c6,c1,h1,h2,h3,h4,h5⟩|⟨e,x,y,h1,h2,h3,h4⟩
 ·rw[h1,h2];refine .inl ⟨_,_,_,_,rfl,?_,h3,h4,fun hg=>?_⟩
  ·dsimp only;rw[i4 t,show c1+d+bD ts=c1+bD ts+d by omega]
  obtain⟨g1,g2⟩:=i5 t (h5 hg).2;refine⟨?_,g1⟩;rw[g2];have:=(h5 hg).1;omega
 rw[h1,h2];exact .inr ⟨e,x,y,rfl,rfl,h3,h4⟩
theorem uJK{t t':Tok}(h:TokR ρ t t')(sg:List Bs):dB sg t=dB sg t':=by
 unfold dB;by_cases h5:t.kind=5
 ·rw[h.same (.inr (.inl h5)),h.kind]
 rw[decide_eq_false h5,decide_eq_false (by rw[<- h.kind];exact h5)];rfl
theorem yV{P P':List Tok->Nat->Out}(hP:PR ρ G B d N P P'){sg:List Bs}(ik:∀ s∈sg,kZ s=true):∀ (f:Nat) (t:Tree) (ts ah:List Tok) (c0 c:Nat),EndR ρ ts ah->cA ts<=N->(G->c=c0+t.size/\t.right 6=true) ->
  OutR ρ G B d N c0 (dX P sg f t ts c) (dX P' sg f t ah (c+d)):=by
 intro f
 induction f with
 |zero=>intro t ts ah c0 c h hN hI;exact .inl ⟨t,ts,ah,c,rfl,rfl,h,hN,hI⟩
 |succ f ih=>
  intro t ts ah c0 c h hN hI;unfold dX;rw[<- uJK h.hd sg];by_cases b:dB sg (hd ts)=true
  ·rw[if_pos b,if_pos b];have hb:=b;unfold dB at hb;simp only[yh,decide_eq_true_eq]at hb;have h0:(hd ts).kind≠0:=by omega
   have htx:=h.hd.same (.inr (.inl hb.1));rcases hP ts.tail ah.tail c (h.tail h0) (yv (bU ts) hN) with⟨x,ts1,c6,c1,h1,h2,h3,h4,h5⟩|⟨e,x,y,h1,h2,h3,h4⟩
   ·rw[h1,h2];dsimp only;rw[htx,show c1+d+1=c1+1+d by omega];refine ih _ ts1 c6 c0 (c1+1) h3 h4 (fun hg=>?_);obtain⟨g1,g2⟩:=xY (s:=(hd ah).text) (ik _ (by rw[<- htx];exact List.contains_iff_mem.1 hb.2)) (hI hg).2 (h5 hg).2;refine⟨?_,g1⟩;rw[g2];have:=(hI hg).1;have:=(h5 hg).1;omega
   rw[h1,h2];exact .inr ⟨e,x,y,rfl,rfl,h3,h4⟩
  rw[if_neg b,if_neg b];exact .inl ⟨t,ts,ah,c,rfl,rfl,h,hN,hI⟩
theorem uFD{P P':List Tok->Nat->Out}(hP:PR ρ G B d N P P'){sg:List Bs}(ik:∀ s∈sg,kZ s=true){ts ah:List Tok}{c:Nat}(h0:OutR ρ G B d N c (P ts c) (P' ah (c+d))):OutR ρ G B d N c (bL P sg ts c) (bL P' sg ah (c+d)):=by
 unfold bL;rcases h0 with⟨t,ts1,c6,c1,h1,h2,h3,h4,h5⟩|⟨e,x,y,h1,h2,h3,h4⟩
 ·rw[h1,h2];dsimp only;rw[<- h3.len];exact yV hP ik _ t ts1 c6 c c1 h3 h4 h5
 rw[h1,h2];exact .inr ⟨e,x,y,rfl,rfl,h3,h4⟩
theorem gE{P P':List Tok->Nat->Out}(hP:PR ρ G B d N P P'){sg:List Bs}(ik:∀ s∈sg,kZ s=true):PR ρ G B d N (bL P sg) (bL P' sg):=fun ts ah c h hN=>uFD hP ik (hP ts ah c h hN)
theorem vR:∀ s∈rL,kZ s=true:=by decide
theorem pF:∀ s∈pE,kZ s=true:=by decide
theorem rK:∀ s∈gR,kZ s=true:=by decide
theorem rM:∀ s∈qK,kZ s=true:=by decide
theorem rN:∀ s∈oN,kZ s=true:=by decide
theorem uDM{P P':List Tok->Nat->Out}(hP:PR ρ G B d N P P'):PR ρ G B d N (eD P) (eD P'):=by
 unfold eD;exact gE (gE (gE (gE (gE (vT (sE hP)) rN) rM) rK) pF) vR
end
theorem lT{ρ:Tok->Tok->Prop}{G B:Prop}{d:Nat}{ax:Ax}(ha:lU ax):∀ (f f' op op' N:Nat),OpR B op op' N->((op=op'/\f=f')\/(N<f/\N<f'))->PR ρ G B d N (bY f ax op) (bY f' ax op'):=by
 intro f
 induction f with
 |zero=>
  intro f' op op' N ho hf;rcases hf with⟨_,rfl⟩|⟨h,_⟩
  ·intro ts ah c h hN;exact iU h (er6 B)
  omega
 |succ f ih=>
  intro f' op op' N ho hf;cases f' with
  |zero=>rcases hf with⟨_,h⟩|⟨_,h⟩ <;> omega
  |succ f'=>
   have hp:PR ρ G B d N (fI (bY f ax) ax op) (fI (bY f' ax) ax op'):=uCG ha ho (fun M hM=>by
    subst hM;refine ih f' (op+1) (op'+1) M ho.more ?_;rcases hf with⟨h1,h2⟩|⟨h1,h2⟩
    ·exact .inl ⟨by omega,by omega⟩
    exact .inr ⟨by omega,by omega⟩)
   exact uDM hp
def ResR(ρ:Tok->Tok->Prop)(r r':Except (Nat×Nat) Tree):Prop :=
 (∃ t,r=.ok t/\r'=.ok t/\t.right 6=true/\t.size<=256/\t.depth<=32)\/(∃ e,(e=5\/e=8)/\r=.error (e,0)/\r'=.error (e,0)) \/
 (∃ e x y,r=.error (e,x.place)/\r'=.error (e,y.place)/\ρ x y/\Er False e)
theorem uAG{t:Tree}(h:t.right 6=true)(hs:t.size<=256):(cK t=0/\t.depth<=32)\/cK t=8:=by
 unfold cK;rw[if_neg (by omega),h];by_cases hd:32<t.depth
 ·rw[if_pos hd];exact .inr rfl
 rw[if_neg hd,if_pos rfl];exact .inl ⟨rfl,by omega⟩
theorem uGW{ρ:Tok->Tok->Prop}{ax:Ax}(ha:lU ax){ts ah:List Tok}(h:EndR ρ ts ah):ResR ρ (eS ax ts) (eS ax ah):=by
 have hw:=lT (ρ:=ρ) (G:=True) (B:=False) (d:=0) ha 65 65 0 0 (cA ts) ⟨.inl rfl,fun h=>h.elim⟩ (.inl ⟨rfl,rfl⟩) ts ah 0 h zr;unfold eS;rcases hw with⟨t,ts1,c6,c1,h1,h2,h3,h4,h5⟩|⟨e,x,y,h1,h2,h3,h4⟩
 ·rw[h1,h2];dsimp only;obtain⟨g1,g2⟩:=h5 trivial;rw[<- h3.hd.kind];by_cases k0:(hd ts1).kind≠0
  ·rw[if_pos k0,if_pos k0];exact .inr (.inr ⟨6,_,_,rfl,rfl,h3.hd.rel,er6 _⟩)
  rw[if_neg k0,if_neg k0,Nat.add_zero];by_cases k1:256<c1
  ·rw[if_pos k1];exact .inr (.inl ⟨5,.inl rfl,rfl,rfl⟩)
  rw[if_neg k1];rcases uAG g2 (by omega) with⟨hc,hd⟩|hc
  ·rw[hc];exact .inl ⟨t,rfl,rfl,g2,by omega,hd⟩
  rw[hc];exact .inr (.inl ⟨8,.inr rfl,rfl,rfl⟩)
 rw[h1,h2];exact .inr (.inr ⟨e,x,y,rfl,rfl,h3,h4⟩)
inductive LocR (e:Tok) (Y:List Tok):List Tok->List Tok->Prop where
 |stop:LocR e Y [e] Y
 |more {t:Tok} {ts ah:List Tok} (h0:t.kind≠0) (hr:LocR e Y ts ah):LocR e Y (t::ts) (t::ah)
def vL(Y1:List Tok)(x z:Tok):Prop:=x=z/\x∈Y1
structure StopOk(e y:Tok)(Y1:List Tok):Prop where
 e0:e.kind=0
 ys:isS y [41]=true\/isS y [44]=true
 self:EndR (vL Y1) Y1 Y1
def Far(y:Tok)(Y1:List Tok)(o:Out):Prop:=(∃ t ts c,o=.ok t ts c/\EndR (vL Y1) ts ts)\/(∃ k x,o=.bad k x.place/\x∈y::Y1)
def LocO(e y:Tok)(Y1:List Tok)(n n':Nat)(o o':Out):Prop :=
 (∃ t ts ah c1,o=.ok t ts c1/\o'=.ok t ah c1/\LocR e (y::Y1) ts ah/\ts.length<=n/\ah.length<=n')\/(∃ k p,o=.bad k p/\o'=.bad k p)\/((∃ k,o=.bad k e.place)/\Far y Y1 o')
def PL(e y:Tok)(Y1:List Tok)(P P':List Tok->Nat->Out):Prop:=∀ ts ah c,LocR e (y::Y1) ts ah->LocO e y Y1 ts.length ah.length (P ts c) (P' ah c)
def PSf(Y1:List Tok)(P:List Tok->Nat->Out):Prop:=∀ N,PR (vL Y1) False False 0 N P P
theorem yP{y:Tok}{Y1:List Tok}{G B:Prop}{N c:Nat}{o:Out}(h:OutR (vL Y1) G B 0 N c o o):Far y Y1 o:=by
 rcases h with⟨t,ts,ah,c1,h1,h2,h3,_,_⟩|⟨e,x,z,h1,h2,h3,_⟩
 ·rw[h1]at h2;injection h2 with _ h2 _;subst h2;exact .inl ⟨t,ts,c1,h1,h3⟩
 exact .inr ⟨e,x,h1,zg _ h3.2⟩
theorem LocO.wide{e y:Tok}{Y1:List Tok}{n n' m m':Nat}{o o':Out}(h:LocO e y Y1 n n' o o')(h1:n<=m)(h2:n'<=m'):LocO e y Y1 m m' o o':=by
 rcases h with⟨t,ts,ah,c1,g1,g2,g3,g4,g5⟩|h
 ·exact .inl ⟨t,ts,ah,c1,g1,g2,g3,by omega,by omega⟩
 exact .inr h
theorem LocR.cut{e y:Tok}{Y1 ts ah:List Tok}(h:LocR e (y::Y1) ts ah):(ts=[e]/\ah=y::Y1)\/(hd ts=hd ah/\(hd ts).kind≠0):=by
 cases h with
 |stop=>exact .inl ⟨rfl,rfl⟩
 |more h0 hr=>exact .inr ⟨rfl,h0⟩
theorem nE{y:Tok}{Y1:List Tok}(k:Nat):Far y Y1 (.bad k y.place):=.inr ⟨k,y,rfl,.head _⟩
theorem far_hd{y:Tok}{Y1 ts:List Tok}(h:EndR (vL Y1) ts ts)(k:Nat):Far y Y1 (.bad k (hd ts).place):=.inr ⟨k,_,rfl,zg _ h.hd.rel.2⟩
theorem uJD{y:Tok}{Y1:List Tok}{W:List Tok->Nat->Out}(hS:PSf Y1 W)(f:Nat)(l:List Tree){ts:List Tok}(hs:EndR (vL Y1) ts ts)(c:Nat):(∃ l1 ts1 c1,bN W f l ts c=.ok l1 ts1 c1/\EndR (vL Y1) ts1.tail ts1.tail)\/(∃ k x,bN W f l ts c=.bad k x.place/\x∈y::Y1):=by
 rcases zW (G:=False) (B:=False) (d:=0) (hS (cA ts)) f l ts ts 0 c hs zr (fun h=>h.elim) with⟨l1,ts1,c6,c1,h1,h2,h3,h4,h5,_⟩|⟨k,x,z,h1,h2,h3,_⟩
 ·have rs:bN W f l ts c=.ok l1 c6 (c1+0):=h2;rw[h1]at rs;injection rs with _ rs _;subst rs;exact .inl ⟨l1,ts1,c1,h1,h3.tail (dR h5)⟩
 exact .inr ⟨k,x,h1,zg _ h3.2⟩
section
variable {e y:Tok} {Y1:List Tok} (hY:StopOk e y Y1) {ax:Ax}
include hY
theorem StopOk.y5:y.kind=5:=by
 rcases hY.ys with h|h <;> (unfold isS at h;simp at h;exact h.1)
theorem StopOk.ynot{s:Bs}(h1:s≠[41])(h2:s≠[44]):isS y s=false:=by
 rcases hY.ys with h|h
 all_goals
  unfold isS at h ⊢;simp at h;rw[h.2];simp;intro _ e
  first|exact h1 e.symm|exact h2 e.symm
theorem StopOk.enot(s:Bs):isS e s=false:=by
 unfold isS;rw[hY.e0];rfl
theorem LocR.isS{ts ah:List Tok}(h:LocR e (y::Y1) ts ah){s:Bs}(h1:s≠[41])(h2:s≠[44]):isS (hd ah) s=isS (hd ts) s:=by
 cases h with
 |stop=>show Go.Proofs.YtmgjidnalpgegaaGreatDoor.isS y s=Go.Proofs.YtmgjidnalpgegaaGreatDoor.isS e s;rw[hY.enot,hY.ynot h1 h2]
 |more h0 hr=>rfl
theorem LocR.tail{ts ah:List Tok}(h:LocR e (y::Y1) ts ah)(h0:(hd ts).kind≠0):LocR e (y::Y1) ts.tail ah.tail/\ts.tail.length<ts.length/\ah.tail.length<ah.length:=by
 cases h with
 |stop=>exact absurd hY.e0 h0
 |more h0 hr=>exact⟨hr,Nat.lt_succ_self _,Nat.lt_succ_self _⟩
theorem litV_e:eM e=.error 6:=by
 have hi:cJ e=false:=by unfold cJ;rw[hY.e0];rfl
 unfold eM;rw[hY.e0,hi];rfl
theorem litV_y:eM y=.error 6:=by
 have hi:cJ y=false:=by unfold cJ;rw[hY.y5];rfl
 unfold eM;rw[hY.y5,hi];rfl
theorem yX:PL e y Y1 cN cN:=by
 intro ts ah c h;cases h with
 |stop=>
  refine .inr (.inr ⟨⟨6,?_⟩,?_⟩)
  ·unfold cN;rw[show hd [e]=e from rfl,litV_e hY];rfl
  unfold cN;rw[show hd (y::Y1)=y from rfl,litV_y hY];exact nE 6
 | @more t ts ah h0 hr=>
  unfold cN;show LocO _ _ _ _ _ (match eM t with|.error e=>_ | .ok v=>_) (match eM t with|.error e=>_ | .ok v=>_);cases eM t with
  |error k=>exact .inr (.inl ⟨k,t.place,rfl,rfl⟩)
  |ok v=>exact .inl ⟨_,_,_,_,rfl,rfl,hr,Nat.le_succ _,Nat.le_succ _⟩
theorem cell_e:dZ ax [e]=.error 6:=by
 unfold dZ;rw[show hd [e]=e from rfl,hY.e0];rfl
theorem cell_y:dZ ax (y::Y1)=.error 6:=by
 unfold dZ;rw[show hd (y::Y1)=y from rfl,hY.y5];rfl
theorem uIS:PL e y Y1 (iV ax) (iV ax):=by
 intro ts ah c h;rcases LocR.cut h with⟨rfl,rfl⟩|⟨e1,e2⟩
 ·refine .inr (.inr ⟨⟨6,?_⟩,?_⟩)
  ·unfold iV;rw[cell_e hY];rfl
  unfold iV;rw[cell_y hY];exact nE 6
 obtain⟨hr,j7,hr3⟩:=LocR.tail hY h e2;unfold iV;have hca:dZ ax ah=dZ ax ts:=by unfold dZ;rw[e1]
 rw[hca];cases hc:dZ ax ts with
 |error k=>exact .inr (.inl ⟨k,_,rfl,by show Out.bad k (hd ah).place=_;rw[<- e1]⟩)
 |ok a=>
  dsimp only;rw[LocR.isS hY hr (s:=[35]) (by decide) (by decide),LocR.isS hY hr (s:=[58]) (by decide) (by decide)];by_cases m9:isS (hd ts.tail) [35]=true
  ·rw[if_pos m9,if_pos m9];obtain⟨g1,g2,g3⟩:=LocR.tail hY hr (dR m9);exact .inl ⟨_,_,_,_,rfl,rfl,g1,by omega,by omega⟩
  rw[if_neg m9,if_neg m9];by_cases l7:isS (hd ts.tail) [58]=true
  ·rw[if_pos l7,if_pos l7];obtain⟨g1,g2,g3⟩:=LocR.tail hY hr (dR l7);rcases LocR.cut g1 with⟨e1,e2⟩|⟨e1,e2⟩
   ·rw[e1,e2,cell_e hY,cell_y hY];exact .inr (.inr ⟨⟨6,rfl⟩,nE 6⟩)
   have hce:dZ ax ah.tail.tail=dZ ax ts.tail.tail:=by unfold dZ;rw[e1]
   rw[hce];cases hb:dZ ax ts.tail.tail with
   |error k=>exact .inr (.inl ⟨k,_,rfl,by show Out.bad k (hd ah.tail.tail).place=_;rw[<- e1]⟩)
   |ok b=>
    obtain⟨k1,k2,k3⟩:=LocR.tail hY g1 e2;exact .inl ⟨_,_,_,_,rfl,rfl,k1,by omega,by omega⟩
  rw[if_neg l7,if_neg l7];exact .inl ⟨_,_,_,_,rfl,rfl,hr,by omega,by omega⟩
theorem line_e(row col:Bool):dD ax row col [e]=.error 6:=by
 unfold dD;rw[show hd [e]=e from rfl,hY.e0];rfl
theorem line_y(row col:Bool):dD ax row col (y::Y1)=.error 6:=by
 unfold dD;rw[show hd (y::Y1)=y from rfl,hY.y5];rfl
theorem rD:PL e y Y1 (fY ax) (fY ax):=by
 intro ts ah c h;rcases LocR.cut h with⟨rfl,rfl⟩|⟨e1,e2⟩
 ·refine .inr (.inr ⟨⟨6,?_⟩,?_⟩)
  ·unfold fY;rw[line_e hY];rfl
  unfold fY;rw[line_y hY];exact nE 6
 obtain⟨hr,j7,hr3⟩:=LocR.tail hY h e2;unfold fY;have hca:dD ax true true ah=dD ax true true ts:=by unfold dD;rw[e1]
 rw[hca];cases hc:dD ax true true ts with
 |error k=>exact .inr (.inl ⟨k,_,rfl,by show Out.bad k (hd ah).place=_;rw[<- e1]⟩)
 |ok a=>
  dsimp only;rw[LocR.isS hY hr (s:=[58]) (by decide) (by decide)];by_cases l7:isS (hd ts.tail) [58]=true
  ·rw[if_pos l7,if_pos l7];obtain⟨g1,g2,g3⟩:=LocR.tail hY hr (dR l7);rcases LocR.cut g1 with⟨e1,e2⟩|⟨e1,e2⟩
   ·rw[e1,e2,line_e hY,line_y hY];exact .inr (.inr ⟨⟨6,rfl⟩,nE 6⟩)
   have hce:dD ax (decide (a.row≠id0)) (decide (a.col≠id0)) ah.tail.tail=dD ax (decide (a.row≠id0)) (decide (a.col≠id0)) ts.tail.tail:=by unfold dD;rw[e1]
   rw[hce];cases hb:dD ax (decide (a.row≠id0)) (decide (a.col≠id0)) ts.tail.tail with
   |error k=>exact .inr (.inl ⟨k,_,rfl,by show Out.bad k (hd ah.tail.tail).place=_;rw[<- e1]⟩)
   |ok b=>
    obtain⟨k1,k2,k3⟩:=LocR.tail hY g1 e2;exact .inl ⟨_,_,_,_,rfl,rfl,k1,by omega,by omega⟩
  rw[if_neg l7,if_neg l7];rcases LocR.cut hr with⟨e1,e2⟩|⟨e1,e2⟩
  ·rw[e1,e2];exact .inr (.inr ⟨⟨6,rfl⟩,nE 6⟩)
  exact .inr (.inl ⟨6,_,rfl,by show Out.bad 6 (hd ah.tail).place=_;rw[<- e1]⟩)
theorem uAO{ts ah:List Tok}(c:Nat)(h:LocR e (y::Y1) ts ah) :
  (∃ t ts1 c6 c1,dC ts c=.ok t ts1 c1/\dC ah c=.ok t c6 c1/\LocR e (y::Y1) ts1 c6/\ts1.length<=ts.length/\c6.length<=ah.length)\/(∃ k p,dC ts c=.bad k p/\dC ah c=.bad k p)\/(∃ k,dC ts c=.bad k e.place/\dC ah c=.bad k y.place):=by
 unfold dC;rw[LocR.isS hY h (s:=[45]) (by decide) (by decide)];by_cases jm:isS (hd ts) [45]=true
 ·rw[if_pos jm,if_pos jm];obtain⟨g1,g2,g3⟩:=LocR.tail hY h (dR jm);rcases LocR.cut g1 with⟨e1,e2⟩|⟨e1,e2⟩
  ·rw[e1,e2];have q1:(hd [e]).kind≠1:=by show e.kind≠1;rw[hY.e0];decide
   have q2:(hd (y::Y1)).kind≠1:=by show y.kind≠1;rw[hY.y5];decide
   rw[if_pos q1,if_pos q2];exact .inr (.inr ⟨6,rfl,rfl⟩)
  rw[e1];by_cases h1:(hd ah.tail).kind≠1
  ·rw[if_pos h1,if_pos h1];exact .inr (.inl ⟨6,_,by show Out.bad 6 (hd ts.tail).place=_;rw[e1],rfl⟩)
  rw[if_neg h1,if_neg h1];cases hl:eM (hd ah.tail) with
  |error k=>exact .inr (.inl ⟨k,_,by show Out.bad k (hd ts.tail).place=_;rw[e1],rfl⟩)
  |ok v=>
   obtain⟨k1,k2,k3⟩:=LocR.tail hY g1 e2;exact .inl ⟨_,_,_,_,rfl,rfl,k1,by omega,by omega⟩
 rw[if_neg jm,if_neg jm];unfold cN;rcases LocR.cut h with⟨e1,e2⟩|⟨e1,e2⟩
 ·rw[e1,e2];rw[show hd [e]=e from rfl,litV_e hY,show hd (y::Y1)=y from rfl,litV_y hY];exact .inr (.inr ⟨6,rfl,rfl⟩)
 rw[e1];cases hl:eM (hd ah) with
 |error k=>exact .inr (.inl ⟨k,_,by show Out.bad k (hd ts).place=_;rw[e1],rfl⟩)
 |ok v=>
  obtain⟨k1,k2,k3⟩:=LocR.tail hY h e2;exact .inl ⟨_,_,_,_,rfl,rfl,k1,by omega,by omega⟩
theorem mat_loc:∀ (f f':Nat) (rows cols wide:Nat) (l:List Tree) (ts ah:List Tok) (c:Nat),LocR e (y::Y1) ts ah->ts.length<=f->ah.length<=f'->LocO e y Y1 ts.length ah.length (eY f rows cols wide l ts c) (eY f' rows cols wide l ah c):=by
 intro f
 induction f with
 |zero=>intro f' rows cols wide l ts ah c h h1 h2;cases h <;> simp at h1
 |succ f ih=>
  intro f' rows cols wide l ts ah c h hf hf';cases f' with
  |zero=>cases h <;> simp at hf'
  |succ f'=>
   unfold eY;rcases uAO hY c h with⟨t,ts1,c6,c1,h1,h2,h3,h4,h5⟩|⟨k,p,h1,h2⟩|⟨k,h1,h2⟩
   ·rw[h1,h2];dsimp only;rcases LocR.cut h3 with⟨e1,e2⟩|⟨e1,e2⟩
    ·rw[e1,e2,show hd [e]=e from rfl,show hd (y::Y1)=y from rfl,hY.enot,hY.enot,hY.enot,hY.ynot (s:=[59]) (by decide) (by decide),hY.ynot (s:=[125]) (by decide) (by decide)];simp only[Bool.false_and,Bool.false_eq_true,if_false];refine .inr (.inr ⟨⟨6,rfl⟩,?_⟩)
     split
     ·exact yP (N:=cA Y1) (c:=0) (uHP (G:=False) (B:=False) (d:=0) f' rows cols (wide+1) (l++[t]) Y1 Y1 0 c1 hY.self zr (fun h=>h.elim))
     exact nE 6
    rw[e1];obtain⟨g1,g2,g3⟩:=LocR.tail hY h3 e2
    split
    ·exact(ih f' _ _ _ _ _ _ _ g1 (by omega) (by omega)).wide (by omega) (by omega)
    split
    ·exact(ih f' _ _ _ _ _ _ _ g1 (by omega) (by omega)).wide (by omega) (by omega)
    split
    ·exact .inl ⟨_,_,_,_,rfl,rfl,g1,by omega,by omega⟩
    exact .inr (.inl ⟨6,_,by show Out.bad 6 (hd ts1).place=_;rw[e1],rfl⟩)
   ·rw[h1,h2];exact .inr (.inl ⟨k,p,rfl,rfl⟩)
   rw[h1,h2];exact .inr (.inr ⟨⟨k,rfl⟩,nE k⟩)
theorem uFK{ts ah:List Tok}(c:Nat)(h:LocR e (y::Y1) ts ah)(hs:isS (hd ts) [123]=true):LocO e y Y1 ts.length ah.length (iL ts c) (iL ah c):=by
 unfold iL;obtain⟨g1,g2,g3⟩:=LocR.tail hY h (dR hs);exact(mat_loc hY _ _ 0 0 1 [] _ _ c g1 (by omega) (by omega)).wide (by omega) (by omega)
def LocL(e y:Tok)(Y1:List Tok)(n n':Nat)(o o':fT):Prop :=
 (∃ l ts ah c1,o=.ok l ts c1/\o'=.ok l ah c1/\LocR e (y::Y1) ts ah/\ts.length<=n/\ah.length<=n'/\(hd ts).kind≠0)\/(∃ k p,o=.bad k p/\o'=.bad k p) \/
 ((∃ k,o=.bad k e.place)/\((∃ l ts c,o'=.ok l ts c/\EndR (vL Y1) ts.tail ts.tail)\/(∃ k x,o'=.bad k x.place/\x∈y::Y1)))
theorem rA{W:List Tok->Nat->Out}(hS:PSf Y1 W)(f:Nat)(l:List Tree){ts1:List Tok}(c1:Nat)(hs:(ts1=y::Y1)\/EndR (vL Y1) ts1 ts1)(o:fT)
  (ho:o=(if isS (hd ts1) [41]=true then fT.ok l ts1 c1 else if isS (hd ts1) [44]=true then (if 32<=l.length then fT.bad 10 (hd ts1).place else bN W f l ts1.tail c1) else fT.bad 6 (hd ts1).place)) :
  (∃ l2 ts2 c2,o=.ok l2 ts2 c2/\EndR (vL Y1) ts2.tail ts2.tail)\/(∃ k x,o=.bad k x.place/\x∈y::Y1):=by
 have hm:hd ts1∈y::Y1:=by
  rcases hs with rfl|hs
  ·exact .head _
  exact zg _ hs.hd.rel.2
 have ht:(hd ts1).kind≠0->EndR (vL Y1) ts1.tail ts1.tail:=fun h0=>by
  rcases hs with rfl|hs
  ·exact hY.self
  exact hs.tail h0
 by_cases b1:isS (hd ts1) [41]=true
 ·rw[if_pos b1]at ho;exact .inl ⟨_,_,_,ho,ht (dR b1)⟩
 rw[if_neg b1]at ho;by_cases b2:isS (hd ts1) [44]=true
 ·rw[if_pos b2]at ho;by_cases b3:32<=l.length
  ·rw[if_pos b3]at ho;exact .inr ⟨10,_,ho,hm⟩
  rw[if_neg b3]at ho;rw[ho];exact uJD hS f l (ht (dR b2)) c1
 rw[if_neg b2]at ho;exact .inr ⟨6,_,ho,hm⟩
theorem args_loc{W:List Tok->Nat->Out}(hW:PL e y Y1 W W)(hS:PSf Y1 W)(hE:∀ c,W [e] c=.bad 6 e.place):∀ (f f':Nat) (l:List Tree) (ts ah:List Tok) (c:Nat),LocR e (y::Y1) ts ah->ts.length<=f->ah.length<=f' ->
  LocL e y Y1 ts.length ah.length (bN W f l ts c) (bN W f' l ah c):=by
 intro f
 induction f with
 |zero=>intro f' l ts ah c h h1 h2;cases h <;> simp at h1
 |succ f ih=>
  intro f' l ts ah c h hf hf';cases f' with
  |zero=>cases h <;> simp at hf'
  |succ f'=>
   have hlen:∀ x:Tree,(l++[x]).length=l.length+1:=fun x=>by simp
   rcases LocR.cut h with⟨rfl,rfl⟩|⟨e1,e2⟩
   ·refine .inr (.inr ⟨⟨6,?_⟩,?_⟩)
    ·unfold bN iP;rw[show hd [e]=e from rfl,hY.enot,hY.enot];simp only[Bool.or_self,Bool.false_eq_true,if_false];rw[hE]
    unfold bN iP;have hb:(isS (hd (y::Y1)) [44]||isS (hd (y::Y1)) [41])=true:=by
     show (isS y [44]||isS y [41])=true;rcases hY.ys with h|h <;> rw[h] <;> simp
    rw[if_pos hb];exact rA hY hS f' (l++[fS]) (ts1:=y::Y1) (c+1) (.inl rfl) _ (by rw[hlen])
   have hA:(∃ x ts1 c6 c1,iP W ts c=.ok x ts1 c1/\iP W ah c=.ok x c6 c1/\LocR e (y::Y1) ts1 c6/\ts1.length<=ts.length/\c6.length<=ah.length)\/(∃ k p,iP W ts c=.bad k p/\iP W ah c=.bad k p)\/((∃ k,iP W ts c=.bad k e.place)/\Far y Y1 (iP W ah c)):=by
    unfold iP;rw[e1]
    split
    ·exact .inl ⟨_,_,_,_,rfl,rfl,h,zr,zr⟩
    exact hW ts ah c h
   unfold bN;rcases hA with⟨x,ts1,c6,c1,h1,h2,h3,h4,h5⟩|⟨k,p,h1,h2⟩|⟨⟨k,h1⟩,h2⟩
   ·rw[h1,h2];dsimp only;rcases LocR.cut h3 with⟨g1,g2⟩|⟨g1,g2⟩
    ·subst g1 g2;rw[show hd [e]=e from rfl,hY.enot,hY.enot];simp only[Bool.false_eq_true,if_false];refine .inr (.inr ⟨⟨6,rfl⟩,?_⟩);exact rA hY hS f' (l++[x]) (ts1:=y::Y1) c1 (.inl rfl) _ (by rw[hlen])
    rw[g1];obtain⟨k1,k2,k3⟩:=LocR.tail hY h3 g2
    split
    ·exact .inl ⟨_,_,_,_,rfl,rfl,h3,h4,h5,g2⟩
    split
    ·split
     ·exact .inr (.inl ⟨10,_,rfl,rfl⟩)
     rcases ih f' (l++[x]) _ _ c1 k1 (by omega) (by omega) with⟨l2,t2,t2',c2,q1,q2,q3,q4,q5,q6⟩|q
     ·exact .inl ⟨l2,t2,t2',c2,q1,q2,q3,by omega,by omega,q6⟩
     exact .inr q
    exact .inr (.inl ⟨6,_,rfl,rfl⟩)
   ·rw[h1,h2];exact .inr (.inl ⟨k,p,rfl,rfl⟩)
   rw[h1];refine .inr (.inr ⟨⟨k,rfl⟩,?_⟩);rcases h2 with⟨x,ts1,c1,q1,q2⟩|⟨k2,x,q1,q2⟩
   ·rw[q1];exact rA hY hS f' (l++[x]) c1 (.inr q2) _ (by rw[hlen])
   rw[q1];exact .inr ⟨k2,x,rfl,q2⟩
theorem zB{ts ah:List Tok}(h:LocR e (y::Y1) ts ah)(h0:(hd ts).kind≠0):nxt ts=hd ts.tail/\nxt ah=hd ah.tail:=by
 cases h with
 |stop=>exact absurd hY.e0 h0
 |more h0 hr=>cases hr with
  |stop=>exact⟨rfl,rfl⟩
  |more h1 hr=>exact⟨rfl,rfl⟩
theorem call_loc{W:Nat->List Tok->Nat->Out}{op:Nat}(hW:PL e y Y1 (W (op+1)) (W (op+1)))(hS:PSf Y1 (W (op+1)))(hE:∀ c,W (op+1) [e] c=.bad 6 e.place){ts ah:List Tok}(c:Nat)(h:LocR e (y::Y1) ts ah)(h3:(hd ts).kind≠0)(e1:hd ts=hd ah)(hs:isS (nxt ts) [40]=true) :
  LocO e y Y1 ts.length ah.length (nM W op ts c) (nM W op ah c):=by
 obtain⟨n1,n2⟩:=zB hY h h3;obtain⟨g1,g2,g3⟩:=LocR.tail hY h h3;rw[n1]at hs;obtain⟨k1,k2,k3⟩:=LocR.tail hY g1 (dR hs);have e2:hd ts.tail=hd ah.tail:=by
  rcases LocR.cut g1 with⟨q1,q2⟩|⟨q1,q2⟩
  ·rw[q1]at hs;rw[show isS (hd [e]) [40]=false from hY.enot [40]]at hs;cases hs
  exact q1
 unfold nM;rw[e1]
 split
 ·exact .inr (.inl ⟨9,_,by show Out.bad 9 (hd ts).place=_;rw[e1],rfl⟩)
 split
 ·exact .inr (.inl ⟨8,_,by show Out.bad 8 (hd ts.tail).place=_;rw[e2],rfl⟩)
 have hargs:LocL e y Y1 ts.length ah.length (if isS (hd ts.tail.tail) [41]=true then fT.ok [] ts.tail.tail c else bN (W (op+1)) ts.length [] ts.tail.tail c) (if isS (hd ah.tail.tail) [41]=true then fT.ok [] ah.tail.tail c else bN (W (op+1)) ah.length [] ah.tail.tail c):=by
  have jp:=args_loc hY hW hS hE ts.length ah.length [] _ _ c k1 (by omega) (by omega);have hgo2:LocL e y Y1 ts.length ah.length (bN (W (op+1)) ts.length [] ts.tail.tail c) (bN (W (op+1)) ah.length [] ah.tail.tail c):=by
   rcases jp with⟨l2,t2,t2',c2,q1,q2,q3,q4,q5,q6⟩|q
   ·exact .inl ⟨l2,t2,t2',c2,q1,q2,q3,by omega,by omega,q6⟩
   exact .inr q
  rcases LocR.cut k1 with⟨q1,q2⟩|⟨q1,q2⟩
  ·rw[if_neg (by rw[q1,show hd [e]=e from rfl,hY.enot];decide)];by_cases b:isS (hd ah.tail.tail) [41]=true
   ·rw[if_pos b];refine .inr (.inr ⟨⟨6,?_⟩,.inl ⟨_,_,_,rfl,by rw[q2];exact hY.self⟩⟩);have hl:ts.length=(ts.length-1)+1:=by omega
    rw[q1,hl];unfold bN iP;rw[show hd [e]=e from rfl,hY.enot,hY.enot];simp only[Bool.or_self,Bool.false_eq_true,if_false];rw[hE]
   rw[if_neg b];exact hgo2
  rw[q1]
  split
  ·exact .inl ⟨_,_,_,_,rfl,rfl,k1,by omega,by omega,q2⟩
  exact hgo2
 rcases hargs with⟨l,ts1,c6,c1,h1,h2,h4,h5,h6,h7⟩|⟨k,p,h1,h2⟩|⟨⟨k,h1⟩,h2⟩
 ·rw[h1,h2];obtain⟨m1,m2,m3⟩:=LocR.tail hY h4 h7;exact .inl ⟨_,_,_,_,rfl,rfl,m1,by omega,by omega⟩
 ·rw[h1,h2];exact .inr (.inl ⟨k,p,rfl,rfl⟩)
 rw[h1];refine .inr (.inr ⟨⟨k,rfl⟩,?_⟩);rcases h2 with⟨l,ts1,c1,q1,q2⟩|⟨k2,x,q1,q2⟩
 ·rw[q1];exact .inl ⟨_,_,_,rfl,q2⟩
 rw[q1];exact .inr ⟨k2,x,rfl,q2⟩
theorem name_loc{W:Nat->List Tok->Nat->Out}{op:Nat}(hW:PL e y Y1 (W (op+1)) (W (op+1)))(hS:PSf Y1 (W (op+1)))(hE:∀ c,W (op+1) [e] c=.bad 6 e.place){ts ah:List Tok}(c:Nat)(h:LocR e (y::Y1) ts ah)(h3:(hd ts).kind≠0)(e1:hd ts=hd ah) :
  LocO e y Y1 ts.length ah.length (nN W op ts c) (nN W op ah c):=by
 obtain⟨n1,n2⟩:=zB hY h h3;obtain⟨g1,g2,g3⟩:=LocR.tail hY h h3;have hn:isS (nxt ah) [40]=isS (nxt ts) [40]:=by rw[n1,n2];exact LocR.isS hY g1 (by decide) (by decide)
 unfold nN;rw[hn];by_cases b1:isS (nxt ts) [40]=true
 ·rw[if_pos b1,if_pos b1];exact call_loc hY hW hS hE c h h3 e1 b1
 rw[if_neg b1,if_neg b1,e1]
 split
 ·exact yX hY ts ah c h
 split
 ·exact .inl ⟨_,_,_,_,rfl,rfl,g1,by omega,by omega⟩
 exact .inr (.inl ⟨9,_,by show Out.bad 9 (hd ts).place=_;rw[e1],rfl⟩)
theorem part_loc{W:Nat->List Tok->Nat->Out}{op:Nat}(hW:PL e y Y1 (W (op+1)) (W (op+1)))(hS:PSf Y1 (W (op+1)))(hE:∀ c,W (op+1) [e] c=.bad 6 e.place):PL e y Y1 (fI W ax op) (fI W ax op):=by
 intro ts ah c h;rcases LocR.cut h with⟨rfl,rfl⟩|⟨e1,e2⟩
 ·refine .inr (.inr ⟨⟨6,?_⟩,?_⟩)
  ·unfold fI;rw[show hd [e]=e from rfl,hY.e0,hY.enot,hY.enot];rfl
  unfold fI;rw[show hd (y::Y1)=y from rfl,hY.y5,hY.ynot (s:=[40]) (by decide) (by decide),hY.ynot (s:=[123]) (by decide) (by decide)];exact nE 6
 obtain⟨n1,n2⟩:=zB hY h e2;obtain⟨g1,g2,g3⟩:=LocR.tail hY h e2;have hn:isS (nxt ah) [58]=isS (nxt ts) [58]:=by rw[n1,n2];exact LocR.isS hY g1 (by decide) (by decide)
 unfold fI;rw[hn,<- e1];by_cases k1:(hd ts).kind=1
 ·rw[if_pos k1,if_pos k1]
  split
  ·exact rD hY ts ah c h
  exact yX hY ts ah c h
 rw[if_neg k1,if_neg k1];by_cases k2:(hd ts).kind=2\/(hd ts).kind=6
 ·rw[if_pos k2,if_pos k2];exact yX hY ts ah c h
 rw[if_neg k2,if_neg k2];by_cases k3:(hd ts).kind=3
 ·rw[if_pos k3,if_pos k3]
  split
  ·exact rD hY ts ah c h
  exact name_loc hY hW hS hE c h e2 e1
 rw[if_neg k3,if_neg k3];by_cases k4:(hd ts).kind=4
 ·rw[if_pos k4,if_pos k4]
  split
  ·exact uIS hY ts ah c h
  exact rD hY ts ah c h
 rw[if_neg k4,if_neg k4];by_cases b1:isS (hd ts) [40]=true
 ·rw[if_pos b1,if_pos b1]
  split
  ·exact .inr (.inl ⟨8,_,rfl,by show Out.bad 8 (hd ah).place=_;rw[e1]⟩)
  rcases hW ts.tail ah.tail c g1 with⟨t,ts1,c6,c1,h1,h2,h3,h4,h5⟩|⟨k,p,h1,h2⟩|⟨⟨k,h1⟩,h2⟩
  ·rw[h1,h2];dsimp only;rcases LocR.cut h3 with⟨q1,q2⟩|⟨q1,q2⟩
   ·subst q1 q2;rw[show hd [e]=e from rfl,hY.enot];simp only[Bool.false_eq_true,if_false];refine .inr (.inr ⟨⟨6,rfl⟩,?_⟩)
    split
    ·exact .inl ⟨_,_,_,rfl,hY.self⟩
    exact nE 6
   rw[q1];obtain⟨m1,m2,m3⟩:=LocR.tail hY h3 q2
   split
   ·exact .inl ⟨_,_,_,_,rfl,rfl,m1,by omega,by omega⟩
   exact .inr (.inl ⟨6,_,by show Out.bad 6 (hd ts1).place=_;rw[q1],rfl⟩)
  ·rw[h1,h2];exact .inr (.inl ⟨k,p,rfl,rfl⟩)
  rw[h1];refine .inr (.inr ⟨⟨k,rfl⟩,?_⟩);rcases h2 with⟨x,ts1,c1,q1,q2⟩|⟨k2,x,q1,q2⟩
  ·rw[q1];dsimp only
   split
   ·rename_i b
    exact .inl ⟨_,_,_,rfl,q2.tail (dR b)⟩
   exact far_hd q2 6
  rw[q1];exact .inr ⟨k2,x,rfl,q2⟩
 rw[if_neg b1,if_neg b1];by_cases b2:isS (hd ts) [123]=true
 ·rw[if_pos b2,if_pos b2];exact uFK hY c h b2
 rw[if_neg b2,if_neg b2];exact .inr (.inl ⟨6,_,rfl,by show Out.bad 6 (hd ah).place=_;rw[e1]⟩)
theorem pct_loc:∀ (f f':Nat) (t:Tree) (ts ah:List Tok) (c:Nat),LocR e (y::Y1) ts ah->ts.length<=f->ah.length<=f'->LocO e y Y1 ts.length ah.length (fQ f t ts c) (fQ f' t ah c):=by
 intro f
 induction f with
 |zero=>intro f' t ts ah c h h1 h2;cases h <;> simp at h1
 |succ f ih=>
  intro f' t ts ah c h hf hf';cases f' with
  |zero=>cases h <;> simp at hf'
  |succ f'=>
   unfold fQ;rw[LocR.isS hY h (s:=[37]) (by decide) (by decide)];by_cases b:isS (hd ts) [37]=true
   ·rw[if_pos b,if_pos b];obtain⟨g1,g2,g3⟩:=LocR.tail hY h (dR b);exact(ih f' _ _ _ _ g1 (by omega) (by omega)).wide (by omega) (by omega)
   rw[if_neg b,if_neg b];exact .inl ⟨_,_,_,_,rfl,rfl,h,zr,zr⟩
theorem uCJ{P:List Tok->Nat->Out}(hP:PL e y Y1 P P):PL e y Y1 (bM P) (bM P):=by
 intro ts ah c h;unfold bM;rcases hP ts ah c h with⟨t,ts1,c6,c1,h1,h2,h3,h4,h5⟩|⟨k,p,h1,h2⟩|⟨⟨k,h1⟩,h2⟩
 ·rw[h1,h2];exact(pct_loc hY _ _ t ts1 c6 c1 h3 zr zr).wide h4 h5
 ·rw[h1,h2];exact .inr (.inl ⟨k,p,rfl,rfl⟩)
 rw[h1];refine .inr (.inr ⟨⟨k,rfl⟩,?_⟩);rcases h2 with⟨x,ts1,c1,q1,q2⟩|⟨k2,x,q1,q2⟩
 ·rw[q1];exact yP (N:=cA ts1) (c:=0) (uHX (G:=False) (B:=False) (d:=0) ts1.length x ts1 ts1 0 c1 q2 zr (fun h=>h.elim))
 rw[q1];exact .inr ⟨k2,x,rfl,q2⟩
theorem uIJ{ts ah:List Tok}(h:LocR e (y::Y1) ts ah):bD ah=bD ts/\LocR e (y::Y1) (ts.drop (bD ts)) (ah.drop (bD ts))/\ah.take (bD ts)=ts.take (bD ts):=by
 induction h with
 |stop=>
  have h1:bD [e]=0:=by
   unfold bD dA;rw[hY.enot,hY.enot];rfl
  have h2:bD (y::Y1)=0:=by
   unfold bD dA;rw[hY.ynot (s:=[43]) (by decide) (by decide),hY.ynot (s:=[45]) (by decide) (by decide)];rfl
  rw[h1,h2];exact⟨rfl,.stop,rfl⟩
 | @more t ts ah h0 hr ih=>
  obtain⟨i1,i2,i3⟩:=ih;cases ha:dA t with
  |false=>
   have h1:bD (t::ts)=0:=by unfold bD;rw[ha];rfl
   have h2:bD (t::ah)=0:=by unfold bD;rw[ha];rfl
   rw[h1,h2];exact⟨rfl,.more h0 hr,rfl⟩
  |true=>
   have h1:bD (t::ts)=bD ts+1:=by rw[bD,ha,if_pos rfl]
   have h2:bD (t::ah)=bD ah+1:=by rw[bD,ha,if_pos rfl]
   rw[h1,h2];exact⟨by rw[i1],i2,by rw[List.take_succ_cons,List.take_succ_cons,i3]⟩
theorem uGP{P:List Tok->Nat->Out}(hP:PL e y Y1 P P):PL e y Y1 (cP P) (cP P):=by
 intro ts ah c h;obtain⟨i1,i2,i3⟩:=uIJ hY h;unfold cP;rw[i1,i3];rcases hP _ _ c i2 with⟨t,ts1,c6,c1,h1,h2,h3,h4,h5⟩|⟨k,p,h1,h2⟩|⟨⟨k,h1⟩,h2⟩
 ·rw[h1,h2];rw[yk]at h4 h5;exact .inl ⟨_,_,_,_,rfl,rfl,h3,by omega,by omega⟩
 ·rw[h1,h2];exact .inr (.inl ⟨k,p,rfl,rfl⟩)
 rw[h1];refine .inr (.inr ⟨⟨k,rfl⟩,?_⟩);rcases h2 with⟨x,ts1,c1,q1,q2⟩|⟨k2,x,q1,q2⟩
 ·rw[q1];exact .inl ⟨_,_,_,rfl,q2⟩
 rw[q1];exact .inr ⟨k2,x,rfl,q2⟩
theorem uJJ{ts ah:List Tok}(h:LocR e (y::Y1) ts ah){sg:List Bs}(ik:∀ s∈sg,kZ s=true):dB sg (hd ah)=dB sg (hd ts):=by
 cases h with
 |stop=>
  have h1:dB sg e=false:=by unfold dB;rw[hY.e0];rfl
  have h2:dB sg y=false:=by
   unfold dB;cases hc:sg.contains y.text
   ·simp
   have hb:=ik _ (List.contains_iff_mem.1 hc);rcases hY.ys with h|h
   all_goals
    unfold isS at h;simp at h;rw[h.2]at hb;exact absurd hb (by decide)
  show dB sg y=dB sg e;rw[h1,h2]
 |more h0 hr=>rfl
theorem lev_loc{P:List Tok->Nat->Out}(hP:PL e y Y1 P P)(hS:PSf Y1 P){sg:List Bs}(ik:∀ s∈sg,kZ s=true):∀ (f f':Nat) (t:Tree) (ts ah:List Tok) (c:Nat),LocR e (y::Y1) ts ah->ts.length<=f->ah.length<=f' ->
  LocO e y Y1 ts.length ah.length (dX P sg f t ts c) (dX P sg f' t ah c):=by
 intro f
 induction f with
 |zero=>intro f' t ts ah c h h1 h2;cases h <;> simp at h1
 |succ f ih=>
  intro f' t ts ah c h hf hf';cases f' with
  |zero=>cases h <;> simp at hf'
  |succ f'=>
   unfold dX;rw[uJJ hY h ik];by_cases b:dB sg (hd ts)=true
   ·rw[if_pos b,if_pos b];have h0:(hd ts).kind≠0:=by
     unfold dB at b;simp at b;omega
    have e1:hd ah=hd ts:=by
     rcases LocR.cut h with⟨q1,q2⟩|⟨q1,q2⟩
     ·rw[q1]at h0;exact absurd hY.e0 h0
     exact q1.symm
    obtain⟨g1,g2,g3⟩:=LocR.tail hY h h0;rcases hP ts.tail ah.tail c g1 with⟨x,ts1,c6,c1,h1,h2,h3,h4,h5⟩|⟨k,p,h1,h2⟩|⟨⟨k,h1⟩,h2⟩
    ·rw[h1,h2];dsimp only;rw[e1];exact(ih f' _ ts1 c6 _ h3 (by omega) (by omega)).wide (by omega) (by omega)
    ·rw[h1,h2];exact .inr (.inl ⟨k,p,rfl,rfl⟩)
    rw[h1];refine .inr (.inr ⟨⟨k,rfl⟩,?_⟩);rcases h2 with⟨x,ts1,c1,q1,q2⟩|⟨k2,x,q1,q2⟩
    ·rw[q1];exact yP (N:=cA ts1) (c:=0) (yV (G:=False) (B:=False) (d:=0) (hS (cA ts1)) ik f' _ ts1 ts1 0 (c1+1) q2 zr (fun h=>h.elim))
    rw[q1];exact .inr ⟨k2,x,rfl,q2⟩
   rw[if_neg b,if_neg b];exact .inl ⟨_,_,_,_,rfl,rfl,h,zr,zr⟩
theorem lK{P:List Tok->Nat->Out}(hP:PL e y Y1 P P)(hS:PSf Y1 P){sg:List Bs}(ik:∀ s∈sg,kZ s=true):PL e y Y1 (bL P sg) (bL P sg):=by
 intro ts ah c h;unfold bL;rcases hP ts ah c h with⟨t,ts1,c6,c1,h1,h2,h3,h4,h5⟩|⟨k,p,h1,h2⟩|⟨⟨k,h1⟩,h2⟩
 ·rw[h1,h2];exact(lev_loc hY hP hS ik _ _ t ts1 c6 c1 h3 zr zr).wide h4 h5
 ·rw[h1,h2];exact .inr (.inl ⟨k,p,rfl,rfl⟩)
 rw[h1];refine .inr (.inr ⟨⟨k,rfl⟩,?_⟩);rcases h2 with⟨x,ts1,c1,q1,q2⟩|⟨k2,x,q1,q2⟩
 ·rw[q1];exact yP (N:=cA ts1) (c:=0) (yV (G:=False) (B:=False) (d:=0) (hS (cA ts1)) ik ts1.length x ts1 ts1 0 c1 q2 zr (fun h=>h.elim))
 rw[q1];exact .inr ⟨k2,x,rfl,q2⟩
theorem uDL{P:List Tok->Nat->Out}(hP:PL e y Y1 P P)(hS:PSf Y1 P):PL e y Y1 (eD P) (eD P):=by
 have s1:PSf Y1 (cP (bM P)):=fun N=>vT (sE (hS N))
 have s2:PSf Y1 (bL (cP (bM P)) oN):=fun N=>gE (s1 N) rN
 have s3:PSf Y1 (bL (bL (cP (bM P)) oN) qK):=fun N=>gE (s2 N) rM
 have s4:PSf Y1 (bL (bL (bL (cP (bM P)) oN) qK) gR):=fun N=>gE (s3 N) rK
 have s5:PSf Y1 (bL (bL (bL (bL (cP (bM P)) oN) qK) gR) pE):=fun N=>gE (s4 N) pF
 unfold eD;exact lK hY (lK hY (lK hY (lK hY (lK hY (uGP hY (uCJ hY hP)) s1 rN) s2 rM) s3 rK) s4 pF) s5 vR
theorem yE(f:Nat)(op c:Nat):bY f ax op [e] c=.bad 6 e.place:=by
 cases f with
 |zero=>rfl
 |succ f=>
  have hp:∀ c,fI (bY f ax) ax op [e] c=.bad 6 e.place:=fun c=>by
   unfold fI;rw[show hd [e]=e from rfl,hY.e0,hY.enot,hY.enot];rfl
  have ha:bD [e]=0:=by
   unfold bD dA;rw[hY.enot,hY.enot];rfl
  have hs:∀ c,cP (bM (fI (bY f ax) ax op)) [e] c=.bad 6 e.place:=fun c=>by
   unfold cP bM;rw[ha,List.drop_zero,hp]
  have hl:∀ {P:List Tok->Nat->Out} {sg:List Bs},(∀ c,P [e] c=.bad 6 e.place)->∀ c,bL P sg [e] c=.bad 6 e.place:=fun hP c=>by
   unfold bL;rw[hP]
  unfold bY eD;exact hl (hl (hl (hl (hl hs)))) c
theorem uKZ(ha:lU ax):∀ (f op:Nat),PL e y Y1 (bY f ax op) (bY f ax op):=by
 intro f
 induction f with
 |zero=>
  intro op ts ah c h;rcases LocR.cut h with⟨rfl,rfl⟩|⟨e1,e2⟩
  ·exact .inr (.inr ⟨⟨6,rfl⟩,nE 6⟩)
  exact .inr (.inl ⟨6,_,rfl,by show Out.bad 6 (hd ah).place=_;rw[e1]⟩)
 |succ f ih=>
  intro op;have hS:∀ op,PSf Y1 (bY f ax op):=fun op N=>lT ha f f op op N ⟨.inl rfl,fun h=>h.elim⟩ (.inl ⟨rfl,rfl⟩)
  have hp:PL e y Y1 (fI (bY f ax) ax op) (fI (bY f ax) ax op):=part_loc hY (ih (op+1)) (hS (op+1)) (fun c=>yE hY f (op+1) c);have qu:PSf Y1 (fI (bY f ax) ax op):=fun N=>uCG ha ⟨.inl rfl,fun h=>h.elim⟩ (fun M _=>hS (op+1) M)
  exact uDL hY hp qu
end
structure TW(s:Bs)(k:Nat)(t:Tok):Prop where
 k0:t.kind≠0
 num:t.kind=1->aZ t.text 0 45=false
 same:t.kind=5\/t.kind=6->aN t.text=t.text
 k2:34∉s->t.kind≠2
 lo:k<=t.place
 hi:t.place<k+s.length
 br:∀ c:UInt8,t.kind=5->t.text=[c]->s[t.place-k]?=some c
theorem signs_up:∀ c∈rO,up c=c:=by decide
theorem tG(l:Bs)(c:UInt8)(h:aZ l 0 c=true):∃ r,l=c::r:=by
 unfold aZ at h;cases l with
 |nil=>simp at h
 |cons d r=>simp at h;exact⟨r,by rw[h]⟩
theorem uGN(l:Bs)(h:0<eJ l)(hp:0<l.length):∃ c r,l=c::r/\((eJ l=1/\up c=c)\/(eJ l=2/\∃ d r',r=d::r'/\up c=c/\up d=d)):=by
 cases l with
 |nil=>simp at hp
 |cons c r=>
  refine⟨c,r,rfl,?_⟩;unfold eJ at h ⊢
  split
  ·rename_i h2
   refine .inr ⟨rfl,?_⟩;cases r with
   |nil=>simp[Lib.hasPrefix,List.isPrefixOf]at h2
   |cons d r'=>
    refine⟨d,r',rfl,?_⟩;simp[Lib.hasPrefix,List.isPrefixOf]at h2;rcases h2 with(⟨rfl,rfl⟩|⟨rfl,rfl⟩)|⟨rfl,rfl⟩ <;> decide
  rename_i h2
  rw[if_neg h2]at h
  split
  ·rename_i h3
   refine .inl ⟨rfl,signs_up c ?_⟩;obtain⟨n,_,_,_,he⟩:=uHL rO c h3;rw[he];simp
  rename_i h3
  rw[if_neg h3]at h;omega
def TF(l:Bs)(k:Nat)(x:Bs):Prop:=k≠0/\(k=1->aZ x 0 45=false)/\(k=5\/k=6->aN x=x)/\(34∉l->k≠2)/\(∀ c:UInt8,k=5->x=[c]->l[0]?=some c)
theorem tf1{l x:Bs}(h:aZ x 0 45=false):TF l 1 x:=⟨by decide,fun _=>h,fun h=>(by rcases h with h|h <;> cases h),fun _=>(by decide),fun _ h=>(by cases h)⟩
theorem tf3{l x:Bs}:TF l 3 x:=⟨by decide,fun h=>(by cases h),fun h=>(by rcases h with h|h <;> cases h),fun _=>(by decide),fun _ h=>(by cases h)⟩
theorem tf4{l x:Bs}:TF l 4 x:=⟨by decide,fun h=>(by cases h),fun h=>(by rcases h with h|h <;> cases h),fun _=>(by decide),fun _ h=>(by cases h)⟩
theorem tf2{l x:Bs}(h:34∈l):TF l 2 x:=⟨by decide,fun h=>(by cases h),fun h=>(by rcases h with h|h <;> cases h),fun hn=>absurd h hn,fun _ h=>(by cases h)⟩
theorem tf6{l x:Bs}(h:aN x=x):TF l 6 x:=⟨by decide,fun h=>(by cases h),fun _=>h,fun _=>(by decide),fun _ h=>(by cases h)⟩
theorem tf5{l x:Bs}(h:aN x=x)(h2:∀ c:UInt8,x=[c]->l[0]?=some c):TF l 5 x:=⟨by decide,fun h=>(by cases h),fun _=>h,fun _=>(by decide),fun c _=>h2 c⟩
theorem uGV(l:Bs)(hp:0<l.length)(h0:(bE l).2.2≠0):TF l (bE l).1 (bE l).2.1:=by
 unfold bE at h0 ⊢;by_cases h1:0<dY l
 ·rw[if_pos h1];refine tf1 ?_;rw[uIM];cases jm:aZ l 0 45
  ·simp
  obtain⟨r,rfl⟩:=tG l 45 jm;rw[jP 45 r (by decide) (by decide)]at h1;omega
 rw[if_neg h1]at h0 ⊢;by_cases h2:(gD l||aZ l 0 95||aZ l 0 36)=true
 ·rw[if_pos h2]at h0 ⊢;unfold mS at h0 ⊢;by_cases hm:uX (l.take (aM cX l))=true
  ·rw[if_pos hm];exact tf4
  rw[if_neg hm]at h0 ⊢;by_cases hd:eH (l.take (aM cX l))=0
  ·rw[if_pos hd];exact tf3
  rw[if_neg hd]at h0;exact absurd rfl h0
 rw[if_neg h2]at h0 ⊢;by_cases h3:aZ l 0 34=true
 ·rw[if_pos h3]at h0 ⊢;unfold fF at h0 ⊢;cases hx:bQ (l.drop 1) with
  |none=>rw[hx]at h0;exact absurd rfl h0
  |some x=>
   obtain⟨r,rfl⟩:=tG l 34 h3;exact tf2 List.mem_cons_self
 rw[if_neg h3]at h0 ⊢;by_cases h4:0<(cL l).length
 ·rw[if_pos h4];exact tf6 (uEO l)
 rw[if_neg h4]at h0 ⊢;by_cases h5:0<eJ l
 ·rw[if_pos h5];obtain⟨c,r,rfl,h6⟩:=uGN l h5 hp;refine tf5 ?_ (fun c' hc=>?_)
  ·show aN ((c::r).take (eJ (c::r)))=(c::r).take (eJ (c::r));rcases h6 with⟨e,hu⟩|⟨e,d,r',rfl,hu,hu2⟩
   ·rw[e];show [up c]=[c];rw[hu]
   rw[e];show [up c,up d]=[c,d];rw[hu,hu2]
  have fi:(c::r).take (eJ (c::r))=[c']:=hc;rcases h6 with⟨e,hu⟩|⟨e,d,r',rfl,hu,hu2⟩
  ·rw[e]at fi;injection fi with fi _;rw[<- fi];rfl
  rw[e]at fi;injection fi with fi h7;cases h7
 rw[if_neg h5]at h0;exact absurd rfl h0
theorem TW.shift{s s':Bs}{k k':Nat}{t:Tok}(h:TW s' k' t)(hk:k<=k')(hl:k'+s'.length=k+s.length)(hm:∀ c∈s',c∈s)(hd:∀ j,s'[j]?=s[k'-k+j]?):TW s k t :=
 ⟨h.k0,h.num,h.same,fun hn=>h.k2 (fun hc=>hn (hm _ hc)),by have:=h.lo;omega,by have:=h.hi;omega,fun c h1 h2=>by
  have:=h.br c h1 h2;rw[hd]at this;have hlo:=h.lo;rw[show k'-k+(t.place-k')=t.place-k by omega]at this;exact this⟩
theorem uFE:∀ (f:Nat) (s:Bs) (k:Nat) (ts:List Tok),fW f s k=.ok ts->(∀ t∈ts,TW s k t)/\ts.Pairwise (fun a b=>a.place<=b.place)/\cA ts<=s.count 40:=by
 intro f
 induction f with
 |zero=>intro s k ts h;injection h with h;subst h;exact⟨fun t ht=>by(cases ht),.nil,zm _⟩
 |succ f ih=>
  intro s k ts h;cases s with
  |nil=>injection h with h;subst h;exact⟨fun t ht=>by(cases ht),.nil,zm _⟩
  |cons c r=>
   simp only[fW]at h
   split at h
   ·obtain⟨i1,i2,i3⟩:=ih r (k+1) ts h;refine⟨fun t ht=>(i1 t ht).shift (Nat.le_succ k) (by simp only[yi];omega) (fun c hc=>zg _ hc) (fun j=>by rw[show k+1-k+j=j+1 by omega];rfl),i2,?_⟩;rw[List.count_cons];omega
   split at h
   ·cases h
   rename_i h0
   cases hx:fW f ((c::r).drop (bE (c::r)).2.2) (k+(bE (c::r)).2.2) with
   |error q=>rw[hx]at h;cases h
   |ok us=>
    rw[hx]at h;injection h with h;subst h;obtain⟨i1,i2,i3⟩:=ih _ _ us hx;have hle:=nZ (c::r) (by simp);obtain⟨f1,f2,f3,f4,f5⟩:=uGV (c::r) (by simp) h0;have hus:∀ t∈us,TW (c::r) k t:=fun t ht=>(i1 t ht).shift (Nat.le_add_right _ _) (by rw[yk];omega) (fun c hc=>List.mem_of_mem_drop hc) (fun j=>by rw[List.getElem?_drop,Nat.add_sub_cancel_left])
    refine⟨fun t ht=>?_,?_,?_⟩
    ·rcases ym.1 ht with rfl|ht
     ·exact⟨f1,f2,f3,f4,zr,by simp,fun d h1 h2=>by rw[Nat.sub_self];exact f5 d h1 h2⟩
     exact hus t ht
    ·rw[List.pairwise_cons];exact⟨fun t ht=>(hus t ht).lo,i2⟩
    show (if isS _ [40] then 1 else 0)+cA us<=_;have fi:((c::r).drop (bE (c::r)).2.2).count 40<=r.count 40:=by
     obtain⟨n,hn⟩:∃ n,(bE (c::r)).2.2=n+1:=⟨(bE (c::r)).2.2-1,by omega⟩
     rw[hn];exact(List.drop_sublist n r).count_le 40
    rw[List.count_cons];by_cases hs:isS (⟨(bE (c::r)).1,(bE (c::r)).2.1,k⟩:Tok) [40]=true
    ·rw[if_pos hs];unfold isS at hs;simp only[yh,decide_eq_true_eq,beq_iff_eq]at hs;have hh:=f5 40 hs.1 hs.2;simp at hh;subst hh;simp;omega
    rw[if_neg hs];omega
theorem kB(s:Bs)(ts:List Tok)(h:jH s=.ok ts):(∀ t∈ts,TW s 0 t)/\ts.Pairwise (fun a b=>a.place<=b.place)/\cA ts<=s.count 40:=uFE _ _ _ _ h
theorem uJY(ts:List Tok)(e:Tok)(h:e.kind=0):cA (ts++[e])=cA ts:=by
 induction ts with
 |nil=>
  have:isS e [40]=false:=by unfold isS;rw[h];rfl
  show (if isS e [40] then 1 else 0)+0=0;rw[this];rfl
 |cons t ts ih=>show _+cA (ts++[e])=_+cA ts;rw[ih]
theorem nD{ρ:Tok->Tok->Prop}(g:Tok->Tok){e e':Tok}(h0:e.kind=0)(he:TokR ρ e e'):∀ (ts:List Tok),(∀ t∈ts,t.kind≠0/\TokR ρ t (g t)/\t.place<=e.place)->ts.Pairwise (fun a b=>a.place<=b.place)->EndR ρ (ts++[e]) (ts.map g++[e'])
 | [],_,_=>.one he h0
 |t::ts,h,hp=>by
  rw[List.pairwise_cons]at hp;obtain⟨h1,h2,h3⟩:=h t (.head _);refine .more h2 h1 ?_ (nD g h0 he ts (fun x hx=>h x (zg _ hx)) hp.2);cases ts with
  |nil=>exact h3
  |cons x r=>exact hp.1 x (.head _)
theorem sZ{ρ:Tok->Tok->Prop}{s:Bs}{k:Nat}{t:Tok}(h:TW s k t)(t':Tok)(hk:t'.kind=t.kind)(ht:t'.text=t.text)(hr:ρ t t'):TokR ρ t t':=⟨hr,hk.symm,by rw[ht],fun _=>ht.symm,h.num⟩
theorem mA{ρ:Tok->Tok->Prop}(e e':Tok)(h0:e.kind=0)(hk:e'.kind=0)(ht:e'.text=e.text)(hr:ρ e e'):TokR ρ e e':=⟨hr,by rw[h0,hk],by rw[ht],fun _=>ht.symm,fun h=>by rw[h0]at h;cases h⟩
theorem jZ{P:List Tok->Nat->Out}{sg:List Bs}{L:List Tok}{c k p:Nat}(h:P L c=.bad k p):bL P sg L c=.bad k p:=by unfold bL;rw[h]
theorem uDK{P:List Tok->Nat->Out}{L:List Tok}{c k p:Nat}(ha:bD L=0)(h:P L c=.bad k p):eD P L c=.bad k p:=by
 have h1:cP (bM P) L c=.bad k p:=by
  unfold cP bM;rw[ha,List.drop_zero,h]
 unfold eD;exact jZ (jZ (jZ (jZ (jZ h1))))
theorem uBP{e:Tok}{Y:List Tok}:∀ (ts:List Tok),(∀ t∈ts,t.kind≠0)->LocR e Y (ts++[e]) (ts++Y)
 | [],_=>.stop
 |t::ts,h=>.more (h t (.head _)) (uBP ts (fun x hx=>h x (zg _ hx)))
theorem EndR.diag{ρ:Tok->Tok->Prop}{ts ah:List Tok}(h:EndR ρ ts ah){σ:Tok->Tok->Prop}(hs:∀ x∈ts,σ x x):EndR σ ts ts:=by
 induction h with
 | @one e e' h h0=>exact .one ⟨hs _ (.head _),rfl,rfl,fun _=>rfl,h.num⟩ h0
 | @more t t' ts ah h h0 hm hr ih=>exact .more ⟨hs _ (.head _),rfl,rfl,fun _=>rfl,h.num⟩ h0 hm (ih (fun x hx=>hs x (zg _ hx)))
theorem gL{h:NodeH}(hv:h.v=aC)(hn:h.name.length<=100000):h.fine:=by
 unfold NodeH.fine;rw[hv];exact⟨by decide,by decide,by decide,hn⟩
theorem qA:([]:Bs).length<=100000:=by decide
theorem uJF(k:Int)(s:Bs)(hs:s.length<=100000):(Tree.mk ⟨k,aC,s,aG,aG,0⟩ []).fine:=by
 unfold Tree.fine;exact⟨gL rfl hs,trivial⟩
theorem chkLeaf:pI:=by
 intro h W hk hn he;have hf:(Tree.mk h []).fine:=by rw[he];exact uJF _ _ hn
 exact tM (.mk h []) _ W ⟨none,0,rfl,.inl rfl⟩ (by show bH []+1<=1000000;decide) hf
theorem dH{h h':NodeH}(e:NodeH.same h h'=true):h.v=h'.v/\h.name=h'.name:=by
 unfold NodeH.same at e;simp only[yh,decide_eq_true_eq,beq_iff_eq]at e;exact⟨(iX _ _).1 e.1.1.1.1.2,e.1.1.1.2⟩
theorem uBB{s:Bs}(h:bR s=true):s.length<=100000:=by
 unfold bR at h;simp only[yh,decide_eq_true_eq]at h;omega
theorem uBC{s:Bs}(h:bS s=true):s.length<=100000:=by
 unfold bS at h;simp only[yh,decide_eq_true_eq]at h;omega
theorem unB_len{s:Bs}(h:unB s=true):s.length<=100000:=by
 unfold unB at h;simp only[Bool.or_eq_true,beq_iff_eq]at h;rcases h with(rfl|rfl)|rfl <;> decide
theorem binB_len{s:Bs}(h:kZ s=true):s.length<=100000:=by
 unfold kZ at h;simp only[Bool.or_eq_true,beq_iff_eq]at h;rcases h with((((((((((rfl|rfl)|rfl)|rfl)|rfl)|rfl)|rfl)|rfl)|rfl)|rfl)|rfl)|rfl <;> decide
theorem sQ{v:Val}(h:cC v=true):-9223372036854775808<=v.mant/\v.mant<=9223372036854775807/\v.text.length<=1000000:=by
 by_cases k1:v.kind=1
 ·rw[wA v k1,yh]at h;have e:=(iX _ _).1 h.2;have ht:v.text=[]:=congrArg Val.text e;have hm:v.mant.natAbs<1000000000000000:=by
   by_cases m0:v.mant=0
   ·rw[m0];decide
   exact(xO h.1 m0).1
  rw[ht];exact⟨by omega,by omega,by decide⟩
 by_cases k2:v.kind=2
 ·have h2:=h;rw[sR v k2]at h;have e:=(iX _ _).1 h;unfold cC at h2;simp[k2]at h2;refine⟨?_,?_,?_⟩
  all_goals first|omega |(simp_all;done)|skip
  all_goals trace_state
 by_cases k3:v.kind=3
 ·rw[qR v k3]at h;have e:=(iX _ _).1 h;rw[show v.mant=0 from congrArg Val.mant e,show v.text=[] from congrArg Val.text e];exact⟨by decide,by decide,by decide⟩
 by_cases k4:v.kind=4
 ·rw[qP v k4]at h;have e:=(iX _ _).1 h;have hm:v.mant=0:=by rw[e];unfold pG;split <;> rfl
  have ht:v.text=[]:=by rw[e];unfold pG;split <;> rfl
  rw[hm,ht];exact⟨by decide,by decide,by decide⟩
 by_cases k0:v.kind=0
 ·rw[qO v k0]at h;have e:=(iX _ _).1 h;rw[show v.mant=0 from congrArg Val.mant e,show v.text=[] from congrArg Val.text e];exact⟨by decide,by decide,by decide⟩
 rw[qQ v k0 k1 k2 k3 k4]at h;cases h
theorem uCU{h:NodeH}{n:Nat}{kids:List Int}{above:Int}(e:bJ h n kids above=true):h.fine:=by
 unfold bJ at e
 split at e
 ·simp only[yh]at e;obtain⟨⟨h1,h2⟩,_⟩:=e;unfold cI at h1;simp only[yh]at h1;obtain⟨a,b,c⟩:=sQ h1.1.2;exact⟨a,b,c,by rw[(dH h2).2];exact qA⟩
 split at e
 ·simp only[yh]at e;exact gL (dH e.1.2).1 (by rw[(dH e.1.2).2];exact qA)
 split at e
 ·simp only[yh]at e;exact gL (dH e.1.2).1 (by rw[(dH e.1.2).2];exact qA)
 split at e
 ·simp only[yh]at e;exact gL (dH e.2).1 (uBB e.1.1.1)
 split at e
 ·simp only[yh]at e;exact gL (dH e.2).1 (unB_len e.1.1)
 split at e
 ·simp only[yh]at e;exact gL (dH e.2).1 (binB_len e.1.1)
 split at e
 ·simp only[yh]at e;exact gL (dH e.1.2).1 (uBC e.1.1)
 split at e
 ·simp only[yh]at e;exact gL (dH e.2).1 (by rw[(dH e.2).2];exact qA)
 split at e
 ·simp only[yh]at e;exact gL (dH e.1.2).1 (by rw[(dH e.1.2).2];exact qA)
 cases e
mutual
theorem vM:∀ (t:Tree) (k:Int),t.right k=true->t.fine
 | .mk h l,k,e=>by
  unfold Tree.right at e;rw[yh]at e;unfold Tree.fine;exact⟨uCU e.1,sH l h.kind e.2⟩
theorem sH:∀ (l:List Tree) (k:Int),bP l k=true->uHI l
 | [],_,_=>trivial
 |t::r,k,e=>by
  unfold bP at e;simp only[yh]at e;exact⟨vM t k e.1.2,sH r k e.2⟩
end
theorem uGZ{ax:Ax}(ha:lU ax){L:List Tok}(h:EndR (fun x y=>x.place=y.place) L L){t:Tree}{ts:List Tok}{c:Nat}(hw:bY 65 ax 0 L 0=.ok t ts c):c=t.size/\t.right 6=true:=by
 have hr:=lT (ρ:=fun x y=>x.place=y.place) (G:=True) (B:=False) (d:=0) ha 65 65 0 0 (cA L) ⟨.inl rfl,fun h=>h.elim⟩ (.inl ⟨rfl,rfl⟩) L L 0 h zr;rcases hr with⟨t',ts1,c6,c1,h1,_,_,_,h5⟩|⟨e,x,y,h1,_,_,_⟩
 ·rw[hw]at h1;cases h1;obtain⟨h6,h7⟩:=h5 trivial;exact⟨by omega,h7⟩
 rw[hw]at h1;cases h1
theorem lex_ends{s:Bs}{ts:List Tok}(h:jH s=.ok ts):EndR (fun x y=>x.place=y.place) (ts++[bA s.length]) (ts++[bA s.length]):=by
 obtain⟨f1,f2,_⟩:=kB s ts h;have:=nD (ρ:=fun x y=>x.place=y.place) (e:=bA s.length) (e':=bA s.length) id rfl (mA _ _ rfl rfl rfl rfl) ts (fun t ht=>⟨(f1 t ht).k0,sZ (f1 t ht) _ rfl rfl rfl,by have:=(f1 t ht).hi;show t.place<=s.length;omega⟩) f2
 rwa [List.map_id]at this
theorem pB:∀ (n:Nat) (l:Bs) (x:Bs×Nat),l.length<=n->bQ l=some x->x.1.length<=l.length
 |_,[],_,_,h=>by cases h
 |_,[c],x,_,h=>by
  unfold bQ at h
  split at h
  ·cases h;simp
  cases h
 |0,_::_::_,_,hn,_=>by simp at hn
 |n+1,c::d::l,x,hn,h=>by
  unfold bQ at h
  split at h
  ·split at h
   ·cases hp:bQ l with
    |none=>rw[hp]at h;cases h
    |some y=>
     rw[hp]at h;cases h;have:=pB n l y (by simp at hn;omega) hp;simp;omega
   cases h;simp
  cases hp:bQ (d::l) with
  |none=>rw[hp]at h;cases h
  |some y=>
   rw[hp]at h;cases h;have:=pB n (d::l) y (by simp at hn ⊢;omega) hp;simp at this ⊢;omega
theorem uCF(l:Bs):(bE l).2.1.length<=l.length:=by
 have ht:∀ n,(l.take n).length<=l.length:=fun n=>by rw[zc];omega
 unfold bE
 split
 ·exact ht _
 split
 ·unfold mS
  split
  ·exact ht _
  split
  ·exact ht _
  exact zm _
 split
 ·unfold fF;cases h:bQ (l.drop 1) with
  |none=>exact zm _
  |some x=>
   have:=pB _ _ x zr h;rw[yk]at this;show x.1.length<=l.length;omega
 split
 ·exact uV l
 split
 ·exact ht _
 exact zm _
theorem oV:∀ (f:Nat) (l:Bs) (k:Nat) (ts:List Tok),fW f l k=.ok ts->∀ t∈ts,t.text.length<=l.length
 |0,_,_,ts,h,t,ht=>by cases h;cases ht
 |_+1,[],_,ts,h,t,ht=>by cases h;cases ht
 |f+1,c::r,k,ts,h,t,ht=>by
  unfold fW at h
  split at h
  ·have:=oV f r _ ts h t ht;rw[yi];omega
  split at h
  ·cases h
  cases hg:fW f ((c::r).drop (bE (c::r)).2.2) (k+(bE (c::r)).2.2) with
  |error p=>rw[hg]at h;cases h
  |ok us=>
   rw[hg]at h;cases h;rcases ym.1 ht with rfl|ht
   ·exact uCF (c::r)
   have:=oV f _ _ us hg t ht;rw[yk]at this;omega
theorem text_le2(s:Bs)(ts:List Tok)(h:jH s=.ok ts):∀ t∈ts,t.text.length<=s.length:=oV _ _ _ _ h
end Go.Proofs.YtmgjidnalpgegaaGreatDoor
