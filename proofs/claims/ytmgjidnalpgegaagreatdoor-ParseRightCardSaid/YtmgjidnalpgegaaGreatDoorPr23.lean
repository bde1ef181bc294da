/-
  Lemmas, part 23: PlSim3 PlTok PlBr PaS.
-/
import Derived.Test.YtmgjidnalpgegaaGreatDoorPr22
set_option maxHeartbeats 100000000
namespace Go.Proofs.YtmgjidnalpgegaaGreatDoor
open Go.RowKit
def OpR(B:Prop)(op op' N:Nat):Prop:=(op=op'\/(op+N<=64/\op'+N<=64))/\(B->op+N<=64)
theorem OpR.more{B:Prop}{op op' M:Nat}(h:OpR B op op' (M+1)):OpR B (op+1) (op'+1) M :=
 ⟨by rcases h.1 with h1|⟨h1,h2⟩;exact .inl (by omega);exact .inr ⟨by omega,by omega⟩,fun hb=>by have:=h.2 hb;omega⟩
section
variable {ρ:Tok->Tok->Prop} {G B:Prop} {d N:Nat} {ax:Ax}
structure ArgI(l:List Tree)(ts:List Tok):Prop where
 right:bK l 4=true
 len:l.length<=31
 one:l=[]->isS (hd ts) [41]=false
def ArgsR(ρ:Tok->Tok->Prop)(G B:Prop)(d N c0:Nat)(o o':oE):Prop :=
 (∃ l ts bf c1,o=.ok l ts c1/\o'=.ok l bf (c1+d)/\EndR ρ ts bf/\cQ ts<=N/\isS (hd ts) [41]=true/\(G->c1=c0+bB l/\bK l 4=true/\l.length<=32/\¬ (l.length=1/\(l.map fun t=>t.h.kind)=[9]))) \/
 (∃ e x y,o=.bad e x.place/\o'=.bad e y.place/\ρ x y/\Er B e)
theorem uEL:tMiss.right 4=true:=by
 have e:bE ⟨9,aD,[],aG,aG,0⟩ 0 [] 4=true:=by
  unfold bE;simp[fC]
 show (bE ⟨9,aD,[],aG,aG,0⟩ 0 [] 4&&bK [] 9)=true;rw[e];rfl
theorem args_rel{W W':List Tok->Nat->Out}(hW:PR ρ G B d N W W'):∀ (f:Nat) (l:List Tree) (ts bf:List Tok) (c0 c:Nat),EndR ρ ts bf->cQ ts<=N->(G->ArgI l ts/\c=c0+bB l) ->
  ArgsR ρ G B d N c0 (dX W f l ts c) (dX W' f l bf (c+d)):=by
 intro f
 induction f with
 |zero=>intro l ts bf c0 c h hN _;exact .inr ⟨6,_,_,rfl,rfl,h.hd.rel,er6 B⟩
 |succ f ih=>
  intro l ts bf c0 c h hN hI;have hA:(∃ x av jd c1,rK W ts c=.ok x av c1/\rK W' bf (c+d)=.ok x jd (c1+d)/\EndR ρ av jd/\cQ av<=N/\(G->c1=c+x.size/\x.right 4=true/\(x.h.kind=9->l=[]->isS (hd av) [41]=false))) \/
    (∃ e x y,rK W ts c=.bad e x.place/\rK W' bf (c+d)=.bad e y.place/\ρ x y/\Er B e):=by
   unfold rK;rw[<- h.hd.isS [44],<- h.hd.isS [41]];by_cases hb:(isS (hd ts) [44]||isS (hd ts) [41])=true
   ·rw[if_pos hb,if_pos hb];exact .inl ⟨_,_,_,_,rfl,by rw[show c+d+1=c+1+d by omega],h,hN,fun hg=>⟨rfl,uEL,fun _ h0=>(hI hg).1.one h0⟩⟩
   rw[if_neg hb,if_neg hb];rcases hW ts bf c h hN with⟨t,av,jd,c1,h1,h2,h3,h4,h5⟩|h1
   ·exact .inl ⟨t,av,jd,c1,h1,h2,h3,h4,fun hg=>⟨(h5 hg).1,tY (h5 hg).2 4,fun h9=>absurd h9 (tX (h5 hg).2)⟩⟩
   exact .inr h1
  unfold dX;rcases hA with⟨x,av,jd,c1,h1,h2,h3,h4,h5⟩|⟨e,x,y,h1,h2,h3,h4⟩
  ·rw[h1,h2];dsimp only;rw[<- h3.hd.isS [41],<- h3.hd.isS [44]];have hr:G->bK (l++[x]) 4=true:=fun hg=>by
    rw[qX,(hI hg).1.right,(h5 hg).2.1];rfl
   have hc:G->c1=c0+bB (l++[x]):=fun hg=>by
    rw[uC];have:=(hI hg).2;have:=(h5 hg).1;omega
   by_cases b1:isS (hd av) [41]=true
   ·rw[if_pos b1,if_pos b1];refine .inl ⟨_,_,_,_,rfl,rfl,h3,h4,b1,fun hg=>⟨hc hg,hr hg,by have:=(hI hg).1.len;simp;omega,?_⟩⟩;rintro⟨hl1,hk⟩;have qu:l=[]:=by
     cases l with
     |nil=>rfl
     |cons a l=>simp at hl1
    subst qu;have h9:x.h.kind=9:=by simpa using hk
    rw[(h5 hg).2.2 h9 rfl]at b1;cases b1
   rw[if_neg b1,if_neg b1];by_cases b2:isS (hd av) [44]=true
   ·rw[if_pos b2,if_pos b2];by_cases b3:32<=l.length+1
    ·rw[if_pos b3,if_pos b3];exact .inr ⟨10,_,_,rfl,rfl,h3.hd.rel,er10 B⟩
    rw[if_neg b3,if_neg b3];exact ih (l++[x]) _ _ c0 c1 (h3.tail (gH b2)) (yv (bO _) h4) (fun hg=>⟨⟨hr hg,by simp;omega,fun h0=>by simp at h0⟩,hc hg⟩)
   rw[if_neg b2,if_neg b2];exact .inr ⟨6,_,_,rfl,rfl,h3.hd.rel,er6 B⟩
  rw[h1,h2];exact .inr ⟨e,x,y,rfl,rfl,h3,h4⟩
theorem uEJ{s:Bs}{l:List Tree}(hs:bN s=true)(h1:bK l 4=true)(h2:l.length<=32)(h3:¬ (l.length=1/\(l.map fun t=>t.h.kind)=[9])):(uBL s l).right 6=true:=by
 have e:bE ⟨4,aD,s,aG,aG,0⟩ l.length (l.map fun t=>t.h.kind) 6=true:=by
  have e4:∀ (n:Nat) (ks:List Int),bE ⟨4,aD,s,aG,aG,0⟩ n ks 6=(bN s&&decide (n<=32)&&!(decide (n=1)&&decide (ks=[9]))&&NodeH.same ⟨4,aD,s,aG,aG,0⟩ ⟨4,aD,s,aG,aG,0⟩):=fun _ _=>rfl
  rw[e4,hs,fC,decide_eq_true h2];simp only[Bool.and_true,Bool.true_and,Bool.not_eq_true'];cases hx:(decide (l.length=1)&&decide ((l.map fun t=>t.h.kind)=[9]))
  ·rfl
  simp only[yh,decide_eq_true_eq]at hx;exact absurd hx h3
 show (bE ⟨4,aD,s,aG,aG,0⟩ l.length (l.map fun t=>t.h.kind) 6&&bK l 4)=true;rw[e,h1];rfl
def InR(ρ:Tok->Tok->Prop)(G B:Prop)(d N op op':Nat)(W W':Nat->List Tok->Nat->Out):Prop:=∀ M,N=M+1->PR ρ G B d M (W (op+1)) (W' (op'+1))
theorem nxt_open{ρ:Tok->Tok->Prop}{ts bf:List Tok}(h:EndR ρ ts bf)(h3:(hd ts).kind≠0):nxt ts=hd ts.tail:=by
 cases h with
 |one h h0=>exact absurd h0 h3
 |more h h0 hm hr=>cases hr with
  |one h2 h3=>rfl
  |more h2 h3 ug hr=>rfl
theorem call_rel{op op':Nat}{W W':Nat->List Tok->Nat->Out}(ho:OpR B op op' N)(hW:InR ρ G B d N op op' W W'){ts bf:List Tok}{c:Nat}(h:EndR ρ ts bf)(hN:cQ ts<=N)(h3:(hd ts).kind=3)(hs:isS (nxt ts) [40]=true) :
  OutR ρ G B d N c (nG W op ts c) (nG W' op' bf (c+d)):=by
 have h0:(hd ts).kind≠0:=by omega
 have ht:=h.tail h0;rw[nxt_open h h0]at hs;have ov:=ht.tail (gH hs);have hNt:cQ ts.tail<=N:=yv (bO ts) hN;have rp:=tF hs;obtain⟨M,rfl⟩:∃ M,N=M+1:=⟨N-1,by omega⟩
 have hM:cQ ts.tail.tail<=M:=by omega
 unfold nG;rw[<- h.hd.fold];by_cases hc:bN (aO (hd ts).text)=true
 ·have lj:¬ (!bN (aO (hd ts).text))=true:=by rw[hc];decide
  rw[if_neg lj,if_neg lj];have h64:(64<=op↔64<=op')/\(64<=op->¬ B):=by
   rcases ho with⟨ho|⟨o1,o2⟩,hb⟩
   ·exact⟨by rw[ho],fun h hB=>by have:=hb hB;omega⟩
   exact⟨⟨fun h=>by omega,fun h=>by omega⟩,fun h=>by omega⟩
  by_cases xt:64<=op
  ·rw[if_pos xt,if_pos (h64.1.1 xt)];exact .inr ⟨8,_,_,rfl,rfl,ht.hd.rel,by decide,by decide,by decide,fun hB=>absurd hB (h64.2 xt)⟩
  rw[if_neg xt,if_neg (fun h=>xt (h64.1.2 h))];rw[<- ov.hd.isS [41],<- h.len];have hargs:ArgsR ρ G B d M c (if isS (hd ts.tail.tail) [41]=true then oE.ok [] ts.tail.tail c else dX (W (op+1)) ts.length [] ts.tail.tail c) (if isS (hd ts.tail.tail) [41]=true then oE.ok [] bf.tail.tail (c+d) else dX (W' (op'+1)) ts.length [] bf.tail.tail (c+d)):=by
   by_cases b:isS (hd ts.tail.tail) [41]=true
   ·rw[if_pos b,if_pos b];exact .inl ⟨[],_,_,_,rfl,rfl,ov,hM,b,fun _=>⟨rfl,rfl,by decide,fun h=>by simp at h⟩⟩
   rw[if_neg b,if_neg b];exact args_rel (hW M rfl) ts.length [] _ _ c c ov hM (fun _=>⟨⟨rfl,by decide,fun _=>by simpa using b⟩,rfl⟩)
  rcases hargs with⟨l,av,jd,c1,h1,h2,h5,h6,h7,h8⟩|⟨e,x,y,h1,h2,h5,h6⟩
  ·rw[h1,h2];refine .inl ⟨_,_,_,_,rfl,by dsimp only;rw[show c1+d+1=c1+1+d by omega],h5.tail (gH h7),by have:=bO av;omega,fun hg=>?_⟩;obtain⟨g1,g2,g3,g4⟩:=h8 hg;exact⟨by show c1+1=c+(bB l+1);omega,uEJ hc g2 g3 g4⟩
  rw[h1,h2];exact .inr ⟨e,x,y,rfl,rfl,h5,h6⟩
 have lj:(!bN (aO (hd ts).text))=true:=by simpa using hc
 rw[if_pos lj,if_pos lj];exact gU h (er9 B)
theorem uEM{s:Bs}(hs:bM s=true):(uGF s).right 6=true:=by
 have e:bE ⟨7,aD,s,aG,aG,0⟩ 0 [] 6=true:=by
  have e7:bE ⟨7,aD,s,aG,aG,0⟩ 0 [] 6=(bM s&&NodeH.same ⟨7,aD,s,aG,aG,0⟩ ⟨7,aD,s,aG,aG,0⟩&&decide (0=0)):=rfl;rw[e7,hs,fC];rfl
 show (bE ⟨7,aD,s,aG,aG,0⟩ 0 [] 6&&bK [] 7)=true;rw[e];rfl
theorem name_rel{op op':Nat}{W W':Nat->List Tok->Nat->Out}(ho:OpR B op op' N)(hW:InR ρ G B d N op op' W W'){ts bf:List Tok}{c:Nat}(h:EndR ρ ts bf)(hN:cQ ts<=N)(h3:(hd ts).kind=3) :
  OutR ρ G B d N c (nH W op ts c) (nH W' op' bf (c+d)):=by
 unfold nH;rw[<- h.nxt.isS [40],<- qL h.hd,<- h.hd.fold];by_cases b1:isS (nxt ts) [40]=true
 ·rw[if_pos b1,if_pos b1];exact call_rel ho hW h hN h3 b1
 rw[if_neg b1,if_neg b1];by_cases b2:cM (hd ts)=true
 ·rw[if_pos b2,if_pos b2];exact xN ts bf c h hN
 rw[if_neg b2,if_neg b2];by_cases b3:bM (aO (hd ts).text)=true
 ·rw[if_pos b3,if_pos b3];exact .inl ⟨_,_,_,_,rfl,by rw[show c+d+1=c+1+d by omega],h.tail (by omega),yv (bO ts) hN,fun _=>⟨rfl,uEM b3⟩⟩
 rw[if_neg b3,if_neg b3];exact gU h (er9 B)
theorem part_rel(ha:lO ax){op op':Nat}{W W':Nat->List Tok->Nat->Out}(ho:OpR B op op' N)(hW:InR ρ G B d N op op' W W'):PR ρ G B d N (lN W ax op) (lN W' ax op'):=by
 intro ts bf c h hN;unfold lN;rw[<- h.hd.kind,<- h.nxt.isS [58],<- iH h.hd.fold,<- h.hd.isS [40],<- h.hd.isS [123]];by_cases k1:(hd ts).kind=1
 ·rw[if_pos k1,if_pos k1]
  split
  ·exact pS ha ts bf c h hN
  exact xN ts bf c h hN
 rw[if_neg k1,if_neg k1];by_cases k2:(hd ts).kind=2\/(hd ts).kind=6
 ·rw[if_pos k2,if_pos k2];exact xN ts bf c h hN
 rw[if_neg k2,if_neg k2];by_cases k3:(hd ts).kind=3
 ·rw[if_pos k3,if_pos k3]
  split
  ·exact pS ha ts bf c h hN
  exact name_rel ho hW h hN k3
 rw[if_neg k3,if_neg k3];by_cases k4:(hd ts).kind=4
 ·rw[if_pos k4,if_pos k4]
  split
  ·exact uHA ha ts bf c h hN
  exact pS ha ts bf c h hN
 rw[if_neg k4,if_neg k4];by_cases b1:isS (hd ts) [40]=true
 ·rw[if_pos b1,if_pos b1];have rp:=tF b1;have ht:=h.tail (gH b1);obtain⟨M,rfl⟩:∃ M,N=M+1:=⟨N-1,by omega⟩
  have hM:cQ ts.tail<=M:=by omega
  have h64:(64<=op↔64<=op')/\(64<=op->¬ B):=by
   rcases ho with⟨ho|⟨o1,o2⟩,hb⟩
   ·exact⟨by rw[ho],fun h hB=>by have:=hb hB;omega⟩
   exact⟨⟨fun h=>by omega,fun h=>by omega⟩,fun h=>by omega⟩
  by_cases xt:64<=op
  ·rw[if_pos xt,if_pos (h64.1.1 xt)];exact .inr ⟨8,_,_,rfl,rfl,h.hd.rel,by decide,by decide,by decide,fun hB=>absurd hB (h64.2 xt)⟩
  rw[if_neg xt,if_neg (fun h=>xt (h64.1.2 h))];rcases hW M rfl ts.tail bf.tail c ht hM with⟨t,av,jd,c1,h1,h2,h3,h4,h5⟩|⟨e,x,y,h1,h2,h3,h4⟩
  ·rw[h1,h2];dsimp only;rw[<- h3.hd.isS [41]];by_cases b2:isS (hd av) [41]=true
   ·rw[if_pos b2,if_pos b2];exact .inl ⟨t,_,_,_,rfl,rfl,h3.tail (gH b2),by have:=bO av;omega,h5⟩
   rw[if_neg b2,if_neg b2];exact gU h3 (er6 B)
  rw[h1,h2];exact .inr ⟨e,x,y,rfl,rfl,h3,h4⟩
 rw[if_neg b1,if_neg b1];by_cases b2:isS (hd ts) [123]=true
 ·rw[if_pos b2,if_pos b2];exact uDQ h hN b2
 rw[if_neg b2,if_neg b2];exact gU h (er6 B)
theorem pct_rel:∀ (f:Nat) (t:Tree) (ts bf:List Tok) (c0 c:Nat),EndR ρ ts bf->cQ ts<=N->(G->c=c0+t.size/\t.right 6=true)->OutR ρ G B d N c0 (iJ f t ts c) (iJ f t bf (c+d)):=by
 intro f
 induction f with
 |zero=>intro t ts bf c0 c h hN hI;exact .inl ⟨t,ts,bf,c,rfl,rfl,h,hN,hI⟩
 |succ f ih=>
  intro t ts bf c0 c h hN hI;unfold iJ;rw[<- h.hd.isS [37]];by_cases b:isS (hd ts) [37]=true
  ·rw[if_pos b,if_pos b,show c+d+1=c+1+d by omega];refine ih _ _ _ c0 (c+1) (h.tail (gH b)) (yv (bO ts) hN) (fun hg=>?_);obtain⟨g1,g2⟩:=uBE (s:=[37]) (by decide) (hI hg).2;exact⟨by rw[g2];have:=(hI hg).1;omega,g1⟩
  rw[if_neg b,if_neg b];exact .inl ⟨t,ts,bf,c,rfl,rfl,h,hN,hI⟩
theorem xV{P P':List Tok->Nat->Out}{ts bf:List Tok}{c:Nat}(h0:OutR ρ G B d N c (P ts c) (P' bf (c+d))):OutR ρ G B d N c (cN P ts c) (cN P' bf (c+d)):=by
 unfold cN;rcases h0 with⟨t,av,jd,c1,h1,h2,h3,h4,h5⟩|⟨e,x,y,h1,h2,h3,h4⟩
 ·rw[h1,h2];dsimp only;rw[<- h3.len];exact pct_rel _ t av jd c c1 h3 h4 h5
 rw[h1,h2];exact .inr ⟨e,x,y,rfl,rfl,h3,h4⟩
theorem uAR{P P':List Tok->Nat->Out}(hP:PR ρ G B d N P P'):PR ρ G B d N (cN P) (cN P'):=fun ts bf c h hN=>xV (hP ts bf c h hN)
theorem uGM{ts bf:List Tok}(h:EndR ρ ts bf):bF ts=bF bf/\EndR ρ (ts.drop (bF ts)) (bf.drop (bF ts))/\cQ (ts.drop (bF ts))<=cQ ts /\
  (∀ t,(ts.take (bF ts)).foldr (fun s n=>tUn s.text n) t=(bf.take (bF ts)).foldr (fun s n=>tUn s.text n) t) /\
  (∀ t:Tree,t.right 6=true->((ts.take (bF ts)).foldr (fun s n=>tUn s.text n) t).right 6=true/\((ts.take (bF ts)).foldr (fun s n=>tUn s.text n) t).size=t.size+bF ts):=by
 induction h with
 | @one e e' h h0=>
  have ha:dV e=false:=by
   unfold dV isS;simp[h0]
  have ha':dV e'=false:=by
   unfold dV isS;simp[<- h.kind,h0]
  have e1:bF [e]=0:=by unfold bF;rw[ha];rfl
  have e2:bF [e']=0:=by unfold bF;rw[ha'];rfl
  rw[e1,e2];exact⟨rfl,.one h h0,zr,fun _=>rfl,fun t ht=>⟨ht,rfl⟩⟩
 | @more t t' ts bf h h0 hm hr ih=>
  have hA:dV t=dV t':=by
   unfold dV;rw[h.isS [43],h.isS [45]]
  cases ha:dV t with
  |false=>
   have e1:bF (t::ts)=0:=by unfold bF;rw[ha];rfl
   have e2:bF (t'::bf)=0:=by unfold bF;rw[<- hA,ha];rfl
   rw[e1,e2];exact⟨rfl,.more h h0 hm hr,zr,fun _=>rfl,fun t ht=>⟨ht,rfl⟩⟩
  |true=>
   obtain⟨i1,i2,i3,i4,i5⟩:=ih;have e1:bF (t::ts)=bF ts+1:=by rw[bF,ha,if_pos rfl]
   have e2:bF (t'::bf)=bF bf+1:=by rw[bF,<- hA,ha,if_pos rfl]
   have hk:t.kind=5/\(t.text=[43]\/t.text=[45]):=by
    unfold dV isS at ha;simp at ha;rcases ha with⟨h1,h2⟩|⟨h1,h2⟩
    ·exact⟨h1,.inl h2⟩
    exact⟨h1,.inr h2⟩
   have htx:=h.same (.inr (.inl hk.1));rw[e1,e2];refine⟨by rw[i1],i2,yv i3 (Nat.le_add_left _ _),fun x=>?_,fun x hx=>?_⟩
   ·show tUn t.text _=tUn t'.text _;rw[htx,i4 x]
   obtain⟨g1,g2⟩:=i5 x hx;obtain⟨g3,g4⟩:=uBE (s:=t.text) (by rcases hk.2 with e|e <;> rw[e] <;> decide) g1;refine⟨g3,?_⟩;show (tUn t.text _).size=_;rw[g4,g2];omega
theorem uEY{P P':List Tok->Nat->Out}(hP:PR ρ G B d N P P'):PR ρ G B d N (iS P) (iS P'):=by
 intro ts bf c h hN;obtain⟨i1,i2,i3,i4,i5⟩:=uGM h;unfold iS;rw[<- i1];rcases hP _ _ c i2 (yv i3 hN) with⟨t,av,jd,c1,h1,h2,h3,h4,h5⟩|⟨e,x,y,h1,h2,h3,h4⟩
 ·rw[h1,h2];refine .inl ⟨_,_,_,_,rfl,?_,h3,h4,fun hg=>?_⟩
  ·dsimp only;rw[i4 t,show c1+d+bF ts=c1+bF ts+d by omega]
  obtain⟨g1,g2⟩:=i5 t (h5 hg).2;refine⟨?_,g1⟩;rw[g2];have:=(h5 hg).1;omega
 rw[h1,h2];exact .inr ⟨e,x,y,rfl,rfl,h3,h4⟩
theorem uHP{t t':Tok}(h:TokR ρ t t')(sg:List Bs):jC sg t=jC sg t':=by
 unfold jC;by_cases h5:t.kind=5
 ·rw[h.same (.inr (.inl h5)),h.kind]
 rw[decide_eq_false h5,decide_eq_false (by rw[<- h.kind];exact h5)];rfl
theorem lev_rel{P P':List Tok->Nat->Out}(hP:PR ρ G B d N P P'){sg:List Bs}(lp:∀ s∈sg,lS s=true):∀ (f:Nat) (t:Tree) (ts bf:List Tok) (c0 c:Nat),EndR ρ ts bf->cQ ts<=N->(G->c=c0+t.size/\t.right 6=true) ->
  OutR ρ G B d N c0 (gW P sg f t ts c) (gW P' sg f t bf (c+d)):=by
 intro f
 induction f with
 |zero=>intro t ts bf c0 c h hN hI;exact .inl ⟨t,ts,bf,c,rfl,rfl,h,hN,hI⟩
 |succ f ih=>
  intro t ts bf c0 c h hN hI;unfold gW;rw[<- uHP h.hd sg];by_cases b:jC sg (hd ts)=true
  ·rw[if_pos b,if_pos b];have hb:=b;unfold jC at hb;simp only[yh,decide_eq_true_eq]at hb;have h0:(hd ts).kind≠0:=by omega
   have htx:=h.hd.same (.inr (.inl hb.1));rcases hP ts.tail bf.tail c (h.tail h0) (yv (bO ts) hN) with⟨x,av,jd,c1,h1,h2,h3,h4,h5⟩|⟨e,x,y,h1,h2,h3,h4⟩
   ·rw[h1,h2];dsimp only;rw[htx,show c1+d+1=c1+1+d by omega];refine ih _ av jd c0 (c1+1) h3 h4 (fun hg=>?_);obtain⟨g1,g2⟩:=uIP (s:=(hd bf).text) (lp _ (by rw[<- htx];exact List.contains_iff_mem.1 hb.2)) (hI hg).2 (h5 hg).2;refine⟨?_,g1⟩;rw[g2];have:=(hI hg).1;have:=(h5 hg).1;omega
   rw[h1,h2];exact .inr ⟨e,x,y,rfl,rfl,h3,h4⟩
  rw[if_neg b,if_neg b];exact .inl ⟨t,ts,bf,c,rfl,rfl,h,hN,hI⟩
theorem uDJ{P P':List Tok->Nat->Out}(hP:PR ρ G B d N P P'){sg:List Bs}(lp:∀ s∈sg,lS s=true){ts bf:List Tok}{c:Nat}(h0:OutR ρ G B d N c (P ts c) (P' bf (c+d))):OutR ρ G B d N c (cH P sg ts c) (cH P' sg bf (c+d)):=by
 unfold cH;rcases h0 with⟨t,av,jd,c1,h1,h2,h3,h4,h5⟩|⟨e,x,y,h1,h2,h3,h4⟩
 ·rw[h1,h2];dsimp only;rw[<- h3.len];exact lev_rel hP lp _ t av jd c c1 h3 h4 h5
 rw[h1,h2];exact .inr ⟨e,x,y,rfl,rfl,h3,h4⟩
theorem kK{P P':List Tok->Nat->Out}(hP:PR ρ G B d N P P'){sg:List Bs}(lp:∀ s∈sg,lS s=true):PR ρ G B d N (cH P sg) (cH P' sg):=fun ts bf c h hN=>uDJ hP lp (hP ts bf c h hN)
theorem uEQ:∀ s∈pZ,lS s=true:=by decide
theorem uER:∀ s∈qA,lS s=true:=by decide
theorem uIV:∀ s∈gM,lS s=true:=by decide
theorem uIW:∀ s∈wO,lS s=true:=by decide
theorem uIX:∀ s∈wQ,lS s=true:=by decide
theorem uBS{P P':List Tok->Nat->Out}(hP:PR ρ G B d N P P'):PR ρ G B d N (kO P) (kO P'):=by
 unfold kO;exact kK (kK (kK (kK (kK (uEY (uAR hP)) uIX) uIW) uIV) uER) uEQ
end
theorem wS{ρ:Tok->Tok->Prop}{G B:Prop}{d:Nat}{ax:Ax}(ha:lO ax):∀ (f f' op op' N:Nat),OpR B op op' N->((op=op'/\f=f')\/(N<f/\N<f'))->PR ρ G B d N (gB f ax op) (gB f' ax op'):=by
 intro f
 induction f with
 |zero=>
  intro f' op op' N ho hf;rcases hf with⟨_,rfl⟩|⟨h,_⟩
  ·intro ts bf c h hN;exact gU h (er6 B)
  omega
 |succ f ih=>
  intro f' op op' N ho hf;cases f' with
  |zero=>rcases hf with⟨_,h⟩|⟨_,h⟩ <;> omega
  |succ f'=>
   have hp:PR ρ G B d N (lN (gB f ax) ax op) (lN (gB f' ax) ax op'):=part_rel ha ho (fun M hM=>by
    subst hM;refine ih f' (op+1) (op'+1) M ho.more ?_;rcases hf with⟨h1,h2⟩|⟨h1,h2⟩
    ·exact .inl ⟨by omega,by omega⟩
    exact .inr ⟨by omega,by omega⟩)
   exact uBS hp
def ResR(ρ:Tok->Tok->Prop)(r r':Except (Nat×Nat) Tree):Prop :=
 (∃ t,r=.ok t/\r'=.ok t/\t.right 6=true/\t.size<=256/\t.depth<=32)\/(∃ e,(e=5\/e=8)/\r=.error (e,0)/\r'=.error (e,0)) \/
 (∃ e x y,r=.error (e,x.place)/\r'=.error (e,y.place)/\ρ x y/\Er False e)
theorem yP{t:Tree}(h:t.right 6=true)(hs:t.size<=256):(dE t=0/\t.depth<=32)\/dE t=8:=by
 unfold dE;rw[if_neg (by omega),h];by_cases hd:32<t.depth
 ·rw[if_pos hd];exact .inr rfl
 rw[if_neg hd,if_pos rfl];exact .inl ⟨rfl,by omega⟩
theorem uG{ρ:Tok->Tok->Prop}{ax:Ax}(ha:lO ax){ts bf:List Tok}(h:EndR ρ ts bf):ResR ρ (eR ax ts) (eR ax bf):=by
 have hw:=wS (ρ:=ρ) (G:=True) (B:=False) (d:=0) ha 65 65 0 0 (cQ ts) ⟨.inl rfl,fun h=>h.elim⟩ (.inl ⟨rfl,rfl⟩) ts bf 0 h zr;unfold eR;rcases hw with⟨t,av,jd,c1,h1,h2,h3,h4,h5⟩|⟨e,x,y,h1,h2,h3,h4⟩
 ·rw[h1,h2];dsimp only;obtain⟨g1,g2⟩:=h5 trivial;rw[<- h3.hd.kind];by_cases k0:(hd av).kind≠0
  ·rw[if_pos k0,if_pos k0];exact .inr (.inr ⟨6,_,_,rfl,rfl,h3.hd.rel,er6 _⟩)
  rw[if_neg k0,if_neg k0,Nat.add_zero];by_cases k1:256<c1
  ·rw[if_pos k1];exact .inr (.inl ⟨5,.inl rfl,rfl,rfl⟩)
  rw[if_neg k1];rcases yP g2 (by omega) with⟨hc,hd⟩|hc
  ·rw[hc];exact .inl ⟨t,rfl,rfl,g2,by omega,hd⟩
  rw[hc];exact .inr (.inl ⟨8,.inr rfl,rfl,rfl⟩)
 rw[h1,h2];exact .inr (.inr ⟨e,x,y,rfl,rfl,h3,h4⟩)
structure TW(s:Bs)(k:Nat)(t:Tok):Prop where
 k0:t.kind≠0
 num:t.kind=1->aX t.text 0 45=false
 same:t.kind=5\/t.kind=6->aO t.text=t.text
 k2:34∉s->t.kind≠2
 lo:k<=t.place
 hi:t.place<k+s.length
 br:∀ c:UInt8,t.kind=5->t.text=[c]->s[t.place-k]?=some c
theorem signs_up:∀ c∈qB,up c=c:=by decide
theorem rU(l:Bs)(c:UInt8)(h:aX l 0 c=true):∃ r,l=c::r:=by
 unfold aX at h;cases l with
 |nil=>simp at h
 |cons d r=>simp at h;exact⟨r,by rw[h]⟩
theorem uEW(l:Bs)(h:0<fV l)(hp:0<l.length):∃ c r,l=c::r/\((fV l=1/\up c=c)\/(fV l=2/\∃ d r',r=d::r'/\up c=c/\up d=d)):=by
 cases l with
 |nil=>simp at hp
 |cons c r=>
  refine⟨c,r,rfl,?_⟩;unfold fV at h ⊢
  split
  ·rename_i h2
   refine .inr ⟨rfl,?_⟩;cases r with
   |nil=>simp[Lib.hasPrefix,List.isPrefixOf]at h2
   |cons d r'=>
    refine⟨d,r',rfl,?_⟩;simp[Lib.hasPrefix,List.isPrefixOf]at h2;rcases h2 with(⟨rfl,rfl⟩|⟨rfl,rfl⟩)|⟨rfl,rfl⟩ <;> decide
  rename_i h2
  rw[if_neg h2]at h
  split
  ·rename_i h3
   refine .inl ⟨rfl,signs_up c ?_⟩;obtain⟨n,_,_,_,he⟩:=uFR qB c h3;rw[he];simp
  rename_i h3
  rw[if_neg h3]at h;omega
def TF(l:Bs)(k:Nat)(x:Bs):Prop:=k≠0/\(k=1->aX x 0 45=false)/\(k=5\/k=6->aO x=x)/\(34∉l->k≠2)/\(∀ c:UInt8,k=5->x=[c]->l[0]?=some c)
theorem tf1{l x:Bs}(h:aX x 0 45=false):TF l 1 x:=⟨by decide,fun _=>h,fun h=>(by rcases h with h|h <;> cases h),fun _=>(by decide),fun _ h=>(by cases h)⟩
theorem tf3{l x:Bs}:TF l 3 x:=⟨by decide,fun h=>(by cases h),fun h=>(by rcases h with h|h <;> cases h),fun _=>(by decide),fun _ h=>(by cases h)⟩
theorem tf4{l x:Bs}:TF l 4 x:=⟨by decide,fun h=>(by cases h),fun h=>(by rcases h with h|h <;> cases h),fun _=>(by decide),fun _ h=>(by cases h)⟩
theorem tf2{l x:Bs}(h:34∈l):TF l 2 x:=⟨by decide,fun h=>(by cases h),fun h=>(by rcases h with h|h <;> cases h),fun hn=>absurd h hn,fun _ h=>(by cases h)⟩
theorem tf6{l x:Bs}(h:aO x=x):TF l 6 x:=⟨by decide,fun h=>(by cases h),fun _=>h,fun _=>(by decide),fun _ h=>(by cases h)⟩
theorem tf5{l x:Bs}(h:aO x=x)(h2:∀ c:UInt8,x=[c]->l[0]?=some c):TF l 5 x:=⟨by decide,fun h=>(by cases h),fun _=>h,fun _=>(by decide),fun c _=>h2 c⟩
theorem uFF(l:Bs)(hp:0<l.length)(h0:(bG l).2.2≠0):TF l (bG l).1 (bG l).2.1:=by
 unfold bG at h0 ⊢;by_cases h1:0<eQ l
 ·rw[if_pos h1];refine tf1 ?_;rw[uGQ];cases kg:aX l 0 45
  ·simp
  obtain⟨r,rfl⟩:=rU l 45 kg;rw[xT 45 r (by decide) (by decide)]at h1;omega
 rw[if_neg h1]at h0 ⊢;by_cases h2:(lF l||aX l 0 95||aX l 0 36)=true
 ·rw[if_pos h2]at h0 ⊢;unfold pA at h0 ⊢;by_cases hm:tJ (l.take (aN cU l))=true
  ·rw[if_pos hm];exact tf4
  rw[if_neg hm]at h0 ⊢;by_cases hd:dU (l.take (aN cU l))=0
  ·rw[if_pos hd];exact tf3
  rw[if_neg hd]at h0;exact absurd rfl h0
 rw[if_neg h2]at h0 ⊢;by_cases h3:aX l 0 34=true
 ·rw[if_pos h3]at h0 ⊢;unfold fB at h0 ⊢;cases hx:cF (l.drop 1) with
  |none=>rw[hx]at h0;exact absurd rfl h0
  |some x=>
   obtain⟨r,rfl⟩:=rU l 34 h3;exact tf2 List.mem_cons_self
 rw[if_neg h3]at h0 ⊢;by_cases h4:0<(dK l).length
 ·rw[if_pos h4];exact tf6 (uCU l)
 rw[if_neg h4]at h0 ⊢;by_cases h5:0<fV l
 ·rw[if_pos h5];obtain⟨c,r,rfl,h6⟩:=uEW l h5 hp;refine tf5 ?_ (fun c' hc=>?_)
  ·show aO ((c::r).take (fV (c::r)))=(c::r).take (fV (c::r));rcases h6 with⟨e,hu⟩|⟨e,d,r',rfl,hu,hu2⟩
   ·rw[e];show [up c]=[c];rw[hu]
   rw[e];show [up c,up d]=[c,d];rw[hu,hu2]
  have gw:(c::r).take (fV (c::r))=[c']:=hc;rcases h6 with⟨e,hu⟩|⟨e,d,r',rfl,hu,hu2⟩
  ·rw[e]at gw;injection gw with gw _;rw[<- gw];rfl
  rw[e]at gw;injection gw with gw h7;cases h7
 rw[if_neg h5]at h0;exact absurd rfl h0
theorem TW.shift{s s':Bs}{k k':Nat}{t:Tok}(h:TW s' k' t)(hk:k<=k')(hl:k'+s'.length=k+s.length)(hm:∀ c∈s',c∈s)(hd:∀ j,s'[j]?=s[k'-k+j]?):TW s k t :=
 ⟨h.k0,h.num,h.same,fun hn=>h.k2 (fun hc=>hn (hm _ hc)),by have:=h.lo;omega,by have:=h.hi;omega,fun c h1 h2=>by
  have:=h.br c h1 h2;rw[hd]at this;have hlo:=h.lo;rw[show k'-k+(t.place-k')=t.place-k by omega]at this;exact this⟩
theorem uDK:∀ (f:Nat) (s:Bs) (k:Nat) (ts:List Tok),fQ f s k=.ok ts->(∀ t∈ts,TW s k t)/\ts.Pairwise (fun a b=>a.place<=b.place)/\cQ ts<=s.count 40:=by
 intro f
 induction f with
 |zero=>intro s k ts h;injection h with h;subst h;exact⟨fun t ht=>by(cases ht),.nil,zm _⟩
 |succ f ih=>
  intro s k ts h;cases s with
  |nil=>injection h with h;subst h;exact⟨fun t ht=>by(cases ht),.nil,zm _⟩
  |cons c r=>
   simp only[fQ]at h
   split at h
   ·obtain⟨i1,i2,i3⟩:=ih r (k+1) ts h;refine⟨fun t ht=>(i1 t ht).shift (Nat.le_succ k) (by simp only[yi];omega) (fun c hc=>zg _ hc) (fun j=>by rw[show k+1-k+j=j+1 by omega];rfl),i2,?_⟩;rw[List.count_cons];omega
   split at h
   ·cases h
   rename_i h0
   cases hx:fQ f ((c::r).drop (bG (c::r)).2.2) (k+(bG (c::r)).2.2) with
   |error q=>rw[hx]at h;cases h
   |ok us=>
    rw[hx]at h;injection h with h;subst h;obtain⟨i1,i2,i3⟩:=ih _ _ us hx;have hle:=mS (c::r) (by simp);obtain⟨f1,f2,f3,f4,f5⟩:=uFF (c::r) (by simp) h0;have hus:∀ t∈us,TW (c::r) k t:=fun t ht=>(i1 t ht).shift (Nat.le_add_right _ _) (by rw[yk];omega) (fun c hc=>List.mem_of_mem_drop hc) (fun j=>by rw[List.getElem?_drop,Nat.add_sub_cancel_left])
    refine⟨fun t ht=>?_,?_,?_⟩
    ·rcases ym.1 ht with rfl|ht
     ·exact⟨f1,f2,f3,f4,zr,by simp,fun d h1 h2=>by rw[Nat.sub_self];exact f5 d h1 h2⟩
     exact hus t ht
    ·rw[List.pairwise_cons];exact⟨fun t ht=>(hus t ht).lo,i2⟩
    show (if isS _ [40] then 1 else 0)+cQ us<=_;have gw:((c::r).drop (bG (c::r)).2.2).count 40<=r.count 40:=by
     obtain⟨n,hn⟩:∃ n,(bG (c::r)).2.2=n+1:=⟨(bG (c::r)).2.2-1,by omega⟩
     rw[hn];exact(List.drop_sublist n r).count_le 40
    rw[List.count_cons];by_cases hs:isS (⟨(bG (c::r)).1,(bG (c::r)).2.1,k⟩:Tok) [40]=true
    ·rw[if_pos hs];unfold isS at hs;simp only[yh,decide_eq_true_eq,beq_iff_eq]at hs;have hh:=f5 40 hs.1 hs.2;simp at hh;subst hh;simp;omega
    rw[if_neg hs];omega
theorem oQ(s:Bs)(ts:List Tok)(h:mX s=.ok ts):(∀ t∈ts,TW s 0 t)/\ts.Pairwise (fun a b=>a.place<=b.place)/\cQ ts<=s.count 40:=uDK _ _ _ _ h
theorem oL{ρ:Tok->Tok->Prop}(g:Tok->Tok){e e':Tok}(h0:e.kind=0)(he:TokR ρ e e'):∀ (ts:List Tok),(∀ t∈ts,t.kind≠0/\TokR ρ t (g t)/\t.place<=e.place)->ts.Pairwise (fun a b=>a.place<=b.place)->EndR ρ (ts++[e]) (ts.map g++[e'])
 | [],_,_=>.one he h0
 |t::ts,h,hp=>by
  rw[List.pairwise_cons]at hp;obtain⟨h1,h2,h3⟩:=h t (.head _);refine .more h2 h1 ?_ (oL g h0 he ts (fun x hx=>h x (zg _ hx)) hp.2);cases ts with
  |nil=>exact h3
  |cons x r=>exact hp.1 x (.head _)
theorem yB{ρ:Tok->Tok->Prop}{s:Bs}{k:Nat}{t:Tok}(h:TW s k t)(t':Tok)(hk:t'.kind=t.kind)(ht:t'.text=t.text)(hr:ρ t t'):TokR ρ t t':=⟨hr,hk.symm,by rw[ht],fun _=>ht.symm,h.num⟩
theorem xD{ρ:Tok->Tok->Prop}(e e':Tok)(h0:e.kind=0)(hk:e'.kind=0)(ht:e'.text=e.text)(hr:ρ e e'):TokR ρ e e':=⟨hr,by rw[h0,hk],by rw[ht],fun _=>ht.symm,fun h=>by rw[h0]at h;cases h⟩
theorem fP{h:NodeH}(hv:h.v=aD)(hn:h.name.length<=100000):h.fine:=by
 unfold NodeH.fine;rw[hv];exact⟨by decide,by decide,by decide,hn⟩
theorem oW:([]:Bs).length<=100000:=by decide
theorem uHL(k:Int)(s:Bs)(hs:s.length<=100000):(Tree.mk ⟨k,aD,s,aG,aG,0⟩ []).fine:=by
 unfold Tree.fine;exact⟨fP rfl hs,trivial⟩
theorem chkLeaf:oD:=by
 intro h W hk hn he;have hf:(Tree.mk h []).fine:=by rw[he];exact uHL _ _ hn
 exact rY (.mk h []) _ W ⟨none,0,rfl,.inl rfl⟩ (by show bB []+1<=1000000;decide) hf
theorem cP{h h':NodeH}(e:NodeH.same h h'=true):h.v=h'.v/\h.name=h'.name:=by
 unfold NodeH.same at e;simp only[yh,decide_eq_true_eq,beq_iff_eq]at e;exact⟨(gY _ _).1 e.1.1.1.1.2,e.1.1.1.2⟩
theorem zK{s:Bs}(h:bN s=true):s.length<=100000:=by
 unfold bN at h;simp only[yh,decide_eq_true_eq]at h;omega
theorem zL{s:Bs}(h:bM s=true):s.length<=100000:=by
 unfold bM at h;simp only[yh,decide_eq_true_eq]at h;omega
theorem unB_len{s:Bs}(h:unB s=true):s.length<=100000:=by
 unfold unB at h;simp only[Bool.or_eq_true,beq_iff_eq]at h;rcases h with(rfl|rfl)|rfl <;> decide
theorem binB_len{s:Bs}(h:lS s=true):s.length<=100000:=by
 unfold lS at h;simp only[Bool.or_eq_true,beq_iff_eq]at h;rcases h with((((((((((rfl|rfl)|rfl)|rfl)|rfl)|rfl)|rfl)|rfl)|rfl)|rfl)|rfl)|rfl <;> decide
theorem rD{v:Val}(h:bV v=true):-9223372036854775808<=v.mant/\v.mant<=9223372036854775807/\v.text.length<=1000000:=by
 by_cases k1:v.kind=1
 ·rw[uK v k1,yh]at h;have e:=(gY _ _).1 h.2;have ht:v.text=[]:=congrArg Val.text e;have hm:v.mant.natAbs<1000000000000000:=by
   by_cases m0:v.mant=0
   ·rw[m0];decide
   exact(wB h.1 m0).1
  rw[ht];exact⟨by omega,by omega,by decide⟩
 by_cases k2:v.kind=2
 ·have h2:=h;rw[rE v k2]at h;have e:=(gY _ _).1 h;unfold bV at h2;simp[k2]at h2;refine⟨?_,?_,?_⟩
  all_goals first|omega |(simp_all;done)|skip
  all_goals trace_state
 by_cases k3:v.kind=3
 ·rw[pJ v k3]at h;have e:=(gY _ _).1 h;rw[show v.mant=0 from congrArg Val.mant e,show v.text=[] from congrArg Val.text e];exact⟨by decide,by decide,by decide⟩
 by_cases k4:v.kind=4
 ·rw[pH v k4]at h;have e:=(gY _ _).1 h;have hm:v.mant=0:=by rw[e];unfold oB;split <;> rfl
  have ht:v.text=[]:=by rw[e];unfold oB;split <;> rfl
  rw[hm,ht];exact⟨by decide,by decide,by decide⟩
 by_cases k0:v.kind=0
 ·rw[pG v k0]at h;have e:=(gY _ _).1 h;rw[show v.mant=0 from congrArg Val.mant e,show v.text=[] from congrArg Val.text e];exact⟨by decide,by decide,by decide⟩
 rw[pI v k0 k1 k2 k3 k4]at h;cases h
theorem uBB{h:NodeH}{n:Nat}{kids:List Int}{above:Int}(e:bE h n kids above=true):h.fine:=by
 unfold bE at e
 split at e
 ·simp only[yh]at e;obtain⟨⟨h1,h2⟩,_⟩:=e;unfold cA at h1;simp only[yh]at h1;obtain⟨a,b,c⟩:=rD h1.1.2;exact⟨a,b,c,by rw[(cP h2).2];exact oW⟩
 split at e
 ·simp only[yh]at e;exact fP (cP e.1.2).1 (by rw[(cP e.1.2).2];exact oW)
 split at e
 ·simp only[yh]at e;exact fP (cP e.1.2).1 (by rw[(cP e.1.2).2];exact oW)
 split at e
 ·simp only[yh]at e;exact fP (cP e.2).1 (zK e.1.1.1)
 split at e
 ·simp only[yh]at e;exact fP (cP e.2).1 (unB_len e.1.1)
 split at e
 ·simp only[yh]at e;exact fP (cP e.2).1 (binB_len e.1.1)
 split at e
 ·simp only[yh]at e;exact fP (cP e.1.2).1 (zL e.1.1)
 split at e
 ·simp only[yh]at e;exact fP (cP e.2).1 (by rw[(cP e.2).2];exact oW)
 split at e
 ·simp only[yh]at e;exact fP (cP e.1.2).1 (by rw[(cP e.1.2).2];exact oW)
 cases e
mutual
theorem tW:∀ (t:Tree) (k:Int),t.right k=true->t.fine
 | .mk h l,k,e=>by
  unfold Tree.right at e;rw[yh]at e;unfold Tree.fine;exact⟨uBB e.1,qV l h.kind e.2⟩
theorem qV:∀ (l:List Tree) (k:Int),bK l k=true->uFO l
 | [],_,_=>trivial
 |t::r,k,e=>by
  unfold bK at e;simp only[yh]at e;exact⟨tW t k e.1.2,qV r k e.2⟩
end
theorem uM{ax:Ax}(ha:lO ax){L:List Tok}(h:EndR (fun x y=>x.place=y.place) L L){t:Tree}{ts:List Tok}{c:Nat}(hw:gB 65 ax 0 L 0=.ok t ts c):c=t.size/\t.right 6=true:=by
 have hr:=wS (ρ:=fun x y=>x.place=y.place) (G:=True) (B:=False) (d:=0) ha 65 65 0 0 (cQ L) ⟨.inl rfl,fun h=>h.elim⟩ (.inl ⟨rfl,rfl⟩) L L 0 h zr;rcases hr with⟨t',av,jd,c1,h1,_,_,_,h5⟩|⟨e,x,y,h1,_,_,_⟩
 ·rw[hw]at h1;cases h1;obtain⟨h6,h7⟩:=h5 trivial;exact⟨by omega,h7⟩
 rw[hw]at h1;cases h1
theorem zS{s:Bs}{ts:List Tok}(h:mX s=.ok ts):EndR (fun x y=>x.place=y.place) (ts++[cJ s.length]) (ts++[cJ s.length]):=by
 obtain⟨f1,f2,_⟩:=oQ s ts h;have:=oL (ρ:=fun x y=>x.place=y.place) (e:=cJ s.length) (e':=cJ s.length) id rfl (xD _ _ rfl rfl rfl rfl) ts (fun t ht=>⟨(f1 t ht).k0,yB (f1 t ht) _ rfl rfl rfl,by have:=(f1 t ht).hi;show t.place<=s.length;omega⟩) f2
 rwa [List.map_id]at this
theorem nY:∀ (n:Nat) (l:Bs) (x:Bs×Nat),l.length<=n->cF l=some x->x.1.length<=l.length
 |_,[],_,_,h=>by cases h
 |_,[c],x,_,h=>by
  unfold cF at h
  split at h
  ·cases h;simp
  cases h
 |0,_::_::_,_,hn,_=>by simp at hn
 |n+1,c::d::l,x,hn,h=>by
  unfold cF at h
  split at h
  ·split at h
   ·cases hp:cF l with
    |none=>rw[hp]at h;cases h
    |some y=>
     rw[hp]at h;cases h;have:=nY n l y (by simp at hn;omega) hp;simp;omega
   cases h;simp
  cases hp:cF (d::l) with
  |none=>rw[hp]at h;cases h
  |some y=>
   rw[hp]at h;cases h;have:=nY n (d::l) y (by simp at hn ⊢;omega) hp;simp at this ⊢;omega
theorem uAO(l:Bs):(bG l).2.1.length<=l.length:=by
 have ht:∀ n,(l.take n).length<=l.length:=fun n=>by rw[zc];omega
 unfold bG
 split
 ·exact ht _
 split
 ·unfold pA
  split
  ·exact ht _
  split
  ·exact ht _
  exact zm _
 split
 ·unfold fB;cases h:cF (l.drop 1) with
  |none=>exact zm _
  |some x=>
   have:=nY _ _ x zr h;rw[yk]at this;show x.1.length<=l.length;omega
 split
 ·exact tH l
 split
 ·exact ht _
 exact zm _
theorem nR:∀ (f:Nat) (l:Bs) (k:Nat) (ts:List Tok),fQ f l k=.ok ts->∀ t∈ts,t.text.length<=l.length
 |0,_,_,ts,h,t,ht=>by cases h;cases ht
 |_+1,[],_,ts,h,t,ht=>by cases h;cases ht
 |f+1,c::r,k,ts,h,t,ht=>by
  unfold fQ at h
  split at h
  ·have:=nR f r _ ts h t ht;rw[yi];omega
  split at h
  ·cases h
  cases hg:fQ f ((c::r).drop (bG (c::r)).2.2) (k+(bG (c::r)).2.2) with
  |error p=>rw[hg]at h;cases h
  |ok us=>
   rw[hg]at h;cases h;rcases ym.1 ht with rfl|ht
   ·exact uAO (c::r)
   have:=nR f _ _ us hg t ht;rw[yk]at this;omega
theorem text_le2(s:Bs)(ts:List Tok)(h:mX s=.ok ts):∀ t∈ts,t.text.length<=s.length:=nR _ _ _ _ h
end Go.Proofs.YtmgjidnalpgegaaGreatDoor
