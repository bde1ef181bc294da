/-
  Lemmas of ParseSigns: PlSg ParseSignsW.
-/
import Derived.Test.YtmgjidnalpgegaaGreatDoorPk28
set_option maxHeartbeats 100000000
namespace Go.Proofs.YtmgjidnalpgegaaGreatDoor
open Go.RowKit
theorem aV{P:List Tok->Nat->Out}{sg:List Bs}{L R:List Tok}{c c1:Nat}{t:Tree}(h:P L c=.ok t R c1)(hn:dB sg (hd R)=false):bL P sg L c=.ok t R c1:=by
 unfold bL;rw[h];show dX P sg R.length t R c1=_;cases R with
 |nil=>rfl
 |cons a R=>
  show dX P sg (R.length+1) t (a::R) c1=_;unfold dX;rw[hn];rfl
theorem iS{P:List Tok->Nat->Out}{sg:List Bs}{L R:List Tok}{c c1 c2:Nat}{x y:Tree}{tk e:Tok}(h:P L c=.ok x (tk::R) c1)(hl:dB sg tk=true)(h2:P R c1=.ok y [e] c2)(he:e.kind=0):bL P sg L c=.ok (kH tk.text x y) [e] (c2+1):=by
 unfold bL;rw[h];show dX P sg (R.length+1) x (tk::R) c1=_;unfold dX;rw[show dB sg (hd (tk::R))=true from hl,if_pos rfl];show (match P R c1 with|.bad e p=>Out.bad e p | .ok z ts1 c1=>dX P sg R.length (kH tk.text x z) ts1 (c1+1))=_;rw[h2];show dX P sg R.length (kH tk.text x y) [e] (c2+1)=_;cases R.length with
 |zero=>rfl
 |succ n=>
  unfold dX;rw[show dB sg (hd [e])=false by show dB sg e=false;unfold dB;rw[he];rfl];rfl
theorem sN{P:List Tok->Nat->Out}{L R:List Tok}{c c1:Nat}{t:Tree}(ha:bD L=0)(h:P L c=.ok t R c1)(hp:isS (hd R) [37]=false):cP (bM P) L c=.ok t R c1:=by
 unfold cP bM;rw[ha,List.drop_zero,h];have:fQ R.length t R c1=.ok t R c1:=by
  cases R with
  |nil=>rfl
  |cons a R=>
   show fQ (R.length+1) t (a::R) c1=_;unfold fQ;rw[hp];rfl
 dsimp only;rw[this];rfl
def dV:List Bs:=[[43],[45],[42],[47],[94],[38],[61],[60,62],[60],[60,61],[62],[62,61]]
theorem uDN{P:List Tok->Nat->Out}{L R:List Tok}{c c1 c2:Nat}{x y:Tree}{sg:Bs}{p:Nat}{e:Tok}(hs:sg∈dV)(h:cP (bM P) L c=.ok x (⟨5,sg,p⟩::R) c1)(h2:cP (bM P) R c1=.ok y [e] c2)(he:e.kind=0) :
  eD P L c=.ok (kH sg x y) [e] (c2+1):=by
 have hE:∀ l,dB l (hd [e])=false:=fun l=>by show dB l e=false;unfold dB;rw[he];rfl
 unfold eD;simp only[dV,ym,List.not_mem_nil,or_false]at hs;rcases hs with rfl|rfl|rfl|rfl|rfl|rfl|rfl|rfl|rfl|rfl|rfl|rfl
 ·exact aV (aV (iS (aV (aV h rfl) rfl) rfl (aV (aV h2 (hE _)) (hE _)) he) (hE _)) (hE _)
 ·exact aV (aV (iS (aV (aV h rfl) rfl) rfl (aV (aV h2 (hE _)) (hE _)) he) (hE _)) (hE _)
 ·exact aV (aV (aV (iS (aV h rfl) rfl (aV h2 (hE _)) he) (hE _)) (hE _)) (hE _)
 ·exact aV (aV (aV (iS (aV h rfl) rfl (aV h2 (hE _)) he) (hE _)) (hE _)) (hE _)
 ·exact aV (aV (aV (aV (iS h rfl h2 he) (hE _)) (hE _)) (hE _)) (hE _)
 ·exact aV (iS (aV (aV (aV h rfl) rfl) rfl) rfl (aV (aV (aV h2 (hE _)) (hE _)) (hE _)) he) (hE _)
 all_goals exact iS (aV (aV (aV (aV h rfl) rfl) rfl) rfl) rfl (aV (aV (aV (aV h2 (hE _)) (hE _)) (hE _)) (hE _)) he
theorem uKE(c:UInt8)(r:Bs)(n:Nat)(hd:aB c=false)(jc:c≠46)(hl:gD (c::r)=false)(xv:c≠95)(uq:c≠36)(ov:c≠34)(m9:c≠35)(hs:eJ (c::r)=n)(hn:0<n):bE (c::r)=(5,(c::r).take n,n):=by
 have hw:∀ d,c≠d->aZ (c::r) 0 d=false:=fun d hd=>by
  rw[qW];simpa using hd
 have hf:cL (c::r)=[]:=by
  unfold cL lD;rw[hw 35 m9];rfl
 unfold bE;rw[jP c r hd jc,if_neg (by omega),hl,hw 95 xv,hw 36 uq,hw 34 ov,hf,hs];simp only[Bool.or_self,Bool.false_eq_true,if_false,List.length_nil,Nat.lt_irrefl];rw[if_pos hn]
theorem sign_tok{sg:Bs}(hs:sg∈dV)(r:Bs)(k:Nat):bK (sg++40::r) k=kO ⟨5,sg,k⟩ (bK (40::r) (k+sg.length)):=by
 have key:∀ (c:UInt8) (l:Bs) (n:Nat),sg=c::l->n=l.length+1->c≠32->aB c=false->c≠46->gD [c]=false->c≠95->c≠36->c≠34->c≠35->eJ (c::(l++40::r))=n->bK (sg++40::r) k=kO ⟨5,sg,k⟩ (bK (40::r) (k+sg.length)):=fun c l n e1 e2 oj hd jc hl xv uq ov m9 ik=>by
  subst e1 e2;have ht:=uKE c (l++40::r) _ hd jc (by exact hl) xv uq ov m9 ik (Nat.succ_pos _);rw[yp,hG c _ k oj (by rw[ht];exact Nat.succ_ne_zero _),ht];dsimp only;rw[<- yp,show l.length+1=(c::l).length from rfl,List.take_left,List.drop_left]
 simp only[dV,ym,List.not_mem_nil,or_false]at hs;rcases hs with rfl|rfl|rfl|rfl|rfl|rfl|rfl|rfl|rfl|rfl|rfl|rfl
 all_goals exact key _ _ _ rfl rfl (by decide) (by decide) (by decide) (by decide) (by decide) (by decide) (by decide) (by decide) (by unfold eJ Lib.hasPrefix;rfl)
theorem qF{ax:Ax}{s:Bs}{t:Tree}{ts:List Tok}(h:Operand ax s t ts)(k p q c:Nat)(Y1:List Tok)(hS:EndR (fun x z=>x=z) Y1 Y1):fI (bY 64 ax) ax 0 (⟨5,[40],p⟩::(ts.map (aU k)++⟨5,[41],q⟩::Y1)) c=.ok t Y1 (c+t.size):=by
 have hr:=h.read k 64 1 c ⟨5,[41],q⟩ Y1 (by omega) (by omega) (.inl rfl) hS;show (match bY 64 ax 1 (ts.map (aU k)++⟨5,[41],q⟩::Y1) c with
  | .bad e p=>Out.bad e p
  | .ok x ts1 c1=>if isS (hd ts1) [41] then Out.ok x ts1.tail c1 else fU 6 ts1)=_
 rw[hr];rfl
theorem uDB{ax:Ax}(ha:lU ax){s t:Bs}{x y:Tree}(hx:aR ax s=.ok x)(hy:aR ax t=.ok y)(hs:s.count 40<50)(ht:t.count 40<50){sg:Bs}(ik:sg∈dV)(hc:cK (kH sg x y)=0) :
  aR ax (40::(s++41::(sg++40::(t++[41]))))=.ok (kH sg x y):=by
 obtain⟨ts,hS⟩:=kU ha hx hs;obtain⟨us,hU⟩:=kU ha hy ht;have h41:Stp 41:=.inr (.inl rfl);have kb:jH (40::(s++41::(sg++40::(t++[41]))))=.ok (⟨5,[40],0⟩::(ts.map (aU 1)++⟨5,[41],1+s.length⟩::⟨5,sg,1+s.length+1⟩::⟨5,[40],1+s.length+1+sg.length⟩::(us.map (aU (1+s.length+1+sg.length+1))++[⟨5,[41],1+s.length+1+sg.length+1+t.length⟩]))):=by
  unfold jH;rw[cB 40 _ 0 (.inl rfl),Nat.zero_add,fC hS h41 _ 1,cB 41 _ _ (.inr (.inl rfl)),sign_tok ik,cB 40 _ _ (.inl rfl),fC hU h41 [] _,cB 41 [] _ (.inr (.inl rfl)),gZ];rfl
 obtain⟨hself,hk0⟩:=uJ kb;have hE:∀ A B:List Tok,(⟨5,[40],0⟩::(ts.map (aU 1)++⟨5,[41],1+s.length⟩::⟨5,sg,1+s.length+1⟩::⟨5,[40],1+s.length+1+sg.length⟩::(us.map (aU (1+s.length+1+sg.length+1))++[⟨5,[41],1+s.length+1+sg.length+1+t.length⟩])))++[bA (40::(s++41::(sg++40::(t++[41]))):Bs).length]=A++B->(∀ t∈A,t.kind≠0)->EndR (fun x z=>x=z) B B:=fun A B e h=>by
  rw[e]at hself;exact hself.behind h
 unfold aR;rw[kb];show eS ax _=_;generalize hn:(40::(s++41::(sg++40::(t++[41]))):Bs).length=n at hE ⊢;have hmapk:∀ (l:List Tok) (k:Nat),(∀ t∈l,t.kind≠0)->∀ t∈l.map (aU k),t.kind≠0:=fun l k h t ht=>by
  obtain⟨z,hz,rfl⟩:=yj.1 ht;exact h z hz
 have ks:=hmapk ts 1 (fun t ht=>((kB s ts hS.lex).1 t ht).k0);have ku:=hmapk us (1+s.length+1+sg.length+1) (fun x hx=>((kB t us hU.lex).1 x hx).k0);have E1:=hE (⟨5,[40],0⟩::(ts.map (aU 1)++[⟨5,[41],1+s.length⟩])) (⟨5,sg,1+s.length+1⟩::⟨5,[40],1+s.length+1+sg.length⟩::(us.map (aU (1+s.length+1+sg.length+1))++⟨5,[41],1+s.length+1+sg.length+1+t.length⟩::[bA n])) (by simp) (fun z hz=>by
  rcases ym.1 hz with rfl|hz
  ·show (5:Nat)≠0;decide
  rcases List.mem_append.1 hz with hz|hz
  ·exact ks z hz
  rw[yf.1 hz];show (5:Nat)≠0;decide)
 have E2:EndR (fun x z=>x=z) [bA n] [bA n]:=.one (mA _ _ rfl rfl rfl rfl) rfl;have p1:=qF hS 1 0 (1+s.length) 0 _ E1;have p2:=qF hU (1+s.length+1+sg.length+1) (1+s.length+1+sg.length) (1+s.length+1+sg.length+1+t.length) (0+x.size) _ E2;have hL:(⟨5,[40],0⟩::(ts.map (aU 1)++⟨5,[41],1+s.length⟩::⟨5,sg,1+s.length+1⟩::⟨5,[40],1+s.length+1+sg.length⟩::(us.map (aU (1+s.length+1+sg.length+1))++[(⟨5,[41],1+s.length+1+sg.length+1+t.length⟩:Tok)])))++[bA n]=⟨5,[40],0⟩::(ts.map (aU 1)++⟨5,[41],1+s.length⟩::⟨5,sg,1+s.length+1⟩::⟨5,[40],1+s.length+1+sg.length⟩::(us.map (aU (1+s.length+1+sg.length+1))++⟨5,[41],1+s.length+1+sg.length+1+t.length⟩::[bA n])):=by simp
 rw[hL];have w0:=uDN ik (sN rfl p1 (by
  simp only[dV,ym,List.not_mem_nil,or_false]at ik;rcases ik with rfl|rfl|rfl|rfl|rfl|rfl|rfl|rfl|rfl|rfl|rfl|rfl <;> rfl)) (sN rfl p2 rfl) rfl
 have hw:bY 65 ax 0 (⟨5,[40],0⟩::(ts.map (aU 1)++⟨5,[41],1+s.length⟩::⟨5,sg,1+s.length+1⟩::⟨5,[40],1+s.length+1+sg.length⟩::(us.map (aU (1+s.length+1+sg.length+1))++⟨5,[41],1+s.length+1+sg.length+1+t.length⟩::[bA n]))) 0=.ok (kH sg x y) [bA n] (0+x.size+y.size+1):=w0;have bg:(kH sg x y).size=x.size+y.size+1:=by show x.size+(y.size+0)+1=_;omega
 have dz:(kH sg x y).size<=256:=by
  unfold cK at hc;by_cases h:256<(kH sg x y).size
  ·rw[if_pos h]at hc;cases hc
  omega
 unfold eS;rw[hw];dsimp only;rw[if_neg (fun h=>h rfl),if_neg (by omega),if_neg (fun h=>h hc)]
set_option maxRecDepth 1000000 in
theorem signs_any(s t:Bs)(A B:Option Addr)(ca cb:Nat)(ids jds:List IdR)(u:Nat)(w:World)(hT:Tab w)(hA:mR w A ids)(hB:mR w B jds)(hn:ids.length<=maxLen)(hm:jds.length<=maxLen)(hf:∀ y∈ids,y.fits)(hg:∀ y∈jds,y.fits)(el:s.length+t.length<=9223372036854775807)(hu:u<=255) :
  Calls Tryz.prog 6 #[.string ⟨s.toArray⟩,.string ⟨t.toArray⟩,.slice A ids.length ca,.slice B jds.length cb,.int .u8 (u:Int)] w fun e w'=>e=.returned (.bool true)/\Below w.heap.size w w':=by
 have CA:=zh (tH w hT);have HA:=zh hA;have HB:=zh hB;have HFt:=zh (And.intro hf hg);have HT:=zh hT;have uj:=zh (And.intro hn hm);have hcat:¬ 9223372036854775807<s.length+t.length:=by omega
 clear hT hA hB hf hg hn hm el
 go_enter Tryz.func6,Tryz.ntmps6
 go_wp2_with fail
 refine CA.out.mono ?_;rintro e W1 ⟨rfl,af⟩;have CX:=zh (wS A B ca cb ids jds W1 (HT.out.next af) (mH HA.out af) (mH HB.out af) uj.out.1 uj.out.2 HFt.out.1 HFt.out.2 w af HT.out.lt);clear af CA HA HB HT HFt uj
 go_wp2_with fail
 refine CX.out.mono ?_;rintro e W2 ⟨⟨u1,rfl⟩,bf,hcx⟩;have CX2:=zh hcx;clear hcx bf CX
 go_wp2_with fail
 refine CX2.out.mono ?_;rintro e W3 ⟨⟨u2,rfl⟩,bu,rp⟩;have au:=zh bu;have zz:=zh rp;clear rp bu CX2;generalize W1.heap.size=qa at *;generalize W2.heap.size=qb at *;have oe:(s++t).length=s.length+t.length:=yl;by_cases tu:1500<s.length+t.length\/200<ids.length\/200<jds.length
 ·have CG:=zh (kQ (s++t) A B none ids.length jds.length 0 ca cb 0 W3 true (by rw[oe];simp;omega));clear oe
  go_wp2_with fail
  refine CG.out.mono ?_;rintro e W4 ⟨rfl,i9⟩;rw[i9];clear i9 CG
  go_wp2_with fail
  go_ret
  exact⟨rfl,au.out⟩
 have CG:=zh (kQ (s++t) A B none ids.length jds.length 0 ca cb 0 W3 false (by rw[oe];simp;omega));have HSm:Hid (s.length+t.length<=1500/\ids.length<=200/\jds.length<=200):=zh (by omega);have rv:=zh (zz.out (by omega) (by omega));have CB1:=zh (iZ s W3 (by omega));have CB2:=zh (iZ t W3 (by omega));clear tu oe zz
 go_wp2_with fail
 refine CG.out.mono ?_;rintro e W4 ⟨rfl,i9⟩;rw[i9];clear i9 CG
 go_wp2_with fail
 refine CB1.out.mono ?_;rintro e W4 ⟨rfl,i9⟩;rw[<- i9];clear i9 CB1;obtain⟨n1,av⟩:∃ n,s.count 40=n:=⟨_,rfl⟩
 obtain⟨n2,ep⟩:∃ n,t.count 40=n:=⟨_,rfl⟩
 rw[av];rw[ep]at CB2;by_cases h50:50<=n1
 ·have h50i:(50:Int)<=(n1:Int):=by omega
  go_wp2_with fail
  go_ret
  exact⟨rfl,au.out⟩
 have h50i:¬ (50:Int)<=(n1:Int):=by omega
 go_wp2_with fail
 refine CB2.out.mono ?_;rintro e W4 ⟨rfl,i9⟩;rw[<- i9];clear i9 CB2;by_cases h51:50<=n2
 ·have h51i:(50:Int)<=(n2:Int):=by omega
  go_wp2_with fail
  go_ret
  exact⟨rfl,au.out⟩
 have h51i:¬ (50:Int)<=(n2:Int):=by omega
 have oh:Hid (s.count 40<50/\t.count 40<50):=zh (by omega);clear h50 h51 av ep au;have hbS:Below W3.heap.size W3 (W3.alloc (.cells (dV.map fun s=>Value.string ⟨s.toArray⟩).toArray 9)):=(zp _);have u9:=zh (zQ W3 9 dV);have qh:=zh (rv.out.next hbS);clear hbS rv
 go_upto_region 8 with fail
 change Code.wp _ _ _ _ (World.alloc W3 (.cells (dV.map fun s=>Value.string ⟨s.toArray⟩).toArray 9));generalize World.alloc _ _=W4 at u9 qh ⊢;generalize W3.heap.size=gs at *;clear h50i h51i hcat;obtain⟨k,hk⟩:∃ k,u % 12=k:=⟨_,rfl⟩
 have iz:k<dV.length:=by show k<12;omega
 have lh:(k:Int)<12:=by have:k<12:=iz;omega
 have hrem:((u:Int) % 12)=(k:Int):=by omega
 have hui:(u:Int)<=255:=by omega
 have x0:=u9.out k iz;have HSG:Hid (dV[k]∈dV/\dV[k].length<=2):=zh ⟨List.getElem_mem iz,by
  have h:∀ x∈dV,x.length<=2:=by decide
  exact h _ (List.getElem_mem iz)⟩
 generalize dV[k]=sg at *;clear hk iz u9
 go_upto_region 9 with fail
 clear x0 hrem lh;obtain⟨ax,hax⟩:∃ ax:Ax,ax=⟨fR ids,fR jds⟩:=⟨_,rfl⟩
 have hok:lU ax:=by rw[hax];exact yI ids jds
 rw[<- hax]at qh;clear hax;have rr:=zh hok;have CF:=zh (fun W S hL hs=>uBG ax hok qa qb w W S hL hs);obtain⟨t1,p1,e1,jq⟩:∃ t1 p1 e1,nO (aR ax s)=t1/\uCT (aR ax s)=p1/\uCS (aR ax s)=e1:=⟨_,_,_,rfl,rfl,rfl⟩
 obtain⟨t2,p2,e2,j7⟩:∃ t1 p1 e1,nO (aR ax t)=t1/\uCT (aR ax t)=p1/\uCS (aR ax t)=e1:=⟨_,_,_,rfl,rfl,rfl⟩
 have de:=zh jq;have ce:=zh j7;clear jq j7 hok;have vv:Hid (qb<W4.heap.size):=zh qh.out.qs
 go_wp2_with fail
 refine(CF.out W4 (s) qh.out (by have:=HSm.out;omega)).mono ?_;rintro e' Wq ⟨hL,hN,hs,dz,C,rfl,hC,ec,hk⟩;rw[de.out.1]at hk dz;rw[de.out.2.1,de.out.2.2];obtain⟨-,z2,z3,z4⟩:=nX hL qh.out.qs hs hC hk;have HZ:=zh (And.intro z3 (And.intro z2 (And.intro dz trivial)));have qo:Hid (World.there (Wq.alloc (.cells aA.toArray 41)) Wq.heap.size 0 C.toArray.size):=zh (cH hC);have dx:=zh ec;have HSW1:Hid (W4.heap.size<=Wq.heap.size):=zh hs;have zi:(Tryz.prog.info? 41).map (·.size)=some C.toArray.size:=by rw[yd,hC];exact aE
 clear z2 z3 z4 hL hN hs hC ec hk dz qh;simp only[aA]at HZ
 go_upto_region 10 with(first |(refine yq rfl 41 (.tmp 17) (.tmp 67) rfl Wq.heap.size 0 C.toArray rfl rfl qo.out zi dx.out ?_;change wpList _ _ _ _ _ (World.setCells _ Wq.heap.size 0 C);generalize World.setCells _ _ _ _=W5 at HZ ⊢))
 have HL5:=zh HZ.out.1;have jf:=zh HZ.out.2.1;have vr:=zh HZ.out.2.2.1;clear HZ qo dx zi;generalize Wq.heap.size=g1 at *;generalize W4.heap.size=x1 at *;have uo:Hid (x1<=W5.heap.size):=zh (by obtain⟨D,_,hl,_⟩:=jf.out.cells;have:=hl.lt;have:=HSW1.out;omega)
 go_wp2_with fail
 refine(CF.out W5 (t) HL5.out (by have:=HSm.out;omega)).mono ?_;rintro e' Wq ⟨hL,hN,hs,dz,C,rfl,hC,ec,hk⟩;rw[ce.out.1]at hk dz;rw[ce.out.2.1,ce.out.2.2];obtain⟨-,z2,z3,z4⟩:=nX hL HL5.out.qs hs hC hk;have hWs:W5.heap.size<=Wq.heap.size:=hs;have HZ:=zh (And.intro z3 (And.intro z2 (And.intro dz (And.intro (z4 _ _ _ (hN _ _ _ jf.out)) trivial))));have qo:Hid (World.there (Wq.alloc (.cells aA.toArray 41)) Wq.heap.size 0 C.toArray.size):=zh (cH hC);have dx:=zh ec;have HSW2:Hid (W5.heap.size<=Wq.heap.size):=zh hs;have zi:(Tryz.prog.info? 41).map (·.size)=some C.toArray.size:=by rw[yd,hC];exact aE
 clear z2 z3 z4 hL hN hs hC ec hk dz HL5 jf hWs;simp only[aA]at HZ
 go_upto_region 11 with(first |(refine yq rfl 41 (.tmp 20) (.tmp 75) rfl Wq.heap.size 0 C.toArray rfl rfl qo.out zi dx.out ?_;change wpList _ _ _ _ _ (World.setCells _ Wq.heap.size 0 C);generalize World.setCells _ _ _ _=W6 at HZ ⊢))
 have HL6:=zh HZ.out.1;have ft:=zh HZ.out.2.1;have HT2:=zh HZ.out.2.2.1;have jf:=zh HZ.out.2.2.2.1;clear HZ qo dx zi;generalize Wq.heap.size=g2 at *;generalize W5.heap.size=x2 at *;obtain⟨D1,hD1,kn,A1,cp1,eu,dc⟩:=jf.out.cells;obtain⟨D2,hD2,hl2,A2,cp2,fi,fg⟩:=ft.out.cells;have uc:KCells W6 (List.range x1) (D1++D2) [t1,t2]:=by have h:=uBD hD1 eu (dc x1 zr) (uBD (xs:=[]) (l:=[]) hD2 fi (fg x1 uo.out) rfl);rwa [List.append_nil]at h
 obtain⟨Cw,hCw,hw22,hw1,hwL,hwN,-,hwT⟩:=uBH HL6.out vv.out (by have h1:=kn.lt;have:=HSW1.out;omega) ⟨6,aC,sg,aG,aG,0⟩ [t1,t2] (D1++D2) uc 2;have HCW:Hid ((#[.int .i64 6,.int .i64 0,.int .i64 0,.int .i64 0,.string ⟨#[]⟩,.bool false,.int .i64 0,.string ⟨sg.toArray⟩,.int .i64 0,.int .i64 0,.int .i64 0,.int .i64 0,.bool false,.bool false,.int .i64 0,.int .i64 0,.int .i64 0,.int .i64 0,.bool false,.bool false,.int .i64 0,.slice (some ⟨W6.heap.size,0,none⟩) 2 2]:Array Value)=Cw.toArray):=zh hCw;have ot:=zh (And.intro hwL (And.intro hwN hwT));have yo:=zh hw1;have c7:Hid ((Tryz.prog.info? 41).map (·.size)=some Cw.toArray.size):=zh (by rw[yd,hw22];exact aE);have fp:=zh (dW eu);have ct:=zh (dW fi);have HRA1:=zh kn.rangeL;have HRA2:=zh hl2.rangeL;have lz:=zh hD1;have HD2:=zh hD2
 clear hCw hwL hwN hwT hw1 uc dc fg eu fi kn hl2 hD1 hD2 jf ft HL6;simp only[aA]at ot
 go_upto_region 12 with(first |(refine yr rfl 41 (.tmp 17) rfl g1 0 rfl D1 _ HRA1.out Tryz.underlying41 rfl fp.out ?_) |(refine yr rfl 41 (.tmp 20) rfl g2 0 rfl D2 _ HRA2.out Tryz.underlying41 rfl ct.out ?_) |(refine mQ rfl (.tmp 79) (.tmp 80) rfl D1 D2 rfl rfl lz.out HD2.out W6.heap.size rfl (some 81) rfl ?_;generalize World.alloc W6 _=W7 at ot ⊢) |(refine yq rfl 41 (.tmp 23) (.tmp 82) rfl W7.heap.size 0 Cw.toArray rfl (congrArg Value.agg HCW.out) ot.out.2.2 c7.out yo.out ?_;change wpList _ _ _ _ _ (World.setCells _ W7.heap.size 0 Cw);generalize World.setCells _ _ _ _=W8 at ot ⊢;dsimp only[Act.put]))
 have HL8:=zh ot.out.1;have m6:=zh ot.out.2.1;rw[HCW.out];clear ot HRA1 HRA2 fp ct lz HD2 c7 yo uo;generalize W7.heap.size=g3 at *;generalize W6.heap.size=g6 at *;obtain⟨Dw,hDw,hlw,Aw,cpw,si,tv⟩:=m6.out.cells;have HRW:=zh hlw.rangeL;have HIW:=zh (dW si);have cr:Hid ((kH sg t1 t2).size<=1000):=zh (by have:=vr.out;have:=HT2.out;show t1.size+(t2.size+0)+1<=1000;omega);have HTW:Hid (TreeIn W8 (kH sg t1 t2) Dw.toArray):=zh ⟨Aw,cpw,si,(tv 0 (zm _)).anti (fun y hy=>by cases hy)⟩;have ez:=zh HL8.out.bel;clear hDw hlw si tv;by_cases lf:e1=0
 rotate_left
 ·have xe:((e1:Int) != 0)=true:=by simp;omega
  have ye:((e1:Int)==0)=false:=by simp;omega
  clear lf
  go_wp2_with fail
  go_ret
  exact⟨rfl,ez.out⟩
 by_cases sr:e2=0
 rotate_left
 ·have xe0:((e1:Int) != 0)=false:=by rw[lf];rfl
  have ye0:((e1:Int)==0)=true:=by rw[lf];rfl
  have xe:((e2:Int) != 0)=true:=by simp;omega
  have ye:((e2:Int)==0)=false:=by simp;omega
  clear lf sr
  go_wp2_with fail
  go_ret
  exact⟨rfl,ez.out⟩
 have xe0:((e1:Int) != 0)=false:=by rw[lf];rfl
 have ye0:((e1:Int)==0)=true:=by rw[lf];rfl
 have xe:((e2:Int) != 0)=false:=by rw[sr];rfl
 have ye:((e2:Int)==0)=true:=by rw[sr];rfl
 have HF1:Hid (aR ax s=.ok t1):=zh (by
  obtain⟨r1,r2,r3⟩:=de.out;rcases mE ax rr.out s with⟨t',h⟩|⟨e',p',h,h0⟩
  ·rw[h]at r1 ⊢;rw[<- r1];rfl
  rw[h]at r3;exact absurd (r3.trans lf) h0)
 have mj:Hid (aR ax t=.ok t2):=zh (by
  obtain⟨r1,r2,r3⟩:=ce.out;rcases mE ax rr.out t with⟨t',h⟩|⟨e',p',h,h0⟩
  ·rw[h]at r1 ⊢;rw[<- r1];rfl
  rw[h]at r3;exact absurd (r3.trans sr) h0)
 clear lf sr de ce;have HRT:Hid ((kH sg t1 t2).right 6=true):=zh (by
  obtain⟨ts,o1⟩:=kU rr.out HF1.out oh.out.1;obtain⟨us,o2⟩:=kU rr.out mj.out oh.out.2;exact(xY (by have h:∀ x∈dV,kZ x=true:=(by decide);exact h _ HSG.out.1) o1.right o2.right).1)
 have HCK:=zh (xV (kH sg t1 t2) Dw.toArray W8 HRT.out (by have:=cr.out;omega) HTW.out)
 go_wp2_with (first |(refine aL (Eq.trans (aH rfl rfl rfl rfl) rfl) 41 (.tmp 23) rfl g3 0 rfl Dw _ HRW.out Tryz.underlying41 rfl HIW.out ?_))
 refine HCK.out.mono ?_;rintro e' W9 ⟨rfl,fe⟩;have kw:=zh (HL8.out.next fe);have mx:=zh (m6.out.next fe);have fw:=zh kw.out.bel;clear fe HCK HL8 m6 ez HTW HRW;obtain⟨cc,u6⟩:∃ c,cK (kH sg t1 t2)=c:=⟨_,rfl⟩
 rw[u6];by_cases rz:cc=0
 rotate_left
 ·have xc:((cc:Int) != 0)=true:=by simp;omega
  have yc:((cc:Int)==0)=false:=by simp;omega
  clear rz
  go_wp2_with fail
  go_ret
  exact⟨rfl,fw.out⟩
 have HF3:Hid (aR ax (40::(s++41::(sg++40::(t++[41]))))=.ok (kH sg t1 t2)):=zh (uDB rr.out HF1.out mj.out oh.out.1 oh.out.2 HSG.out.1 (u6.trans rz));have xc:((cc:Int) != 0)=false:=by rw[rz];rfl
 have yc:((cc:Int)==0)=true:=by rw[rz];rfl
 have ev:Hid (nO (aR ax (40::(s++41::(sg++40::(t++[41])))))=kH sg t1 t2/\uCT (aR ax (40::(s++41::(sg++40::(t++[41])))))=0/\uCS (aR ax (40::(s++41::(sg++40::(t++[41])))))=0):=zh (by rw[HF3.out];exact⟨rfl,rfl,rfl⟩);have hls:s.length<=1500:=by have:=HSm.out;omega
 have hlt:t.length<=1500:=by have:=HSm.out;omega
 have hlg:sg.length<=2:=HSG.out.2;clear rz u6 HF1 mj HF3 fw
 go_wp2_with fail
 refine(CF.out W9 (40::(s++41::(sg++40::(t++[41])))) kw.out (by simp;omega)).mono ?_;rintro e' Wq ⟨hL,hN,hs,dz,C,rfl,hC,ec,hk⟩;rw[ev.out.1]at hk dz;rw[ev.out.2.1,ev.out.2.2];obtain⟨-,z2,z3,z4⟩:=nX hL kw.out.qs hs hC hk;have hWs:W9.heap.size<=Wq.heap.size:=hs;have HZ:=zh (And.intro z3 (And.intro z2 (And.intro dz (And.intro (z4 _ _ _ (hN _ _ _ mx.out)) trivial))));have qo:Hid (World.there (Wq.alloc (.cells aA.toArray 41)) Wq.heap.size 0 C.toArray.size):=zh (cH hC);have dx:=zh ec;have HSW3:Hid (W9.heap.size<=Wq.heap.size):=zh hs;have zi:(Tryz.prog.info? 41).map (·.size)=some C.toArray.size:=by rw[yd,hC];exact aE
 clear z2 z3 z4 hL hN hs hC ec hk dz kw mx hWs;simp only[aA]at HZ
 go_upto_region 15 with(first |(refine yq rfl 41 (.tmp 24) (.tmp 107) rfl Wq.heap.size 0 C.toArray rfl rfl qo.out zi dx.out ?_;change wpList _ _ _ _ _ (World.setCells _ Wq.heap.size 0 C);generalize World.setCells _ _ _ _=W10 at HZ ⊢))
 have po:=zh HZ.out.1;have m6:=zh HZ.out.2.1;have HT3:=zh HZ.out.2.2.1;have mx:=zh HZ.out.2.2.2.1;clear HZ qo dx zi;generalize Wq.heap.size=g4 at *;obtain⟨Dw,hDw,hlw,Aw,cpw,si,tv⟩:=mx.out.cells;obtain⟨Dv,hDv,hlv,Av,cpv,hcv,hkv⟩:=m6.out.cells;have HRW:=zh hlw.rangeL;have HIW:=zh (dW si);have HRV:=zh hlv.rangeL;have HIV:=zh (dW hcv);have HSM:=zh (dI 1000 (by decide) (kH sg t1 t2) (kH sg t1 t2) Dv.toArray Dw.toArray W10 cr.out ⟨Av,cpv,hcv,(hkv 0 (zm _)).anti (fun y hy=>by cases hy)⟩ ⟨Aw,cpw,si,(tv 0 (zm _)).anti (fun y hy=>by cases hy)⟩);rw[eB]at HSM;have ez:=zh po.out.bel;clear hDw hlw si tv hDv hlv hcv hkv
 go_wp2_with (first |(refine aL (Eq.trans (aH rfl rfl rfl rfl) rfl) 41 (.tmp 24) rfl g4 0 rfl Dv _ HRV.out Tryz.underlying41 rfl HIV.out ?_) |(refine aL (Eq.trans (aH rfl rfl rfl rfl) rfl) 41 (.tmp 23) rfl g3 0 rfl Dw _ HRW.out Tryz.underlying41 rfl HIW.out ?_))
 refine HSM.out.mono ?_;rintro e' W11 ⟨rfl,lu⟩;have t5:=zh (ez.out.trans (lu.mono ez.out.size));clear lu
 go_wp2_with fail
 go_ret
 exact⟨rfl,t5.out⟩
end Go.Proofs.YtmgjidnalpgegaaGreatDoor
