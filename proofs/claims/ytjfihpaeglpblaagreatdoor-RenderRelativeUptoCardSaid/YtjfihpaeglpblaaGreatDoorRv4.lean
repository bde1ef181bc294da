/-
  Lemmas, part 4: RefC PlSim Join4 Join7 OpenV LaidH.
-/
import Derived.Test.YtjfihpaeglpblaaGreatDoorCards
import Derived.ProofKit
import Derived.OpenShut
import Derived.ShutString
import Derived.Deep.DeepHandedRow
import Derived.Lib.LaidTab
import Derived.Test.YtjfihpaeglpblaaGreatDoorRv3
set_option maxHeartbeats 100000000
set_option maxRecDepth 1000000
namespace Go.Proofs.YtjfihpaeglpblaaGreatDoor
open Go.RowKit
def dgB(d:Nat):UInt8:=UInt8.ofNat (48+d)
theorem dl_text(n:Nat):0<n->(dl n).map dgB=Lib.decDigits n:=by
 refine wO (fun n=>0<n->(dl n).map dgB=Lib.decDigits n) (fun h=>by omega) (fun n hn ih _=>?_) n;rw[iO n hn,Lib.decDigits,List.map_append];by_cases h:n<10
 ·have h0:n / 10=0:=by omega
  have h1:n % 10=n:=by omega
  rw[dif_pos h,h0,h1];rfl
 rw[dif_neg h,ih (by omega)];rfl
def sX(e:Int)(s:Bs):Bs:=List.replicate ((-e).toNat+1-s.length) 48++s
def dotB(e:Int)(s:Bs):Bs:=s.take (s.length-(-e).toNat)++[46]++s.drop (s.length-(-e).toNat)
theorem rText_eq(m e:Int)(t:Bs)(ht:t=Lib.decDigits m.natAbs) :
  bL m e=(if m<0 then [45] else [])++(if e<0 then dotB e (sX e t) else t++List.replicate e.toNat 48):=by
 have hN:bL m e=if 0<=e then (if m<0 then [45] else [])++t++List.replicate e.toNat 48
   else if 0<(t.length:Int)+e then (if m<0 then [45] else [])++t.take ((t.length:Int)+e).toNat++[46]++t.drop ((t.length:Int)+e).toNat
   else (if m<0 then [45] else [])++[48,46]++List.replicate (-((t.length:Int)+e)).toNat 48++t:=by rw[ht];rfl
 rw[hN];clear hN ht;generalize (if m<0 then [45] else []:Bs)=a;by_cases he:0<=e
 ·rw[if_pos he,if_neg (show ¬ e<0 by omega),List.append_assoc]
 rw[if_neg he,if_pos (show e<0 by omega)];obtain⟨k,hk⟩:∃ k:Nat,-e=k:=⟨(-e).toNat,by omega⟩
 unfold dotB sX;rw[hk];simp only[Int.toNat_natCast];by_cases hw:0<(t.length:Int)+e
 ·rw[if_pos hw];have h1:k+1-t.length=0:=by omega
  rw[h1];simp only[List.replicate_zero,List.nil_append];have h2:((t.length:Int)+e).toNat=t.length-k:=by omega
  rw[h2];simp
 rw[if_neg hw];have h1:(List.replicate (k+1-t.length) (48:UInt8)++t).length-k=1:=by simp;omega
 rw[h1];have h2:k+1-t.length=(-((t.length:Int)+e)).toNat+1:=by omega
 rw[h2,List.replicate_succ];simp
theorem fR{m e:Int}(h:bI m e=true):-9223372036854775808<=m/\m<=9223372036854775807:=by
 by_cases hz:m=0
 ·omega
 have:=gQ h hz;omega
theorem kA(m e:Int)(w:World)(h1:-9223372036854775808<=m)(h2:m<=9223372036854775807)(hR:bI m e=true) :
  Calls Tryz.prog 142 #[wX m e] w fun x w'=>x=.returned (vT (bL m e))/\Below w.heap.size w w':=by
 have CR:=zh (fun W=>tF m e W h1 h2);rw[hR]at CR;have T0:=zh (NumIn.start w m e);by_cases hz:m=0
 ·subst hz;have he:e=0:=by unfold bI at hR;rw[if_pos rfl]at hR;simpa using hR
  subst he;have h0:bL 0 0=[48]:=by
   have h1:bL 0 0=([]:Bs)++Lib.decDigits 0++[]:=rfl;rw[h1,Lib.decDigits];rfl
  rw[h0]
  go_in
  go_wp2_with fail
  refine(CR.out _).mono ?_;rintro x w1 ⟨rfl,hb⟩;have T1:=zh (T0.out.next hb);obtain⟨g0,g1,g2,g3⟩:=T1.out;clear hb
  go_wp2_with fail
  go_ret
  exact⟨rfl,g3⟩
 have ke:-40<=e/\e<=40:=by have:=gQ hR hz;omega
 obtain⟨ke1,ke2⟩:=ke;have CD:=zh (fun W=>rS m W h1 h2);have ht:=(dl_text m.natAbs (by omega))
 have HN:=zh (rText_eq m e _ ht);have HD:=zh (dl_dig m.natAbs);have hlen:(dl m.natAbs).length<=20:=oU _ (by omega);have bz:(m==0)=false:=by rw[beq_eq_false_iff_ne];exact hz
 generalize bL m e=r at *;generalize dl m.natAbs=D at *;clear ht h1 h2 hR hz
 go_in
 go_wp2_with fail
 refine(CR.out _).mono ?_;rintro x w1 ⟨rfl,hb⟩;have T1:=zh (T0.out.next hb);clear hb T0 CR;obtain⟨g0,g1,g2,-⟩:=T1.out
 go_wp2_with fail
 refine(CD.out _).mono ?_;rintro x w2 ⟨v,rfl,bd,hb⟩;have T2:=zh (T1.out.next hb);clear hb T1 CD g0 g1 g2;obtain⟨A,c,rfl,ji⟩:=bd.isl;have HS:=zh ji;clear bd ji;obtain⟨g0,g1,g2,-⟩:=T2.out
 go_wp2_with fail
 go_loopw [4,5] (fun s i wr=>∃ (k q:Nat),k<=D.length/\s=vT ((D.take k).map dgB)/\i=vI k/\wr=w2.drewN q) (fun _ i _=>D.length-(intOf i).toNat)
 case atStart=>exact⟨0,0,zm _,rfl,rfl,rfl⟩
 case round=>
  obtain⟨k,q,hk,rfl,rfl,rfl⟩:=hrel;by_cases hlt:k<D.length
  ·obtain⟨b,off,rfl,-,-,hr⟩:=HS.out.2.2 (by omega);have x0:=(hr k hlt).1;unfold kW at x0;have hd9:D[k]<=9:=HD.out _ (List.getElem_mem hlt);have HT:Hid ((D.take k).map dgB++[dgB D[k]]=(D.take (k+1)).map dgB):=zh (by rw[yw hlt,List.map_append];rfl);generalize D[k]=d at *;have ed:((D.take k).map dgB).length<=20:=by simp;omega
   generalize (D.take k).map dgB=s1 at *;have qo:(0:Int)<=(d:Int):=by omega
   have hlI:(k:Int)<(D.length:Int):=by omega
   have hkI:(0:Int)<=(k:Int):=by omega
   have hten:d=0\/d=1\/d=2\/d=3\/d=4\/d=5\/d=6\/d=7\/d=8\/d=9:=by omega
   clear hr qo hd9;rcases hten with rfl|rfl|rfl|rfl|rfl|rfl|rfl|rfl|rfl|rfl
   all_goals go_wp2_with fail
   all_goals go_region
   all_goals go_wp2_with fail
   all_goals go_roundw
   all_goals first|exact⟨k+1,_,by omega,by rw[<- HT.out];rfl,by go_num,rfl⟩ |(simp[intOf];omega)
  have hkD:k=D.length:=by omega
  subst hkD;rw[List.take_length];have hlt2:¬ ((D.length:Int)<(D.length:Int)):=by omega
  have kq:(D.map dgB).length<=20:=by simp;omega
  have T3:Hid (NumIn w m e (w2.drewN q)):=zh (T2.out.next (zN zB q));generalize D.map dgB=t at *;generalize w2.drewN q=w3 at *;clear HS HD g0 g1 g2 T2;obtain⟨g0,g1,g2,-⟩:=T3.out;by_cases he:e<0
  ·rw[if_pos he]at HN;have he1:decide (e<0)=true:=decide_eq_true he;have he2:decide (0<e)=false:=decide_eq_false (by omega)
   go_wp2_with fail
   go_loopw [4,6] (fun s i wr=>s=vT t/\i=vI 0/\Hid (NumIn w m e wr)) (fun _ _ _=>0)
   case atStart=>exact⟨rfl,rfl,T3⟩
   case round=>
    obtain⟨rfl,rfl,T4⟩:=hrel;clear g0 g1 g2 T3;obtain⟨g0,g1,g2,-⟩:=T4.out
    go_wp2_with fail
    go_loopw [4] (fun s wr=>∃ k:Nat,k<=(-e).toNat+1-t.length/\s=vT (List.replicate k 48++t)/\Hid (NumIn w m e wr)) (fun s _=>match s with|.string b=>(-e).toNat+1-b.size|_=>0)
    case atStart=>exact⟨0,zm _,by simp,T4⟩
    case round=>
     obtain⟨k,hk,rfl,T5⟩:=hrel;clear g0 g1 g2 T4;obtain⟨g0,g1,g2,-⟩:=T5.out;by_cases hlt:k<(-e).toNat+1-t.length
     ·have hlI:((List.replicate k 48++t:Bs).length:Int)<=-e:=by simp;omega
      have aq:(List.replicate k 48++t:Bs).length=k+t.length:=by simp
      have HT:Hid (48::(List.replicate k 48++t)=(List.replicate (k+1) 48++t:Bs)):=zh (by rw[List.replicate_succ];rfl);have HL:Hid ((List.replicate k 48++t:Bs).length<=(-e).toNat):=zh (by rw[aq];omega);generalize (List.replicate k 48++t:Bs)=s1 at *
      go_wp2_with fail
      all_goals go_roundw
      case rel=>exact⟨k+1,by omega,by rw[<- HT.out],T5⟩
      case measure=>have:=HL.out;simp[ByteArray.size];omega
     have hkE:k=(-e).toNat+1-t.length:=by omega
     have hd:List.replicate k 48++t=sX e t:=by subst hkE;rfl
     rw[hd];have aq:(sX e t).length=k+t.length:=by rw[<- hd];simp
     have HD2:Hid (dotB e (sX e t)=(sX e t).take ((sX e t).length-(-e).toNat)++[46]++(sX e t).drop ((sX e t).length-(-e).toNat)):=zh rfl;generalize dotB e (sX e t)=dd at *;generalize sX e t=s1 at *;obtain⟨j,hj⟩:=zE (s1.length-(-e).toNat)
     rw[hj]at HD2;have j1:(s1.length:Int)+e=j:=by omega
     have j2:IntKind.i64.wrap ((s1.length:Int)+e)=j:=by rw[j1];exact IntWalk.i64_in _ (by omega)
     have j3:(0:Int)<=(j:Int):=by omega
     have j4:(j:Int)<=(s1.length:Int):=by omega
     have hlI:¬ ((s1.length:Int)<=-e):=by omega
     have ed:s1.length<=100:=by omega
     have l9:(s1.take j).length<=100:=by simp;omega
     have oy:(s1.drop j).length<=100:=by simp;omega
     have HD3:Hid (dd=s1.take j++46::s1.drop j):=zh (by rw[HD2.out,List.append_assoc];rfl);clear hj hkE hd hlt hk aq HD2;by_cases hm:m<0
     ·rw[if_pos hm]at HN;have tm:decide (m<0)=true:=decide_eq_true hm
      go_wp2_with fail
      go_region
      all_goals go_wp2_with fail
      all_goals go_ret
      exact⟨by rw[HN.out,HD3.out];rfl,T5.out.2.2.2.drew⟩
     rw[if_neg hm]at HN;have tm:decide (m<0)=false:=decide_eq_false hm
     go_wp2_with fail
     go_region
     all_goals go_wp2_with fail
     all_goals go_ret
     exact⟨by rw[HN.out,HD3.out];rfl,T5.out.2.2.2.drew⟩
  rw[if_neg he]at HN;have he1:decide (e<0)=false:=decide_eq_false he
  go_wp2_with fail
  go_loopw [4,6] (fun s i wr=>∃ k:Nat,k<=e.toNat/\s=vT (t++List.replicate k 48)/\i=vI k/\Hid (NumIn w m e wr)) (fun _ i _=>e.toNat-(intOf i).toNat)
  case atStart=>exact⟨0,zm _,by simp,rfl,T3⟩
  case round=>
   obtain⟨k,hk,rfl,rfl,T4⟩:=hrel;clear g0 g1 g2 T3;obtain⟨g0,g1,g2,-⟩:=T4.out;by_cases hlt:(k:Int)<e
   ·have HT:Hid (t++List.replicate k 48++[48]=(t++List.replicate (k+1) 48:Bs)):=zh (by rw[List.replicate_succ',List.append_assoc]);have aq:(t++List.replicate k 48:Bs).length<=100:=by simp;omega
    generalize (t++List.replicate k 48:Bs)=s1 at *
    go_wp2_with fail
    all_goals go_roundw
    case rel=>exact⟨k+1,by omega,by rw[<- HT.out],by go_num,T4⟩
    case measure=>simp[intOf];omega
   have hkE:e.toNat=k:=by omega
   rw[hkE]at HN;have aq:(t++List.replicate k 48:Bs).length<=100:=by simp;omega
   generalize (t++List.replicate k 48:Bs)=s1 at *;by_cases hm:m<0
   ·rw[if_pos hm]at HN;have tm:decide (m<0)=true:=decide_eq_true hm
    go_wp2_with fail
    go_ret
    exact⟨by rw[HN.out];rfl,T4.out.2.2.2⟩
   rw[if_neg hm]at HN;have tm:decide (m<0)=false:=decide_eq_false hm
   go_wp2_with fail
   go_ret
   exact⟨by rw[HN.out];rfl,T4.out.2.2.2⟩
theorem lI(v:Val)(hR:aW v=true):v=⟨0,0,0,[],false,0⟩\/(∃ m e,v=⟨1,m,e,[],false,0⟩/\bI m e=true)\/(∃ t,v=⟨2,0,0,t,false,0⟩/\t.length<=255)
  \/ (∃ b,v=⟨3,0,0,[],b,0⟩)\/(∃ f,v=⟨4,0,0,[],false,f⟩/\1<=f/\f<=9):=by
 rcases wU hR with h|h|h|h|h
 ·exact .inl ((gT _ _).1 ((oK v h).symm.trans hR))
 ·have k:=(tR v h).symm.trans hR;obtain⟨k1,k2⟩:=Bool.and_eq_true_iff.1 k;exact .inr (.inl ⟨_,_,(gT _ _).1 k2,k1⟩)
 ·have k:=(gT _ _).1 ((qV v h).symm.trans hR);rcases Nat.lt_or_ge 255 v.text.length with hl|hl
  ·have:qW v.text=rA 2:=if_pos hl;rw[this]at k;rw[k]at h;exact absurd h (by decide)
  have:qW v.text=⟨2,0,0,v.text,false,0⟩:=if_neg (by omega);rw[this]at k;exact .inr (.inr (.inl ⟨_,k,hl⟩))
 ·exact .inr (.inr (.inr (.inl ⟨_,(gT _ _).1 ((oN v h).symm.trans hR)⟩)))
 have k:=(gT _ _).1 ((oL v h).symm.trans hR);refine .inr (.inr (.inr (.inr ⟨v.fault,?_,?_⟩)))
 ·rw[k];show (⟨4,0,0,[],false,if v.fault<1\/9<v.fault then 9 else v.fault⟩:Val)=⟨4,0,0,[],false,(rA v.fault).fault⟩;rfl
 rw[k];show 1<=(if v.fault<1\/9<v.fault then 9 else v.fault)/\(if v.fault<1\/9<v.fault then 9 else v.fault)<=9
 split <;> omega
theorem uI(v:Val)(w:World)(hR:aW v=true) :
  Calls Tryz.prog 116 #[iK v] w fun x w'=>x=.returned (.tuple #[vS ((dF v).1.toArray),vI (dF v).2])/\Below w.heap.size w w':=by
 rcases lI v hR with rfl|⟨m,e,rfl,h⟩|⟨t,rfl,h⟩|⟨b,rfl⟩|⟨f,rfl,h1,h2⟩
 ·clear hR
  go_in
  go_wp2_with fail
  refine yt (v:=.tuple #[vS #[],vI 0]) (by simp[results,Tryz.results116,go_sem]) rfl ?_;exact⟨rfl,(Below.refl _ w).alloc zr _⟩
 ·clear hR;have hN:dF ⟨1,m,e,[],false,0⟩=(bL m e,0):=rfl;rw[hN];have C:=zh (fun W=>kA m e W (fR h).1 (fR h).2 h);have HB:Hid (Below w.heap.size w (w.alloc (.cells (lN ⟨1,m,e,[],false,0⟩) 25))):=zh ((Below.refl _ w).alloc zr _);generalize bL m e=s at *
  go_in
  go_wp2_with fail
  refine(C.out _).mono ?_;rintro x w1 ⟨rfl,hb⟩;have bi:Hid (Below w.heap.size w w1):=zT HB hb;clear hb
  go_wp2_with fail
  refine yt (v:=.tuple #[vT s,vI 0]) (by simp[results,Tryz.results116,go_sem]) rfl ?_;exact⟨rfl,bi.out⟩
 ·clear hR;have hN:dF ⟨2,0,0,t,false,0⟩=(t,0):=rfl;rw[hN]
  go_in
  go_wp2_with fail
  refine yt (v:=.tuple #[vT t,vI 0]) (by simp[results,Tryz.results116,go_sem]) rfl ?_;exact⟨rfl,(Below.refl _ w).alloc zr _⟩
 ·clear hR;cases b
  ·go_in
   go_wp2_with fail
   refine yt (v:=.tuple #[vS #[70,65,76,83,69],vI 0]) (by simp[results,Tryz.results116,go_sem]) rfl ?_;exact⟨rfl,(Below.refl _ w).alloc zr _⟩
  go_in
  go_wp2_with fail
  refine yt (v:=.tuple #[vS #[84,82,85,69],vI 0]) (by simp[results,Tryz.results116,go_sem]) rfl ?_;exact⟨rfl,(Below.refl _ w).alloc zr _⟩
 clear hR;have hN:dF ⟨4,0,0,[],false,f⟩=([],f):=rfl;rw[hN]
 go_in
 go_wp2_with fail
 go_region
 all_goals go_wp2_with fail
 all_goals refine yt (v:=.tuple #[vS #[],vI f]) (by simp[results,Tryz.results116,go_sem]) rfl ?_
 all_goals exact⟨rfl,by first|exact((Below.refl _ w).alloc zr _).drew|exact(Below.refl _ w).drew.alloc zr _⟩
theorem uF(f:Int)(k:Nat)(hf:f=k)(h1:1<=k)(h9:k<=9):aY f=jQ k:=by
 subst hf;have h:k=1\/k=2\/k=3\/k=4\/k=5\/k=6\/k=7\/k=8\/k=9:=by omega
 rcases h with rfl|rfl|rfl|rfl|rfl|rfl|rfl|rfl|rfl <;> rfl
theorem tH(f:Int)(w:World) :
  Calls Tryz.prog 117 #[vI f] w fun x w'=>x=.returned (vT (aY f))/\Below w.heap.size w w':=by
 by_cases h1:f<1
 ·have hN:aY f=[]:=if_neg (by omega);rw[hN];have d1:decide (f<1)=true:=decide_eq_true h1
  go_in
  go_wp2_with fail
  go_ret
  exact⟨rfl,Below.refl _ _⟩
 have d1:decide (f<1)=false:=decide_eq_false h1;by_cases h9:9<f
 ·have hN:aY f=[]:=if_neg (by omega);rw[hN];have d9:decide (9<f)=true:=decide_eq_true h9
  go_in
  go_wp2_with fail
  go_ret
  exact⟨rfl,Below.refl _ _⟩
 have d9:decide (9<f)=false:=decide_eq_false h9;obtain⟨k,rfl⟩:∃ k:Nat,f=k:=⟨f.toNat,by omega⟩
 have hk:k<10:=by omega
 have k0:(0:Int)<=(k:Int):=by omega
 have k9:(k:Int)<10:=by omega
 rw[uF k k rfl (by omega) (by omega)];clear h1 h9
 go_in
 go_wp2_with fail
 refine(yU _).mono ?_;rintro x w1 ⟨g,rfl,hg,hL,hb⟩;have hc:=xY hL k hk;have HB:=zh hb;clear hb hL hg
 go_wp2_with fail
 go_ret
 exact⟨rfl,HB.out⟩
section
variable {ρ:Tok->Tok->Prop} {G B:Prop} {d N:Nat}
theorem headSame(h:NodeH):NodeH.same h h=true:=by
 unfold NodeH.same;simp[tS]
theorem uCO(l:List Tree)(x:Tree):aN (l++[x])=aN l+x.size:=by
 induction l with
 |nil=>simp[aN]
 |cons t l ih=>rw[yp,aN,aN,ih];omega
theorem yY(l:List Tree)(x:Tree)(k:Int):aZ (l++[x]) k=(aZ l k&&((decide (k≠8)||decide (x.h.kind=0))&&x.right k)):=by
 induction l with
 |nil=>simp[aZ]
 |cons t l ih=>rw[yp,aZ,aZ,ih];simp[Bool.and_assoc]
end
def TwoRef(w:World)(a b:RTok)(w':World):Prop:=Lies w' w.heap.size 85 a.cells/\Lies w' (w.heap.size+1) 85 b.cells/\Below w.heap.size w w'
theorem TwoRef.start(w:World)(a b:RTok):TwoRef w a b ((w.alloc (.cells a.cells 85)).alloc (.cells b.cells 85)) :=
 ⟨(Lies.new w _ _).alloc _,by have:=Lies.new (w.alloc (.cells a.cells 85)) 85 b.cells;simpa using this,((Below.refl _ w).alloc zr _).alloc (by simp) _⟩
theorem TwoRef.seen{w w':World}{a b:RTok}(h:TwoRef w a b w'):w'.cell? ⟨w.heap.size,0,none⟩=some (vI a.kind)/\w'.cell? ⟨w.heap.size,1,none⟩=some (vT a.text)/\w'.cell? ⟨w.heap.size,2,none⟩=some (vI a.place) /\
  w'.cell? ⟨w.heap.size+1,0,none⟩=some (vI b.kind)/\w'.cell? ⟨w.heap.size+1,1,none⟩=some (vT b.text)/\w'.cell? ⟨w.heap.size+1,2,none⟩=some (vI b.place)/\w.heap.size+1<w'.heap.size :=
 ⟨h.1.cell 0,h.1.cell 1,h.1.cell 2,h.2.1.cell 0,h.2.1.cell 1,h.2.1.cell 2,h.2.1.lt⟩
theorem uHI(k:Int)(h:gH k=true):(k==2)=false/\(k != 5)=true:=by
 unfold gH at h;simp only[Bool.or_eq_true,beq_iff_eq]at h;constructor
 ·rw[beq_eq_false_iff_ne];omega
 rw[bne_iff_ne];omega
theorem uCF(a b:RTok)(w:World)(fw:b.kind=5->b.text≠[]) :
  Calls Tryz.prog 78 #[.agg a.cells,.agg b.cells] w fun e w'=>e=.returned (.bool (gV a b))/\Below w.heap.size w w':=by
 have T0:=zh (TwoRef.start w a b);obtain⟨ka,ta,pa⟩:=a;obtain⟨kb,tb,pb⟩:=b;simp only[RTok.cells]at *;obtain⟨r,hr⟩:=zE (gV ⟨ka,ta,pa⟩ ⟨kb,tb,pb⟩)
 rw[hr];unfold gV at hr;simp only at hr;have HR:=zh hr;have bm:=zh fw;clear hr fw;obtain⟨g0,g1,g2,g3,g4,g5,g6⟩:=TwoRef.seen T0.out;simp only at g0 g1 g2 g3 g4 g5;have mq:=zh T0.out.2.2;clear T0
 go_in
 generalize hW:(w.alloc (.cells #[vI ka,vT ta,vI pa] 85)).alloc (.cells #[vI kb,vT tb,vI pb] 85)=W at *;have HWW:=zh hW;clear hW
 go_upto_region 1 with fail
 rw[HWW.out]
 go_cut [5] (fun v wx=>v=.bool (gH ka)/\W=wx)
 case first=>
  have HZ:Hid (gH ka=(ka==1||ka==3||ka==4)):=zh rfl;cases h1:(ka==1) <;> cases h3:(ka==3) <;> cases h4:(ka==4)
  all_goals
   rw[h1,h3,h4]at HZ
   go_wp2_with fail
   go_meet
   exact⟨congrArg Value.bool (by rw[HZ.out];rfl),rfl⟩
 case rest=>
  obtain⟨rfl,rfl⟩:=hcut
  go_upto_region 2 with fail
  go_cut [6] (fun v wx=>v=.bool (gH kb)/\W=wx)
  case first=>
   have HZ:Hid (gH kb=(kb==1||kb==3||kb==4)):=zh rfl;cases h1:(kb==1) <;> cases h3:(kb==3) <;> cases h4:(kb==4)
   all_goals
    rw[h1,h3,h4]at HZ
    go_wp2_with fail
    go_meet
    exact⟨congrArg Value.bool (by rw[HZ.out];rfl),rfl⟩
  case rest=>
   obtain⟨rfl,rfl⟩:=hcut;cases hwa:gH ka
   ·rw[hwa,if_neg (by decide)]at HR;cases h2:(ka==2)
    ·rw[h2,if_neg (by decide)]at HR;cases h5:(ka != 5)
     ·rw[h5,if_neg (by decide)]at HR;cases b5:(kb==5)
      ·have hz:∀ set,mR kb tb set=false:=fun set=>by unfold mR;rw[b5];rfl
       rw[hz,hz]at HR;clear hz bm;by_cases e60:ta=[60]
       ·subst e60;have jb:Hid (false=r):=zh HR.out;cases b3:(kb==3)
        all_goals
         go_wp2_with fail
         go_ret
         exact⟨aA jb.out,mq.out⟩
       by_cases e62:ta=[62]
       ·subst e62;have jb:Hid (false=r):=zh HR.out;cases b3:(kb==3)
        all_goals
         go_wp2_with fail
         go_ret
         exact⟨aA jb.out,mq.out⟩
       have f60:(ta==[60])=false:=by simpa using e60
       have f62:(ta==[62])=false:=by simpa using e62
       rw[f60,f62]at HR;clear e60 e62;cases f35:(ta==[35]) <;> cases b3:(kb==3)
       all_goals
        rw[f35,b3]at HR
        go_wp2_with fail
        go_ret
        exact⟨aA HR.out,mq.out⟩
      have sr:kb=5:=by simpa using b5
      obtain⟨c,t,rfl⟩:∃ c t,tb=c::t:=by
       cases tb with
       |nil=>exact absurd rfl (bm.out sr)
       |cons c t=>exact⟨c,t,rfl⟩
      have b3:(kb==3)=false:=by rw[sr];rfl
      have hz:∀ set,mR kb (c::t) set=set.contains c:=fun set=>by unfold mR;rw[b5];simp
      rw[hz,hz,b3]at HR;clear hz bm sr;have u61:=u8_beq c 61 61 rfl;have u62:=u8_beq c 62 62 rfl;have e61:([61,62]:Bs).contains c=(c==61||c==62):=by rw[ze];simp
      have e62:([61]:Bs).contains c=(c==61):=by rw[ze];simp
      rw[e61,e62]at HR;clear e61 e62;by_cases c61:c=61
      ·subst c61;have jl:Hid ((if ta==[60] then true else if ta==[62] then true else if ta==[35] then false else false)=r):=zh (by rw[<- HR.out];rfl);clear HR u61 u62;cases f60:(ta==[60]) <;> cases f62:(ta==[62]) <;> cases f35:(ta==[35])
       all_goals
        rw[f60,f62,f35]at jl
        go_wp2_with fail
        go_ret
        exact⟨aA jl.out,mq.out⟩
      have n61:(c==61)=false:=by simpa using c61
      rw[n61]at u61 HR;cases n62:(c==62)
      all_goals
       rw[n62]at u62 HR;clear c61;cases f60:(ta==[60]) <;> cases f62:(ta==[62]) <;> cases f35:(ta==[35])
       all_goals
        rw[f60,f62,f35]at HR
        go_wp2_with fail
        go_ret
        exact⟨aA HR.out,mq.out⟩
     rw[h5,if_pos rfl]at HR;cases hwb:gH kb
     all_goals
      go_wp2_with fail
      go_ret
      exact⟨aA HR.out,mq.out⟩
    rw[h2,if_pos rfl]at HR;have h5:(ka != 5)=true:=by rw[beq_iff_eq]at h2;rw[h2];rfl
    cases hb2:(kb==2) <;> cases hwb:gH kb
    all_goals
     rw[hb2]at HR
     go_wp2_with fail
     go_ret
     exact⟨aA HR.out,mq.out⟩
   rw[hwa,if_pos rfl]at HR;obtain⟨h2,h5⟩:=uHI ka hwa;cases hwb:gH kb
   all_goals
    rw[hwb]at HR
    go_wp2_with fail
    go_ret
    exact⟨aA HR.out,mq.out⟩
theorem yP(b:Bs)(k:Nat)(hlt:k<b.length):bQ (b.take (k+1))=bQ (b.take k)++if b[k]=34 then [34,34] else [b[k]]:=by
 rw[yw hlt,tC];simp only[bQ]
theorem uFY(A:Option Addr)(cap:Nat)(ts:List RTok)(w:World)(hn:ts.length<=2000)(pz:∀ t∈ts,t.text.length<=1000)(h5:∀ t∈ts,t.kind=5->t.text≠[])(ru:RIn w A ts) :
  Calls Tryz.prog 35 #[.slice A ts.length cap] w fun e w'=>e=.returned (vT (cL none ts))/\Below w.heap.size w w':=by
 have HIN:=zh ru;have zw:=zh pz;have H5:=zh h5;clear ru pz h5
 go_in
 go_wp2_with fail
 go_loopg [3,4] (ts.length) (fun gk s i wr=>∃ k:Nat,k<=ts.length/\gk=ts.length-k/\i=vI k/\s=vT (cL none (ts.take k))/\Hid (Below w.heap.size w wr))
 case atStart=>exact⟨0,zm _,rfl,rfl,rfl,zh zB⟩
 case round=>
  obtain⟨k,hk,hgk,rfl,rfl,mj⟩:=hrel;have HGK:=zh hgk;clear hgk;have hjl:=oZ (ts.take k) none (fun t ht=>zw.out t (List.mem_of_mem_take ht));rw[zc,Nat.min_eq_left hk]at hjl;by_cases hlt:k<ts.length
  ·obtain⟨g,o,rfl,hg,hc⟩:=HIN.out (by omega);obtain⟨c0,c1,c2⟩:=hc k hlt;have d0:wr.cell? ⟨g,o+k*3,none⟩=some (vI ts[k].kind):=(mj.out.cell (p:=⟨g,_,none⟩) hg).trans c0;have d1:wr.cell? ⟨g,o+k*3+1,none⟩=some (vS (ts[k].text.toArray)):=(mj.out.cell (p:=⟨g,_,none⟩) hg).trans c1;have d2:wr.cell? ⟨g,o+k*3+2,none⟩=some (vI ts[k].place):=(mj.out.cell (p:=⟨g,_,none⟩) hg).trans c2;clear c0 c1 c2;have HC:=zh hc;clear hc;have gy:(0:Int)<=(k:Int):=Int.natCast_nonneg _;have eh:(k:Int)<(ts.length:Int):=by omega
   have ws:Hid (cL none (ts.take (k+1))=(cL none (ts.take k)++kD (cC none (ts.take k)) ts[k])++sT ts[k]):=zh (by rw[yw hlt,mW];simp)
   go_wp2_with fail
   go_cut [25] (fun v wx=>v=.bool (sP (cC none (ts.take k)) ts[k])/\Hid (Below wr.heap.size wr wx))
   case first=>
    cases k with
    |zero=>
     have hd:decide ((0:Int)<((0:Nat):Int))=false:=by decide
     go_quiet (fail)
     go_wp2_with fail
     go_meet
     exact⟨rfl,zh (zN zB _)⟩
    |succ j=>
     have hjl2:j<ts.length:=by omega
     obtain⟨c0,c1,c2⟩:=HC.out j hjl2;have z0:wr.cell? ⟨g,o+j*3,none⟩=some (vI ts[j].kind):=(mj.out.cell (p:=⟨g,_,none⟩) hg).trans c0;have z1:wr.cell? ⟨g,o+j*3+1,none⟩=some (vS (ts[j].text.toArray)):=(mj.out.cell (p:=⟨g,_,none⟩) hg).trans c1;have z2:wr.cell? ⟨g,o+j*3+2,none⟩=some (vI ts[j].place):=(mj.out.cell (p:=⟨g,_,none⟩) hg).trans c2;clear c0 c1 c2;have CAP:=zh (fun W=>uCF ts[j] ts[j+1] W (H5.out _ (List.getElem_mem hlt)));simp only[RTok.cells]at CAP;have HN:Hid (sP (cC none (ts.take (j+1))) ts[j+1]=gV ts[j] ts[j+1]):=zh (by rw[qC ts j hjl2];rfl);have aq:=mj.out.size;have vq:g<wr.heap.size:=by omega
     clear HC zw ws H5;generalize ts[j]=a at *;generalize ts[j+1]=b at *;obtain⟨ka,ta,pa⟩:=a;obtain⟨kb,tb,pb⟩:=b;simp only at z0 z1 z2 d0 d1 d2 CAP;have hd:decide ((0:Int)<((j+1:Nat):Int))=true:=by simp
     have hwj:IntKind.i64.wrap (((j+1:Nat):Int)-1)=(j:Int):=by rw[IntWalk.i64_in _ (by omega)];omega
     have hwj2:IntKind.i64.wrap (j:Int)=(j:Int):=IntWalk.i64_in _ (by omega);have hwj3:IntKind.i64.wrap ((j:Int)+1-1)=(j:Int):=by rw[IntWalk.i64_in _ (by omega)];omega
     have hj0:(0:Int)<=(j:Int):=Int.natCast_nonneg _;have hj1:(j:Int)<(ts.length:Int):=by omega
     have hj2:(0:Int)<=(j:Int)+1:=by omega
     have hj3:(j:Int)+1<(ts.length:Int):=by omega
     go_region_held3 (fun w'=>w'.cell? ⟨g,o+j*3,none⟩=some (vI ka)/\w'.cell? ⟨g,o+j*3+1,none⟩=some (vT ta)/\w'.cell? ⟨g,o+j*3+2,none⟩=some (vI pa)/\w'.cell? ⟨g,o+(j+1)*3,none⟩=some (vI kb)/\w'.cell? ⟨g,o+(j+1)*3+1,none⟩=some (vT tb)/\w'.cell? ⟨g,o+(j+1)*3+2,none⟩=some (vI pb))
      (first|go_keep |(go_split_ands;exact⟨(hb.cell (p:=⟨g,_,none⟩) vq).trans (by assumption),(hb.cell (p:=⟨g,_,none⟩) vq).trans (by assumption),(hb.cell (p:=⟨g,_,none⟩) vq).trans (by assumption),(hb.cell (p:=⟨g,_,none⟩) vq).trans (by assumption),(hb.cell (p:=⟨g,_,none⟩) vq).trans (by assumption),(hb.cell (p:=⟨g,_,none⟩) vq).trans (by assumption)⟩))
      (first
       |(go_at_call 78;(with_reducible refine(CAP.out _).mono ?_);rintro e wx ⟨rfl,hb⟩))
     all_goals go_wp2_with fail
     all_goals go_meet
     all_goals exact⟨congrArg Value.bool HN.out.symm,zh ((Below.refl _ wr).drew.trans hb)⟩
   case rest=>
    obtain⟨rfl,bm⟩:=hcut;obtain⟨w5,hw5⟩:∃ w5:World,w5=wc:=⟨_,rfl⟩
    subst hw5;have nu:Hid (Below w.heap.size w w5):=zh (zU mj.out bm.out);clear d0 d1 d2 mj bm;obtain⟨c0,c1,c2⟩:=HC.out k hlt;have d0:w5.cell? ⟨g,o+k*3,none⟩=some (vI ts[k].kind):=(nu.out.cell (p:=⟨g,_,none⟩) hg).trans c0;have d1:w5.cell? ⟨g,o+k*3+1,none⟩=some (vS (ts[k].text.toArray)):=(nu.out.cell (p:=⟨g,_,none⟩) hg).trans c1;clear c0 c1 c2 HC HIN
    go_upto_if 25 with fail
    go_cut [3] (fun v wx=>v=vT (cL none (ts.take k)++kD (cC none (ts.take k)) ts[k])/\w5=wx)
    case first=>
     cases hnd:sP (cC none (ts.take k)) ts[k]
     ·have HSP:Hid (kD (cC none (ts.take k)) ts[k]=[]):=zh (by rw[gS,hnd];rfl)
      go_wp2_with fail
      go_meet
      exact⟨nH (by rw[HSP.out,List.append_nil]),rfl⟩
     have HSP:Hid (kD (cC none (ts.take k)) ts[k]=[32]):=zh (by rw[gS,hnd];rfl)
     go_wp2_with fail
     go_meet
     exact⟨nH (by rw[HSP.out]),rfl⟩
    case rest=>
     obtain⟨rfl,rfl⟩:=hcut;have htl:=zw.out ts[k] (List.getElem_mem hlt);have hql:=jZ ts[k].text;have HZ:Hid (sT ts[k]=if ts[k].kind==2 then 34::(bQ ts[k].text++[34]) else ts[k].text):=zh rfl;have ji:(cL none (ts.take k)++kD (cC none (ts.take k)) ts[k]).length<=5000000:=by
      have:(kD (cC none (ts.take k)) ts[k]).length<=1:=by
       rw[gS]
       split <;> decide
      rw[yl];omega
     generalize cL none (ts.take k)++kD (cC none (ts.take k)) ts[k]=acc at *;clear zw H5;generalize ts[k]=t at *;obtain⟨kd,tx,pl⟩:=t;simp only at *;cases h2:(kd==2)
     ·rw[h2]at HZ;have jd:Hid (cL none (ts.take (k+1))=acc++tx):=zh (by rw[ws.out,HZ.out];rfl);have vt:(kd != 2)=true:=by rw[bne,h2];rfl
      clear HZ ws
      go_wp2_with fail
      go_roundg (ts.length-(k+1))
      case rel=>exact⟨k+1,by omega,rfl,by go_num,nH (by rw[jd.out]),nu⟩
      case measure=>rw[HGK.out];omega
     rw[h2]at HZ;have jd:Hid (cL none (ts.take (k+1))=acc++(34::(bQ tx++[34]))):=zh (by rw[ws.out,HZ.out];rfl);have vt:(kd != 2)=false:=by rw[bne,h2];rfl
     clear HZ ws
     go_wp2_with fail
     go_loopg [3,5] (tx.length) (fun gq s i wq=>∃ m:Nat,m<=tx.length/\gq=tx.length-m/\i=vI m/\s=vT (acc++(34::bQ (tx.take m)))/\w5=wq)
     case atStart=>exact⟨0,zm _,rfl,rfl,nH (by simp[bQ]),rfl⟩
     case round=>
      obtain⟨m,hm,hgm,rfl,rfl,rfl⟩:=hrel;have HGM:=zh hgm;clear hgm;have hqm:=jZ (tx.take m);rw[zc,Nat.min_eq_left hm]at hqm;by_cases hml:m<tx.length
      ·have HNX:=zh (yP tx m hml);have rn:Hid (List.take 1 (List.drop m tx)=[tx[m]]):=zh (by rw[yx hml];rfl);have e34:=oQ tx m 34 34 rfl hml;cases h34:bO tx m 34
       ·have cy:tx[m]≠34:=ne_of_at hml h34;have HN2:Hid (bQ (tx.take (m+1))=bQ (tx.take m)++[tx[m]]):=zh (by rw[HNX.out,if_neg cy]);rw[h34]at e34;clear HNX cy
        go_wp2_with fail
        go_roundg (tx.length-(m+1))
        case rel=>exact⟨m+1,by omega,rfl,by go_num,nH (by rw[HN2.out,rn.out]),rfl⟩
        case measure=>rw[HGM.out];omega
       have heq:Hid (tx[m]=34):=zh (at_get hml h34);have HN2:Hid (bQ (tx.take (m+1))=bQ (tx.take m)++[34,34]):=zh (by rw[HNX.out,if_pos heq.out]);rw[h34]at e34;clear HNX
       go_wp2_with fail
       go_roundg (tx.length-(m+1))
       case rel=>exact⟨m+1,by omega,rfl,by go_num,nH (by rw[HN2.out,rn.out,heq.out];simp),rfl⟩
       case measure=>rw[HGM.out];omega
      have e:m=tx.length:=by omega
      have HE:Hid (tx.take m=tx):=zh (by rw[e,List.take_length]);clear e
      go_wp2_with fail
      go_roundg (ts.length-(k+1))
      case rel=>exact⟨k+1,by omega,rfl,by go_num,nH (by rw[jd.out,HE.out]),nu⟩
      case measure=>rw[HGK.out];omega
  have e:k=ts.length:=by omega
  have HE:Hid (ts.take k=ts):=zh (by rw[e,List.take_length]);clear e
  go_wp2_with fail
  go_ret
  exact⟨congrArg (fun l:List RTok=>Ending.returned (vT (cL none l))) HE.out,mj.out⟩
end Go.Proofs.YtjfihpaeglpblaaGreatDoor
namespace Go.Proofs.YtjfihpaeglpblaaGreatDoor
open Go.ChangeShapes Go.WideShapes Go.ChangeAt Go.RowKit
theorem xS:Tryz.prog.cellsOf 3=1:=by kernel_rfl
section
variable {H:Type} {enc:TypeId×Value->H} {w:World} {base:Nat} {sp:Nat->Bool} {held:Bool}
theorem trod_num{n:Nat}{c1 c2:Value}{x:DataW H×List MemPlace}(h:DataW.trod enc Tryz.prog w base sp held n 23 [c1,c2]=some x) :
  ∃ m e:Int,c1=vI m/\c2=vI e/\x.2=[]/\-9223372036854775808<=m/\m<=9223372036854775807/\-9223372036854775808<=e/\e<=9223372036854775807:=by
 obtain⟨xs,k,_,hx,_,hlen,hg⟩:=DataW.trod_struct Tryz.underlying23 h
 match xs,hlen with
 | [y0,y1],_=>
  have g0:DataW.trod enc Tryz.prog w base sp held k 3 [c1]=some y0:=by have:=hg 0 _ rfl;simpa [xS] using this
  have g1:DataW.trod enc Tryz.prog w base sp held k 3 [c2]=some y1:=by have:=hg 1 _ rfl;simpa [xS] using this
  obtain⟨m,e0,rfl,w0⟩:=DataW.trod_int Tryz.underlying3 g0;obtain⟨e,e1,rfl,w1⟩:=DataW.trod_int Tryz.underlying3 g1;injection e0 with e0;injection e1 with e1;obtain⟨a1,a2⟩:=bounds_i64 w0;obtain⟨a3,a4⟩:=bounds_i64 w1;exact⟨m,e,e0,e1,by rw[hx];rfl,a1,a2,a3,a4⟩
end
open Go.ChangeShapes Go.WideShapes Go.ChangeAt Go.RowKit
theorem own:ownKnob Tryz.prog.godebug=none:=by kernel_rfl
theorem laidOut:laidOutB Tryz.prog=true:=by kernel_rfl
theorem uA{H:Type}{enc:TypeId×Value->H}{P:Program}{w:World}{base:Nat}{sp:Nat->Bool}{held:Bool}{fuel:Nat}{t e:TypeId}{n:Nat}{cs:List Value}{ss:List Bs}{p:List MemPlace}
  (ht:P.underlying t=some (.array n e)) (he:P.underlying e=some .string) (hce:P.cellsOf e=1) (hct:P.cellsOf t=n)
  (h:DataW.trod enc P w base sp held fuel t cs=some (.agg (ss.map fun s=>.lit (.string s)),p)):cs=ss.map fun s=>Value.string ⟨s.toArray⟩:=by
 cases fuel with
 |zero=>simp[DataW.trod]at h
 |succ fuel=>
  simp only[DataW.trod,ht,hce,hct,Nat.mul_one]at h
  split at h
  ·rename_i hl
   obtain⟨xs,hm,hx⟩:=Option.map_eq_some_iff.1 h;have hxs:xs.map (·.1)=ss.map fun s=>(DataW.lit (.string s):DataW H):=by
    have:=congrArg Prod.fst hx;simpa using this
   have hxl:xs.length=n:=by simpa using Lib.mapM_length hm
   have hzl:ss.length=n:=by
    have:=congrArg List.length hxs;simp at this;omega
   apply List.ext_getElem?;intro i;by_cases hi:i<n
   ·obtain⟨b,hb,hf⟩:=Lib.mapM_at hm i i (by simp[hi]);obtain⟨z,hc,rfl,_⟩:=DataW.trod_string he hf;have h1:cs[i]?=some (.string z):=by
     have:=congrArg (·[0]?) hc
     simpa [List.getElem?_take,List.getElem?_drop] using this
    have h2:(xs.map (·.1))[i]?=some (DataW.lit (.string z.data.toList):DataW H):=by simp[hb]
    rw[hxs]at h2;simp only[List.getElem?_map,Option.map_eq_some_iff,DataW.lit.injEq,Lit.string.injEq]at h2;obtain⟨z',hz',lq⟩:=h2;simp[h1,hz',lq]
   rw[List.getElem?_eq_none (by omega),List.getElem?_eq_none (by simp;omega)]
  cases h
theorem sJ{P:Program}{w:World}:∀ {laid:List (String×DataW Unit)} {ps:List MemPlace},DataW.LaidVars P w laid ps->∀ {n:String} {d:DataW Unit},(n,d)∈laid ->
  ∃ g t cs fuel p,P.globalNamed n=some g/\(P.globals[g]?).map (·.type)=some t/\w.var? P n=some cs/\DataW.trod (fun _=>()) P w 0 (fun _=>true) false fuel t cs.toList=some (d,p)
 | [],_,_,_,_,hm=>by simp at hm
 |(n',d')::r,ps,h,n,d,hm=>by
  obtain⟨g,t,cs,fuel,p,q,h1,h2,h3,h4,h5,_⟩:=h;rcases ym.1 hm with e|e
  ·injection e with e1 e2;subst e1 e2;exact⟨g,t,cs,fuel,p,h1,h2,h3,h4⟩
  exact sJ h5 e
def faultName:String:= "counterpane/value.faultTexts"
theorem gFault:Tryz.prog.globalNamed faultName=some 0:=by kernel_rfl
theorem uBB:(Tryz.prog.globals[0]?).map (·.type)=some 219:=by kernel_rfl
theorem tab_of_laid{laid:List (String×DataW Unit)}{W:World}(h:laidMet Tryz.prog laid W)(hm:(faultName,Rows.laid_counterpane_value_faultTexts)∈laid):Tab W:=by
 obtain⟨ps,hl,_⟩:=h;obtain⟨g,t,cs,fuel,p,h1,h2,h3,h4⟩:=sJ hl hm;obtain rfl:=Option.some.inj (gFault.symm.trans h1);obtain rfl:=Option.some.inj (uBB.symm.trans h2);have fp:=uA (ss:=(List.range 10).map jQ) Tryz.underlying219 Tryz.underlying9 (by kernel_rfl) (by kernel_rfl) h4;intro i hi;have h5:=World.var?_cell gFault h3 i;rw[h5];have h6:cs[i]?=cs.toList[i]?:=by simp
 rw[h6,fp];simp[hi]
open Go.ChangeShapes Go.WideShapes Go.ChangeAt Go.RowKit
open Go.ChangeShapes Go.WideShapes Go.ChangeAt Go.RowKit
theorem gPowType:(Tryz.prog.globals[4]?).map (·.type)=some 268:=by kernel_rfl
theorem pow_of_laid{laid:List (String×DataW Unit)}{W:World}(h:laidMet Tryz.prog laid W)(hm:("internal/strconv.uint64pow10",Rows.laid_internal_strconv_uint64pow10)∈laid):PowTab W:=by
 obtain⟨ps,hl,_⟩:=h;obtain⟨g,t,cs,fuel,p,h1,h2,h3,h4⟩:=sJ hl hm;obtain rfl:=Option.some.inj (gPow.symm.trans h1);obtain rfl:=Option.some.inj (gPowType.symm.trans h2);have fp:=Lib.cells_of_tab (zs:=Lib.pow10Tab) Tryz.underlying268 Tryz.underlying216 (by kernel_rfl) (by kernel_rfl) h4;unfold PowTab Lib.TabIs;rw[h3,<- fp]
open Go.ChangeShapes Go.WideShapes Go.ChangeAt Go.RowKit
theorem max_of_shaped{W:World}(h:W.ShapedOpen Tryz.prog):MaxVar W :=
 Go.Proofs.cell_of_shapedOpen_int (zero:=#[.int .i64 0]) (t:=3) h (of_decide_eq_true (by kernel_rfl)) (by kernel_rfl) rfl (by kernel_rfl) (by kernel_rfl) Tryz.underlying3
def cells1:DataW Unit->List Value
 | .lit (.int k z)=>[.int k z]
 | .lit (.string s)=>[.string ⟨s.toArray⟩]
 | .agg l=>l.map fun d=>match d with|.lit (.int k z)=>Value.int k z | .lit (.string s)=>Value.string ⟨s.toArray⟩|_=>Value.bool false
 |_=>[]
def uGX:DataW Unit->Array Value
 | .agg l=>(l.flatMap cells1).toArray
 |_=>#[]
def putTab2(d:DataW Unit):Obj->Obj
 | .cells _ t frozen=>.cells (uGX d) t frozen
 |o=>o
noncomputable def laidWorldD (os:Os):World :=
 { World.holding Tryz.prog os ⟨#[],#[],[]⟩ with heap:=((((((World.holding Tryz.prog os ⟨#[],#[],[]⟩).heap.modify 0 (putTab2 Rows.laid_counterpane_value_faultTexts)).modify 4 (putTab2 Rows.laid_internal_strconv_uint64pow10)).modify 5 (putTab2 Rows.laid_math_bits_deBruijn32tab)).modify 6 (putTab2 Rows.laid_math_bits_deBruijn64tab)).modify 2 (putTab2 Rows.laid_unicode_utf8_first)).modify 3 (putTab2 Rows.laid_unicode_utf8_acceptRanges) }
end Go.Proofs.YtjfihpaeglpblaaGreatDoor
