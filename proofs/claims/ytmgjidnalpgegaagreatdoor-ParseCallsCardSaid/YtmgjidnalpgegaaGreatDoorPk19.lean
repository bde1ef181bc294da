/-
  Lemmas, part 19: PaC PaD PaN PaV.
-/
import Derived.Lib.SlBytesConst
import Derived.Test.YtmgjidnalpgegaaGreatDoorPk18
set_option maxHeartbeats 100000000
namespace Go.Proofs.YtmgjidnalpgegaaGreatDoor
open Go.RowKit
theorem uGU(l:Bs)(w:World):Calls Tryz.prog 55 #[.string ⟨l.toArray⟩] w fun e w'=>e=.returned (.bool (unB l))/\w=w':=by
 by_cases h0:l=[45]
 ·subst h0
  go_enter Tryz.func55,Tryz.ntmps55
  go_wp2_with fail
  go_ret
  exact⟨rfl,rfl⟩
 have e0:(l==([45]:Bs))=false:=by simpa using h0
 by_cases h1:l=[43]
 ·subst h1
  go_enter Tryz.func55,Tryz.ntmps55
  go_wp2_with fail
  go_ret
  exact⟨rfl,rfl⟩
 have e1:(l==([43]:Bs))=false:=by simpa using h1
 by_cases h2:l=[37]
 ·subst h2
  go_enter Tryz.func55,Tryz.ntmps55
  go_wp2_with fail
  go_ret
  exact⟨rfl,rfl⟩
 have e2:(l==([37]:Bs))=false:=by simpa using h2
 have hr:unB l=false:=by unfold unB;simp only[e0,e1,e2,Bool.or_self]
 rw[hr];clear hr
 go_enter Tryz.func55,Tryz.ntmps55
 go_wp2_with fail
 go_ret
 exact⟨rfl,rfl⟩
theorem uDD(l:Bs)(w:World):Calls Tryz.prog 56 #[.string ⟨l.toArray⟩] w fun e w'=>e=.returned (.bool (kZ l))/\w=w':=by
 by_cases h0:l=[43]
 ·subst h0
  go_enter Tryz.func56,Tryz.ntmps56
  go_wp2_with fail
  go_ret
  exact⟨rfl,rfl⟩
 have e0:(l==([43]:Bs))=false:=by simpa using h0
 by_cases h1:l=[45]
 ·subst h1
  go_enter Tryz.func56,Tryz.ntmps56
  go_wp2_with fail
  go_ret
  exact⟨rfl,rfl⟩
 have e1:(l==([45]:Bs))=false:=by simpa using h1
 by_cases h2:l=[42]
 ·subst h2
  go_enter Tryz.func56,Tryz.ntmps56
  go_wp2_with fail
  go_ret
  exact⟨rfl,rfl⟩
 have e2:(l==([42]:Bs))=false:=by simpa using h2
 by_cases h3:l=[47]
 ·subst h3
  go_enter Tryz.func56,Tryz.ntmps56
  go_wp2_with fail
  go_ret
  exact⟨rfl,rfl⟩
 have e3:(l==([47]:Bs))=false:=by simpa using h3
 by_cases h4:l=[94]
 ·subst h4
  go_enter Tryz.func56,Tryz.ntmps56
  go_wp2_with fail
  go_ret
  exact⟨rfl,rfl⟩
 have e4:(l==([94]:Bs))=false:=by simpa using h4
 by_cases h5:l=[38]
 ·subst h5
  go_enter Tryz.func56,Tryz.ntmps56
  go_wp2_with fail
  go_ret
  exact⟨rfl,rfl⟩
 have e5:(l==([38]:Bs))=false:=by simpa using h5
 by_cases h6:l=[61]
 ·subst h6
  go_enter Tryz.func56,Tryz.ntmps56
  go_wp2_with fail
  go_ret
  exact⟨rfl,rfl⟩
 have e6:(l==([61]:Bs))=false:=by simpa using h6
 by_cases h7:l=[60,62]
 ·subst h7
  go_enter Tryz.func56,Tryz.ntmps56
  go_wp2_with fail
  go_ret
  exact⟨rfl,rfl⟩
 have e7:(l==([60,62]:Bs))=false:=by simpa using h7
 by_cases h8:l=[60]
 ·subst h8
  go_enter Tryz.func56,Tryz.ntmps56
  go_wp2_with fail
  go_ret
  exact⟨rfl,rfl⟩
 have e8:(l==([60]:Bs))=false:=by simpa using h8
 by_cases h9:l=[60,61]
 ·subst h9
  go_enter Tryz.func56,Tryz.ntmps56
  go_wp2_with fail
  go_ret
  exact⟨rfl,rfl⟩
 have e9:(l==([60,61]:Bs))=false:=by simpa using h9
 by_cases uu:l=[62]
 ·subst uu
  go_enter Tryz.func56,Tryz.ntmps56
  go_wp2_with fail
  go_ret
  exact⟨rfl,rfl⟩
 have e10:(l==([62]:Bs))=false:=by simpa using uu
 by_cases h11:l=[62,61]
 ·subst h11
  go_enter Tryz.func56,Tryz.ntmps56
  go_wp2_with fail
  go_ret
  exact⟨rfl,rfl⟩
 have e11:(l==([62,61]:Bs))=false:=by simpa using h11
 have hr:kZ l=false:=by unfold kZ;simp only[e0,e1,e2,e3,e4,e5,e6,e7,e8,e9,e10,e11,Bool.or_self]
 rw[hr];clear hr
 go_enter Tryz.func56,Tryz.ntmps56
 go_wp2_with fail
 go_ret
 exact⟨rfl,rfl⟩
def fG(s:Bs):Nat->Nat
 |0=>0
 |1=>if aZ s 0 82 then 1+aS (s.drop 1) else 0
 |_=>let a:=if aZ s 0 82 then 1+aS (s.drop 1) else 0
  if aZ s a 67 then a+1+aS (s.drop (a+1)) else a
theorem nA(s:Bs):aS s<=s.length:=bT aB s
theorem uCZ(s:Bs):fG s 1<=s.length:=by
 show (if aZ s 0 82 then 1+aS (s.drop 1) else 0)<=s.length
 split
 ·rename_i h
  have:=nA (s.drop 1);rw[yk]at this;have:0<s.length:=by
   cases s with
   |nil=>cases h
   |cons=>simp
  omega
 omega
theorem wU(w:World)(C:Array Value)(e:TypeId)(f:Nat×Nat)(i:Nat):(w.alloc (.cells C e f)).cell? ⟨w.heap.size,i,none⟩=C[i]?:=by
 have h:(w.alloc (.cells C e f)).heap[w.heap.size]?=some (.cells C e f):=by
  show (w.heap.push (.cells C e f))[w.heap.size]?=_;simp
 unfold World.cell?;simp only[h];rfl
theorem seen_1(s:Bs):fG s 1=if aZ s 0 82 then 0+1+aS (s.drop (0+1)) else 0:=by
 show (if aZ s 0 82 then 1+aS (s.drop 1) else 0)=_;rw[Nat.zero_add]
theorem seen_2(s:Bs):fG s 2=if aZ s (fG s 1) 67 then fG s 1+1+aS (s.drop (fG s 1+1)) else fG s 1:=rfl
theorem seen_le2(s:Bs):fG s 2<=s.length:=by
 rw[seen_2]
 split
 ·rename_i h
  have h1:=at_lt _ _ _ h;have:=nA (s.drop (fG s 1+1));rw[yk]at this;omega
 exact uCZ s
set_option maxRecDepth 100000 in
theorem uKV(l:Bs)(w:World)(hs:l.length<=1000000) :
  Calls Tryz.prog 82 #[.string ⟨l.toArray⟩] w fun e w'=>e=.returned (.bool (gS l))/\Below w.heap.size w w':=by
 have HD:=zh (fun k W=>sP (l.drop k) W (by rw[yk];unfold maxLen;omega));have HDL:Hid (∀ k,aS (l.drop k)<=l.length-k):=zh (fun k=>by have:=nA (l.drop k);rwa [yk]at this);have HR:Hid (gS l=decide (fG l 2=l.length)):=zh rfl;have nf:=zh (uCZ l);have ju:=zh (seen_le2 l);have HB:Hid (Below w.heap.size w (w.alloc (.cells #[.int .u8 82,.int .u8 67] 5 (2,3)))):=zh (zp _);have HI:Hid ((w.alloc (.cells #[.int .u8 82,.int .u8 67] 5 (2,3))).cell? ⟨w.heap.size,0,none⟩=some (.int .u8 82)/\(w.alloc (.cells #[.int .u8 82,.int .u8 67] 5 (2,3))).cell? ⟨w.heap.size,1,none⟩=some (.int .u8 67)):=zh ⟨wU _ _ _ _ 0,wU _ _ _ _ 1⟩;have hcv:=Lib.run_convert_bytes_const (P:=Tryz.prog) w 77 5 #[.int .u8 82,.int .u8 67] 2 2 Tryz.underlying77 Tryz.underlying5
 simp only[yd,yi,List.length_nil,Nat.zero_add,Nat.reduceAdd]at hcv
 go_enter Tryz.func82,Tryz.ntmps82
 go_wp2_with fail
 clear hcv;generalize w.alloc (.cells #[.int .u8 82,.int .u8 67] 5 (2,3))=W1 at HB HI ⊢;generalize w.heap.size=q at HI ⊢
 go_loop [3,9] (fun a i=>∃ k n:Nat,k<=2/\n=fG l k/\i=.int .i64 (k:Int)/\a=.int .i64 (n:Int)) (fun _ i=>2-(intOf i).toNat)
 case atStart=>exact⟨0,0,by omega,rfl,rfl,rfl⟩
 case round=>
  obtain⟨k,n,hk,hn,rfl,rfl⟩:=hrel;obtain⟨x0,x1⟩:=HI.out;rcases(by omega:k=2\/k=0\/k=1) with rfl|rfl|rfl
  ·have HN:=zh hn;clear hn x0 x1;have hnl:(n:Int)<=(l.length:Int):=by have:=ju.out;have:=HN.out;omega
   go_wp2_with fail
   go_ret
   refine⟨?_,HB.out⟩;rw[HR.out,<- HN.out];have e:((n:Int)==(l.length:Int))=decide (n=l.length):=by rw[ze];simp;try omega
   show Ending.returned (.bool ((n:Int)==(l.length:Int)))=_;rw[e]
  ·have el:fG l 1=if aZ l n 82 then n+1+aS (l.drop (n+1)) else n:=by have h0:n=0:=hn;rw[h0];exact seen_1 l
   have hnl:n<=l.length:=by have h0:n=0:=hn;omega
   have ij:=zh el;clear el hn hk;by_cases hlt:n<l.length
   ·have hb:=iE l n 82 82 rfl hlt;cases ed:aZ l n 82 with
    |true=>
     rw[ed]at hb;have HN:Hid (fG l 1=n+1+aS (l.drop (n+1))):=zh (by rw[ij.out,ed];rfl);have hdl:=HDL.out (n+1);have lz:=zh (HD.out (n+1));clear ij ed;generalize hdd:aS (l.drop (n+1))=m at *;clear hdd
     go_wp2_with fail
     refine(lz.out _).mono ?_;rintro e w' ⟨rfl,rfl⟩
     go_wp2_with fail
     go_round
     case rel=>exact⟨1,n+1+m,by omega,HN.out.symm,rfl,by go_num⟩
     case measure=>simp[intOf]
    |false=>
     rw[ed]at hb;have HN:Hid (fG l 1=n):=zh (by rw[ij.out,ed];rfl);clear ij ed
     go_wp2_with fail
     go_round
     case rel=>exact⟨1,n,by omega,HN.out.symm,rfl,rfl⟩
     case measure=>simp[intOf]
   have HN:Hid (fG l 1=n):=zh (by rw[ij.out,iF l n 82 (by omega)];rfl);have hnl2:¬ (n:Int)<(l.length:Int):=by omega
   clear ij
   go_wp2_with fail
   go_round
   case rel=>exact⟨1,n,by omega,HN.out.symm,rfl,rfl⟩
   case measure=>simp[intOf]
  have el:fG l 2=if aZ l n 67 then n+1+aS (l.drop (n+1)) else n:=by rw[hn];exact seen_2 l
  have hnl:n<=l.length:=by have:=nf.out;omega
  have ij:=zh el;clear el hn hk;by_cases hlt:n<l.length
  ·have hb:=iE l n 67 67 rfl hlt;cases ed:aZ l n 67 with
   |true=>
    rw[ed]at hb;have HN:Hid (fG l 2=n+1+aS (l.drop (n+1))):=zh (by rw[ij.out,ed];rfl);have hdl:=HDL.out (n+1);have lz:=zh (HD.out (n+1));clear ij ed;generalize hdd:aS (l.drop (n+1))=m at *;clear hdd
    go_wp2_with fail
    refine(lz.out _).mono ?_;rintro e w' ⟨rfl,rfl⟩
    go_wp2_with fail
    go_round
    case rel=>exact⟨2,n+1+m,by omega,HN.out.symm,rfl,by go_num⟩
    case measure=>simp[intOf]
   |false=>
    rw[ed]at hb;have HN:Hid (fG l 2=n):=zh (by rw[ij.out,ed];rfl);clear ij ed
    go_wp2_with fail
    go_round
    case rel=>exact⟨2,n,by omega,HN.out.symm,rfl,rfl⟩
    case measure=>simp[intOf]
  have HN:Hid (fG l 2=n):=zh (by rw[ij.out,iF l n 67 (by omega)];rfl);have hnl2:¬ (n:Int)<(l.length:Int):=by omega
  clear ij
  go_wp2_with fail
  go_round
  case rel=>exact⟨2,n,by omega,HN.out.symm,rfl,rfl⟩
  case measure=>simp[intOf]
def lB(c:UInt8):Bool:=cD c||aB c||c==46
def lC(c:UInt8):Bool:=cD c||aB c||c==95||c==46
theorem kX{p:UInt8->Bool}{l:Bs}{k:Nat}(h:(l.take k).all p=true)(hk:k<l.length)(hp:p l[k]=true):(l.take (k+1)).all p=true:=by
 rw[yw hk,List.all_append,h];simp[hp]
theorem oP{p:UInt8->Bool}{l:Bs}{k:Nat}(hk:k<l.length)(hp:p l[k]=false):l.all p=false:=by
 cases h:l.all p with
 |false=>rfl
 |true=>
  rw[List.all_eq_true]at h;rw[h _ (List.getElem_mem hk)]at hp;cases hp
theorem beq_u8(c:UInt8)(d:UInt8)(n:Int)(hn:(d.toNat:Int)=n):((c.toNat:Int)==n)=(c==d):=by
 subst hn;rw[ze,beq_iff_eq,beq_iff_eq];exact⟨fun h=>UInt8.toNat.inj (by omega),fun h=>by rw[h]⟩
theorem mX(c:UInt8)(d:UInt8)(n:Int)(hn:(d.toNat:Int)=n):((c.toNat:Int) != n)=!(c==d):=by rw[<- beq_u8 c d n hn];rfl
set_option maxRecDepth 100000 in
theorem uKS(l:Bs)(w:World)(hs:l.length<=100000) :
  Calls Tryz.prog 54 #[.string ⟨l.toArray⟩] w fun e w'=>e=.returned (.bool (bR l))/\Below w.heap.size w w':=by
 rcases l with _|⟨c,t⟩
 ·go_enter Tryz.func54,Tryz.ntmps54
  go_wp2_with fail
  go_ret
  exact⟨rfl,Below.refl _ _⟩
 have hlen:0<(c::t).length:=by simp
 have hhd:(c::t).headD 0=c:=rfl;have ed:(c::t)[0]'hlen=c:=rfl;have bp:((c::t:Bs)==[])=false:=rfl;have bv:¬ (c::t:Bs)=[]:=by simp
 generalize (c::t:Bs)=l at *;have sd:=zh (fun W=>fA c W);have HR:Hid (bR l=(decide (l.length<=32)&&cD c&&l.all lB&&!(decide (aP l+aS (l.drop (aP l))=l.length)&&decide (aP l<=3)&&decide (1<=aS (l.drop (aP l)))&&decide (aS (l.drop (aP l))<=7)&&!aZ l (aP l) 48))):=zh (by
  unfold bR;rw[hhd,decide_eq_true hlen,Bool.true_and];rfl)
 clear hhd;by_cases oj:32<l.length
 ·have hr:bR l=false:=by rw[HR.out,decide_eq_false (by omega)];rfl
  have xt:(32:Int)<(l.length:Int):=by omega
  rw[hr];clear hr
  go_enter Tryz.func54,Tryz.ntmps54
  go_wp2_with fail
  go_ret
  exact⟨rfl,Below.refl _ _⟩
 have xt:¬ (32:Int)<(l.length:Int):=by omega
 cases fd:cD c with
 |false=>
  have hr:bR l=false:=by rw[HR.out,fd,Bool.and_false];rfl
  rw[hr];clear hr HR
  go_enter Tryz.func54,Tryz.ntmps54
  go_wp2_with fail
  refine(sd.out _).mono ?_;rintro e w' ⟨rfl,rfl⟩
  go_wp2_with fail
  go_ret
  exact⟨rfl,Below.refl _ _⟩
 |true=>
  have ce:Hid (bR l=(l.all lB&&!(decide (aP l+aS (l.drop (aP l))=l.length)&&decide (aP l<=3)&&decide (1<=aS (l.drop (aP l)))&&decide (aS (l.drop (aP l))<=7)&&!aZ l (aP l) 48))):=zh (by rw[HR.out,fd,decide_eq_true (by omega)];rfl);clear HR;obtain⟨cap,W1,hcv,bj,hb⟩:=oS l w;have HB:=zh hb;have xu:=zh bj;clear hb bj;have HSp:=zh (fun W=>vW l W (by omega))
  go_enter Tryz.func54,Tryz.ntmps54
  go_wp2_with fail
  refine(sd.out _).mono ?_;rintro e w' ⟨rfl,rfl⟩
  go_wp2_with fail
  clear hcv sd;generalize w.heap.size=q at xu ⊢
  go_loop [24] (fun i=>∃ k:Nat,k<=l.length/\i=.int .i64 k/\(l.take k).all lB=true) (fun i=>l.length-(intOf i).toNat)
  case atStart=>exact⟨0,zm _,rfl,by simp⟩
  case round=>
   obtain⟨k,hk,rfl,bk⟩:=hrel;by_cases hlt:k<l.length
   ·obtain⟨x0,xf0⟩:=xu.out k hlt;have mp:=mX l[k] 46 46 rfl;have se:=zh bk;clear bk;cases hd:lB l[k] with
    |false=>
     have hr:bR l=false:=by rw[ce.out,oP hlt hd];rfl
     have ow:=hd;unfold lB at ow;simp only[Bool.or_eq_false_iff]at ow;obtain⟨⟨d1,d2⟩,d3⟩:=ow;rw[d3]at mp;clear hd ce
     go_wp2_with (first |(go_at_call 79;refine(fA _ _).mono ?_;rintro e w' ⟨rfl,rfl⟩) |(go_at_call 80;refine(gB _ _).mono ?_;rintro e w' ⟨rfl,rfl⟩))
     go_ret
     exact⟨by first|exact aI hr.symm|exact aI rfl,HB.out⟩
    |true=>
     have ij:=zh (kX se.out hlt hd);unfold lB at hd;cases d1:cD l[k] with
     |true=>
      clear hd
      go_wp2_with (first |(go_at_call 79;refine(fA _ _).mono ?_;rintro e w' ⟨rfl,rfl⟩) |(go_at_call 80;refine(gB _ _).mono ?_;rintro e w' ⟨rfl,rfl⟩))
      go_round
      case rel=>exact⟨k+1,by omega,by go_num,ij.out⟩
      case measure=>simp[intOf];omega
     |false=>
      cases d2:aB l[k] with
      |true=>
       clear hd
       go_wp2_with (first |(go_at_call 79;refine(fA _ _).mono ?_;rintro e w' ⟨rfl,rfl⟩) |(go_at_call 80;refine(gB _ _).mono ?_;rintro e w' ⟨rfl,rfl⟩))
       go_round
       case rel=>exact⟨k+1,by omega,by go_num,ij.out⟩
       case measure=>simp[intOf];omega
      |false=>
       have d3:(l[k]==46)=true:=by rw[d1,d2]at hd;simpa using hd
       rw[d3]at mp;clear hd
       go_wp2_with (first |(go_at_call 79;refine(fA _ _).mono ?_;rintro e w' ⟨rfl,rfl⟩) |(go_at_call 80;refine(gB _ _).mono ?_;rintro e w' ⟨rfl,rfl⟩))
       go_round
       case rel=>exact⟨k+1,by omega,by go_num,ij.out⟩
       case measure=>simp[intOf];omega
   have hkl:k=l.length:=by omega
   have jo:l.all lB=true:=by rw[hkl,List.take_length]at bk;exact bk
   clear bk;have ev:Hid (bR l=!(decide (aP l+aS (l.drop (aP l))=l.length)&&decide (aP l<=3)&&decide (1<=aS (l.drop (aP l)))&&decide (aS (l.drop (aP l))<=7)&&!aZ l (aP l) 48)):=zh (by rw[ce.out,jo,Bool.true_and]);clear ce jo;have HAL:Hid (aP l<=l.length):=zh (bT cD l);generalize aS (l.drop (aP l))=d at *;generalize aP l=a at *;have hal:=HAL.out;subst hkl
   go_wp2_with fail
   refine(HSp.out _).mono ?_;rintro e w' ⟨rfl,rfl⟩;by_cases e1:a+d=l.length
   ·rw[decide_eq_true e1]at ev ⊢;by_cases e2:a<=3
    ·by_cases e3:1<=d
     ·by_cases e4:d<=7
      ·have hq:=mV l a 48 48 rfl (by omega);have hala:a<l.length:=by omega
       have j6:Hid (bR l=!(!aZ l a 48)):=zh (by rw[ev.out,decide_eq_true e2,decide_eq_true e3,decide_eq_true e4];rfl);clear ev
       go_wp2_with fail
       go_ret
       exact⟨aI (by rw[j6.out,Bool.not_not]),HB.out⟩
      have hr:bR l=true:=by rw[ev.out,decide_eq_false e4];simp
      clear ev
      go_wp2_with fail
      go_ret
      exact⟨by first|exact aI hr.symm|exact aI rfl,HB.out⟩
     have hr:bR l=true:=by rw[ev.out,decide_eq_false e3];simp
     clear ev
     go_wp2_with fail
     go_ret
     exact⟨by first|exact aI hr.symm|exact aI rfl,HB.out⟩
    have hr:bR l=true:=by rw[ev.out,decide_eq_false e2];simp
    clear ev
    go_wp2_with fail
    go_ret
    exact⟨by first|exact aI hr.symm|exact aI rfl,HB.out⟩
   have hr:bR l=true:=by rw[ev.out,decide_eq_false e1];simp
   rw[decide_eq_false e1];clear ev
   go_wp2_with fail
   go_ret
   exact⟨by first|exact aI hr.symm|exact aI rfl,HB.out⟩
set_option maxRecDepth 100000 in
theorem uKU(l:Bs)(w:World)(hs:l.length<=100000) :
  Calls Tryz.prog 57 #[.string ⟨l.toArray⟩] w fun e w'=>e=.returned (.bool (bS l))/\Below w.heap.size w w':=by
 rcases l with _|⟨c,t⟩
 ·go_enter Tryz.func57,Tryz.ntmps57
  go_wp2_with fail
  go_ret
  exact⟨rfl,Below.refl _ _⟩
 have hlen:0<(c::t).length:=by simp
 have hhd:(c::t).headD 0=c:=rfl;have ed:(c::t)[0]'hlen=c:=rfl;have bp:((c::t:Bs)==[])=false:=rfl;have bv:¬ (c::t:Bs)=[]:=by simp
 generalize (c::t:Bs)=l at *;have sd:=zh (fun W=>fA c W);have HR:Hid (bS l=(decide (l.length<=32)&&(cD c||c==95)&&l.all lC&&!(l==kI||l==iQ||gS l)&&!(decide (aP l+aS (l.drop (aP l))=l.length)&&decide (1<=aP l)&&decide (aP l<=3)&&decide (1<=aS (l.drop (aP l)))))):=zh (by
  unfold bS;rw[hhd,decide_eq_true hlen,Bool.true_and];rfl)
 clear hhd;by_cases oj:32<l.length
 ·have hr:bS l=false:=by rw[HR.out,decide_eq_false (by omega)];rfl
  have xt:(32:Int)<(l.length:Int):=by omega
  rw[hr];clear hr
  go_enter Tryz.func57,Tryz.ntmps57
  go_wp2_with fail
  go_ret
  exact⟨rfl,Below.refl _ _⟩
 have xt:¬ (32:Int)<(l.length:Int):=by omega
 have xv:=mX c 95 95 rfl;cases fd:(cD c||c==95) with
 |false=>
  have hr:bS l=false:=by rw[HR.out,fd,Bool.and_false];rfl
  obtain⟨hcap1,sn⟩:cD c=false/\(c==95)=false:=by simpa using fd
  rw[sn]at xv;clear fd sn;have fd:=hcap1;rw[hr];clear hr HR
  go_enter Tryz.func57,Tryz.ntmps57
  go_wp2_with fail
  refine(sd.out _).mono ?_;rintro e w' ⟨rfl,rfl⟩
  go_wp2_with fail
  go_ret
  exact⟨rfl,Below.refl _ _⟩
 |true=>
  have ce:Hid (bS l=(l.all lC&&!(l==kI||l==iQ||gS l)&&!(decide (aP l+aS (l.drop (aP l))=l.length)&&decide (1<=aP l)&&decide (aP l<=3)&&decide (1<=aS (l.drop (aP l)))))):=zh (by rw[HR.out,fd,decide_eq_true (by omega)];rfl);clear HR;obtain⟨cap,W1,hcv,bj,hb⟩:=oS l w;have HB:=zh hb;have xu:=zh bj;clear hb bj;have HSp:=zh (fun W=>vW l W (by omega));have dh:=zh (fun W=>uKV l W (by omega))
  go_enter Tryz.func57,Tryz.ntmps57
  go_upto_region 1 with fail
  go_cut [25] (fun v wx=>v=.bool false/\Hid (wx=w))
  case first=>
   go_wp2_with fail
   refine(sd.out _).mono ?_;rintro e w' ⟨rfl,rfl⟩;cases eu:cD c with
   |true=>
    go_wp2_with fail
    all_goals go_meet
    exact⟨rfl,zh rfl⟩
   |false=>
    have h2:(c==95)=true:=by rw[eu]at fd;simpa using fd
    rw[h2]at xv
    go_wp2_with fail
    all_goals go_meet
    exact⟨rfl,zh rfl⟩
  case rest=>
  obtain⟨rfl,hcut⟩:=hcut;have qd:=hcut.out;subst qd;clear hcut fd xv
  go_wp2_with fail
  clear hcv sd;generalize wc.heap.size=q at xu ⊢
  go_loop [29] (fun i=>∃ k:Nat,k<=l.length/\i=.int .i64 k/\(l.take k).all lC=true) (fun i=>l.length-(intOf i).toNat)
  case atStart=>exact⟨0,zm _,rfl,by simp⟩
  case round=>
   obtain⟨k,hk,rfl,bk⟩:=hrel;by_cases hlt:k<l.length
   ·obtain⟨x0,xf0⟩:=xu.out k hlt;have xw:=mX l[k] 95 95 rfl;have mp:=mX l[k] 46 46 rfl;have se:=zh bk;clear bk;cases hd:lC l[k] with
    |false=>
     have hr:bS l=false:=by rw[ce.out,oP hlt hd];rfl
     have ow:=hd;unfold lC at ow;simp only[Bool.or_eq_false_iff]at ow;obtain⟨⟨⟨d1,d2⟩,d4⟩,d3⟩:=ow;rw[d3]at mp;rw[d4]at xw;clear hd ce
     go_wp2_with (first |(go_at_call 79;refine(fA _ _).mono ?_;rintro e w' ⟨rfl,rfl⟩) |(go_at_call 80;refine(gB _ _).mono ?_;rintro e w' ⟨rfl,rfl⟩))
     go_ret
     exact⟨by first|exact aI hr.symm|exact aI rfl,HB.out⟩
    |true=>
     have ij:=zh (kX se.out hlt hd);unfold lC at hd;cases d1:cD l[k] with
     |true=>
      clear hd
      go_wp2_with (first |(go_at_call 79;refine(fA _ _).mono ?_;rintro e w' ⟨rfl,rfl⟩) |(go_at_call 80;refine(gB _ _).mono ?_;rintro e w' ⟨rfl,rfl⟩))
      go_round
      case rel=>exact⟨k+1,by omega,by go_num,ij.out⟩
      case measure=>simp[intOf];omega
     |false=>
      cases d2:aB l[k] with
      |true=>
       clear hd
       go_wp2_with (first |(go_at_call 79;refine(fA _ _).mono ?_;rintro e w' ⟨rfl,rfl⟩) |(go_at_call 80;refine(gB _ _).mono ?_;rintro e w' ⟨rfl,rfl⟩))
       go_round
       case rel=>exact⟨k+1,by omega,by go_num,ij.out⟩
       case measure=>simp[intOf];omega
      |false=>
       cases d4:(l[k]==95) with
       |true=>
        rw[d4]at xw;clear hd
        go_wp2_with (first |(go_at_call 79;refine(fA _ _).mono ?_;rintro e w' ⟨rfl,rfl⟩) |(go_at_call 80;refine(gB _ _).mono ?_;rintro e w' ⟨rfl,rfl⟩))
        go_round
        case rel=>exact⟨k+1,by omega,by go_num,ij.out⟩
        case measure=>simp[intOf];omega
       |false=>
        have d3:(l[k]==46)=true:=by rw[d1,d2,d4]at hd;simpa using hd
        rw[d3]at mp;rw[d4]at xw;clear hd
        go_wp2_with (first |(go_at_call 79;refine(fA _ _).mono ?_;rintro e w' ⟨rfl,rfl⟩) |(go_at_call 80;refine(gB _ _).mono ?_;rintro e w' ⟨rfl,rfl⟩))
        go_round
        case rel=>exact⟨k+1,by omega,by go_num,ij.out⟩
        case measure=>simp[intOf];omega
   have hkl:k=l.length:=by omega
   have jo:l.all lC=true:=by rw[hkl,List.take_length]at bk;exact bk
   clear bk;have ev:Hid (bS l=(!(l==kI||l==iQ||gS l)&&!(decide (aP l+aS (l.drop (aP l))=l.length)&&decide (1<=aP l)&&decide (aP l<=3)&&decide (1<=aS (l.drop (aP l)))))):=zh (by rw[ce.out,jo,Bool.true_and]);clear ce jo;subst hkl;by_cases hT:l=[84,82,85,69]
   ·have hr:bS l=false:=by rw[ev.out,hT];rfl
    clear ev;have oc:=zh hr;clear hr;have hT2:(l==([84,82,85,69]:Bs))=true:=by rw[hT];rfl
    have hTb:((⟨l.toArray⟩:ByteArray)==⟨#[84,82,85,69]⟩)=true:=by rw[hT];rfl
    clear hT
    go_wp2_with fail
    go_ret
    exact⟨by first|exact aI oc.out.symm|exact aI rfl,HB.out⟩
   have e1:(l==([84,82,85,69]:Bs))=false:=by simpa using hT
   by_cases hF:l=[70,65,76,83,69]
   ·have hr:bS l=false:=by rw[ev.out,hF];rfl
    clear ev;have oc:=zh hr;clear hr;have m4:(l==([70,65,76,83,69]:Bs))=true:=by rw[hF];rfl
    have hTb:((⟨l.toArray⟩:ByteArray)==⟨#[84,82,85,69]⟩)=false:=by rw[hF];rfl
    have hFb:((⟨l.toArray⟩:ByteArray)==⟨#[70,65,76,83,69]⟩)=true:=by rw[hF];rfl
    clear hF hT
    go_wp2_with fail
    go_ret
    exact⟨by first|exact aI oc.out.symm|exact aI rfl,HB.out⟩
   have e2:(l==([70,65,76,83,69]:Bs))=false:=by simpa using hF
   have j6:Hid (bS l=(!gS l&&!(decide (aP l+aS (l.drop (aP l))=l.length)&&decide (1<=aP l)&&decide (aP l<=3)&&decide (1<=aS (l.drop (aP l)))))):=zh (by rw[ev.out,show (l==kI)=false from e1,show (l==iQ)=false from e2];rfl);clear ev;have HAL:Hid (aP l<=l.length):=zh (bT cD l);generalize aS (l.drop (aP l))=d at *;generalize aP l=a at *;have hal:=HAL.out
   go_wp2_with fail
   refine(dh.out _).mono ?_;rintro e w2 ⟨rfl,hb⟩;have co:=zh (HB.out.trans (hb.mono HB.out.size));clear hb dh;cases hse:gS l with
   |true=>
    have oc:Hid (bS l=false):=zh (by rw[j6.out,hse];rfl);clear j6
    go_wp2_with fail
    go_ret
    exact⟨by first|exact aI oc.out.symm|exact aI rfl,co.out⟩
   |false=>
    rw[hse]at j6
    go_wp2_with fail
    refine(HSp.out _).mono ?_;rintro e w' ⟨rfl,rfl⟩;by_cases f1:a+d=l.length
    ·rw[decide_eq_true f1]at j6 ⊢;by_cases f2:1<=a
     ·by_cases f3:a<=3
      ·by_cases f4:1<=d
       ·have oc:Hid (bS l=false):=zh (by rw[j6.out,decide_eq_true f2,decide_eq_true f3,decide_eq_true f4];rfl);clear j6
        go_wp2_with fail
        go_ret
        exact⟨aI (by rw[oc.out];simp;omega),co.out⟩
       have oc:Hid (bS l=true):=zh (by rw[j6.out,decide_eq_false f4];simp);clear j6
       go_wp2_with fail
       go_ret
       exact⟨aI (by rw[oc.out];simp;omega),co.out⟩
      have oc:Hid (bS l=true):=zh (by rw[j6.out,decide_eq_false f3];simp);clear j6
      go_wp2_with fail
      go_ret
      exact⟨by first|exact aI oc.out.symm|exact aI rfl,co.out⟩
     have oc:Hid (bS l=true):=zh (by rw[j6.out,decide_eq_false f2];simp);clear j6
     go_wp2_with fail
     go_ret
     exact⟨by first|exact aI oc.out.symm|exact aI rfl,co.out⟩
    have oc:Hid (bS l=true):=zh (by rw[j6.out,decide_eq_false f1];simp);rw[decide_eq_false f1];clear j6
    go_wp2_with fail
    go_ret
    exact⟨by first|exact aI oc.out.symm|exact aI rfl,co.out⟩
theorem aT{ops:Array Oper}{o:Oper}{a:Act}{g sg:Nat}{pol:Bool}(h:o.guard=some (g,pol)){og:Oper}(hg:ops[g]?=some og)(hd:og.dst=some sg)(hv:a.eval (.tmp sg)=undef):Region.wanted o (yielded ops a.tmps)=false:=by
 have h1:a.tmps[sg]?.getD undef=undef:=aF hv;unfold Region.wanted yielded;rw[h];simp only[hg,Option.bind_some,hd];cases hq:a.tmps[sg]? with
 |none=>rfl
 |some x=>
  rw[hq]at h1;have h2:x=undef:=h1;subst h2;rfl
section
variable {ops:Array Oper} {S:List Nat} {T:List (Nat×Nat×Value)} {P:World->Prop} {w:World} {N:Nat} {a0 a:Act} {zl:Array Bool} {Q:Exit->Act->World->Prop} {o:Oper} {i s:Nat} {v:Value}
theorem dN(he:(i,s,v)∈T)(hk:okU (T.map fun e=>(e.1,e.2.1)) S N=true)(hI:GU ops S T [] P a0 zl a w)(hN:N<=a0.tmps.size)(aa:zl.getD i true=false)(ho:ops[i]?=some o)(zd:∀ e∈o.after,Region.binds .any e=true->Up zl e.on)(hw:Region.wanted o (yielded ops a.tmps)=true)(hd:o.dst=some s)
  (f:FuncId) (xs:Array Value) (hr:(execOp a.eval o).run Tryz.prog w=.ok (.enter f xs) w) (hc:Calls Tryz.prog f xs w fun e w1=>e=.returned v/\P w1):wpOp Tryz.prog ops Q i (GU ops S T [] P a0 (zl.setIfInBounds i true)) a w:=by
 have h:=uD hk hI hN he fX aa ho zd;unfold wpOp;rw[ho];simp only;rw[if_pos hw];refine .inl (jG (v:=v) f xs hr (hc.mono ?_));rintro e w1 ⟨rfl,hP⟩;rw[hd];exact⟨rfl,h.off,h.pt,h.dn,hP⟩
end
set_option maxRecDepth 1000000 in
theorem tLit_any(v:Val)(m:Bool)(w:World)(tj:-9223372036854775808<=v.mant)(vu:v.mant<=9223372036854775807)(hl:v.text.length<=1000000) :
  Calls Tryz.prog 51 #[nV v,.bool m] w fun e w'=>e=.returned (.bool (cI v m))/\Below w.heap.size w w':=by
 have HVR:=zh (fun W=>uDJ v W tj vu hl);obtain⟨W1,dv⟩:∃ W1,W1=w.alloc (.cells #[.int .i64 v.kind,.int .i64 v.mant,.int .i64 v.exp,.string ⟨v.text.toArray⟩,.bool v.truth,.int .i64 v.fault] 32):=⟨_,rfl⟩
 have cy:=zh dv;have HL:Hid (Lies W1 w.heap.size 32 #[.int .i64 v.kind,.int .i64 v.mant,.int .i64 v.exp,.string ⟨v.text.toArray⟩,.bool v.truth,.int .i64 v.fault]):=zh (by rw[dv];exact Lies.new _ _ _);have HB:Hid (Below w.heap.size w W1):=zh (by rw[dv];exact zp _);clear dv;obtain⟨b0,cn⟩:∃ b0,decide (v.kind≠0)=b0:=⟨_,rfl⟩
 obtain⟨b1,af⟩:∃ b1,cC v=b1:=⟨_,rfl⟩
 obtain⟨b2,bf⟩:∃ b2,decide (0<=v.mant)=b2:=⟨_,rfl⟩
 have HR:Hid (cI v m=(b0&&b1&&(m||b2))):=zh (by unfold cI;rw[cn,af,bf]);have e0':(v.kind != 0)=b0:=by rw[<- cn,ze];simp
 obtain⟨c1,h1⟩:∃ c1,c1=(b0&&b1):=⟨_,rfl⟩
 obtain⟨d,hd⟩:∃ d,d=(m||b2):=⟨_,rfl⟩
 obtain⟨c2,h2⟩:∃ c2,c2=(c1&&d):=⟨_,rfl⟩
 rw[<- h1,<- hd,<- h2]at HR;have HH:=zh (And.intro h1 (And.intro h2 (And.intro hd (And.intro af (And.intro bf e0')))));clear h1 h2 cn af bf hd e0'
 go_enter Tryz.func51,Tryz.ntmps51
 go_upto_region 1 with fail
 rw[<- cy.out];generalize hq:w.heap.size=q at *;obtain⟨h1,h2,hd,hvr,bf,e0'⟩:=HH.out
 obtain⟨TT,ae⟩:∃ TT:List (Nat×Nat×Value),TT=((0,5,.pointer (some ⟨q,0,none⟩))::(1,6,.int .i64 v.kind)::(2,7,.bool b0)::(3,8,.bool b0)::(4,9,(bif b0 then .agg ([.int .i64 v.kind,.int .i64 v.mant,.int .i64 v.exp,.string ⟨v.text.toArray⟩,.bool v.truth,.int .i64 v.fault]:List Value).toArray else undef))::(5,10,(bif b0 then .bool b1 else undef))::(6,11,.bool c1)::(7,12,.bool c1)::(8,13,(bif c1 then .bool m else undef))::(9,14,(bif c1 then .bool m else undef))::(10,15,(bif c1 then (bif m then undef else .pointer (some ⟨q,1,none⟩)) else undef))::(11,16,(bif c1 then (bif m then undef else .pointer (some ⟨q,1,none⟩)) else undef))::(12,17,(bif c1 then (bif m then undef else .int .i64 v.mant) else undef))::(13,18,(bif c1 then (bif m then undef else .bool b2) else undef))::(14,19,(bif c1 then .bool d else undef))::(15,20,.bool c2)::(16,4,.bool c2)::[]):=⟨_,rfl⟩
 have aq:=zh ae;clear ae;refine bI (fun a0=>21<=a0.tmps.size/\a0.eval (.tmp 1)=.bool m/\a0.eval (.tmp 2)=.pointer (some ⟨q,0,none⟩)) (5::6::7::8::9::10::11::12::13::14::15::16::17::18::19::20::4::[]) TT [] (fun w'=>Below W1.heap.size W1 w') (by kernel_rfl) ⟨by simp,rfl,rfl⟩ (Below.refl _ _) ?_ ?_
 ·rintro a0 ⟨hs,dt,ma⟩ zl a1 w1 zj o bg hI aa ho zd;have af:Below W1.heap.size W1 w1:=hI.st;have ae:=aq.out;have hk:okU (TT.map fun e=>(e.1,e.2.1)) (5::6::7::8::9::10::11::12::13::14::15::16::17::18::19::20::4::[]) 21=true:=by rw[ae];rfl
  subst ae;have e1x:=aF ((hI.off.eval (by decide)).trans dt);have e2x:=aF ((hI.off.eval (by decide)).trans ma);have hj:=Up.of_false aa;have hj12:zj<17:=by rw[bg]at hj;exact hj
  have G:RG _ _ _ _ _ _ _ _ _ _ _:=⟨hk,hI,hs,aa,ho,zd⟩
  (iterate 16 rcases zq hj12 with hj12|rfl);obtain rfl:=cz hj12;all_goals obtain rfl:=oi ho
  ·exact G.nl 0 rfl (by simp[execOp,go_sem,e2x])
  ·have HLw:=HL.out.next af;have x0:=HLw.cell 0;simp only[za,zb]at x0;exact G.nl 1 rfl (by simp[execOp,go_sem,G.t 0 rfl,x0])
  ·exact G.nl 2 rfl (by simp[execOp,go_sem,G.t 1 rfl,e0'])
  ·exact G.nl 3 rfl (by simp[execOp,go_sem,G.t 2 rfl])
  ·refine G.gv 3 4 rfl rfl rfl ?_;rintro rfl;have HLw:=HL.out.next af;exact aW 32 (.tmp 2) rfl q 0 ((hI.off.eval (by decide)).trans ma) _ _ HLw.range Tryz.underlying32 rfl jX
  ·have pg:=G.g 3 rfl;cases b0
   ·exact G.sk 5 rfl pg rfl
   refine dN (inT 5 rfl) hk hI hs aa ho zd (Eq.trans (aH rfl rfl rfl pg) rfl) rfl 77 #[nV v] (by simp[go_sem,G.t 4 rfl]) ?_;refine(HVR.out w1).mono ?_;rintro e w2 ⟨rfl,hb⟩;rw[hvr];exact⟨rfl,af.trans (hb.mono af.size)⟩
  ·cases b0
   all_goals have p3:=G.d 3 rfl
   all_goals have p5:=G.d 5 rfl
   all_goals exact G.nl 6 rfl (by simp[execOp,go_sem,aF p3,aF p5,h1])
  ·exact G.nl 7 rfl (by simp[execOp,go_sem,G.t 6 rfl])
  ·refine G.gv 7 8 rfl rfl rfl ?_;rintro rfl;simp[execOp,go_sem,e1x]
  ·refine G.gv 7 9 rfl rfl rfl ?_;rintro rfl;simp[execOp,go_sem,G.t 8 rfl]
  ·have pg:=G.g 9 rfl;cases c1
   ·exact bF hk hI hs (inT 10 rfl) fX aa ho zd (aT rfl rfl rfl pg) rfl
   cases m
   ·exact G.vl 10 rfl pg rfl (by simp[execOp,go_sem,e2x])
   exact G.sk 10 rfl pg rfl
  ·have pg:=G.g 9 rfl;cases c1
   ·exact bF hk hI hs (inT 11 rfl) fX aa ho zd (aT rfl rfl rfl pg) rfl
   cases m
   ·exact G.vl 11 rfl pg rfl (by simp[execOp,go_sem,G.t 10 rfl])
   exact G.sk 11 rfl pg rfl
  ·have pg:=G.g 9 rfl;cases c1
   ·exact bF hk hI hs (inT 12 rfl) fX aa ho zd (aT rfl rfl rfl pg) rfl
   cases m
   ·have HLw:=HL.out.next af;have x1:=HLw.cell 1;simp only[za,zb,zf]at x1;exact G.vl 12 rfl pg rfl (by simp[execOp,go_sem,G.t 11 rfl,x1])
   exact G.sk 12 rfl pg rfl
  ·have pg:=G.g 9 rfl;cases c1
   ·exact bF hk hI hs (inT 13 rfl) fX aa ho zd (aT rfl rfl rfl pg) rfl
   cases m
   ·exact G.vl 13 rfl pg rfl (by simp[execOp,go_sem,G.t 12 rfl,bf])
   exact G.sk 13 rfl pg rfl
  ·have pg:=G.g 7 rfl;cases c1
   ·exact G.sk 14 rfl pg rfl
   cases m
   all_goals have p9:=G.d 9 rfl
   all_goals have p13:=G.d 13 rfl
   all_goals exact G.vl 14 rfl pg rfl (by simp[execOp,go_sem,aF p9,aF p13,hd])
  ·cases c1
   all_goals have p7:=G.d 7 rfl
   all_goals have p14:=G.d 14 rfl
   all_goals exact G.nl 15 rfl (by simp[execOp,go_sem,aF p7,aF p14,h2])
  exact G.nl 16 rfl (by simp[execOp,go_sem,G.t 15 rfl])
 intro zl a1 w1 hI aw;have af:Below W1.heap.size W1 w1:=hI.st;have ae:=aq.out;subst ae;have z4:=hI.ptk 16 rfl (aw 16 (by decide));obtain⟨ff,rfl,hf⟩:=hI.off.forms;rw[<- hf 4]at z4;clear hI;simp only[List.foldl,Act.put,yz,List.set];rw[z4]
 go_wp2_with fail
 go_ret
 exact⟨by rw[HR.out];rfl,by first|exact HB.out.trans (af.mono HB.out.size) |(rw[hq];exact HB.out.trans (af.mono (by have:=HB.out.size;omega)))⟩
structure RfMk(q base:Nat)(acc:List IdR)(fl:List Bool)(v1 v2:Value)(W:World):Prop where
 ax:Lies W q 85 #[v1,v2]
 r1:W.ownsRow base 34 2 v1 acc.length (cT acc)
 r2:W.ownsRow base 4 1 v2 acc.length (fl.map Value.bool)
theorem RfMk.next{q base:Nat}{acc:List IdR}{fl:List Bool}{v1 v2:Value}{W W':World}(h:RfMk q base acc fl v1 v2 W)(hb:Below W.heap.size W W'):RfMk q base acc fl v1 v2 W' :=
 ⟨h.ax.next hb,gP hb h.r1,gP hb h.r2⟩
theorem pT:∀ (l:List IdR) (k:Nat) (h:k<l.length),(cT l)[k*2]?=some (.int .i64 l[k].a)/\(cT l)[k*2+1]?=some (.int .i64 l[k].n)
 | [],_,h=>absurd h (by simp)
 |x::r,0,_=>⟨rfl,rfl⟩
 |x::r,k+1,h=>by
  have:=pT r k (by simpa using h);have e:cT (x::r)=[.int .i64 x.a,.int .i64 x.n]++cT r:=rfl;rw[e,List.getElem?_append_right (by simp;omega),List.getElem?_append_right (by simp;omega)];simp only[yi,List.length_nil,Nat.zero_add];rw[show (k+1)*2-2=k*2 by omega,show (k+1)*2+1-2=k*2+1 by omega];exact this
theorem own_ids3{W:World}{base g cap n:Nat}{l:List IdR}(h:W.ownsRow base 34 2 (.slice (some ⟨g,0,none⟩) n cap) n (cT l))(k:Nat)(hk:k<l.length):W.rangeAt g (k*2) [.int .i64 l[k].a,.int .i64 l[k].n]:=fun j v hv=>by
 have hc:=h.cells (g:=g) rfl;obtain⟨h1,h2⟩:=pT l k hk;have k1:=hc _ _ h1;have k2:=hc _ _ h2;rw[Addr.add_mid,Nat.zero_add]at k1 k2
 match j,hv with
 |0,hv=>simp at hv;subst hv;exact k1
 |1,hv=>simp at hv;subst hv;exact k2
theorem id_if{x y:IdR}{b:Bool}(h:decide (y=x)=b)(w:World):(if y.a=x.a then (if y.n=x.n then Result.ok (Next.value (.bool true)) w else Result.ok (Next.value (.bool false)) w) else Result.ok (Next.value (.bool false)) w)=Result.ok (Next.value (.bool b)) w:=by
 subst h;obtain⟨a,n⟩:=x;obtain⟨a2,n2⟩:=y;by_cases h1:a2=a
 ·by_cases h2:n2=n
  ·subst h1 h2;simp
  simp[h2]
 simp[h1]
theorem pU:(Tryz.prog.info? 34).map (·.size)=some 2:=by kernel_rfl
def lE(x:IdR):Nat->List IdR->Int
 |_,[]=>-1
 |i,y::r=>if y=x then (i:Int) else lE x (i+1) r
def qE(l:List IdR)(x:IdR):Int:=lE x 0 l
theorem xK(x:IdR):∀ (l:List IdR) (i k:Nat),x∉l.take k->l[k]?=some x->lE x i l=((i+k:Nat):Int)
 | [],_,_,_,h=>by simp at h
 |y::r,i,0,_,h=>by
  simp at h;unfold lE;rw[if_pos h];rfl
 |y::r,i,k+1,hn,h=>by
  rw[List.take_succ_cons,ym,not_or]at hn;unfold lE;rw[if_neg (fun e=>hn.1 e.symm),xK x r (i+1) k hn.2 (by simpa using h)]
  congr 1
  omega
theorem rI(x:IdR):∀ (l:List IdR) (i:Nat),x∉l->lE x i l=-1
 | [],_,_=>rfl
 |y::r,i,hn=>by
  rw[ym,not_or]at hn;unfold lE;rw[if_neg (fun e=>hn.1 e.symm),rI x r (i+1) hn.2]
theorem xL(x:IdR):∀ (l:List IdR) (i:Nat),x∈l->∃ k:Nat,lE x i l=((i+k:Nat):Int)/\l[k]?=some x
 | [],_,h=>by cases h
 |y::r,i,h=>by
  by_cases e:y=x
  ·exact⟨0,by unfold lE;rw[if_pos e];rfl,by simp[e]⟩
  obtain⟨k,h1,h2⟩:=xL x r (i+1) ((ym.1 h).resolve_left (fun e'=>e e'.symm));exact⟨k+1,by unfold lE;rw[if_neg e,h1];congr 1;omega,by simpa using h2⟩
theorem xM(l:List IdR)(x:IdR):(qE l x<0↔x∉l):=by
 by_cases h:x∈l
 ·obtain⟨k,h1,_⟩:=xL x l 0 h;unfold qE;rw[h1];exact⟨fun h'=>by omega,fun h'=>absurd h h'⟩
 unfold qE;rw[rI x l 0 h];exact⟨fun _=>h,fun _=>by decide⟩
set_option maxRecDepth 1000000 in
theorem uKN(q base:Nat)(l:List IdR)(fl:List Bool)(v1 v2:Value)(x:IdR)(w:World)(hM:RfMk q base l fl v1 v2 w)(hl:l.length<=100000) :
  Calls Tryz.prog 32 #[.pointer (some ⟨q,0,none⟩),idV x] w fun e w'=>e=.returned (.int .i64 (qE l x))/\Below w.heap.size w w':=by
 obtain⟨W1,dv⟩:∃ W1,W1=w.alloc (.cells #[.int .i64 x.a,.int .i64 x.n] 34):=⟨_,rfl⟩
 have cy:=zh dv;have HL:Hid (Lies W1 w.heap.size 34 #[.int .i64 x.a,.int .i64 x.n]):=zh (by rw[dv];exact Lies.new _ _ _);have af:Below w.heap.size w W1:=by rw[dv];exact(zp _)
 have HB:=zh af;have HM:=zh (hM.next af);obtain⟨A,cap,rfl⟩:=fE hM.r1;have HLn:=zh hl;clear dv af hM hl
 go_enter Tryz.func32,Tryz.ntmps32
 go_upto_region 1 with fail
 rw[<- cy.out];generalize hq:w.heap.size=qb at *;clear cy
 go_wp2_with fail
 go_loopw [5] (fun v wr=>∃ k:Nat,k<=l.length/\v=.int .i64 (k:Int)/\Hid (x∉l.take k)/\Hid (Below W1.heap.size W1 wr)) (fun v _=>l.length-(intOf v).toNat)
 case atStart=>exact⟨0,zm _,rfl,zh (by simp),zh (Below.refl _ _)⟩
 case round=>
  obtain⟨k,hk,rfl,hnot,hbr⟩:=hrel;have HMr:=zh (HM.out.next hbr.out);have a0:wr.cell? ⟨q,0,none⟩=some (.slice A l.length cap):=HMr.out.ax.cell 0;have ol:(k:Int)<=100000:=by have:=HLn.out;omega
  by_cases hlt:k<l.length
  ·have lh:(k:Int)<(l.length:Int):=by omega
   obtain⟨g,jd,hv,tm,uy⟩:=HMr.out.r1.form (by omega);cases hv;have fm:=zh (own_ids3 HMr.out.r1 k hlt);obtain⟨y,hy⟩:∃ y,l[k]=y:=⟨_,rfl⟩
   rw[hy]at fm;have HY:=zh hy;clear hy;obtain⟨b,hb⟩:∃ b,decide (y=x)=b:=⟨_,rfl⟩
   have tc:=zh hb;clear hb;have HLr:=zh (HL.out.next hbr.out);obtain⟨Wr,hWr⟩:∃ Wr,Wr=wr:=⟨_,rfl⟩
   subst hWr
   go_upto_region 4 with fail
   clear a0
   go_cut [23] (fun v wx=>v=.bool b/\Hid (Below Wr.heap.size Wr wx))
   case first=>
    obtain⟨TT,ae⟩:∃ TT:List (Nat×Nat×Value),TT=((0,15,.pointer (some ⟨q,0,none⟩))::(1,16,.pointer (some ⟨q,0,none⟩))::(2,17,.pointer (some ⟨q,0,none⟩))::(3,18,.slice (some ⟨g,0,none⟩) l.length cap)::(4,19,.int .i64 (k:Int))::(5,20,.pointer (some ⟨g,k*2,none⟩))::(6,21,idV y)::(7,22,idV x)::(8,23,.bool b)::[]):=⟨_,rfl⟩
    have aq:=zh ae;clear ae;refine bO (fun a0=>25<=a0.tmps.size/\a0.eval (.tmp 0)=.pointer (some ⟨q,0,none⟩)/\a0.eval (.tmp 3)=.pointer (some ⟨qb,0,none⟩)/\a0.eval (.tmp 5)=.int .i64 (k:Int)) (15::16::17::18::19::20::21::22::23::[]) TT [] (fun w'=>Below Wr.heap.size Wr w') (by kernel_rfl) (by kernel_rfl) ⟨by simp,rfl,rfl,rfl⟩ (Below.refl _ _).drew ?_ ?_
    ·rintro a0 ⟨hs,dr,mu,ub⟩ zl a1 w1 zj o bg hI aa ho zd;have af:Below Wr.heap.size Wr w1:=hI.st;have ae:=aq.out;have hk:okU (TT.map fun e=>(e.1,e.2.1)) (15::16::17::18::19::20::21::22::23::[]) 25=true:=by rw[ae];rfl
     subst ae;have e0x:=aF ((hI.off.eval (by decide)).trans dr);have e3x:=aF ((hI.off.eval (by decide)).trans mu);have e5x:=aF ((hI.off.eval (by decide)).trans ub);have hj:=Up.of_false aa;have hj12:zj<9:=by rw[bg]at hj;exact hj
     have G:RG _ _ _ _ _ _ _ _ _ _ _:=⟨hk,hI,hs,aa,ho,zd⟩
     (iterate 8 rcases zq hj12 with hj12|rfl);obtain rfl:=cz hj12;all_goals obtain rfl:=oi ho
     ·exact G.nl 0 rfl (by simp[execOp,go_sem,e0x])
     ·exact G.nl 1 rfl (by simp[execOp,go_sem,G.t 0 rfl])
     ·exact G.nl 2 rfl (by simp[execOp,go_sem,G.t 1 rfl])
     ·have xq:w1.cell? ⟨q,0,none⟩=some (.slice (some ⟨g,0,none⟩) l.length cap):=(HMr.out.next af).ax.cell 0;exact G.nl 3 rfl (by simp[execOp,go_sem,G.t 2 rfl,xq])
     ·exact G.nl 4 rfl (by simp[execOp,go_sem,e5x])
     ·exact G.nl 5 rfl (by simp[execOp,go_sem,G.t 3 rfl,G.t 4 rfl,lh])
     ·have p5:=G.d 5 rfl;exact G.nl 6 rfl (aW 34 (.tmp 20) rfl g (k*2) p5 _ _ (fun j v hv=>(af.cell (p:=⟨g,k*2+j,none⟩) uy).trans (fm.out j v hv)) Tryz.underlying34 rfl pU)
     ·exact G.nl 7 rfl (aW 34 (.tmp 3) rfl qb 0 ((hI.off.eval (by decide)).trans mu) _ _ ((HLr.out.next af).range) Tryz.underlying34 rfl pU)
     exact G.nl 8 rfl (by simp[execOp,go_sem,G.t 6 rfl,G.t 7 rfl];exact id_if tc.out w1)
    intro zl a1 w1 hI aw;have af:Below Wr.heap.size Wr w1:=hI.st;have ae:=aq.out;subst ae;have z23:=hI.ptk 8 rfl (aw 8 (by decide));obtain⟨ff,rfl,hf⟩:=hI.off.forms;rw[<- hf 23]at z23;clear hI;simp only[List.foldl,Act.put,yz,List.set];rw[z23];simp only[Exit.then]
    go_step
    go_meet
    exact⟨rfl,zh af⟩
   case rest=>
    obtain⟨rfl,u7⟩:=hcut;have HBn:=zh (hbr.out.trans (u7.out.mono hbr.out.size));clear u7;cases b
    ·have hyx:y≠x:=of_decide_eq_false tc.out
     go_wp2_with fail
     go_roundw
     case rel=>exact⟨k+1,by omega,by go_num,zh (by rw[yw hlt,HY.out,List.mem_append,not_or];exact⟨hnot.out,fun h=>hyx (yf.1 h).symm⟩),HBn⟩
     case measure=>first |(simp[intOf];done) |(simp[intOf];omega)
    have hyx:y=x:=of_decide_eq_true tc.out
    go_wp2_with fail
    go_ret
    exact⟨by rw[show qE l x=(k:Int) from(xK x l 0 k hnot.out (by rw[List.getElem?_eq_getElem hlt,HY.out,hyx])).trans (by rw[Nat.zero_add])];rfl,by first|exact HB.out.trans (HBn.out.mono (by have:=HB.out.size;omega)) |(rw[hq];exact HB.out.trans (HBn.out.mono (by have:=HB.out.size;omega)))⟩
  obtain rfl:k=l.length:=by omega
  go_wp2_with fail
  go_ret
  exact⟨by rw[show qE l x=-1 from rI x l 0 (by have:=hnot.out;rwa [List.take_length]at this)];rfl,by first|exact HB.out.trans (hbr.out.mono (by have:=HB.out.size;omega)) |(rw[hq];exact HB.out.trans (hbr.out.mono (by have:=HB.out.size;omega)))⟩
end Go.Proofs.YtmgjidnalpgegaaGreatDoor
