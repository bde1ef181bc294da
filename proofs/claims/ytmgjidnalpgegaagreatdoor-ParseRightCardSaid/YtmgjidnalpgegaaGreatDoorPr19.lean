/-
  Lemmas, part 19: PaC PaD PaN PaV RlA RlB RlC RlD.
-/
import Derived.Lib.SlBytesConst
import Derived.Test.YtmgjidnalpgegaaGreatDoorPr18
set_option maxHeartbeats 100000000
namespace Go.Proofs.YtmgjidnalpgegaaGreatDoor
open Go.RowKit
theorem uFE(l:Bs)(w:World):Calls Tryz.prog 55 #[.string ⟨l.toArray⟩] w fun e w'=>e=.returned (.bool (unB l))/\w=w':=by
 by_cases h0:l=[45]
 ·subst h0
  go_enter Tryz.func55,Tryz.ntmps55
  go_wp2_with fail
  go_ret
  exact⟨rfl,rfl⟩
 have e0:(l==([45]:Bs))=false:=by simpa using h0
 by_cases h1:l=[43]
 ·subst h1
  go_enter Tryz.func55,Tryz.ntmps55
  go_wp2_with fail
  go_ret
  exact⟨rfl,rfl⟩
 have e1:(l==([43]:Bs))=false:=by simpa using h1
 by_cases h2:l=[37]
 ·subst h2
  go_enter Tryz.func55,Tryz.ntmps55
  go_wp2_with fail
  go_ret
  exact⟨rfl,rfl⟩
 have e2:(l==([37]:Bs))=false:=by simpa using h2
 have hr:unB l=false:=by unfold unB;simp only[e0,e1,e2,Bool.or_self]
 rw[hr];clear hr
 go_enter Tryz.func55,Tryz.ntmps55
 go_wp2_with fail
 go_ret
 exact⟨rfl,rfl⟩
theorem uBK(l:Bs)(w:World):Calls Tryz.prog 56 #[.string ⟨l.toArray⟩] w fun e w'=>e=.returned (.bool (lS l))/\w=w':=by
 by_cases h0:l=[43]
 ·subst h0
  go_enter Tryz.func56,Tryz.ntmps56
  go_wp2_with fail
  go_ret
  exact⟨rfl,rfl⟩
 have e0:(l==([43]:Bs))=false:=by simpa using h0
 by_cases h1:l=[45]
 ·subst h1
  go_enter Tryz.func56,Tryz.ntmps56
  go_wp2_with fail
  go_ret
  exact⟨rfl,rfl⟩
 have e1:(l==([45]:Bs))=false:=by simpa using h1
 by_cases h2:l=[42]
 ·subst h2
  go_enter Tryz.func56,Tryz.ntmps56
  go_wp2_with fail
  go_ret
  exact⟨rfl,rfl⟩
 have e2:(l==([42]:Bs))=false:=by simpa using h2
 by_cases h3:l=[47]
 ·subst h3
  go_enter Tryz.func56,Tryz.ntmps56
  go_wp2_with fail
  go_ret
  exact⟨rfl,rfl⟩
 have e3:(l==([47]:Bs))=false:=by simpa using h3
 by_cases h4:l=[94]
 ·subst h4
  go_enter Tryz.func56,Tryz.ntmps56
  go_wp2_with fail
  go_ret
  exact⟨rfl,rfl⟩
 have e4:(l==([94]:Bs))=false:=by simpa using h4
 by_cases h5:l=[38]
 ·subst h5
  go_enter Tryz.func56,Tryz.ntmps56
  go_wp2_with fail
  go_ret
  exact⟨rfl,rfl⟩
 have e5:(l==([38]:Bs))=false:=by simpa using h5
 by_cases h6:l=[61]
 ·subst h6
  go_enter Tryz.func56,Tryz.ntmps56
  go_wp2_with fail
  go_ret
  exact⟨rfl,rfl⟩
 have e6:(l==([61]:Bs))=false:=by simpa using h6
 by_cases h7:l=[60,62]
 ·subst h7
  go_enter Tryz.func56,Tryz.ntmps56
  go_wp2_with fail
  go_ret
  exact⟨rfl,rfl⟩
 have e7:(l==([60,62]:Bs))=false:=by simpa using h7
 by_cases h8:l=[60]
 ·subst h8
  go_enter Tryz.func56,Tryz.ntmps56
  go_wp2_with fail
  go_ret
  exact⟨rfl,rfl⟩
 have e8:(l==([60]:Bs))=false:=by simpa using h8
 by_cases h9:l=[60,61]
 ·subst h9
  go_enter Tryz.func56,Tryz.ntmps56
  go_wp2_with fail
  go_ret
  exact⟨rfl,rfl⟩
 have e9:(l==([60,61]:Bs))=false:=by simpa using h9
 by_cases uc:l=[62]
 ·subst uc
  go_enter Tryz.func56,Tryz.ntmps56
  go_wp2_with fail
  go_ret
  exact⟨rfl,rfl⟩
 have e10:(l==([62]:Bs))=false:=by simpa using uc
 by_cases h11:l=[62,61]
 ·subst h11
  go_enter Tryz.func56,Tryz.ntmps56
  go_wp2_with fail
  go_ret
  exact⟨rfl,rfl⟩
 have e11:(l==([62,61]:Bs))=false:=by simpa using h11
 have hr:lS l=false:=by unfold lS;simp only[e0,e1,e2,e3,e4,e5,e6,e7,e8,e9,e10,e11,Bool.or_self]
 rw[hr];clear hr
 go_enter Tryz.func56,Tryz.ntmps56
 go_wp2_with fail
 go_ret
 exact⟨rfl,rfl⟩
def eS(s:Bs):Nat->Nat
 |0=>0
 |1=>if aX s 0 82 then 1+aS (s.drop 1) else 0
 |_=>let a:=if aX s 0 82 then 1+aS (s.drop 1) else 0
  if aX s a 67 then a+1+aS (s.drop (a+1)) else a
theorem lW(s:Bs):aS s<=s.length:=bS aB s
theorem uBG(s:Bs):eS s 1<=s.length:=by
 show (if aX s 0 82 then 1+aS (s.drop 1) else 0)<=s.length
 split
 ·rename_i h
  have:=lW (s.drop 1);rw[yk]at this;have:0<s.length:=by
   cases s with
   |nil=>cases h
   |cons=>simp
  omega
 omega
theorem vG(w:World)(C:Array Value)(e:TypeId)(f:Nat×Nat)(i:Nat):(w.alloc (.cells C e f)).cell? ⟨w.heap.size,i,none⟩=C[i]?:=by
 have h:(w.alloc (.cells C e f)).heap[w.heap.size]?=some (.cells C e f):=by
  show (w.heap.push (.cells C e f))[w.heap.size]?=_;simp
 unfold World.cell?;simp only[h];rfl
theorem seen_1(s:Bs):eS s 1=if aX s 0 82 then 0+1+aS (s.drop (0+1)) else 0:=by
 show (if aX s 0 82 then 1+aS (s.drop 1) else 0)=_;rw[Nat.zero_add]
theorem seen_2(s:Bs):eS s 2=if aX s (eS s 1) 67 then eS s 1+1+aS (s.drop (eS s 1+1)) else eS s 1:=rfl
theorem seen_le2(s:Bs):eS s 2<=s.length:=by
 rw[seen_2]
 split
 ·rename_i h
  have h1:=at_lt _ _ _ h;have:=lW (s.drop (eS s 1+1));rw[yk]at this;omega
 exact uBG s
set_option maxRecDepth 100000 in
theorem uJB(l:Bs)(w:World)(hs:l.length<=1000000) :
  Calls Tryz.prog 82 #[.string ⟨l.toArray⟩] w fun e w'=>e=.returned (.bool (fW l))/\Below w.heap.size w w':=by
 have HD:=zh (fun k W=>rC (l.drop k) W (by rw[yk];unfold maxLen;omega));have HDL:Hid (∀ k,aS (l.drop k)<=l.length-k):=zh (fun k=>by have:=lW (l.drop k);rwa [yk]at this);have HR:Hid (fW l=decide (eS l 2=l.length)):=zh rfl;have kj:=zh (uBG l);have jt:=zh (seen_le2 l);have HB:Hid (Below w.heap.size w (w.alloc (.cells #[.int .u8 82,.int .u8 67] 5 (2,3)))):=zh (zp _);have HI:Hid ((w.alloc (.cells #[.int .u8 82,.int .u8 67] 5 (2,3))).cell? ⟨w.heap.size,0,none⟩=some (.int .u8 82)/\(w.alloc (.cells #[.int .u8 82,.int .u8 67] 5 (2,3))).cell? ⟨w.heap.size,1,none⟩=some (.int .u8 67)):=zh ⟨vG _ _ _ _ 0,vG _ _ _ _ 1⟩;have hcv:=Lib.run_convert_bytes_const (P:=Tryz.prog) w 77 5 #[.int .u8 82,.int .u8 67] 2 2 Tryz.underlying77 Tryz.underlying5
 simp only[yd,yi,List.length_nil,Nat.zero_add,Nat.reduceAdd]at hcv
 go_enter Tryz.func82,Tryz.ntmps82
 go_wp2_with fail
 clear hcv;generalize w.alloc (.cells #[.int .u8 82,.int .u8 67] 5 (2,3))=W1 at HB HI ⊢;generalize w.heap.size=q at HI ⊢
 go_loop [3,9] (fun a i=>∃ k n:Nat,k<=2/\n=eS l k/\i=.int .i64 (k:Int)/\a=.int .i64 (n:Int)) (fun _ i=>2-(intOf i).toNat)
 case atStart=>exact⟨0,0,by omega,rfl,rfl,rfl⟩
 case round=>
  obtain⟨k,n,hk,hn,rfl,rfl⟩:=hrel;obtain⟨x0,x1⟩:=HI.out;rcases(by omega:k=2\/k=0\/k=1) with rfl|rfl|rfl
  ·have HN:=zh hn;clear hn x0 x1;have zz:(n:Int)<=(l.length:Int):=by have:=jt.out;have:=HN.out;omega
   go_wp2_with fail
   go_ret
   refine⟨?_,HB.out⟩;rw[HR.out,<- HN.out];have e:((n:Int)==(l.length:Int))=decide (n=l.length):=by rw[ze];simp;try omega
   show Ending.returned (.bool ((n:Int)==(l.length:Int)))=_;rw[e]
  ·have el:eS l 1=if aX l n 82 then n+1+aS (l.drop (n+1)) else n:=by have h0:n=0:=hn;rw[h0];exact seen_1 l
   have zz:n<=l.length:=by have h0:n=0:=hn;omega
   have ig:=zh el;clear el hn hk;by_cases hlt:n<l.length
   ·have hb:=gP l n 82 82 rfl hlt;cases ec:aX l n 82 with
    |true=>
     rw[ec]at hb;have HN:Hid (eS l 1=n+1+aS (l.drop (n+1))):=zh (by rw[ig.out,ec];rfl);have hdl:=HDL.out (n+1);have oq:=zh (HD.out (n+1));clear ig ec;generalize hdd:aS (l.drop (n+1))=m at *;clear hdd
     go_wp2_with fail
     refine(oq.out _).mono ?_;rintro e w' ⟨rfl,rfl⟩
     go_wp2_with fail
     go_round
     case rel=>exact⟨1,n+1+m,by omega,HN.out.symm,rfl,by go_num⟩
     case measure=>simp[intOf]
    |false=>
     rw[ec]at hb;have HN:Hid (eS l 1=n):=zh (by rw[ig.out,ec];rfl);clear ig ec
     go_wp2_with fail
     go_round
     case rel=>exact⟨1,n,by omega,HN.out.symm,rfl,rfl⟩
     case measure=>simp[intOf]
   have HN:Hid (eS l 1=n):=zh (by rw[ig.out,iI l n 82 (by omega)];rfl);have hnl2:¬ (n:Int)<(l.length:Int):=by omega
   clear ig
   go_wp2_with fail
   go_round
   case rel=>exact⟨1,n,by omega,HN.out.symm,rfl,rfl⟩
   case measure=>simp[intOf]
  have el:eS l 2=if aX l n 67 then n+1+aS (l.drop (n+1)) else n:=by rw[hn];exact seen_2 l
  have zz:n<=l.length:=by have:=kj.out;omega
  have ig:=zh el;clear el hn hk;by_cases hlt:n<l.length
  ·have hb:=gP l n 67 67 rfl hlt;cases ec:aX l n 67 with
   |true=>
    rw[ec]at hb;have HN:Hid (eS l 2=n+1+aS (l.drop (n+1))):=zh (by rw[ig.out,ec];rfl);have hdl:=HDL.out (n+1);have oq:=zh (HD.out (n+1));clear ig ec;generalize hdd:aS (l.drop (n+1))=m at *;clear hdd
    go_wp2_with fail
    refine(oq.out _).mono ?_;rintro e w' ⟨rfl,rfl⟩
    go_wp2_with fail
    go_round
    case rel=>exact⟨2,n+1+m,by omega,HN.out.symm,rfl,by go_num⟩
    case measure=>simp[intOf]
   |false=>
    rw[ec]at hb;have HN:Hid (eS l 2=n):=zh (by rw[ig.out,ec];rfl);clear ig ec
    go_wp2_with fail
    go_round
    case rel=>exact⟨2,n,by omega,HN.out.symm,rfl,rfl⟩
    case measure=>simp[intOf]
  have HN:Hid (eS l 2=n):=zh (by rw[ig.out,iI l n 67 (by omega)];rfl);have hnl2:¬ (n:Int)<(l.length:Int):=by omega
  clear ig
  go_wp2_with fail
  go_round
  case rel=>exact⟨2,n,by omega,HN.out.symm,rfl,rfl⟩
  case measure=>simp[intOf]
def kB(c:UInt8):Bool:=bW c||aB c||c==46
def kC(c:UInt8):Bool:=bW c||aB c||c==95||c==46
theorem jZ{p:UInt8->Bool}{l:Bs}{k:Nat}(h:(l.take k).all p=true)(hk:k<l.length)(hp:p l[k]=true):(l.take (k+1)).all p=true:=by
 rw[yw hk,List.all_append,h];simp[hp]
theorem nM{p:UInt8->Bool}{l:Bs}{k:Nat}(hk:k<l.length)(hp:p l[k]=false):l.all p=false:=by
 cases h:l.all p with
 |false=>rfl
 |true=>
  rw[List.all_eq_true]at h;rw[h _ (List.getElem_mem hk)]at hp;cases hp
theorem beq_u8(c:UInt8)(d:UInt8)(n:Int)(hn:(d.toNat:Int)=n):((c.toNat:Int)==n)=(c==d):=by
 subst hn;rw[ze,beq_iff_eq,beq_iff_eq];exact⟨fun h=>UInt8.toNat.inj (by omega),fun h=>by rw[h]⟩
theorem lT(c:UInt8)(d:UInt8)(n:Int)(hn:(d.toNat:Int)=n):((c.toNat:Int) != n)=!(c==d):=by rw[<- beq_u8 c d n hn];rfl
set_option maxRecDepth 100000 in
theorem uIY(l:Bs)(w:World)(hs:l.length<=100000) :
  Calls Tryz.prog 54 #[.string ⟨l.toArray⟩] w fun e w'=>e=.returned (.bool (bN l))/\Below w.heap.size w w':=by
 rcases l with _|⟨c,t⟩
 ·go_enter Tryz.func54,Tryz.ntmps54
  go_wp2_with fail
  go_ret
  exact⟨rfl,Below.refl _ _⟩
 have hlen:0<(c::t).length:=by simp
 have hhd:(c::t).headD 0=c:=rfl;have ec:(c::t)[0]'hlen=c:=rfl;have bp:((c::t:Bs)==[])=false:=rfl;have bz:¬ (c::t:Bs)=[]:=by simp
 generalize (c::t:Bs)=l at *;have se:=zh (fun W=>eM c W);have HR:Hid (bN l=(decide (l.length<=32)&&bW c&&l.all kB&&!(decide (aP l+aS (l.drop (aP l))=l.length)&&decide (aP l<=3)&&decide (1<=aS (l.drop (aP l)))&&decide (aS (l.drop (aP l))<=7)&&!aX l (aP l) 48))):=zh (by
  unfold bN;rw[hhd,decide_eq_true hlen,Bool.true_and];rfl)
 clear hhd;by_cases ub:32<l.length
 ·have hr:bN l=false:=by rw[HR.out,decide_eq_false (by omega)];rfl
  have wo:(32:Int)<(l.length:Int):=by omega
  rw[hr];clear hr
  go_enter Tryz.func54,Tryz.ntmps54
  go_wp2_with fail
  go_ret
  exact⟨rfl,Below.refl _ _⟩
 have wo:¬ (32:Int)<(l.length:Int):=by omega
 cases eu:bW c with
 |false=>
  have hr:bN l=false:=by rw[HR.out,eu,Bool.and_false];rfl
  rw[hr];clear hr HR
  go_enter Tryz.func54,Tryz.ntmps54
  go_wp2_with fail
  refine(se.out _).mono ?_;rintro e w' ⟨rfl,rfl⟩
  go_wp2_with fail
  go_ret
  exact⟨rfl,Below.refl _ _⟩
 |true=>
  have c6:Hid (bN l=(l.all kB&&!(decide (aP l+aS (l.drop (aP l))=l.length)&&decide (aP l<=3)&&decide (1<=aS (l.drop (aP l)))&&decide (aS (l.drop (aP l))<=7)&&!aX l (aP l) 48))):=zh (by rw[HR.out,eu,decide_eq_true (by omega)];rfl);clear HR;obtain⟨cap,W1,hcv,bi,hb⟩:=nO l w;have HB:=zh hb;have ws:=zh bi;clear hb bi;have HSp:=zh (fun W=>uE l W (by omega))
  go_enter Tryz.func54,Tryz.ntmps54
  go_wp2_with fail
  refine(se.out _).mono ?_;rintro e w' ⟨rfl,rfl⟩
  go_wp2_with fail
  clear hcv se;generalize w.heap.size=q at ws ⊢
  go_loop [24] (fun i=>∃ k:Nat,k<=l.length/\i=.int .i64 k/\(l.take k).all kB=true) (fun i=>l.length-(intOf i).toNat)
  case atStart=>exact⟨0,zm _,rfl,by simp⟩
  case round=>
   obtain⟨k,hk,rfl,bk⟩:=hrel;by_cases hlt:k<l.length
   ·obtain⟨x0,xf0⟩:=ws.out k hlt;have mx:=lT l[k] 46 46 rfl;have sf:=zh bk;clear bk;cases hd:kB l[k] with
    |false=>
     have hr:bN l=false:=by rw[c6.out,nM hlt hd];rfl
     have qy:=hd;unfold kB at qy;simp only[Bool.or_eq_false_iff]at qy;obtain⟨⟨d1,d2⟩,d3⟩:=qy;rw[d3]at mx;clear hd c6
     go_wp2_with (first |(go_at_call 79;refine(eM _ _).mono ?_;rintro e w' ⟨rfl,rfl⟩) |(go_at_call 80;refine(fG _ _).mono ?_;rintro e w' ⟨rfl,rfl⟩))
     go_ret
     exact⟨by first|exact aI hr.symm|exact aI rfl,HB.out⟩
    |true=>
     have ig:=zh (jZ sf.out hlt hd);unfold kB at hd;cases d1:bW l[k] with
     |true=>
      clear hd
      go_wp2_with (first |(go_at_call 79;refine(eM _ _).mono ?_;rintro e w' ⟨rfl,rfl⟩) |(go_at_call 80;refine(fG _ _).mono ?_;rintro e w' ⟨rfl,rfl⟩))
      go_round
      case rel=>exact⟨k+1,by omega,by go_num,ig.out⟩
      case measure=>simp[intOf];omega
     |false=>
      cases d2:aB l[k] with
      |true=>
       clear hd
       go_wp2_with (first |(go_at_call 79;refine(eM _ _).mono ?_;rintro e w' ⟨rfl,rfl⟩) |(go_at_call 80;refine(fG _ _).mono ?_;rintro e w' ⟨rfl,rfl⟩))
       go_round
       case rel=>exact⟨k+1,by omega,by go_num,ig.out⟩
       case measure=>simp[intOf];omega
      |false=>
       have d3:(l[k]==46)=true:=by rw[d1,d2]at hd;simpa using hd
       rw[d3]at mx;clear hd
       go_wp2_with (first |(go_at_call 79;refine(eM _ _).mono ?_;rintro e w' ⟨rfl,rfl⟩) |(go_at_call 80;refine(fG _ _).mono ?_;rintro e w' ⟨rfl,rfl⟩))
       go_round
       case rel=>exact⟨k+1,by omega,by go_num,ig.out⟩
       case measure=>simp[intOf];omega
   have hkl:k=l.length:=by omega
   have jm:l.all kB=true:=by rw[hkl,List.take_length]at bk;exact bk
   clear bk;have fh:Hid (bN l=!(decide (aP l+aS (l.drop (aP l))=l.length)&&decide (aP l<=3)&&decide (1<=aS (l.drop (aP l)))&&decide (aS (l.drop (aP l))<=7)&&!aX l (aP l) 48)):=zh (by rw[c6.out,jm,Bool.true_and]);clear c6 jm;have HAL:Hid (aP l<=l.length):=zh (bS bW l);generalize aS (l.drop (aP l))=d at *;generalize aP l=a at *;have hal:=HAL.out;subst hkl
   go_wp2_with fail
   refine(HSp.out _).mono ?_;rintro e w' ⟨rfl,rfl⟩;by_cases e1:a+d=l.length
   ·rw[decide_eq_true e1]at fh ⊢;by_cases e2:a<=3
    ·by_cases e3:1<=d
     ·by_cases e4:d<=7
      ·have hq:=lQ l a 48 48 rfl (by omega);have hala:a<l.length:=by omega
       have j8:Hid (bN l=!(!aX l a 48)):=zh (by rw[fh.out,decide_eq_true e2,decide_eq_true e3,decide_eq_true e4];rfl);clear fh
       go_wp2_with fail
       go_ret
       exact⟨aI (by rw[j8.out,Bool.not_not]),HB.out⟩
      have hr:bN l=true:=by rw[fh.out,decide_eq_false e4];simp
      clear fh
      go_wp2_with fail
      go_ret
      exact⟨by first|exact aI hr.symm|exact aI rfl,HB.out⟩
     have hr:bN l=true:=by rw[fh.out,decide_eq_false e3];simp
     clear fh
     go_wp2_with fail
     go_ret
     exact⟨by first|exact aI hr.symm|exact aI rfl,HB.out⟩
    have hr:bN l=true:=by rw[fh.out,decide_eq_false e2];simp
    clear fh
    go_wp2_with fail
    go_ret
    exact⟨by first|exact aI hr.symm|exact aI rfl,HB.out⟩
   have hr:bN l=true:=by rw[fh.out,decide_eq_false e1];simp
   rw[decide_eq_false e1];clear fh
   go_wp2_with fail
   go_ret
   exact⟨by first|exact aI hr.symm|exact aI rfl,HB.out⟩
set_option maxRecDepth 100000 in
theorem uJA(l:Bs)(w:World)(hs:l.length<=100000) :
  Calls Tryz.prog 57 #[.string ⟨l.toArray⟩] w fun e w'=>e=.returned (.bool (bM l))/\Below w.heap.size w w':=by
 rcases l with _|⟨c,t⟩
 ·go_enter Tryz.func57,Tryz.ntmps57
  go_wp2_with fail
  go_ret
  exact⟨rfl,Below.refl _ _⟩
 have hlen:0<(c::t).length:=by simp
 have hhd:(c::t).headD 0=c:=rfl;have ec:(c::t)[0]'hlen=c:=rfl;have bp:((c::t:Bs)==[])=false:=rfl;have bz:¬ (c::t:Bs)=[]:=by simp
 generalize (c::t:Bs)=l at *;have se:=zh (fun W=>eM c W);have HR:Hid (bM l=(decide (l.length<=32)&&(bW c||c==95)&&l.all kC&&!(l==jN||l==gQ||fW l)&&!(decide (aP l+aS (l.drop (aP l))=l.length)&&decide (1<=aP l)&&decide (aP l<=3)&&decide (1<=aS (l.drop (aP l)))))):=zh (by
  unfold bM;rw[hhd,decide_eq_true hlen,Bool.true_and];rfl)
 clear hhd;by_cases ub:32<l.length
 ·have hr:bM l=false:=by rw[HR.out,decide_eq_false (by omega)];rfl
  have wo:(32:Int)<(l.length:Int):=by omega
  rw[hr];clear hr
  go_enter Tryz.func57,Tryz.ntmps57
  go_wp2_with fail
  go_ret
  exact⟨rfl,Below.refl _ _⟩
 have wo:¬ (32:Int)<(l.length:Int):=by omega
 have h95:=lT c 95 95 rfl;cases eu:(bW c||c==95) with
 |false=>
  have hr:bM l=false:=by rw[HR.out,eu,Bool.and_false];rfl
  obtain⟨hcap1,sn⟩:bW c=false/\(c==95)=false:=by simpa using eu
  rw[sn]at h95;clear eu sn;have eu:=hcap1;rw[hr];clear hr HR
  go_enter Tryz.func57,Tryz.ntmps57
  go_wp2_with fail
  refine(se.out _).mono ?_;rintro e w' ⟨rfl,rfl⟩
  go_wp2_with fail
  go_ret
  exact⟨rfl,Below.refl _ _⟩
 |true=>
  have c6:Hid (bM l=(l.all kC&&!(l==jN||l==gQ||fW l)&&!(decide (aP l+aS (l.drop (aP l))=l.length)&&decide (1<=aP l)&&decide (aP l<=3)&&decide (1<=aS (l.drop (aP l)))))):=zh (by rw[HR.out,eu,decide_eq_true (by omega)];rfl);clear HR;obtain⟨cap,W1,hcv,bi,hb⟩:=nO l w;have HB:=zh hb;have ws:=zh bi;clear hb bi;have HSp:=zh (fun W=>uE l W (by omega));have dj:=zh (fun W=>uJB l W (by omega))
  go_enter Tryz.func57,Tryz.ntmps57
  go_upto_region 1 with fail
  go_cut [25] (fun v wx=>v=.bool false/\Hid (wx=w))
  case first=>
   go_wp2_with fail
   refine(se.out _).mono ?_;rintro e w' ⟨rfl,rfl⟩;cases fg:bW c with
   |true=>
    go_wp2_with fail
    all_goals go_meet
    exact⟨rfl,zh rfl⟩
   |false=>
    have h2:(c==95)=true:=by rw[fg]at eu;simpa using eu
    rw[h2]at h95
    go_wp2_with fail
    all_goals go_meet
    exact⟨rfl,zh rfl⟩
  case rest=>
  obtain⟨rfl,hcut⟩:=hcut;have ql:=hcut.out;subst ql;clear hcut eu h95
  go_wp2_with fail
  clear hcv se;generalize wc.heap.size=q at ws ⊢
  go_loop [29] (fun i=>∃ k:Nat,k<=l.length/\i=.int .i64 k/\(l.take k).all kC=true) (fun i=>l.length-(intOf i).toNat)
  case atStart=>exact⟨0,zm _,rfl,by simp⟩
  case round=>
   obtain⟨k,hk,rfl,bk⟩:=hrel;by_cases hlt:k<l.length
   ·obtain⟨x0,xf0⟩:=ws.out k hlt;have wt:=lT l[k] 95 95 rfl;have mx:=lT l[k] 46 46 rfl;have sf:=zh bk;clear bk;cases hd:kC l[k] with
    |false=>
     have hr:bM l=false:=by rw[c6.out,nM hlt hd];rfl
     have qy:=hd;unfold kC at qy;simp only[Bool.or_eq_false_iff]at qy;obtain⟨⟨⟨d1,d2⟩,d4⟩,d3⟩:=qy;rw[d3]at mx;rw[d4]at wt;clear hd c6
     go_wp2_with (first |(go_at_call 79;refine(eM _ _).mono ?_;rintro e w' ⟨rfl,rfl⟩) |(go_at_call 80;refine(fG _ _).mono ?_;rintro e w' ⟨rfl,rfl⟩))
     go_ret
     exact⟨by first|exact aI hr.symm|exact aI rfl,HB.out⟩
    |true=>
     have ig:=zh (jZ sf.out hlt hd);unfold kC at hd;cases d1:bW l[k] with
     |true=>
      clear hd
      go_wp2_with (first |(go_at_call 79;refine(eM _ _).mono ?_;rintro e w' ⟨rfl,rfl⟩) |(go_at_call 80;refine(fG _ _).mono ?_;rintro e w' ⟨rfl,rfl⟩))
      go_round
      case rel=>exact⟨k+1,by omega,by go_num,ig.out⟩
      case measure=>simp[intOf];omega
     |false=>
      cases d2:aB l[k] with
      |true=>
       clear hd
       go_wp2_with (first |(go_at_call 79;refine(eM _ _).mono ?_;rintro e w' ⟨rfl,rfl⟩) |(go_at_call 80;refine(fG _ _).mono ?_;rintro e w' ⟨rfl,rfl⟩))
       go_round
       case rel=>exact⟨k+1,by omega,by go_num,ig.out⟩
       case measure=>simp[intOf];omega
      |false=>
       cases d4:(l[k]==95) with
       |true=>
        rw[d4]at wt;clear hd
        go_wp2_with (first |(go_at_call 79;refine(eM _ _).mono ?_;rintro e w' ⟨rfl,rfl⟩) |(go_at_call 80;refine(fG _ _).mono ?_;rintro e w' ⟨rfl,rfl⟩))
        go_round
        case rel=>exact⟨k+1,by omega,by go_num,ig.out⟩
        case measure=>simp[intOf];omega
       |false=>
        have d3:(l[k]==46)=true:=by rw[d1,d2,d4]at hd;simpa using hd
        rw[d3]at mx;rw[d4]at wt;clear hd
        go_wp2_with (first |(go_at_call 79;refine(eM _ _).mono ?_;rintro e w' ⟨rfl,rfl⟩) |(go_at_call 80;refine(fG _ _).mono ?_;rintro e w' ⟨rfl,rfl⟩))
        go_round
        case rel=>exact⟨k+1,by omega,by go_num,ig.out⟩
        case measure=>simp[intOf];omega
   have hkl:k=l.length:=by omega
   have jm:l.all kC=true:=by rw[hkl,List.take_length]at bk;exact bk
   clear bk;have fh:Hid (bM l=(!(l==jN||l==gQ||fW l)&&!(decide (aP l+aS (l.drop (aP l))=l.length)&&decide (1<=aP l)&&decide (aP l<=3)&&decide (1<=aS (l.drop (aP l)))))):=zh (by rw[c6.out,jm,Bool.true_and]);clear c6 jm;subst hkl;by_cases hT:l=[84,82,85,69]
   ·have hr:bM l=false:=by rw[fh.out,hT];rfl
    clear fh;have oh:=zh hr;clear hr;have hT2:(l==([84,82,85,69]:Bs))=true:=by rw[hT];rfl
    have hTb:((⟨l.toArray⟩:ByteArray)==⟨#[84,82,85,69]⟩)=true:=by rw[hT];rfl
    clear hT
    go_wp2_with fail
    go_ret
    exact⟨by first|exact aI oh.out.symm|exact aI rfl,HB.out⟩
   have e1:(l==([84,82,85,69]:Bs))=false:=by simpa using hT
   by_cases hF:l=[70,65,76,83,69]
   ·have hr:bM l=false:=by rw[fh.out,hF];rfl
    clear fh;have oh:=zh hr;clear hr;have ml:(l==([70,65,76,83,69]:Bs))=true:=by rw[hF];rfl
    have hTb:((⟨l.toArray⟩:ByteArray)==⟨#[84,82,85,69]⟩)=false:=by rw[hF];rfl
    have hFb:((⟨l.toArray⟩:ByteArray)==⟨#[70,65,76,83,69]⟩)=true:=by rw[hF];rfl
    clear hF hT
    go_wp2_with fail
    go_ret
    exact⟨by first|exact aI oh.out.symm|exact aI rfl,HB.out⟩
   have e2:(l==([70,65,76,83,69]:Bs))=false:=by simpa using hF
   have j8:Hid (bM l=(!fW l&&!(decide (aP l+aS (l.drop (aP l))=l.length)&&decide (1<=aP l)&&decide (aP l<=3)&&decide (1<=aS (l.drop (aP l)))))):=zh (by rw[fh.out,show (l==jN)=false from e1,show (l==gQ)=false from e2];rfl);clear fh;have HAL:Hid (aP l<=l.length):=zh (bS bW l);generalize aS (l.drop (aP l))=d at *;generalize aP l=a at *;have hal:=HAL.out
   go_wp2_with fail
   refine(dj.out _).mono ?_;rintro e w2 ⟨rfl,hb⟩;have cq:=zh (HB.out.trans (hb.mono HB.out.size));clear hb dj;cases hse:fW l with
   |true=>
    have oh:Hid (bM l=false):=zh (by rw[j8.out,hse];rfl);clear j8
    go_wp2_with fail
    go_ret
    exact⟨by first|exact aI oh.out.symm|exact aI rfl,cq.out⟩
   |false=>
    rw[hse]at j8
    go_wp2_with fail
    refine(HSp.out _).mono ?_;rintro e w' ⟨rfl,rfl⟩;by_cases f1:a+d=l.length
    ·rw[decide_eq_true f1]at j8 ⊢;by_cases f2:1<=a
     ·by_cases f3:a<=3
      ·by_cases f4:1<=d
       ·have oh:Hid (bM l=false):=zh (by rw[j8.out,decide_eq_true f2,decide_eq_true f3,decide_eq_true f4];rfl);clear j8
        go_wp2_with fail
        go_ret
        exact⟨aI (by rw[oh.out];simp;omega),cq.out⟩
       have oh:Hid (bM l=true):=zh (by rw[j8.out,decide_eq_false f4];simp);clear j8
       go_wp2_with fail
       go_ret
       exact⟨aI (by rw[oh.out];simp;omega),cq.out⟩
      have oh:Hid (bM l=true):=zh (by rw[j8.out,decide_eq_false f3];simp);clear j8
      go_wp2_with fail
      go_ret
      exact⟨by first|exact aI oh.out.symm|exact aI rfl,cq.out⟩
     have oh:Hid (bM l=true):=zh (by rw[j8.out,decide_eq_false f2];simp);clear j8
     go_wp2_with fail
     go_ret
     exact⟨by first|exact aI oh.out.symm|exact aI rfl,cq.out⟩
    have oh:Hid (bM l=true):=zh (by rw[j8.out,decide_eq_false f1];simp);rw[decide_eq_false f1];clear j8
    go_wp2_with fail
    go_ret
    exact⟨by first|exact aI oh.out.symm|exact aI rfl,cq.out⟩
theorem aU{ops:Array Oper}{o:Oper}{a:Act}{g sg:Nat}{pol:Bool}(h:o.guard=some (g,pol)){og:Oper}(hg:ops[g]?=some og)(hd:og.dst=some sg)(hv:a.eval (.tmp sg)=undef):Region.wanted o (yielded ops a.tmps)=false:=by
 have h1:a.tmps[sg]?.getD undef=undef:=aE hv;unfold Region.wanted yielded;rw[h];simp only[hg,Option.bind_some,hd];cases hq:a.tmps[sg]? with
 |none=>rfl
 |some x=>
  rw[hq]at h1;have h2:x=undef:=h1;subst h2;rfl
section
variable {ops:Array Oper} {S:List Nat} {T:List (Nat×Nat×Value)} {P:World->Prop} {w:World} {N:Nat} {a0 a:Act} {zl:Array Bool} {Q:Exit->Act->World->Prop} {o:Oper} {i s:Nat} {v:Value}
theorem cR(he:(i,s,v)∈T)(hk:okU (T.map fun e=>(e.1,e.2.1)) S N=true)(hI:GU ops S T [] P a0 zl a w)(hN:N<=a0.tmps.size)(aa:zl.getD i true=false)(ho:ops[i]?=some o)(zd:∀ e∈o.after,Region.binds .any e=true->Up zl e.on)(hw:Region.wanted o (yielded ops a.tmps)=true)(hd:o.dst=some s)
  (f:FuncId) (xs:Array Value) (hr:(execOp a.eval o).run Tryz.prog w=.ok (.enter f xs) w) (hc:Calls Tryz.prog f xs w fun e w1=>e=.returned v/\P w1):wpOp Tryz.prog ops Q i (GU ops S T [] P a0 (zl.setIfInBounds i true)) a w:=by
 have h:=sR hk hI hN he fD aa ho zd;unfold wpOp;rw[ho];simp only;rw[if_pos hw];refine .inl (iG (v:=v) f xs hr (hc.mono ?_));rintro e w1 ⟨rfl,hP⟩;rw[hd];exact⟨rfl,h.off,h.pt,h.dn,hP⟩
end
set_option maxRecDepth 1000000 in
theorem tLit_any(v:Val)(m:Bool)(w:World)(xy:-9223372036854775808<=v.mant)(ug:v.mant<=9223372036854775807)(hl:v.text.length<=1000000) :
  Calls Tryz.prog 51 #[mM v,.bool m] w fun e w'=>e=.returned (.bool (cA v m))/\Below w.heap.size w w':=by
 have HVR:=zh (fun W=>uBR v W xy ug hl);obtain⟨W1,bt⟩:∃ W1,W1=w.alloc (.cells #[.int .i64 v.kind,.int .i64 v.mant,.int .i64 v.exp,.string ⟨v.text.toArray⟩,.bool v.truth,.int .i64 v.fault] 32):=⟨_,rfl⟩
 have bu:=zh bt;have HL:Hid (Lies W1 w.heap.size 32 #[.int .i64 v.kind,.int .i64 v.mant,.int .i64 v.exp,.string ⟨v.text.toArray⟩,.bool v.truth,.int .i64 v.fault]):=zh (by rw[bt];exact Lies.new _ _ _);have HB:Hid (Below w.heap.size w W1):=zh (by rw[bt];exact zp _);clear bt;obtain⟨b0,ct⟩:∃ b0,decide (v.kind≠0)=b0:=⟨_,rfl⟩
 obtain⟨b1,af⟩:∃ b1,bV v=b1:=⟨_,rfl⟩
 obtain⟨b2,ay⟩:∃ b2,decide (0<=v.mant)=b2:=⟨_,rfl⟩
 have HR:Hid (cA v m=(b0&&b1&&(m||b2))):=zh (by unfold cA;rw[ct,af,ay]);have e0':(v.kind != 0)=b0:=by rw[<- ct,ze];simp
 obtain⟨c1,h1⟩:∃ c1,c1=(b0&&b1):=⟨_,rfl⟩
 obtain⟨d,hd⟩:∃ d,d=(m||b2):=⟨_,rfl⟩
 obtain⟨c2,h2⟩:∃ c2,c2=(c1&&d):=⟨_,rfl⟩
 rw[<- h1,<- hd,<- h2]at HR;have HH:=zh (And.intro h1 (And.intro h2 (And.intro hd (And.intro af (And.intro ay e0')))));clear h1 h2 ct af ay hd e0'
 go_enter Tryz.func51,Tryz.ntmps51
 go_upto_region 1 with fail
 rw[<- bu.out];generalize hq:w.heap.size=q at *;obtain⟨h1,h2,hd,hvr,ay,e0'⟩:=HH.out
 obtain⟨TT,ae⟩:∃ TT:List (Nat×Nat×Value),TT=((0,5,.pointer (some ⟨q,0,none⟩))::(1,6,.int .i64 v.kind)::(2,7,.bool b0)::(3,8,.bool b0)::(4,9,(bif b0 then .agg ([.int .i64 v.kind,.int .i64 v.mant,.int .i64 v.exp,.string ⟨v.text.toArray⟩,.bool v.truth,.int .i64 v.fault]:List Value).toArray else undef))::(5,10,(bif b0 then .bool b1 else undef))::(6,11,.bool c1)::(7,12,.bool c1)::(8,13,(bif c1 then .bool m else undef))::(9,14,(bif c1 then .bool m else undef))::(10,15,(bif c1 then (bif m then undef else .pointer (some ⟨q,1,none⟩)) else undef))::(11,16,(bif c1 then (bif m then undef else .pointer (some ⟨q,1,none⟩)) else undef))::(12,17,(bif c1 then (bif m then undef else .int .i64 v.mant) else undef))::(13,18,(bif c1 then (bif m then undef else .bool b2) else undef))::(14,19,(bif c1 then .bool d else undef))::(15,20,.bool c2)::(16,4,.bool c2)::[]):=⟨_,rfl⟩
 have am:=zh ae;clear ae;refine bD (fun a0=>21<=a0.tmps.size/\a0.eval (.tmp 1)=.bool m/\a0.eval (.tmp 2)=.pointer (some ⟨q,0,none⟩)) (5::6::7::8::9::10::11::12::13::14::15::16::17::18::19::20::4::[]) TT [] (fun w'=>Below W1.heap.size W1 w') (by kernel_rfl) ⟨by simp,rfl,rfl⟩ (Below.refl _ _) ?_ ?_
 ·rintro a0 ⟨hs,dt,ls⟩ zl a1 w1 zj o bg hI aa ho zd;have af:Below W1.heap.size W1 w1:=hI.st;have ae:=am.out;have hk:okU (TT.map fun e=>(e.1,e.2.1)) (5::6::7::8::9::10::11::12::13::14::15::16::17::18::19::20::4::[]) 21=true:=by rw[ae];rfl
  subst ae;have e1x:=aE ((hI.off.eval (by decide)).trans dt);have e2x:=aE ((hI.off.eval (by decide)).trans ls);have hj:=Up.of_false aa;have hj12:zj<17:=by rw[bg]at hj;exact hj
  have G:RG _ _ _ _ _ _ _ _ _ _ _:=⟨hk,hI,hs,aa,ho,zd⟩
  (iterate 16 rcases zq hj12 with hj12|rfl);obtain rfl:=cz hj12;all_goals obtain rfl:=oi ho
  ·exact G.nl 0 rfl (by simp[execOp,go_sem,e2x])
  ·have HLw:=HL.out.next af;have x0:=HLw.cell 0;simp only[za,zb]at x0;exact G.nl 1 rfl (by simp[execOp,go_sem,G.t 0 rfl,x0])
  ·exact G.nl 2 rfl (by simp[execOp,go_sem,G.t 1 rfl,e0'])
  ·exact G.nl 3 rfl (by simp[execOp,go_sem,G.t 2 rfl])
  ·refine G.gv 3 4 rfl rfl rfl ?_;rintro rfl;have HLw:=HL.out.next af;exact aL 32 (.tmp 2) rfl q 0 ((hI.off.eval (by decide)).trans ls) _ _ HLw.range Tryz.underlying32 rfl jB
  ·have pg:=G.g 3 rfl;cases b0
   ·exact G.sk 5 rfl pg rfl
   refine cR (inT 5 rfl) hk hI hs aa ho zd (Eq.trans (aH rfl rfl rfl pg) rfl) rfl 77 #[mM v] (by simp[go_sem,G.t 4 rfl]) ?_;refine(HVR.out w1).mono ?_;rintro e w2 ⟨rfl,hb⟩;rw[hvr];exact⟨rfl,af.trans (hb.mono af.size)⟩
  ·cases b0
   all_goals have p3:=G.d 3 rfl
   all_goals have p5:=G.d 5 rfl
   all_goals exact G.nl 6 rfl (by simp[execOp,go_sem,aE p3,aE p5,h1])
  ·exact G.nl 7 rfl (by simp[execOp,go_sem,G.t 6 rfl])
  ·refine G.gv 7 8 rfl rfl rfl ?_;rintro rfl;simp[execOp,go_sem,e1x]
  ·refine G.gv 7 9 rfl rfl rfl ?_;rintro rfl;simp[execOp,go_sem,G.t 8 rfl]
  ·have pg:=G.g 9 rfl;cases c1
   ·exact aZ hk hI hs (inT 10 rfl) fD aa ho zd (aU rfl rfl rfl pg) rfl
   cases m
   ·exact G.vl 10 rfl pg rfl (by simp[execOp,go_sem,e2x])
   exact G.sk 10 rfl pg rfl
  ·have pg:=G.g 9 rfl;cases c1
   ·exact aZ hk hI hs (inT 11 rfl) fD aa ho zd (aU rfl rfl rfl pg) rfl
   cases m
   ·exact G.vl 11 rfl pg rfl (by simp[execOp,go_sem,G.t 10 rfl])
   exact G.sk 11 rfl pg rfl
  ·have pg:=G.g 9 rfl;cases c1
   ·exact aZ hk hI hs (inT 12 rfl) fD aa ho zd (aU rfl rfl rfl pg) rfl
   cases m
   ·have HLw:=HL.out.next af;have x1:=HLw.cell 1;simp only[za,zb,zf]at x1;exact G.vl 12 rfl pg rfl (by simp[execOp,go_sem,G.t 11 rfl,x1])
   exact G.sk 12 rfl pg rfl
  ·have pg:=G.g 9 rfl;cases c1
   ·exact aZ hk hI hs (inT 13 rfl) fD aa ho zd (aU rfl rfl rfl pg) rfl
   cases m
   ·exact G.vl 13 rfl pg rfl (by simp[execOp,go_sem,G.t 12 rfl,ay])
   exact G.sk 13 rfl pg rfl
  ·have pg:=G.g 7 rfl;cases c1
   ·exact G.sk 14 rfl pg rfl
   cases m
   all_goals have p9:=G.d 9 rfl
   all_goals have p13:=G.d 13 rfl
   all_goals exact G.vl 14 rfl pg rfl (by simp[execOp,go_sem,aE p9,aE p13,hd])
  ·cases c1
   all_goals have p7:=G.d 7 rfl
   all_goals have p14:=G.d 14 rfl
   all_goals exact G.nl 15 rfl (by simp[execOp,go_sem,aE p7,aE p14,h2])
  exact G.nl 16 rfl (by simp[execOp,go_sem,G.t 15 rfl])
 intro zl a1 w1 hI ap;have af:Below W1.heap.size W1 w1:=hI.st;have ae:=am.out;subst ae;have z4:=hI.ptk 16 rfl (ap 16 (by decide));obtain⟨ff,rfl,hf⟩:=hI.off.forms;rw[<- hf 4]at z4;clear hI;simp only[List.foldl,Act.put,yz,List.set];rw[z4]
 go_wp2_with fail
 go_ret
 exact⟨by rw[HR.out];rfl,by first|exact HB.out.trans (af.mono HB.out.size) |(rw[hq];exact HB.out.trans (af.mono (by have:=HB.out.size;omega)))⟩
structure RfMk(q base:Nat)(acc:List IdR)(fl:List Bool)(v1 v2:Value)(W:World):Prop where
 ax:Lies W q 85 #[v1,v2]
 r1:W.ownsRow base 34 2 v1 acc.length (bL acc)
 r2:W.ownsRow base 4 1 v2 acc.length (fl.map Value.bool)
theorem RfMk.next{q base:Nat}{acc:List IdR}{fl:List Bool}{v1 v2:Value}{W W':World}(h:RfMk q base acc fl v1 v2 W)(hb:Below W.heap.size W W'):RfMk q base acc fl v1 v2 W' :=
 ⟨h.ax.next hb,cW hb h.r1,cW hb h.r2⟩
theorem oO:∀ (l:List IdR) (k:Nat) (h:k<l.length),(bL l)[k*2]?=some (.int .i64 l[k].a)/\(bL l)[k*2+1]?=some (.int .i64 l[k].n)
 | [],_,h=>absurd h (by simp)
 |x::r,0,_=>⟨rfl,rfl⟩
 |x::r,k+1,h=>by
  have:=oO r k (by simpa using h);have e:bL (x::r)=[.int .i64 x.a,.int .i64 x.n]++bL r:=rfl;rw[e,List.getElem?_append_right (by simp;omega),List.getElem?_append_right (by simp;omega)];simp only[yi,List.length_nil,Nat.zero_add];rw[show (k+1)*2-2=k*2 by omega,show (k+1)*2+1-2=k*2+1 by omega];exact this
theorem oZ{W:World}{base g cap n:Nat}{l:List IdR}(h:W.ownsRow base 34 2 (.slice (some ⟨g,0,none⟩) n cap) n (bL l))(k:Nat)(hk:k<l.length):W.rangeAt g (k*2) [.int .i64 l[k].a,.int .i64 l[k].n]:=fun j v hv=>by
 have hc:=h.cells (g:=g) rfl;obtain⟨h1,h2⟩:=oO l k hk;have k1:=hc _ _ h1;have k2:=hc _ _ h2;rw[Addr.add_mid,Nat.zero_add]at k1 k2
 match j,hv with
 |0,hv=>simp at hv;subst hv;exact k1
 |1,hv=>simp at hv;subst hv;exact k2
theorem id_if{x y:IdR}{b:Bool}(h:decide (y=x)=b)(w:World):(if y.a=x.a then (if y.n=x.n then Result.ok (Next.value (.bool true)) w else Result.ok (Next.value (.bool false)) w) else Result.ok (Next.value (.bool false)) w)=Result.ok (Next.value (.bool b)) w:=by
 subst h;obtain⟨a,n⟩:=x;obtain⟨a2,n2⟩:=y;by_cases h1:a2=a
 ·by_cases h2:n2=n
  ·subst h1 h2;simp
  simp[h2]
 simp[h1]
theorem iA:(Tryz.prog.info? 34).map (·.size)=some 2:=by kernel_rfl
def kE(x:IdR):Nat->List IdR->Int
 |_,[]=>-1
 |i,y::r=>if y=x then (i:Int) else kE x (i+1) r
def dO(l:List IdR)(x:IdR):Int:=kE x 0 l
theorem mR(x:IdR):∀ (l:List IdR) (i k:Nat),x∉l.take k->l[k]?=some x->kE x i l=((i+k:Nat):Int)
 | [],_,_,_,h=>by simp at h
 |y::r,i,0,_,h=>by
  simp at h;unfold kE;rw[if_pos h];rfl
 |y::r,i,k+1,hn,h=>by
  rw[List.take_succ_cons,ym,not_or]at hn;unfold kE;rw[if_neg (fun e=>hn.1 e.symm),mR x r (i+1) k hn.2 (by simpa using h)]
  congr 1
  omega
theorem iV(x:IdR):∀ (l:List IdR) (i:Nat),x∉l->kE x i l=-1
 | [],_,_=>rfl
 |y::r,i,hn=>by
  rw[ym,not_or]at hn;unfold kE;rw[if_neg (fun e=>hn.1 e.symm),iV x r (i+1) hn.2]
theorem pW(x:IdR):∀ (l:List IdR) (i:Nat),x∈l->∃ k:Nat,kE x i l=((i+k:Nat):Int)/\l[k]?=some x
 | [],_,h=>by cases h
 |y::r,i,h=>by
  by_cases e:y=x
  ·exact⟨0,by unfold kE;rw[if_pos e];rfl,by simp[e]⟩
  obtain⟨k,h1,h2⟩:=pW x r (i+1) ((ym.1 h).resolve_left (fun e'=>e e'.symm));exact⟨k+1,by unfold kE;rw[if_neg e,h1];congr 1;omega,by simpa using h2⟩
theorem pX(l:List IdR)(x:IdR):(dO l x<0↔x∉l):=by
 by_cases h:x∈l
 ·obtain⟨k,h1,_⟩:=pW x l 0 h;unfold dO;rw[h1];exact⟨fun h'=>by omega,fun h'=>absurd h h'⟩
 unfold dO;rw[iV x l 0 h];exact⟨fun _=>h,fun _=>by decide⟩
set_option maxRecDepth 1000000 in
theorem wL(q base:Nat)(l:List IdR)(fl:List Bool)(v1 v2:Value)(x:IdR)(w:World)(hM:RfMk q base l fl v1 v2 w)(hl:l.length<=100000) :
  Calls Tryz.prog 32 #[.pointer (some ⟨q,0,none⟩),idV x] w fun e w'=>e=.returned (.int .i64 (dO l x))/\Below w.heap.size w w':=by
 obtain⟨W1,bt⟩:∃ W1,W1=w.alloc (.cells #[.int .i64 x.a,.int .i64 x.n] 34):=⟨_,rfl⟩
 have bu:=zh bt;have HL:Hid (Lies W1 w.heap.size 34 #[.int .i64 x.a,.int .i64 x.n]):=zh (by rw[bt];exact Lies.new _ _ _);have af:Below w.heap.size w W1:=by rw[bt];exact(zp _)
 have HB:=zh af;have HM:=zh (hM.next af);obtain⟨A,cap,rfl⟩:=cS hM.r1;have tf:=zh hl;clear bt af hM hl
 go_enter Tryz.func32,Tryz.ntmps32
 go_upto_region 1 with fail
 rw[<- bu.out];generalize hq:w.heap.size=qb at *;clear bu
 go_wp2_with fail
 go_loopw [5] (fun v wr=>∃ k:Nat,k<=l.length/\v=.int .i64 (k:Int)/\Hid (x∉l.take k)/\Hid (Below W1.heap.size W1 wr)) (fun v _=>l.length-(intOf v).toNat)
 case atStart=>exact⟨0,zm _,rfl,zh (by simp),zh (Below.refl _ _)⟩
 case round=>
  obtain⟨k,hk,rfl,l8,ka⟩:=hrel;have oj:=zh (HM.out.next ka.out);have a0:wr.cell? ⟨q,0,none⟩=some (.slice A l.length cap):=oj.out.ax.cell 0;have ll:(k:Int)<=100000:=by have:=tf.out;omega
  by_cases hlt:k<l.length
  ·have ja:(k:Int)<(l.length:Int):=by omega
   obtain⟨g,gu,hv,nk,km⟩:=oj.out.r1.form (by omega);cases hv;have ee:=zh (oZ oj.out.r1 k hlt);obtain⟨y,hy⟩:∃ y,l[k]=y:=⟨_,rfl⟩
   rw[hy]at ee;have HY:=zh hy;clear hy;obtain⟨b,hb⟩:∃ b,decide (y=x)=b:=⟨_,rfl⟩
   have mn:=zh hb;clear hb;have HLr:=zh (HL.out.next ka.out);obtain⟨Wr,hWr⟩:∃ Wr,Wr=wr:=⟨_,rfl⟩
   subst hWr
   go_upto_region 4 with fail
   clear a0
   go_cut [23] (fun v wx=>v=.bool b/\Hid (Below Wr.heap.size Wr wx))
   case first=>
    obtain⟨TT,ae⟩:∃ TT:List (Nat×Nat×Value),TT=((0,15,.pointer (some ⟨q,0,none⟩))::(1,16,.pointer (some ⟨q,0,none⟩))::(2,17,.pointer (some ⟨q,0,none⟩))::(3,18,.slice (some ⟨g,0,none⟩) l.length cap)::(4,19,.int .i64 (k:Int))::(5,20,.pointer (some ⟨g,k*2,none⟩))::(6,21,idV y)::(7,22,idV x)::(8,23,.bool b)::[]):=⟨_,rfl⟩
    have am:=zh ae;clear ae;refine bC (fun a0=>25<=a0.tmps.size/\a0.eval (.tmp 0)=.pointer (some ⟨q,0,none⟩)/\a0.eval (.tmp 3)=.pointer (some ⟨qb,0,none⟩)/\a0.eval (.tmp 5)=.int .i64 (k:Int)) (15::16::17::18::19::20::21::22::23::[]) TT [] (fun w'=>Below Wr.heap.size Wr w') (by kernel_rfl) (by kernel_rfl) ⟨by simp,rfl,rfl,rfl⟩ (Below.refl _ _).drew ?_ ?_
    ·rintro a0 ⟨hs,dh,j0,qo⟩ zl a1 w1 zj o bg hI aa ho zd;have af:Below Wr.heap.size Wr w1:=hI.st;have ae:=am.out;have hk:okU (TT.map fun e=>(e.1,e.2.1)) (15::16::17::18::19::20::21::22::23::[]) 25=true:=by rw[ae];rfl
     subst ae;have e0x:=aE ((hI.off.eval (by decide)).trans dh);have e3x:=aE ((hI.off.eval (by decide)).trans j0);have e5x:=aE ((hI.off.eval (by decide)).trans qo);have hj:=Up.of_false aa;have hj12:zj<9:=by rw[bg]at hj;exact hj
     have G:RG _ _ _ _ _ _ _ _ _ _ _:=⟨hk,hI,hs,aa,ho,zd⟩
     (iterate 8 rcases zq hj12 with hj12|rfl);obtain rfl:=cz hj12;all_goals obtain rfl:=oi ho
     ·exact G.nl 0 rfl (by simp[execOp,go_sem,e0x])
     ·exact G.nl 1 rfl (by simp[execOp,go_sem,G.t 0 rfl])
     ·exact G.nl 2 rfl (by simp[execOp,go_sem,G.t 1 rfl])
     ·have xq:w1.cell? ⟨q,0,none⟩=some (.slice (some ⟨g,0,none⟩) l.length cap):=(oj.out.next af).ax.cell 0;exact G.nl 3 rfl (by simp[execOp,go_sem,G.t 2 rfl,xq])
     ·exact G.nl 4 rfl (by simp[execOp,go_sem,e5x])
     ·exact G.nl 5 rfl (by simp[execOp,go_sem,G.t 3 rfl,G.t 4 rfl,ja])
     ·have p5:=G.d 5 rfl;exact G.nl 6 rfl (aL 34 (.tmp 20) rfl g (k*2) p5 _ _ (fun j v hv=>(af.cell (p:=⟨g,k*2+j,none⟩) km).trans (ee.out j v hv)) Tryz.underlying34 rfl iA)
     ·exact G.nl 7 rfl (aL 34 (.tmp 3) rfl qb 0 ((hI.off.eval (by decide)).trans j0) _ _ ((HLr.out.next af).range) Tryz.underlying34 rfl iA)
     exact G.nl 8 rfl (by simp[execOp,go_sem,G.t 6 rfl,G.t 7 rfl];exact id_if mn.out w1)
    intro zl a1 w1 hI ap;have af:Below Wr.heap.size Wr w1:=hI.st;have ae:=am.out;subst ae;have z23:=hI.ptk 8 rfl (ap 8 (by decide));obtain⟨ff,rfl,hf⟩:=hI.off.forms;rw[<- hf 23]at z23;clear hI;simp only[List.foldl,Act.put,yz,List.set];rw[z23];simp only[Exit.then]
    go_step
    go_meet
    exact⟨rfl,zh af⟩
   case rest=>
    obtain⟨rfl,mw⟩:=hcut;have ri:=zh (ka.out.trans (mw.out.mono ka.out.size));clear mw;cases b
    ·have wu:y≠x:=of_decide_eq_false mn.out
     go_wp2_with fail
     go_roundw
     case rel=>exact⟨k+1,by omega,by go_num,zh (by rw[yw hlt,HY.out,List.mem_append,not_or];exact⟨l8.out,fun h=>wu (yf.1 h).symm⟩),ri⟩
     case measure=>first |(simp[intOf];done) |(simp[intOf];omega)
    have wu:y=x:=of_decide_eq_true mn.out
    go_wp2_with fail
    go_ret
    exact⟨by rw[show dO l x=(k:Int) from(mR x l 0 k l8.out (by rw[List.getElem?_eq_getElem hlt,HY.out,wu])).trans (by rw[Nat.zero_add])];rfl,by first|exact HB.out.trans (ri.out.mono (by have:=HB.out.size;omega)) |(rw[hq];exact HB.out.trans (ri.out.mono (by have:=HB.out.size;omega)))⟩
  obtain rfl:k=l.length:=by omega
  go_wp2_with fail
  go_ret
  exact⟨by rw[show dO l x=-1 from iV x l 0 (by have:=l8.out;rwa [List.take_length]at this)];rfl,by first|exact HB.out.trans (ka.out.mono (by have:=HB.out.size;omega)) |(rw[hq];exact HB.out.trans (ka.out.mono (by have:=HB.out.size;omega)))⟩
set_option maxRecDepth 1000000 in
theorem uEZ(A:Option Addr)(cap base:Nat)(l:List IdR)(x:IdR)(w:World)(hM:w.ownsRow base 34 2 (.slice A l.length cap) l.length (bL l))(hl:l.length<=100000) :
  Calls Tryz.prog 64 #[.slice A l.length cap,idV x] w fun e w'=>e=.returned (.int .i64 (dO l x))/\Below w.heap.size w w':=by
 obtain⟨W1,bt⟩:∃ W1,W1=w.alloc (.cells #[.int .i64 x.a,.int .i64 x.n] 34):=⟨_,rfl⟩
 have bu:=zh bt;have HL:Hid (Lies W1 w.heap.size 34 #[.int .i64 x.a,.int .i64 x.n]):=zh (by rw[bt];exact Lies.new _ _ _);have af:Below w.heap.size w W1:=by rw[bt];exact(zp _)
 have HB:=zh af;have HM:=zh (cW af hM);have tf:=zh hl;obtain⟨n,hn⟩:∃ n,n=l.length:=⟨_,rfl⟩
 have HN:=zh hn;rw[<- hn];clear bt af hM hl hn
 go_enter Tryz.func64,Tryz.ntmps64
 go_upto_region 1 with fail
 rw[<- bu.out];generalize hq:w.heap.size=qb at *;clear bu
 go_wp2_with fail
 go_loopw [8] (fun v wr=>∃ k:Nat,k<=n/\v=.int .i64 (k:Int)/\Hid (x∉l.take k)/\Hid (Below W1.heap.size W1 wr)) (fun v _=>n-(intOf v).toNat)
 case atStart=>exact⟨0,zm _,rfl,zh (by simp),zh (Below.refl _ _)⟩
 case round=>
  obtain⟨k,hk,rfl,l8,ka⟩:=hrel;have oj:=zh (cW ka.out HM.out);have ll:(k:Int)<=100000:=by have:=tf.out;have:=HN.out;omega
  by_cases hlt:k<n
  ·have ja:(k:Int)<(n:Int):=by omega
   have lg:k<l.length:=by rw[<- HN.out];exact hlt
   obtain⟨g,gu,hv,nk,km⟩:=oj.out.form (by omega);cases hv;have ee:=zh (oZ oj.out k lg);obtain⟨y,hy⟩:∃ y,l[k]=y:=⟨_,rfl⟩
   rw[hy]at ee;have HY:=zh hy;clear hy;obtain⟨b,hb⟩:∃ b,decide (y=x)=b:=⟨_,rfl⟩
   have mn:=zh hb;clear hb;have HLr:=zh (HL.out.next ka.out);obtain⟨Wr,hWr⟩:∃ Wr,Wr=wr:=⟨_,rfl⟩
   subst hWr
   go_upto_region 4 with fail
   go_cut [16] (fun v wx=>v=.bool b/\Hid (Below Wr.heap.size Wr wx))
   case first=>
    obtain⟨TT,ae⟩:∃ TT:List (Nat×Nat×Value),TT=((0,11,idV x)::(1,12,.slice (some ⟨g,0,none⟩) n cap)::(2,13,.int .i64 (k:Int))::(3,14,.pointer (some ⟨g,k*2,none⟩))::(4,15,idV y)::(5,16,.bool b)::[]):=⟨_,rfl⟩
    have am:=zh ae;clear ae;refine bC (fun a0=>19<=a0.tmps.size/\a0.eval (.tmp 0)=.slice (some ⟨g,0,none⟩) n cap/\a0.eval (.tmp 3)=.pointer (some ⟨qb,0,none⟩)/\a0.eval (.tmp 5)=.int .i64 (k:Int)) (11::12::13::14::15::16::[]) TT [] (fun w'=>Below Wr.heap.size Wr w') (by kernel_rfl) (by kernel_rfl) ⟨by simp,rfl,rfl,rfl⟩ (Below.refl _ _).drew ?_ ?_
    ·rintro a0 ⟨hs,dh,j0,qo⟩ zl a1 w1 zj o bg hI aa ho zd;have af:Below Wr.heap.size Wr w1:=hI.st;have ae:=am.out;have hk:okU (TT.map fun e=>(e.1,e.2.1)) (11::12::13::14::15::16::[]) 19=true:=by rw[ae];rfl
     subst ae;have e0x:=aE ((hI.off.eval (by decide)).trans dh);have e3x:=aE ((hI.off.eval (by decide)).trans j0);have e5x:=aE ((hI.off.eval (by decide)).trans qo);have hj:=Up.of_false aa;have hj12:zj<6:=by rw[bg]at hj;exact hj
     have G:RG _ _ _ _ _ _ _ _ _ _ _:=⟨hk,hI,hs,aa,ho,zd⟩
     rcases(by omega:zj=0\/zj=1\/zj=2\/zj=3\/zj=4\/zj=5) with rfl|rfl|rfl|rfl|rfl|rfl<;>obtain rfl:=oi ho
     ·exact G.nl 0 rfl (aL 34 (.tmp 3) rfl qb 0 ((hI.off.eval (by decide)).trans j0) _ _ ((HLr.out.next af).range) Tryz.underlying34 rfl iA)
     ·exact G.nl 1 rfl (by simp[execOp,go_sem,e0x])
     ·exact G.nl 2 rfl (by simp[execOp,go_sem,e5x])
     ·exact G.nl 3 rfl (by simp[execOp,go_sem,G.t 1 rfl,G.t 2 rfl,ja])
     ·have p3:=G.d 3 rfl;exact G.nl 4 rfl (aL 34 (.tmp 14) rfl g (k*2) p3 _ _ (fun j v hv=>(af.cell (p:=⟨g,k*2+j,none⟩) km).trans (ee.out j v hv)) Tryz.underlying34 rfl iA)
     exact G.nl 5 rfl (by simp[execOp,go_sem,G.t 0 rfl,G.t 4 rfl];exact id_if (x:=y) (y:=x) (by rw[<- mn.out];exact decide_eq_decide.2 eq_comm) w1)
    intro zl a1 w1 hI ap;have af:Below Wr.heap.size Wr w1:=hI.st;have ae:=am.out;subst ae;have z23:=hI.ptk 5 rfl (ap 5 (by decide));obtain⟨ff,rfl,hf⟩:=hI.off.forms;rw[<- hf 16]at z23;clear hI;simp only[List.foldl,Act.put,yz,List.set];rw[z23];simp only[Exit.then]
    go_step
    go_meet
    exact⟨rfl,zh af⟩
   case rest=>
    obtain⟨rfl,mw⟩:=hcut;have ri:=zh (ka.out.trans (mw.out.mono ka.out.size));clear mw;cases b
    ·have wu:y≠x:=of_decide_eq_false mn.out
     go_wp2_with fail
     go_roundw
     case rel=>exact⟨k+1,by omega,by go_num,zh (by rw[yw lg,HY.out,List.mem_append,not_or];exact⟨l8.out,fun h=>wu (yf.1 h).symm⟩),ri⟩
     case measure=>first |(simp[intOf];done) |(simp[intOf];omega)
    have wu:y=x:=of_decide_eq_true mn.out
    go_wp2_with fail
    go_ret
    exact⟨by rw[show dO l x=(k:Int) from(mR x l 0 k l8.out (by rw[List.getElem?_eq_getElem lg,HY.out,wu])).trans (by rw[Nat.zero_add])];rfl,by first|exact HB.out.trans (ri.out.mono (by have:=HB.out.size;omega)) |(rw[hq];exact HB.out.trans (ri.out.mono (by have:=HB.out.size;omega)))⟩
  obtain rfl:k=n:=by omega
  go_wp2_with fail
  go_ret
  exact⟨by rw[show dO l x=-1 from iV x l 0 (by have:=l8.out;rwa [HN.out,List.take_length]at this)];rfl,by first|exact HB.out.trans (ka.out.mono (by have:=HB.out.size;omega)) |(rw[hq];exact HB.out.trans (ka.out.mono (by have:=HB.out.size;omega)))⟩
theorem AxRaw.next{b base:Nat}{ids:List IdR}{fl:List Bool}{v1 v2:Value}{W W':World}(h:AxRaw b base ids fl v1 v2 W)(hb:Below W.heap.size W W'):AxRaw b base ids fl v1 v2 W' :=
 ⟨h.ax.next hb,cW hb h.r1,cW hb h.r2⟩
theorem eql_nil(w:World):(binOp .eql 79 (.map none) (.map none)).run Tryz.prog w=.ok (.bool true) w:=by kernel_rfl
set_option maxRecDepth 1000000 in
theorem spot_any(q base:Nat)(l:List IdR)(fl:List Bool)(v1 v2:Value)(x:IdR)(w:World)(hM:AxRaw q base l fl v1 v2 w)(hl:l.length<=100000) :
  Calls Tryz.prog 40 #[.pointer (some ⟨q,0,none⟩),idV x] w fun e w'=>e=.returned (.int .i64 (dO l x))/\Below w.heap.size w w':=by
 have heq:=eql_nil;obtain⟨W1,bt⟩:∃ W1,W1=w.alloc (.cells #[.int .i64 x.a,.int .i64 x.n] 34):=⟨_,rfl⟩
 have bu:=zh bt;have HL:Hid (Lies W1 w.heap.size 34 #[.int .i64 x.a,.int .i64 x.n]):=zh (by rw[bt];exact Lies.new _ _ _);have af:Below w.heap.size w W1:=by rw[bt];exact(zp _)
 have HB:=zh af;obtain⟨A,cap,rfl⟩:=cS hM.r1;have HM:=zh (hM.next af);have tf:=zh hl;have a2:=HM.out.ax.cell 2;simp only[za,zb,zf]at a2;clear bt af hM hl
 go_enter Tryz.func40,Tryz.ntmps40
 go_upto_region 1 with fail
 rw[<- bu.out];generalize hq:w.heap.size=qb at *;clear bu
 go_upto_region 2 with fail
 go_cut [4] (fun v wx=>v=.int .i64 (dO l x)/\Hid (Below W1.heap.size W1 wx))
 case first=>
  obtain⟨TT,ae⟩:∃ TT:List (Nat×Nat×Value),TT=((0,12,.pointer (some ⟨q,0,none⟩))::(1,13,.pointer (some ⟨q,0,none⟩))::(2,14,.pointer (some ⟨q,0,none⟩))::(3,15,.slice A l.length cap)::(4,16,idV x)::(5,17,.int .i64 (dO l x))::(6,4,.int .i64 (dO l x))::[]):=⟨_,rfl⟩
  have am:=zh ae;clear ae;refine bC (fun a0=>30<=a0.tmps.size/\a0.eval (.tmp 0)=.pointer (some ⟨q,0,none⟩)/\a0.eval (.tmp 3)=.pointer (some ⟨qb,0,none⟩)) (12::13::14::15::16::17::4::[]) TT [] (fun w'=>Below W1.heap.size W1 w') (by kernel_rfl) (by kernel_rfl) ⟨by simp,rfl,rfl⟩ (Below.refl _ _).drew ?_ ?_
  ·rintro a0 ⟨hs,dh,j0⟩ zl a1 w1 zj o bg hI aa ho zd;have af:Below W1.heap.size W1 w1:=hI.st;have ae:=am.out;have hk:okU (TT.map fun e=>(e.1,e.2.1)) (12::13::14::15::16::17::4::[]) 30=true:=by rw[ae];rfl
   subst ae;have e0x:=aE ((hI.off.eval (by decide)).trans dh);have e3x:=aE ((hI.off.eval (by decide)).trans j0);have xq:w1.cell? ⟨q,0,none⟩=some (.slice A l.length cap):=(HM.out.next af).ax.cell 0;have hj:=Up.of_false aa;have hj12:zj<7:=by rw[bg]at hj;exact hj
   have G:RG _ _ _ _ _ _ _ _ _ _ _:=⟨hk,hI,hs,aa,ho,zd⟩
   (iterate 6 rcases zq hj12 with hj12|rfl);obtain rfl:=cz hj12;all_goals obtain rfl:=oi ho
   ·exact G.nl 0 rfl (by simp[execOp,go_sem,e0x])
   ·exact G.nl 1 rfl (by simp[execOp,go_sem,G.t 0 rfl])
   ·exact G.nl 2 rfl (by simp[execOp,go_sem,G.t 1 rfl])
   ·exact G.nl 3 rfl (by simp[execOp,go_sem,G.t 2 rfl,xq])
   ·exact G.nl 4 rfl (aL 34 (.tmp 3) rfl qb 0 ((hI.off.eval (by decide)).trans j0) _ _ ((HL.out.next af).range) Tryz.underlying34 rfl iA)
   ·refine cR (inT 5 rfl) hk hI hs aa ho zd (aC rfl) rfl 64 #[.slice A l.length cap,idV x] (by simp[go_sem,G.t 3 rfl,G.t 4 rfl]) ?_;refine(uEZ A cap base l x w1 (cW af HM.out.r1) tf.out).mono ?_;rintro e w2 ⟨rfl,hb⟩;exact⟨rfl,af.trans (hb.mono af.size)⟩
   exact G.nl 6 rfl (by simp[execOp,go_sem,G.t 5 rfl])
  intro zl a1 w1 hI ap;have af:Below W1.heap.size W1 w1:=hI.st;have ae:=am.out;subst ae;have z23:=hI.ptk 6 rfl (ap 6 (by decide));obtain⟨ff,rfl,hf⟩:=hI.off.forms;rw[<- hf 4]at z23;clear hI;simp only[List.foldl,Act.put,yz,List.set];rw[z23];simp only[Exit.then]
  go_step
  go_meet
  exact⟨rfl,zh af⟩
 case rest=>
  obtain⟨rfl,mw⟩:=hcut
  go_wp2_with fail
  go_ret
  exact⟨rfl,by first|exact HB.out.trans (mw.out.mono HB.out.size) |(rw[hq];exact HB.out.trans (mw.out.mono (by have:=HB.out.size;omega)))⟩
theorem AxRaw.kp{b base:Nat}{ids:List IdR}{fl:List Bool}{v1 v2:Value}{Y:List Nat}{W W':World}(h:AxRaw b base ids fl v1 v2 W)(hk:Kp Y W W')(hb:b∉Y)(h1:∀ g,v1.ownBlock=some g->g∉Y)(h2:∀ g,v2.ownBlock=some g->g∉Y):AxRaw b base ids fl v1 v2 W' :=
 ⟨hk.lies h.ax hb,dQ h.r1 hk h1,dQ h.r2 hk h2⟩
theorem AxRaw.nb{b base:Nat}{ids:List IdR}{fl:List Bool}{v1 v2:Value}{W:World}(h:AxRaw b base ids fl v1 v2 W):(∀ g,v1.ownBlock=some g->g≠b/\v2.ownBlock≠some g)/\(∀ g,v2.ownBlock=some g->g≠b) :=
 ⟨fun g hg=>⟨fun e=>eE (by decide) h.r1 h.ax (by rw[hg,e]),fun e=>jG (by decide) h.r1 h.r2 g hg e⟩,fun g hg e=>eE (by decide) h.r2 h.ax (by rw[hg,e])⟩
set_option maxRecDepth 1000000 in
theorem uCW(q base:Nat)(l:List IdR)(fl:List Bool)(v1 v2:Value)(w:World)(hM:AxRaw q base l fl v1 v2 w) :
  Calls Tryz.prog 41 #[.pointer (some ⟨q,0,none⟩)] w fun e w'=>e=.returned (.tuple #[])/\AxRaw q base l fl v1 v2 w'/\Kp [q] w w':=by
 have f2:=hM.ax.frozen 2;have f3:=hM.ax.frozen 3;have f4:=hM.ax.frozen 4;have hlt:=hM.ax.lt;have a2:=hM.ax.cell 2;have a3:=hM.ax.cell 3;have a4:=hM.ax.cell 4;simp only[za,zb,zf]at a2 a3 a4;obtain⟨W1,bt⟩:∃ W1,W1=((w.setCell ⟨q,2,none⟩ (.map none)).setCell ⟨q,3,none⟩ (.slice none 0 0)).setCell ⟨q,4,none⟩ (.slice none 0 0):=⟨_,rfl⟩
 have HL:Hid (Lies W1 q 82 #[v1,v2,.map none,.slice none 0 0,.slice none 0 0]):=zh (by rw[bt];exact((hM.ax.put 2 _).put 3 _).put 4 _);have HK:Hid (Kp [q] w W1):=zh (by rw[bt];exact(((Kp.refl _ w).set (.inl (.head _)) 2 _).set (.inl (.head _)) 3 _).set (.inl (.head _)) 4 _);have HM:=zh hM;have bu:=zh bt;clear hM bt
 go_enter Tryz.func41,Tryz.ntmps41
 go_wp2_with fail
 refine bodyPost_end (results_none rfl _ _ _) rfl ?_;rw[<- bu.out];have h:=HM.out.nb;exact⟨rfl,⟨HL.out,dQ HM.out.r1 HK.out (fun g hg hm=>(h.1 g hg).1 (yf.1 hm)),dQ HM.out.r2 HK.out (fun g hg hm=>h.2 g hg (yf.1 hm))⟩,HK.out⟩
def jM(l:List IdR)(fl:List Bool)(x:IdR)(b:Bool):List Bool:=if dO l x<0 then fl else fl.set (dO l x).toNat b
theorem uIU(l:List IdR)(fl:List Bool)(x:IdR)(b:Bool):(jM l fl x b).length=fl.length:=by
 unfold jM
 split
 ·rfl
 exact List.length_set
theorem sL(l:List IdR)(x:IdR):dO l x=-1\/∃ k:Nat,dO l x=(k:Int)/\k<l.length:=by
 by_cases h:x∈l
 ·obtain⟨k,h1,h2⟩:=pW x l 0 h;exact .inr ⟨k,by unfold dO;rw[h1,Nat.zero_add],(List.getElem?_eq_some_iff.1 h2).1⟩
 exact .inl (iV x l 0 h)
set_option maxRecDepth 1000000 in
theorem turn_any(q base:Nat)(l:List IdR)(fl:List Bool)(v1 v2:Value)(x:IdR)(b:Bool)(w:World)(hM:AxRaw q base l fl v1 v2 w)(hl:l.length=fl.length)(hn:l.length<=100000) :
  Calls Tryz.prog 33 #[.pointer (some ⟨q,0,none⟩),idV x,.bool b] w fun e w'=>(∃ n,e=.returned (.int .i64 n))/\AxRaw q base l (jM l fl x b) v1 v2 w'/\Kp (q::v2.ownBlock.toList) w w':=by
 obtain⟨W1,bt⟩:∃ W1,W1=w.alloc (.cells #[.int .i64 x.a,.int .i64 x.n] 34):=⟨_,rfl⟩
 have bu:=zh bt;have HLi:Hid (Lies W1 w.heap.size 34 #[.int .i64 x.a,.int .i64 x.n]):=zh (by rw[bt];exact Lies.new _ _ _);have af:Below w.heap.size w W1:=by rw[bt];exact(zp _)
 have HB:=zh af;have HM:=zh (hM.next af);have HL:=zh hl;have HN:=zh hn;have b0:=HLi.out.cell 0;have b1:=HLi.out.cell 1;simp only[za,zb,zf]at b0 b1;clear bt af hM hl hn
 go_enter Tryz.func33,Tryz.ntmps33
 go_upto_region 1 with fail
 rw[<- bu.out];generalize hq:w.heap.size=qb at *;have HQ:=zh hq;clear bu hq
 go_wp2_with fail
 refine(spot_any q base l fl v1 v2 x W1 HM.out HN.out).mono ?_;rintro e W2 ⟨rfl,ay⟩;have i8:=zh (HM.out.next ay);have cq:=zh ay;have bq:Hid (Kp (q::v2.ownBlock.toList) w W2):=zh (Kp.of_below (by have h:=HB.out;rw[<- HQ.out]at h;exact h.trans (ay.mono h.size)));clear ay b0 b1;rcases sL l x with hp|⟨k,hp,hk⟩
 ·have HS:Hid (jM l fl x b=fl):=zh (by unfold jM;rw[hp];rfl);rw[hp]
  go_wp2_with fail
  go_ret
  exact⟨⟨_,rfl⟩,by rw[HS.out];exact i8.out,bq.out⟩
 have mg:k<fl.length:=by rw[<- HL.out];exact hk
 have HS:Hid (jM l fl x b=fl.set k b):=zh (by unfold jM;rw[hp,if_neg (by omega)];rfl);have HKL:=zh mg;have ll:(k:Int)<=100000:=by have:=HN.out;omega
 obtain⟨g,cap,rfl,nk,km⟩:=i8.out.r2.form (by omega);have ja:(k:Int)<(fl.length:Int):=by omega
 have a1:=i8.out.ax.cell 1;simp only[za,zb,zf]at a1;have hc:W2.cell? ⟨g,k,none⟩=some (.bool fl[k]):=by
  rw[i8.out.r2.cellAt k (by omega)];unfold yL;rw[List.getElem?_map,List.getElem?_eq_getElem mg];rfl
 obtain⟨c,t5⟩:∃ c,fl[k]=c:=⟨_,rfl⟩
 have HC:=zh t5;rw[t5]at hc;rw[hp];clear hk;have ik:fl.set k c=fl:=by rw[<- t5];exact List.set_getElem_self mg
 clear t5 HC;by_cases pm:c=b
 ·subst pm
  go_wp2_with fail
  go_ret
  exact⟨⟨_,rfl⟩,by rw[HS.out,ik];exact i8.out,bq.out⟩
 have hff:=i8.out.r2.frozenAt k;have hcf:(c==b)=false:=by cases c <;> cases b <;> first|rfl|exact absurd rfl pm
 obtain⟨W3,l5⟩:∃ W3,W3=W2.setCell ⟨g,k,none⟩ (.bool b):=⟨_,rfl⟩
 have HM3:Hid (AxRaw q base l (fl.set k b) v1 (.slice (some ⟨g,0,none⟩) fl.length cap) W3):=zh (by
  have hn:=i8.out.nb;have gy:Kp [g] W2 W3:=by rw[l5];exact(Kp.refl _ W2).set (.inl (.head _)) k _
  refine⟨gy.lies i8.out.ax (fun h=>hn.2 g rfl (yf.1 h).symm),dQ i8.out.r1 gy (fun y hy hm=>(hn.1 y hy).2 (by rw[yf.1 hm];rfl)),?_⟩;have h:=(i8.out.r2.stored k (.bool b)).1;rw[<- l5]at h;rw[List.length_set];unfold yL at h ⊢;rw[List.map_set];exact h)
 have fb:Hid (Kp (q::(Value.slice (some ⟨g,0,none⟩) fl.length cap).ownBlock.toList) w W3):=zh (by rw[l5];exact bq.out.set (.inl (.tail _ (.head _))) k _);clear i8 bq
 go_wp2_with fail
 rw[<- l5];refine(uCW q base l (fl.set k b) v1 _ W3 HM3.out).mono ?_;rintro e W4 ⟨rfl,h4,h5⟩
 go_wp2_with fail
 go_ret
 exact⟨⟨_,rfl⟩,by rw[HS.out];exact h4,fb.out.trans (h5.mono (fun y hy _=>by rw[yf.1 hy];exact .head _))⟩
set_option maxRecDepth 1000000 in
theorem uCK(q base:Nat)(l:List IdR)(fl:List Bool)(v1 v2:Value)(x:IdR)(w:World)(hM:AxRaw q base l fl v1 v2 w)(hl:l.length=fl.length)(hn:l.length<=100000) :
  Calls Tryz.prog 20 #[.pointer (some ⟨q,0,none⟩),idV x] w fun e w'=>(∃ n,e=.returned (.int .i64 n))/\AxRaw q base l (jM l fl x false) v1 v2 w'/\Kp (q::v2.ownBlock.toList) w w':=by
 obtain⟨W1,bt⟩:∃ W1,W1=w.alloc (.cells #[.int .i64 x.a,.int .i64 x.n] 34):=⟨_,rfl⟩
 have bu:=zh bt;have HLi:Hid (Lies W1 w.heap.size 34 #[.int .i64 x.a,.int .i64 x.n]):=zh (by rw[bt];exact Lies.new _ _ _);have af:Below w.heap.size w W1:=by rw[bt];exact(zp _)
 have HB:=zh af;have HM:=zh (hM.next af);have b0:=HLi.out.cell 0;have b1:=HLi.out.cell 1;simp only[za,zb,zf]at b0 b1;clear bt af hM
 go_enter Tryz.func20,Tryz.ntmps20
 go_upto_region 1 with fail
 rw[<- bu.out];generalize hq:w.heap.size=qb at *;have HQ:=zh hq;clear bu hq
 go_wp2_with fail
 refine(turn_any q base l fl v1 v2 x false W1 HM.out hl hn).mono ?_;rintro e W2 ⟨⟨n,rfl⟩,h2,h3⟩
 go_wp2_with fail
 go_ret
 exact⟨⟨_,rfl⟩,h2,(Kp.of_below (by have h:=HB.out;rw[<- HQ.out]at h;exact h)).trans h3⟩
end Go.Proofs.YtmgjidnalpgegaaGreatDoor
