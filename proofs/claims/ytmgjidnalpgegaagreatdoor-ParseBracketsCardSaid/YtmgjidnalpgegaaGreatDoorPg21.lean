/-
  Lemmas, part 21: PaD PaN PaV PaW.
-/
import Derived.Test.YtmgjidnalpgegaaGreatDoorPg19
import Derived.Test.YtmgjidnalpgegaaGreatDoorPg20
namespace Go.Proofs.YtmgjidnalpgegaaGreatDoor
open Go.RowKit
def nZ(c:UInt8):Bool:=dX c||aC c||c==46
def oA(c:UInt8):Bool:=dX c||aC c||c==95||c==46
theorem nI{p:UInt8→Bool}{l:Bs}{k:Nat}(h:(l.take k).all p=true)(hk:k<l.length)(hp:p l[k]=true):(l.take (k+1)).all p=true:=by
 rw[List.take_succ_eq_append_getElem hk,List.all_append,h];simp[hp]
theorem sB{p:UInt8→Bool}{l:Bs}{k:Nat}(hk:k<l.length)(hp:p l[k]=false):l.all p=false:=by
 cases h:l.all p with
 | false=>rfl
 | true=>
  rw[List.all_eq_true]at h;rw[h _ (List.getElem_mem hk)]at hp;cases hp
theorem beq_u8(c:UInt8)(d:UInt8)(n:Int)(hn:(d.toNat:Int)=n):((c.toNat:Int)==n)=(c==d):=by
 subst hn;rw[Bool.eq_iff_iff,beq_iff_eq,beq_iff_eq];exact⟨fun h=>UInt8.toNat.inj (by omega),fun h=>by rw[h]⟩
theorem xD(c:UInt8)(d:UInt8)(n:Int)(hn:(d.toNat:Int)=n):((c.toNat:Int) != n)=!(c==d):=by rw[← beq_u8 c d n hn];rfl
set_option maxRecDepth 100000 in
set_option maxHeartbeats 1600000 in
theorem uIH(l:Bs)(w:World)(hs:l.length≤100000) :
  Calls Tryz.prog 54 #[.string ⟨l.toArray⟩] w fun e w'=>e=.returned (.bool (cE l))∧Below w.heap.size w w':=by
 rcases l with _ | ⟨c,t⟩
 ·go_enter Tryz.func54,Tryz.ntmps54
  go_wp2_with fail
  go_ret
  exact⟨rfl,Below.refl _ _⟩
 have hlen:0<(c::t).length:=by simp
 have hhd:(c::t).headD 0=c:=rfl;have hat:(c::t)[0]'hlen=c:=rfl;have hne:((c::t:Bs)==[])=false:=rfl;have hne2:¬ (c::t:Bs)=[]:=by simp
 generalize (c::t:Bs)=l at *;have HCap:=zh (fun W=>eP c W);have HR:Hid (cE l=(decide (l.length≤32)&&dX c&&l.all nZ&&!(decide (aZ l+aV (l.drop (aZ l))=l.length)&&decide (aZ l≤3)&&decide (1≤aV (l.drop (aZ l)))&&decide (aV (l.drop (aZ l))≤7)&&!aP l (aZ l) 48))):=zh (by
  unfold cE;rw[hhd,decide_eq_true hlen,Bool.true_and];rfl)
 clear hhd;by_cases h32:32<l.length
 ·have hr:cE l=false:=by rw[HR.out,decide_eq_false (by omega)];rfl
  have h32i:(32:Int)<(l.length:Int):=by omega
  rw[hr];clear hr
  go_enter Tryz.func54,Tryz.ntmps54
  go_wp2_with fail
  go_ret
  exact⟨rfl,Below.refl _ _⟩
 have h32i:¬ (32:Int)<(l.length:Int):=by omega
 cases hcap:dX c with
 | false=>
  have hr:cE l=false:=by rw[HR.out,hcap,Bool.and_false];rfl
  rw[hr];clear hr HR
  go_enter Tryz.func54,Tryz.ntmps54
  go_wp2_with fail
  refine(HCap.out _).mono ?_;rintro e w' ⟨rfl,rfl⟩
  go_wp2_with fail
  go_ret
  exact⟨rfl,Below.refl _ _⟩
 | true=>
  have HR2:Hid (cE l=(l.all nZ&&!(decide (aZ l+aV (l.drop (aZ l))=l.length)&&decide (aZ l≤3)&&decide (1≤aV (l.drop (aZ l)))&&decide (aV (l.drop (aZ l))≤7)&&!aP l (aZ l) 48))):=zh (by rw[HR.out,hcap,decide_eq_true (by omega)];rfl);clear HR;obtain⟨cap,W1,hcv,hrow,hb⟩:=nV l w;have HB:=zh hb;have HROW:=zh hrow;clear hb hrow;have HSp:=zh (fun W=>uM l W (by omega))
  go_enter Tryz.func54,Tryz.ntmps54
  go_wp2_with fail
  refine(HCap.out _).mono ?_;rintro e w' ⟨rfl,rfl⟩
  go_wp2_with fail
  clear hcv HCap;generalize w.heap.size=q at HROW ⊢
  go_loop [24] (fun i=>∃ k:Nat,k≤l.length∧i=.int .i64 k∧(l.take k).all nZ=true) (fun i=>l.length-(intOf i).toNat)
  case atStart=>exact⟨0,Nat.zero_le _,rfl,by simp⟩
  case round=>
   obtain⟨k,hk,rfl,hall⟩:=hrel;by_cases hlt:k<l.length
   ·obtain⟨x0,xf0⟩:=HROW.out k hlt;have hb46:=xD l[k] 46 46 rfl;have HALL:=zh hall;clear hall;cases hd:nZ l[k] with
    | false=>
     have hr:cE l=false:=by rw[HR2.out,sB hlt hd];rfl
     have hd2:=hd;unfold nZ at hd2;simp only[Bool.or_eq_false_iff]at hd2;obtain⟨⟨d1,d2⟩,d3⟩:=hd2;rw[d3]at hb46;clear hd HR2
     go_wp2_with (first |(go_at_call 79;refine(eP _ _).mono ?_;rintro e w' ⟨rfl,rfl⟩) |(go_at_call 80;refine(fK _ _).mono ?_;rintro e w' ⟨rfl,rfl⟩))
     go_ret
     exact⟨by first | exact aJ hr.symm | exact aJ rfl,HB.out⟩
    | true=>
     have HST:=zh (nI HALL.out hlt hd);unfold nZ at hd;cases d1:dX l[k] with
     | true=>
      clear hd
      go_wp2_with (first |(go_at_call 79;refine(eP _ _).mono ?_;rintro e w' ⟨rfl,rfl⟩) |(go_at_call 80;refine(fK _ _).mono ?_;rintro e w' ⟨rfl,rfl⟩))
      go_round
      case rel=>exact⟨k+1,by omega,by go_num,HST.out⟩
      case measure=>simp[intOf];omega
     | false=>
      cases d2:aC l[k] with
      | true=>
       clear hd
       go_wp2_with (first |(go_at_call 79;refine(eP _ _).mono ?_;rintro e w' ⟨rfl,rfl⟩) |(go_at_call 80;refine(fK _ _).mono ?_;rintro e w' ⟨rfl,rfl⟩))
       go_round
       case rel=>exact⟨k+1,by omega,by go_num,HST.out⟩
       case measure=>simp[intOf];omega
      | false=>
       have d3:(l[k]==46)=true:=by rw[d1,d2]at hd;simpa using hd
       rw[d3]at hb46;clear hd
       go_wp2_with (first |(go_at_call 79;refine(eP _ _).mono ?_;rintro e w' ⟨rfl,rfl⟩) |(go_at_call 80;refine(fK _ _).mono ?_;rintro e w' ⟨rfl,rfl⟩))
       go_round
       case rel=>exact⟨k+1,by omega,by go_num,HST.out⟩
       case measure=>simp[intOf];omega
   ·have hkl:k=l.length:=by omega
    have hall2:l.all nZ=true:=by rw[hkl,List.take_length]at hall;exact hall
    clear hall;have HR3:Hid (cE l=!(decide (aZ l+aV (l.drop (aZ l))=l.length)&&decide (aZ l≤3)&&decide (1≤aV (l.drop (aZ l)))&&decide (aV (l.drop (aZ l))≤7)&&!aP l (aZ l) 48)):=zh (by rw[HR2.out,hall2,Bool.true_and]);clear HR2 hall2;have HAL:Hid (aZ l≤l.length):=zh (bW dX l);generalize aV (l.drop (aZ l))=d at *;generalize aZ l=a at *;have hal:=HAL.out;subst hkl
    go_wp2_with fail
    refine(HSp.out _).mono ?_;rintro e w' ⟨rfl,rfl⟩;by_cases e1:a+d=l.length
    ·rw[decide_eq_true e1]at HR3 ⊢;by_cases e2:a≤3
     ·by_cases e3:1≤d
      ·by_cases e4:d≤7
       ·have hq:=nT l a 48 48 rfl (by omega);have hala:a<l.length:=by omega
        have HR4:Hid (cE l=!(!aP l a 48)):=zh (by rw[HR3.out,decide_eq_true e2,decide_eq_true e3,decide_eq_true e4];rfl);clear HR3
        go_wp2_with fail
        go_ret
        exact⟨aJ (by rw[HR4.out,Bool.not_not]),HB.out⟩
       ·have hr:cE l=true:=by rw[HR3.out,decide_eq_false e4];simp
        clear HR3
        go_wp2_with fail
        go_ret
        exact⟨by first | exact aJ hr.symm | exact aJ rfl,HB.out⟩
      ·have hr:cE l=true:=by rw[HR3.out,decide_eq_false e3];simp
       clear HR3
       go_wp2_with fail
       go_ret
       exact⟨by first | exact aJ hr.symm | exact aJ rfl,HB.out⟩
     ·have hr:cE l=true:=by rw[HR3.out,decide_eq_false e2];simp
      clear HR3
      go_wp2_with fail
      go_ret
      exact⟨by first | exact aJ hr.symm | exact aJ rfl,HB.out⟩
    ·have hr:cE l=true:=by rw[HR3.out,decide_eq_false e1];simp
     rw[decide_eq_false e1];clear HR3
     go_wp2_with fail
     go_ret
     exact⟨by first | exact aJ hr.symm | exact aJ rfl,HB.out⟩
set_option maxRecDepth 100000 in
set_option maxHeartbeats 1600000 in
theorem uIJ(l:Bs)(w:World)(hs:l.length≤100000) :
  Calls Tryz.prog 57 #[.string ⟨l.toArray⟩] w fun e w'=>e=.returned (.bool (bV l))∧Below w.heap.size w w':=by
 rcases l with _ | ⟨c,t⟩
 ·go_enter Tryz.func57,Tryz.ntmps57
  go_wp2_with fail
  go_ret
  exact⟨rfl,Below.refl _ _⟩
 have hlen:0<(c::t).length:=by simp
 have hhd:(c::t).headD 0=c:=rfl;have hat:(c::t)[0]'hlen=c:=rfl;have hne:((c::t:Bs)==[])=false:=rfl;have hne2:¬ (c::t:Bs)=[]:=by simp
 generalize (c::t:Bs)=l at *;have HCap:=zh (fun W=>eP c W);have HR:Hid (bV l=(decide (l.length≤32)&&(dX c||c==95)&&l.all oA&&!(l==jZ||l==iF||jU l)&&!(decide (aZ l+aV (l.drop (aZ l))=l.length)&&decide (1≤aZ l)&&decide (aZ l≤3)&&decide (1≤aV (l.drop (aZ l)))))):=zh (by
  unfold bV;rw[hhd,decide_eq_true hlen,Bool.true_and];rfl)
 clear hhd;by_cases h32:32<l.length
 ·have hr:bV l=false:=by rw[HR.out,decide_eq_false (by omega)];rfl
  have h32i:(32:Int)<(l.length:Int):=by omega
  rw[hr];clear hr
  go_enter Tryz.func57,Tryz.ntmps57
  go_wp2_with fail
  go_ret
  exact⟨rfl,Below.refl _ _⟩
 have h32i:¬ (32:Int)<(l.length:Int):=by omega
 have h95:=xD c 95 95 rfl;cases hcap:(dX c||c==95) with
 | false=>
  have hr:bV l=false:=by rw[HR.out,hcap,Bool.and_false];rfl
  obtain⟨hcap1,hcap2⟩:dX c=false∧(c==95)=false:=by simpa using hcap
  rw[hcap2]at h95;clear hcap hcap2;have hcap:=hcap1;rw[hr];clear hr HR
  go_enter Tryz.func57,Tryz.ntmps57
  go_wp2_with fail
  refine(HCap.out _).mono ?_;rintro e w' ⟨rfl,rfl⟩
  go_wp2_with fail
  go_ret
  exact⟨rfl,Below.refl _ _⟩
 | true=>
  have HR2:Hid (bV l=(l.all oA&&!(l==jZ||l==iF||jU l)&&!(decide (aZ l+aV (l.drop (aZ l))=l.length)&&decide (1≤aZ l)&&decide (aZ l≤3)&&decide (1≤aV (l.drop (aZ l)))))):=zh (by rw[HR.out,hcap,decide_eq_true (by omega)];rfl);clear HR;obtain⟨cap,W1,hcv,hrow,hb⟩:=nV l w;have HB:=zh hb;have HROW:=zh hrow;clear hb hrow;have HSp:=zh (fun W=>uM l W (by omega));have HSe:=zh (fun W=>uIK l W (by omega))
  go_enter Tryz.func57,Tryz.ntmps57
  go_upto_region 1 with fail
  go_cut [25] (fun v wx=>v=.bool false∧Hid (wx=w))
  case first=>
   go_wp2_with fail
   refine(HCap.out _).mono ?_;rintro e w' ⟨rfl,rfl⟩;cases hc1:dX c with
   | true=>
    go_wp2_with fail
    all_goals go_meet
    exact⟨rfl,zh rfl⟩
   | false=>
    have h2:(c==95)=true:=by rw[hc1]at hcap;simpa using hcap
    rw[h2]at h95
    go_wp2_with fail
    all_goals go_meet
    exact⟨rfl,zh rfl⟩
  case rest=>
  obtain⟨rfl,hcut⟩:=hcut;have hwc:=hcut.out;subst hwc;clear hcut hcap h95
  go_wp2_with fail
  clear hcv HCap;generalize wc.heap.size=q at HROW ⊢
  go_loop [29] (fun i=>∃ k:Nat,k≤l.length∧i=.int .i64 k∧(l.take k).all oA=true) (fun i=>l.length-(intOf i).toNat)
  case atStart=>exact⟨0,Nat.zero_le _,rfl,by simp⟩
  case round=>
   obtain⟨k,hk,rfl,hall⟩:=hrel;by_cases hlt:k<l.length
   ·obtain⟨x0,xf0⟩:=HROW.out k hlt;have hb95:=xD l[k] 95 95 rfl;have hb46:=xD l[k] 46 46 rfl;have HALL:=zh hall;clear hall;cases hd:oA l[k] with
    | false=>
     have hr:bV l=false:=by rw[HR2.out,sB hlt hd];rfl
     have hd2:=hd;unfold oA at hd2;simp only[Bool.or_eq_false_iff]at hd2;obtain⟨⟨⟨d1,d2⟩,d4⟩,d3⟩:=hd2;rw[d3]at hb46;rw[d4]at hb95;clear hd HR2
     go_wp2_with (first |(go_at_call 79;refine(eP _ _).mono ?_;rintro e w' ⟨rfl,rfl⟩) |(go_at_call 80;refine(fK _ _).mono ?_;rintro e w' ⟨rfl,rfl⟩))
     go_ret
     exact⟨by first | exact aJ hr.symm | exact aJ rfl,HB.out⟩
    | true=>
     have HST:=zh (nI HALL.out hlt hd);unfold oA at hd;cases d1:dX l[k] with
     | true=>
      clear hd
      go_wp2_with (first |(go_at_call 79;refine(eP _ _).mono ?_;rintro e w' ⟨rfl,rfl⟩) |(go_at_call 80;refine(fK _ _).mono ?_;rintro e w' ⟨rfl,rfl⟩))
      go_round
      case rel=>exact⟨k+1,by omega,by go_num,HST.out⟩
      case measure=>simp[intOf];omega
     | false=>
      cases d2:aC l[k] with
      | true=>
       clear hd
       go_wp2_with (first |(go_at_call 79;refine(eP _ _).mono ?_;rintro e w' ⟨rfl,rfl⟩) |(go_at_call 80;refine(fK _ _).mono ?_;rintro e w' ⟨rfl,rfl⟩))
       go_round
       case rel=>exact⟨k+1,by omega,by go_num,HST.out⟩
       case measure=>simp[intOf];omega
      | false=>
       cases d4:(l[k]==95) with
       | true=>
        rw[d4]at hb95;clear hd
        go_wp2_with (first |(go_at_call 79;refine(eP _ _).mono ?_;rintro e w' ⟨rfl,rfl⟩) |(go_at_call 80;refine(fK _ _).mono ?_;rintro e w' ⟨rfl,rfl⟩))
        go_round
        case rel=>exact⟨k+1,by omega,by go_num,HST.out⟩
        case measure=>simp[intOf];omega
       | false=>
        have d3:(l[k]==46)=true:=by rw[d1,d2,d4]at hd;simpa using hd
        rw[d3]at hb46;rw[d4]at hb95;clear hd
        go_wp2_with (first |(go_at_call 79;refine(eP _ _).mono ?_;rintro e w' ⟨rfl,rfl⟩) |(go_at_call 80;refine(fK _ _).mono ?_;rintro e w' ⟨rfl,rfl⟩))
        go_round
        case rel=>exact⟨k+1,by omega,by go_num,HST.out⟩
        case measure=>simp[intOf];omega
   ·have hkl:k=l.length:=by omega
    have hall2:l.all oA=true:=by rw[hkl,List.take_length]at hall;exact hall
    clear hall;have HR3:Hid (bV l=(!(l==jZ||l==iF||jU l)&&!(decide (aZ l+aV (l.drop (aZ l))=l.length)&&decide (1≤aZ l)&&decide (aZ l≤3)&&decide (1≤aV (l.drop (aZ l)))))):=zh (by rw[HR2.out,hall2,Bool.true_and]);clear HR2 hall2;subst hkl;by_cases hT:l=[84,82,85,69]
    ·have hr:bV l=false:=by rw[HR3.out,hT];rfl
     clear HR3;have HRR:=zh hr;clear hr;have hT2:(l==([84,82,85,69]:Bs))=true:=by rw[hT];rfl
     have hTb:((⟨l.toArray⟩:ByteArray)==⟨#[84,82,85,69]⟩)=true:=by rw[hT];rfl
     clear hT
     go_wp2_with fail
     go_ret
     exact⟨by first | exact aJ HRR.out.symm | exact aJ rfl,HB.out⟩
    have e1:(l==([84,82,85,69]:Bs))=false:=by simpa using hT
    by_cases hF:l=[70,65,76,83,69]
    ·have hr:bV l=false:=by rw[HR3.out,hF];rfl
     clear HR3;have HRR:=zh hr;clear hr;have hF2:(l==([70,65,76,83,69]:Bs))=true:=by rw[hF];rfl
     have hTb:((⟨l.toArray⟩:ByteArray)==⟨#[84,82,85,69]⟩)=false:=by rw[hF];rfl
     have hFb:((⟨l.toArray⟩:ByteArray)==⟨#[70,65,76,83,69]⟩)=true:=by rw[hF];rfl
     clear hF hT
     go_wp2_with fail
     go_ret
     exact⟨by first | exact aJ HRR.out.symm | exact aJ rfl,HB.out⟩
    have e2:(l==([70,65,76,83,69]:Bs))=false:=by simpa using hF
    have HR4:Hid (bV l=(!jU l&&!(decide (aZ l+aV (l.drop (aZ l))=l.length)&&decide (1≤aZ l)&&decide (aZ l≤3)&&decide (1≤aV (l.drop (aZ l)))))):=zh (by rw[HR3.out,show (l==jZ)=false from e1,show (l==iF)=false from e2];rfl);clear HR3;have HAL:Hid (aZ l≤l.length):=zh (bW dX l);generalize aV (l.drop (aZ l))=d at *;generalize aZ l=a at *;have hal:=HAL.out
    go_wp2_with fail
    refine(HSe.out _).mono ?_;rintro e w2 ⟨rfl,hb⟩;have HB2:=zh (HB.out.trans (hb.mono HB.out.size));clear hb HSe;cases hse:jU l with
    | true=>
     have HRR:Hid (bV l=false):=zh (by rw[HR4.out,hse];rfl);clear HR4
     go_wp2_with fail
     go_ret
     exact⟨by first | exact aJ HRR.out.symm | exact aJ rfl,HB2.out⟩
    | false=>
     rw[hse]at HR4
     go_wp2_with fail
     refine(HSp.out _).mono ?_;rintro e w' ⟨rfl,rfl⟩;by_cases f1:a+d=l.length
     ·rw[decide_eq_true f1]at HR4 ⊢;by_cases f2:1≤a
      ·by_cases f3:a≤3
       ·by_cases f4:1≤d
        ·have HRR:Hid (bV l=false):=zh (by rw[HR4.out,decide_eq_true f2,decide_eq_true f3,decide_eq_true f4];rfl);clear HR4
         go_wp2_with fail
         go_ret
         exact⟨aJ (by rw[HRR.out];simp;omega),HB2.out⟩
        ·have HRR:Hid (bV l=true):=zh (by rw[HR4.out,decide_eq_false f4];simp);clear HR4
         go_wp2_with fail
         go_ret
         exact⟨aJ (by rw[HRR.out];simp;omega),HB2.out⟩
       ·have HRR:Hid (bV l=true):=zh (by rw[HR4.out,decide_eq_false f3];simp);clear HR4
        go_wp2_with fail
        go_ret
        exact⟨by first | exact aJ HRR.out.symm | exact aJ rfl,HB2.out⟩
      ·have HRR:Hid (bV l=true):=zh (by rw[HR4.out,decide_eq_false f2];simp);clear HR4
       go_wp2_with fail
       go_ret
       exact⟨by first | exact aJ HRR.out.symm | exact aJ rfl,HB2.out⟩
     ·have HRR:Hid (bV l=true):=zh (by rw[HR4.out,decide_eq_false f1];simp);rw[decide_eq_false f1];clear HR4
      go_wp2_with fail
      go_ret
      exact⟨by first | exact aJ HRR.out.symm | exact aJ rfl,HB2.out⟩
theorem aO{ops:Array Oper}{o:Oper}{a:Act}{g sg:Nat}{pol:Bool}(h:o.guard=some (g,pol)){og:Oper}(hg:ops[g]?=some og)(hd:og.dst=some sg)(hv:a.eval (.tmp sg)=undef):Region.wanted o (yielded ops a.tmps)=false:=by
 have h1:a.tmps[sg]?.getD undef=undef:=aA hv;unfold Region.wanted yielded;rw[h];simp only[hg,Option.bind_some,hd];cases hq:a.tmps[sg]? with
 | none=>rfl
 | some x=>
  rw[hq]at h1;have h2:x=undef:=h1;subst h2;rfl
section
variable {ops:Array Oper} {S:List Nat} {T:List (Nat×Nat×Value)} {P:World→Prop} {w:World} {N:Nat} {a0 a:Act} {zl:Array Bool} {Q:Exit→Act→World→Prop} {o:Oper} {i s:Nat} {v:Value}
theorem dA(he:(i,s,v)∈T)(hk:okU (T.map fun e=>(e.1,e.2.1)) S N=true)(hI:GU ops S T [] P a0 zl a w)(hN:N≤a0.tmps.size)(hun:zl.getD i true=false)(ho:ops[i]?=some o)(zd:∀ e∈o.after,Region.binds .any e=true→Up zl e.on)(hw:Region.wanted o (yielded ops a.tmps)=true)(hd:o.dst=some s)
  (f:FuncId) (xs:Array Value) (hr:(execOp a.eval o).run Tryz.prog w=.ok (.enter f xs) w) (hc:Calls Tryz.prog f xs w fun e w1=>e=.returned v∧P w1):wpOp Tryz.prog ops Q i (GU ops S T [] P a0 (zl.setIfInBounds i true)) a w:=by
 have h:=tB hk hI hN he fG hun ho zd;unfold wpOp;rw[ho];simp only;rw[if_pos hw];refine .inl (iB (v:=v) f xs hr (hc.mono ?_));rintro e w1 ⟨rfl,hP⟩;rw[hd];exact⟨rfl,h.off,h.pt,h.dn,hP⟩
end
set_option maxRecDepth 1000000 in
set_option maxHeartbeats 3200000 in
theorem tLit_any(v:Val)(m:Bool)(w:World)(hm1:-9223372036854775808≤v.mant)(hm2:v.mant≤9223372036854775807)(hl:v.text.length≤1000000) :
  Calls Tryz.prog 51 #[rQ v,.bool m] w fun e w'=>e=.returned (.bool (cL v m))∧Below w.heap.size w w':=by
 have HVR:=zh (fun W=>uBR v W hm1 hm2 hl);obtain⟨W1,hW1⟩:∃ W1,W1=w.alloc (.cells #[.int .i64 v.kind,.int .i64 v.mant,.int .i64 v.exp,.string ⟨v.text.toArray⟩,.bool v.truth,.int .i64 v.fault] 32):=⟨_,rfl⟩
 have HW1:=zh hW1;have HL:Hid (Lies W1 w.heap.size 32 #[.int .i64 v.kind,.int .i64 v.mant,.int .i64 v.exp,.string ⟨v.text.toArray⟩,.bool v.truth,.int .i64 v.fault]):=zh (by rw[hW1];exact Lies.new _ _ _);have HB:Hid (Below w.heap.size w W1):=zh (by rw[hW1];exact(Below.refl _ _).alloc (Nat.le_refl _) _);clear hW1;obtain⟨b0,hb0⟩:∃ b0,decide (v.kind≠0)=b0:=⟨_,rfl⟩
 obtain⟨b1,hb1⟩:∃ b1,cA v=b1:=⟨_,rfl⟩
 obtain⟨b2,hb2⟩:∃ b2,decide (0≤v.mant)=b2:=⟨_,rfl⟩
 have HR:Hid (cL v m=(b0&&b1&&(m||b2))):=zh (by unfold cL;rw[hb0,hb1,hb2]);have e0':(v.kind != 0)=b0:=by rw[← hb0,Bool.eq_iff_iff];simp
 obtain⟨c1,h1⟩:∃ c1,c1=(b0&&b1):=⟨_,rfl⟩
 obtain⟨d,hd⟩:∃ d,d=(m||b2):=⟨_,rfl⟩
 obtain⟨c2,h2⟩:∃ c2,c2=(c1&&d):=⟨_,rfl⟩
 rw[← h1,← hd,← h2]at HR;have HH:=zh (And.intro h1 (And.intro h2 (And.intro hd (And.intro hb1 (And.intro hb2 e0')))));clear h1 h2 hb0 hb1 hb2 hd e0'
 go_enter Tryz.func51,Tryz.ntmps51
 go_upto_region 1 with fail
 rw[← HW1.out];generalize hq:w.heap.size=q at *;obtain⟨h1,h2,hd,hvr,hb2,e0'⟩:=HH.out
 obtain⟨TT,hTT⟩:∃ TT:List (Nat×Nat×Value),TT=((0,5,.pointer (some ⟨q,0,none⟩))::(1,6,.int .i64 v.kind)::(2,7,.bool b0)::(3,8,.bool b0)::(4,9,(bif b0 then .agg ([.int .i64 v.kind,.int .i64 v.mant,.int .i64 v.exp,.string ⟨v.text.toArray⟩,.bool v.truth,.int .i64 v.fault]:List Value).toArray else undef))::(5,10,(bif b0 then .bool b1 else undef))::(6,11,.bool c1)::(7,12,.bool c1)::(8,13,(bif c1 then .bool m else undef))::(9,14,(bif c1 then .bool m else undef))::(10,15,(bif c1 then (bif m then undef else .pointer (some ⟨q,1,none⟩)) else undef))::(11,16,(bif c1 then (bif m then undef else .pointer (some ⟨q,1,none⟩)) else undef))::(12,17,(bif c1 then (bif m then undef else .int .i64 v.mant) else undef))::(13,18,(bif c1 then (bif m then undef else .bool b2) else undef))::(14,19,(bif c1 then .bool d else undef))::(15,20,.bool c2)::(16,4,.bool c2)::[]):=⟨_,rfl⟩
 have HTT:=zh hTT;clear hTT;refine bA (fun a0=>21≤a0.tmps.size∧a0.eval (.tmp 1)=.bool m∧a0.eval (.tmp 2)=.pointer (some ⟨q,0,none⟩)) (5::6::7::8::9::10::11::12::13::14::15::16::17::18::19::20::4::[]) TT [] (fun w'=>Below W1.heap.size W1 w') (by kernel_rfl) ⟨by simp,rfl,rfl⟩ (Below.refl _ _) ?_ ?_
 ·rintro a0 ⟨hs,hq1,hq2⟩ zl a1 w1 zj o hsz hI hun ho zd;have hb1:Below W1.heap.size W1 w1:=hI.st;have hTT:=HTT.out;have hk:okU (TT.map fun e=>(e.1,e.2.1)) (5::6::7::8::9::10::11::12::13::14::15::16::17::18::19::20::4::[]) 21=true:=by rw[hTT];rfl
  subst hTT;have e1x:=aA ((hI.off.eval (by decide)).trans hq1);have e2x:=aA ((hI.off.eval (by decide)).trans hq2);have hj:=Up.of_false hun;have hj12:zj<17:=by rw[hsz]at hj;exact hj
  have G:RG _ _ _ _ _ _ _ _ _ _ _:=⟨hk,hI,hs,hun,ho,zd⟩
  rcases(by omega:zj=0∨zj=1∨zj=2∨zj=3∨zj=4∨zj=5∨zj=6∨zj=7∨zj=8∨zj=9∨zj=10∨zj=11∨zj=12∨zj=13∨zj=14∨zj=15∨zj=16) with rfl | rfl | rfl | rfl | rfl | rfl | rfl | rfl | rfl | rfl | rfl | rfl | rfl | rfl | rfl | rfl | rfl
  ·obtain rfl:=oi ho;exact G.nl 0 rfl (by simp[execOp,go_sem,e2x])
  ·obtain rfl:=oi ho;have HLw:=HL.out.next hb1;have x0:=HLw.cell 0;simp only[List.getElem?_toArray,List.getElem?_cons_zero]at x0;have p0:=G.d 0 rfl;exact G.nl 1 rfl (by simp[execOp,go_sem,aA p0,x0])
  ·obtain rfl:=oi ho;have p1:=G.d 1 rfl;exact G.nl 2 rfl (by simp[execOp,go_sem,aA p1,e0'])
  ·obtain rfl:=oi ho;have p2:=G.d 2 rfl;exact G.nl 3 rfl (by simp[execOp,go_sem,aA p2])
  ·obtain rfl:=oi ho;have pg:=G.g 3 rfl;cases b0 with
   | false=>exact G.sk 4 rfl pg rfl
   | true=>
    have HLw:=HL.out.next hb1;exact G.vl 4 rfl pg rfl (aL 32 (.tmp 2) rfl q 0 ((hI.off.eval (by decide)).trans hq2) _ _ HLw.range Tryz.underlying32 rfl jA)
  ·obtain rfl:=oi ho;have pg:=G.g 3 rfl;cases b0 with
   | false=>exact G.sk 5 rfl pg rfl
   | true=>
    have p4:=G.d 4 rfl;refine dA (inT 5 rfl) hk hI hs hun ho zd (Eq.trans (aN rfl rfl rfl pg) rfl) rfl 77 #[rQ v] (by simp[go_sem,aA p4]) ?_;refine(HVR.out w1).mono ?_;rintro e w2 ⟨rfl,hb⟩;rw[hvr];exact⟨rfl,hb1.trans (hb.mono hb1.size)⟩
  ·obtain rfl:=oi ho;cases b0
   all_goals have p3:=G.d 3 rfl
   all_goals have p5:=G.d 5 rfl
   all_goals exact G.nl 6 rfl (by simp[execOp,go_sem,aA p3,aA p5,h1])
  ·obtain rfl:=oi ho;have p6:=G.d 6 rfl;exact G.nl 7 rfl (by simp[execOp,go_sem,aA p6])
  ·obtain rfl:=oi ho;have pg:=G.g 7 rfl;cases c1 with
   | false=>exact G.sk 8 rfl pg rfl
   | true=>
    exact G.vl 8 rfl pg rfl (by simp[execOp,go_sem,e1x])
  ·obtain rfl:=oi ho;have pg:=G.g 7 rfl;cases c1 with
   | false=>exact G.sk 9 rfl pg rfl
   | true=>
    have p8:=G.d 8 rfl;exact G.vl 9 rfl pg rfl (by simp[execOp,go_sem,aA p8])
  ·obtain rfl:=oi ho;have pg:=G.g 9 rfl;cases c1 with
   | false=>exact bB hk hI hs (inT 10 rfl) fG hun ho zd (aO rfl rfl rfl pg) rfl
   | true=>
    cases m with
    | true=>exact G.sk 10 rfl pg rfl
    | false=>
     exact G.vl 10 rfl pg rfl (by simp[execOp,go_sem,e2x])
  ·obtain rfl:=oi ho;have pg:=G.g 9 rfl;cases c1 with
   | false=>exact bB hk hI hs (inT 11 rfl) fG hun ho zd (aO rfl rfl rfl pg) rfl
   | true=>
    cases m with
    | true=>exact G.sk 11 rfl pg rfl
    | false=>
     have p10:=G.d 10 rfl;exact G.vl 11 rfl pg rfl (by simp[execOp,go_sem,aA p10])
  ·obtain rfl:=oi ho;have pg:=G.g 9 rfl;cases c1 with
   | false=>exact bB hk hI hs (inT 12 rfl) fG hun ho zd (aO rfl rfl rfl pg) rfl
   | true=>
    cases m with
    | true=>exact G.sk 12 rfl pg rfl
    | false=>
     have HLw:=HL.out.next hb1;have x1:=HLw.cell 1;simp only[List.getElem?_toArray,List.getElem?_cons_zero,List.getElem?_cons_succ]at x1;have p11:=G.d 11 rfl;exact G.vl 12 rfl pg rfl (by simp[execOp,go_sem,aA p11,x1])
  ·obtain rfl:=oi ho;have pg:=G.g 9 rfl;cases c1 with
   | false=>exact bB hk hI hs (inT 13 rfl) fG hun ho zd (aO rfl rfl rfl pg) rfl
   | true=>
    cases m with
    | true=>exact G.sk 13 rfl pg rfl
    | false=>
     have p12:=G.d 12 rfl;exact G.vl 13 rfl pg rfl (by simp[execOp,go_sem,aA p12,hb2])
  ·obtain rfl:=oi ho;have pg:=G.g 7 rfl;cases c1 with
   | false=>exact G.sk 14 rfl pg rfl
   | true=>
    cases m
    all_goals have p9:=G.d 9 rfl
    all_goals have p13:=G.d 13 rfl
    all_goals exact G.vl 14 rfl pg rfl (by simp[execOp,go_sem,aA p9,aA p13,hd])
  ·obtain rfl:=oi ho;cases c1
   all_goals have p7:=G.d 7 rfl
   all_goals have p14:=G.d 14 rfl
   all_goals exact G.nl 15 rfl (by simp[execOp,go_sem,aA p7,aA p14,h2])
  ·obtain rfl:=oi ho;have p15:=G.d 15 rfl;exact G.nl 16 rfl (by simp[execOp,go_sem,aA p15])
 ·intro zl a1 w1 hI hup;have hb1:Below W1.heap.size W1 w1:=hI.st;have hTT:=HTT.out;subst hTT;have z4:=hI.ptk 16 rfl (hup 16 (by decide));obtain⟨ff,rfl,hf⟩:=hI.off.forms;rw[← hf 4]at z4;clear hI;simp only[List.foldl,Act.put,List.setIfInBounds_toArray,List.set];rw[z4]
  go_wp2_with fail
  go_ret
  exact⟨by rw[HR.out];rfl,by first | exact HB.out.trans (hb1.mono HB.out.size) |(rw[hq];exact HB.out.trans (hb1.mono (by have:=HB.out.size;omega)))⟩
structure RfMk(q base:Nat)(acc:List IdR)(fl:List Bool)(v1 v2:Value)(W:World):Prop where
 ax:Lies W q 85 #[v1,v2]
 r1:W.ownsRow base 34 2 v1 acc.length (cM acc)
 r2:W.ownsRow base 4 1 v2 acc.length (fl.map Value.bool)
theorem RfMk.next{q base:Nat}{acc:List IdR}{fl:List Bool}{v1 v2:Value}{W W':World}(h:RfMk q base acc fl v1 v2 W)(hb:Below W.heap.size W W'):RfMk q base acc fl v1 v2 W' :=
 ⟨h.ax.next hb,fW hb h.r1,fW hb h.r2⟩
theorem oV:∀ (l:List IdR) (k:Nat) (h:k<l.length),(cM l)[k*2]?=some (.int .i64 l[k].a)∧(cM l)[k*2+1]?=some (.int .i64 l[k].n)
 | [],_,h=>absurd h (by simp)
 | x::r,0,_=>⟨rfl,rfl⟩
 | x::r,k+1,h=>by
  have:=oV r k (by simpa using h);have e:cM (x::r)=[.int .i64 x.a,.int .i64 x.n]++cM r:=rfl;rw[e,List.getElem?_append_right (by simp;omega),List.getElem?_append_right (by simp;omega)];simp only[List.length_cons,List.length_nil,Nat.zero_add];rw[show (k+1)*2-2=k*2 by omega,show (k+1)*2+1-2=k*2+1 by omega];exact this
theorem own_ids3{W:World}{base g cap n:Nat}{l:List IdR}(h:W.ownsRow base 34 2 (.slice (some ⟨g,0,none⟩) n cap) n (cM l))(k:Nat)(hk:k<l.length):W.rangeAt g (k*2) [.int .i64 l[k].a,.int .i64 l[k].n]:=fun j v hv=>by
 have hc:=h.cells (g:=g) rfl;obtain⟨h1,h2⟩:=oV l k hk;have k1:=hc _ _ h1;have k2:=hc _ _ h2;rw[Addr.add_mid,Nat.zero_add]at k1 k2
 match j,hv with
 | 0,hv=>simp at hv;subst hv;exact k1
 | 1,hv=>simp at hv;subst hv;exact k2
theorem id_if{x y:IdR}{b:Bool}(h:decide (y=x)=b)(w:World):(if y.a=x.a then (if y.n=x.n then Result.ok (Next.value (.bool true)) w else Result.ok (Next.value (.bool false)) w) else Result.ok (Next.value (.bool false)) w)=Result.ok (Next.value (.bool b)) w:=by
 subst h;obtain⟨a,n⟩:=x;obtain⟨a2,n2⟩:=y;by_cases h1:a2=a
 ·by_cases h2:n2=n
  ·subst h1 h2;simp
  ·simp[h2]
 ·simp[h1]
theorem oW:(Tryz.prog.info? 34).map (·.size)=some 2:=by kernel_rfl
def kF(x:IdR):Nat→List IdR→Int
 | _,[]=>-1
 | i,y::r=>if y=x then (i:Int) else kF x (i+1) r
def pH(l:List IdR)(x:IdR):Int:=kF x 0 l
theorem wE(x:IdR):∀ (l:List IdR) (i k:Nat),x∉l.take k→l[k]?=some x→kF x i l=((i+k:Nat):Int)
 | [],_,_,_,h=>by simp at h
 | y::r,i,0,_,h=>by
  simp at h;unfold kF;rw[if_pos h];rfl
 | y::r,i,k+1,hn,h=>by
  rw[List.take_succ_cons,List.mem_cons,not_or]at hn;unfold kF;rw[if_neg (fun e=>hn.1 e.symm),wE x r (i+1) k hn.2 (by simpa using h)]
  congr 1
  omega
theorem qJ(x:IdR):∀ (l:List IdR) (i:Nat),x∉l→kF x i l=-1
 | [],_,_=>rfl
 | y::r,i,hn=>by
  rw[List.mem_cons,not_or]at hn;unfold kF;rw[if_neg (fun e=>hn.1 e.symm),qJ x r (i+1) hn.2]
theorem wF(x:IdR):∀ (l:List IdR) (i:Nat),x∈l→∃ k:Nat,kF x i l=((i+k:Nat):Int)∧l[k]?=some x
 | [],_,h=>by cases h
 | y::r,i,h=>by
  by_cases e:y=x
  ·exact⟨0,by unfold kF;rw[if_pos e];rfl,by simp[e]⟩
  ·obtain⟨k,h1,h2⟩:=wF x r (i+1) ((List.mem_cons.1 h).resolve_left (fun e'=>e e'.symm));exact⟨k+1,by unfold kF;rw[if_neg e,h1];congr 1;omega,by simpa using h2⟩
theorem wG(l:List IdR)(x:IdR):(pH l x<0↔x∉l):=by
 by_cases h:x∈l
 ·obtain⟨k,h1,_⟩:=wF x l 0 h;unfold pH;rw[h1];exact⟨fun h'=>by omega,fun h'=>absurd h h'⟩
 ·unfold pH;rw[qJ x l 0 h];exact⟨fun _=>h,fun _=>by decide⟩
set_option maxRecDepth 1000000 in
set_option maxHeartbeats 3200000 in
theorem uIC(q base:Nat)(l:List IdR)(fl:List Bool)(v1 v2:Value)(x:IdR)(w:World)(hM:RfMk q base l fl v1 v2 w)(hl:l.length≤100000) :
  Calls Tryz.prog 32 #[.pointer (some ⟨q,0,none⟩),idV x] w fun e w'=>e=.returned (.int .i64 (pH l x))∧Below w.heap.size w w':=by
 obtain⟨W1,hW1⟩:∃ W1,W1=w.alloc (.cells #[.int .i64 x.a,.int .i64 x.n] 34):=⟨_,rfl⟩
 have HW1:=zh hW1;have HL:Hid (Lies W1 w.heap.size 34 #[.int .i64 x.a,.int .i64 x.n]):=zh (by rw[hW1];exact Lies.new _ _ _);have hb1:Below w.heap.size w W1:=by rw[hW1];exact(Below.refl _ _).alloc (Nat.le_refl _) _
 have HB:=zh hb1;have HM:=zh (hM.next hb1);obtain⟨A,cap,rfl⟩:=fC hM.r1;have HLn:=zh hl;clear hW1 hb1 hM hl
 go_enter Tryz.func32,Tryz.ntmps32
 go_upto_region 1 with fail
 rw[← HW1.out];generalize hq:w.heap.size=qb at *;clear HW1
 go_wp2_with fail
 go_loopw [5] (fun v wr=>∃ k:Nat,k≤l.length∧v=.int .i64 (k:Int)∧Hid (x∉l.take k)∧Hid (Below W1.heap.size W1 wr)) (fun v _=>l.length-(intOf v).toNat)
 case atStart=>exact⟨0,Nat.zero_le _,rfl,zh (by simp),zh (Below.refl _ _)⟩
 case round=>
  obtain⟨k,hk,rfl,hnot,hbr⟩:=hrel;have HMr:=zh (HM.out.next hbr.out);have a0:wr.cell? ⟨q,0,none⟩=some (.slice A l.length cap):=HMr.out.ax.cell 0;have hkb:(k:Int)≤100000:=by have:=HLn.out;omega
  by_cases hlt:k<l.length
  ·have hki:(k:Int)<(l.length:Int):=by omega
   obtain⟨g,cap',hv,hgb,hgl⟩:=HMr.out.r1.form (by omega);cases hv;have HRg:=zh (own_ids3 HMr.out.r1 k hlt);obtain⟨y,hy⟩:∃ y,l[k]=y:=⟨_,rfl⟩
   rw[hy]at HRg;have HY:=zh hy;clear hy;obtain⟨b,hb⟩:∃ b,decide (y=x)=b:=⟨_,rfl⟩
   have HBb:=zh hb;clear hb;have HLr:=zh (HL.out.next hbr.out);obtain⟨Wr,hWr⟩:∃ Wr,Wr=wr:=⟨_,rfl⟩
   subst hWr
   go_upto_region 4 with fail
   clear a0
   go_cut [23] (fun v wx=>v=.bool b∧Hid (Below Wr.heap.size Wr wx))
   case first=>
    obtain⟨TT,hTT⟩:∃ TT:List (Nat×Nat×Value),TT=((0,15,.pointer (some ⟨q,0,none⟩))::(1,16,.pointer (some ⟨q,0,none⟩))::(2,17,.pointer (some ⟨q,0,none⟩))::(3,18,.slice (some ⟨g,0,none⟩) l.length cap)::(4,19,.int .i64 (k:Int))::(5,20,.pointer (some ⟨g,k*2,none⟩))::(6,21,idV y)::(7,22,idV x)::(8,23,.bool b)::[]):=⟨_,rfl⟩
    have HTT:=zh hTT;clear hTT;refine bJ (fun a0=>25≤a0.tmps.size∧a0.eval (.tmp 0)=.pointer (some ⟨q,0,none⟩)∧a0.eval (.tmp 3)=.pointer (some ⟨qb,0,none⟩)∧a0.eval (.tmp 5)=.int .i64 (k:Int)) (15::16::17::18::19::20::21::22::23::[]) TT [] (fun w'=>Below Wr.heap.size Wr w') (by kernel_rfl) (by kernel_rfl) ⟨by simp,rfl,rfl,rfl⟩ (Below.refl _ _).drew ?_ ?_
    ·rintro a0 ⟨hs,hq0,hq3,hq5⟩ zl a1 w1 zj o hsz hI hun ho zd;have hb1:Below Wr.heap.size Wr w1:=hI.st;have hTT:=HTT.out;have hk:okU (TT.map fun e=>(e.1,e.2.1)) (15::16::17::18::19::20::21::22::23::[]) 25=true:=by rw[hTT];rfl
     subst hTT;have e0x:=aA ((hI.off.eval (by decide)).trans hq0);have e3x:=aA ((hI.off.eval (by decide)).trans hq3);have e5x:=aA ((hI.off.eval (by decide)).trans hq5);have hj:=Up.of_false hun;have hj12:zj<9:=by rw[hsz]at hj;exact hj
     have G:RG _ _ _ _ _ _ _ _ _ _ _:=⟨hk,hI,hs,hun,ho,zd⟩
     rcases(by omega:zj=0∨zj=1∨zj=2∨zj=3∨zj=4∨zj=5∨zj=6∨zj=7∨zj=8) with rfl | rfl | rfl | rfl | rfl | rfl | rfl | rfl | rfl
     ·obtain rfl:=oi ho;exact G.nl 0 rfl (by simp[execOp,go_sem,e0x])
     ·obtain rfl:=oi ho;have p0:=G.d 0 rfl;exact G.nl 1 rfl (by simp[execOp,go_sem,aA p0])
     ·obtain rfl:=oi ho;have p1:=G.d 1 rfl;exact G.nl 2 rfl (by simp[execOp,go_sem,aA p1])
     ·obtain rfl:=oi ho;have xq:w1.cell? ⟨q,0,none⟩=some (.slice (some ⟨g,0,none⟩) l.length cap):=(HMr.out.next hb1).ax.cell 0;have p2:=G.d 2 rfl;exact G.nl 3 rfl (by simp[execOp,go_sem,aA p2,xq])
     ·obtain rfl:=oi ho;exact G.nl 4 rfl (by simp[execOp,go_sem,e5x])
     ·obtain rfl:=oi ho;have p3:=G.d 3 rfl;have p4:=G.d 4 rfl;exact G.nl 5 rfl (by simp[execOp,go_sem,aA p3,aA p4,hki])
     ·obtain rfl:=oi ho;have p5:=G.d 5 rfl;exact G.nl 6 rfl (aL 34 (.tmp 20) rfl g (k*2) p5 _ _ (fun j v hv=>(hb1.cell (p:=⟨g,k*2+j,none⟩) hgl).trans (HRg.out j v hv)) Tryz.underlying34 rfl oW)
     ·obtain rfl:=oi ho;exact G.nl 7 rfl (aL 34 (.tmp 3) rfl qb 0 ((hI.off.eval (by decide)).trans hq3) _ _ ((HLr.out.next hb1).range) Tryz.underlying34 rfl oW)
     ·obtain rfl:=oi ho;have p6:=G.d 6 rfl;have p7:=G.d 7 rfl;exact G.nl 8 rfl (by simp[execOp,go_sem,aA p6,aA p7];exact id_if HBb.out w1)
    ·intro zl a1 w1 hI hup;have hb1:Below Wr.heap.size Wr w1:=hI.st;have hTT:=HTT.out;subst hTT;have z23:=hI.ptk 8 rfl (hup 8 (by decide));obtain⟨ff,rfl,hf⟩:=hI.off.forms;rw[← hf 23]at z23;clear hI;simp only[List.foldl,Act.put,List.setIfInBounds_toArray,List.set];rw[z23];simp only[Exit.then]
     go_step
     go_meet
     exact⟨rfl,zh hb1⟩
   case rest=>
    obtain⟨rfl,hbc⟩:=hcut;have HBn:=zh (hbr.out.trans (hbc.out.mono hbr.out.size));clear hbc;cases b with
    | true=>
     have hyx:y=x:=of_decide_eq_true HBb.out
     go_wp2_with fail
     go_ret
     exact⟨by rw[show pH l x=(k:Int) from(wE x l 0 k hnot.out (by rw[List.getElem?_eq_getElem hlt,HY.out,hyx])).trans (by rw[Nat.zero_add])];rfl,by first | exact HB.out.trans (HBn.out.mono (by have:=HB.out.size;omega)) |(rw[hq];exact HB.out.trans (HBn.out.mono (by have:=HB.out.size;omega)))⟩
    | false=>
     have hyx:y≠x:=of_decide_eq_false HBb.out
     go_wp2_with fail
     go_roundw
     case rel=>exact⟨k+1,by omega,by go_num,zh (by rw[List.take_succ_eq_append_getElem hlt,HY.out,List.mem_append,not_or];exact⟨hnot.out,fun h=>hyx (List.mem_singleton.1 h).symm⟩),HBn⟩
     case measure=>first |(simp[intOf];done) |(simp[intOf];omega)
  ·obtain rfl:k=l.length:=by omega
   go_wp2_with fail
   go_ret
   exact⟨by rw[show pH l x=-1 from qJ x l 0 (by have:=hnot.out;rwa [List.take_length]at this)];rfl,by first | exact HB.out.trans (hbr.out.mono (by have:=HB.out.size;omega)) |(rw[hq];exact HB.out.trans (hbr.out.mono (by have:=HB.out.size;omega)))⟩
set_option maxRecDepth 1000000 in
set_option maxHeartbeats 6400000 in
theorem rnew_any(A:Option Addr)(cap:Nat)(ids:List IdR)(w:World)(hA:lW w A ids)(hn:ids.length≤300) :
  Calls Tryz.prog 19 #[.slice A ids.length cap] w fun e w'=>∃ v1 v2,e=.returned (.pointer (some ⟨w.heap.size,0,none⟩))∧RfMk w.heap.size (w.heap.size+1) (cO ids) (List.replicate (cO ids).length true) v1 v2 w'∧Below w.heap.size w w':=by
 have HA:=zh hA;have HS:=zh (jG ids);have HLn:=zh (qI ids);have HAll:Hid (cO (ids.take ids.length)=cO ids):=zh (by rw[List.take_length]);obtain⟨n,hnn⟩:∃ n,n=ids.length:=⟨_,rfl⟩
 have HN:=zh hnn;rw[← hnn]at hn ⊢;clear hA hnn;obtain⟨W1,hW1⟩:∃ W1,W1=w.alloc (.cells #[.slice none 0 0,.slice none 0 0] 85):=⟨_,rfl⟩
 have HM0:Hid (RfMk w.heap.size (w.heap.size+1) [] [] (.slice none 0 0) (.slice none 0 0) W1):=zh (by rw[hW1];exact⟨Lies.new w _ _,⟨rfl,.inl ⟨rfl,rfl⟩⟩,⟨rfl,.inl ⟨rfl,rfl⟩⟩⟩);have HB0:Hid (Below w.heap.size w W1):=zh (by rw[hW1];exact(Below.refl _ _).alloc (Nat.le_refl _) _);have HZ0:Hid (w.heap.size+1≤W1.heap.size):=zh (by rw[hW1];simp);have HW1:=zh hW1;clear hW1
 go_enter Tryz.func19,Tryz.ntmps19
 go_upto_region 2 with fail
 rw[← HW1.out];clear HW1
 go_wp2_with fail
 go_loopw [4] (fun v wx=>∃ (k:Nat) (v1 v2:Value),v=.int .i64 (k:Int)∧k≤n∧Hid (RfMk w.heap.size (w.heap.size+1) (cO (ids.take k)) (List.replicate (cO (ids.take k)).length true) v1 v2 wx)∧Hid (Below w.heap.size w wx)∧Hid (w.heap.size+1≤wx.heap.size)) (fun v _=>n-(intOf v).toNat)
 case atStart=>exact⟨0,_,_,rfl,Nat.zero_le _,HM0,HB0,HZ0⟩
 case round=>
  obtain⟨k,v1,v2,rfl,hk,hM,hB,hZ⟩:=hrel;generalize hqe:w.heap.size=q at *;have HQ:=zh hqe;clear hqe HM0 HB0 HZ0;by_cases hlt:k<n
  ·have hki:k<ids.length:=by rw[← HN.out];exact hlt
   have hkn:(k:Int)<(n:Int):=by omega
   have hkb:(k:Int)≤300:=by omega
   obtain⟨ga,oa,rfl,hga,hrow⟩:=HA.out (by omega);obtain⟨c0,c1⟩:=hrow k hki;have hacc:=Nat.le_trans (HLn.out k (by omega)) (Nat.le_of_lt hki);have HSt:=zh (HS.out k hki);have HRx:Hid (wr.rangeAt ga (oa+k*2) [.int .i64 ids[k].a,.int .i64 ids[k].n]):=zh (fun j v hv=>by
    match j,hv with
    | 0,hv=>simp at hv;subst hv;exact(hB.out.cell (p:=⟨ga,_,none⟩) (by rw[← HQ.out];exact hga)).trans c0
    | 1,hv=>simp at hv;subst hv;exact(hB.out.cell (p:=⟨ga,_,none⟩) (by rw[← HQ.out];exact hga)).trans c1)
   have hga2:ga<wr.heap.size:=by have:=hZ.out;rw[HQ.out]at hga;omega
   rw[← HN.out]at hacc;generalize ids[k]=x at *;generalize cO (ids.take k)=acc at *;generalize hnew:cO (ids.take (k+1))=acc' at *;have HNew:=zh hnew;clear hnew c0 c1 hrow;obtain⟨A1,cap1,rfl⟩:=fC hM.out.r1;obtain⟨A2,cap2,rfl⟩:=fC hM.out.r2;generalize hle:acc.length=m at *;have HLe:=zh hle;clear hle;obtain⟨b0,hb0⟩:∃ b,decide (x≠id0)=b:=⟨_,rfl⟩
   obtain⟨b1,hb1⟩:∃ b,decide (pH acc x<0)=b:=⟨_,rfl⟩
   obtain⟨d,hd⟩:∃ d,d=(b0&&b1):=⟨_,rfl⟩
   have hN1:∀ w:World,(binOp .neq 34 (idV x) (idV id0)).run Tryz.prog w=.ok (.bool b0) w:=fun w=>by rw[mP,hb0]
   have HBs:=zh (And.intro hb0 (And.intro hb1 (And.intro hd hN1)));have HD:Hid (acc'=if d then acc++[x] else acc):=zh (by
    rw[HSt.out,lE,hd,← hb0,← hb1];by_cases h1:x=id0
    ·rw[if_pos (.inl h1)];simp[h1]
    ·by_cases h2:x∈acc
     ·have hn:¬ pH acc x<0:=fun h=>(wG acc x).1 h h2
      rw[if_pos (.inr h2),if_neg (by simp[h1];exact Int.not_lt.1 hn)]
     ·rw[if_neg (by simp[h1,h2]),if_pos];have:=(wG acc x).2 h2;simp[h1,this])
   clear hb0 hb1 hd hN1 HSt;obtain⟨Wr,hWr⟩:∃ Wr,Wr=wr:=⟨_,rfl⟩
   subst hWr
   go_upto_region 5 with fail
   go_cut [35] (fun v wx=>v=.bool d∧Hid (Below Wr.heap.size Wr wx))
   case first=>
    obtain⟨hb0,hb1,hd,hN1⟩:=HBs.out
    obtain⟨TT,hTT⟩:∃ TT:List (Nat×Nat×Value),TT=((0,13,.slice (some ⟨ga,oa,none⟩) n cap)::(1,14,.int .i64 (k:Int))::(2,15,.pointer (some ⟨ga,oa+k*2,none⟩))::(3,16,idV x)::(4,17,idV id0)::(5,18,.bool b0)::(6,19,.bool b0)::(7,20,(bif b0 then .pointer (some ⟨q,0,none⟩) else undef))::(8,21,(bif b0 then .slice (some ⟨ga,oa,none⟩) n cap else undef))::(9,22,(bif b0 then .int .i64 (k:Int) else undef))::(10,23,(bif b0 then .pointer (some ⟨ga,oa+k*2,none⟩) else undef))::(11,24,(bif b0 then idV x else undef))::(12,25,(bif b0 then .int .i64 (pH acc x) else undef))::(13,26,(bif b0 then .bool b1 else undef))::(14,27,.bool d)::(15,28,.bool d)::(16,29,(bif d then .pointer (some ⟨q,0,none⟩) else undef))::(17,30,(bif d then .pointer (some ⟨q,0,none⟩) else undef))::(18,31,(bif d then .pointer (some ⟨q,0,none⟩) else undef))::(19,32,(bif d then .slice A1 m cap1 else undef))::(20,33,(bif d then .int .i64 (m:Nat) else undef))::(21,34,(bif d then .bool true else undef))::(22,35,.bool d)::[]):=⟨_,rfl⟩
    have HTT:=zh hTT;clear hTT;refine bA (fun a0=>59≤a0.tmps.size∧a0.eval (.tmp 0)=.slice (some ⟨ga,oa,none⟩) n cap∧a0.eval (.tmp 3)=.pointer (some ⟨q,0,none⟩)∧a0.eval (.tmp 4)=.int .i64 (k:Int)) (13::14::15::16::17::18::19::20::21::22::23::24::25::26::27::28::29::30::31::32::33::34::35::[]) TT [] (fun w'=>Below Wr.heap.size Wr w') (by kernel_rfl) ⟨by simp,rfl,rfl,rfl⟩ (Below.refl _ _) ?_ ?_
    ·rintro a0 ⟨hs,hq0,hq3,hq4⟩ zl a1 w1 zj o hsz hI hun ho zd;have hb1w:Below Wr.heap.size Wr w1:=hI.st;have hTT:=HTT.out;have hk:okU (TT.map fun e=>(e.1,e.2.1)) (13::14::15::16::17::18::19::20::21::22::23::24::25::26::27::28::29::30::31::32::33::34::35::[]) 59=true:=by rw[hTT];rfl
     subst hTT;have e0x:=aA ((hI.off.eval (by decide)).trans hq0);have e3x:=aA ((hI.off.eval (by decide)).trans hq3);have e4x:=aA ((hI.off.eval (by decide)).trans hq4);have hj:=Up.of_false hun;have hj12:zj<23:=by rw[hsz]at hj;exact hj
     have G:RG _ _ _ _ _ _ _ _ _ _ _:=⟨hk,hI,hs,hun,ho,zd⟩
     rcases(by omega:zj=0∨zj=1∨zj=2∨zj=3∨zj=4∨zj=5∨zj=6∨zj=7∨zj=8∨zj=9∨zj=10∨zj=11∨zj=12∨zj=13∨zj=14∨zj=15∨zj=16∨zj=17∨zj=18∨zj=19∨zj=20∨zj=21∨zj=22) with rfl | rfl | rfl | rfl | rfl | rfl | rfl | rfl | rfl | rfl | rfl | rfl | rfl | rfl | rfl | rfl | rfl | rfl | rfl | rfl | rfl | rfl | rfl
     ·obtain rfl:=oi ho;exact G.nl 0 rfl (by simp[execOp,go_sem,e0x])
     ·obtain rfl:=oi ho;exact G.nl 1 rfl (by simp[execOp,go_sem,e4x])
     ·obtain rfl:=oi ho;have p0:=G.d 0 rfl;have p1:=G.d 1 rfl;exact G.nl 2 rfl (by simp[execOp,go_sem,aA p0,aA p1,hkn])
     ·obtain rfl:=oi ho;have p2:=G.d 2 rfl;exact G.nl 3 rfl (aL 34 (.tmp 15) rfl ga (oa+k*2) p2 _ _ (fun j v hv=>(hb1w.cell (p:=⟨ga,oa+k*2+j,none⟩) hga2).trans (HRx.out j v hv)) Tryz.underlying34 rfl oW)
     ·obtain rfl:=oi ho;exact G.nl 4 rfl (by simp[execOp,go_sem])
     ·obtain rfl:=oi ho;have p3:=G.d 3 rfl;have p4:=G.d 4 rfl;exact G.nl 5 rfl (by simp[execOp,go_sem,aA p3,aA p4,hN1])
     ·obtain rfl:=oi ho;have p5:=G.d 5 rfl;exact G.nl 6 rfl (by simp[execOp,go_sem,aA p5])
     ·obtain rfl:=oi ho;have pg:=G.g 6 rfl;cases b0 with
      | false=>exact G.sk 7 rfl pg rfl
      | true=>
       exact G.vl 7 rfl pg rfl (by simp[execOp,go_sem,e3x])
     ·obtain rfl:=oi ho;have pg:=G.g 6 rfl;cases b0 with
      | false=>exact G.sk 8 rfl pg rfl
      | true=>
       exact G.vl 8 rfl pg rfl (by simp[execOp,go_sem,e0x])
     ·obtain rfl:=oi ho;have pg:=G.g 6 rfl;cases b0 with
      | false=>exact G.sk 9 rfl pg rfl
      | true=>
       exact G.vl 9 rfl pg rfl (by simp[execOp,go_sem,e4x])
     ·obtain rfl:=oi ho;have pg:=G.g 6 rfl;cases b0 with
      | false=>exact G.sk 10 rfl pg rfl
      | true=>
       have p8:=G.d 8 rfl;have p9:=G.d 9 rfl;exact G.vl 10 rfl pg rfl (by simp[execOp,go_sem,aA p8,aA p9,hkn])
     ·obtain rfl:=oi ho;have pg:=G.g 6 rfl;cases b0 with
      | false=>exact G.sk 11 rfl pg rfl
      | true=>
       have p10:=G.d 10 rfl;exact G.vl 11 rfl pg rfl (aL 34 (.tmp 23) rfl ga (oa+k*2) p10 _ _ (fun j v hv=>(hb1w.cell (p:=⟨ga,oa+k*2+j,none⟩) hga2).trans (HRx.out j v hv)) Tryz.underlying34 rfl oW)
     ·obtain rfl:=oi ho;have pg:=G.g 6 rfl;cases b0 with
      | false=>exact G.sk 12 rfl pg rfl
      | true=>
       have p7:=G.d 7 rfl;have p11:=G.d 11 rfl;refine dA (inT 12 rfl) hk hI hs hun ho zd (Eq.trans (aN rfl rfl rfl pg) rfl) rfl 32 #[.pointer (some ⟨q,0,none⟩),idV x] (by simp[go_sem,aA p7,aA p11]) ?_;refine(uIC q (q+1) acc (List.replicate acc.length true) _ _ x w1 (by rw[HLe.out];exact hM.out.next hb1w) (by rw[HLe.out];omega)).mono ?_;rintro e w2 ⟨rfl,hb⟩;exact⟨rfl,hb1w.trans (hb.mono hb1w.size)⟩
     ·obtain rfl:=oi ho;have pg:=G.g 6 rfl;cases b0 with
      | false=>exact G.sk 13 rfl pg rfl
      | true=>
       have p12:=G.d 12 rfl;exact G.vl 13 rfl pg rfl (by simp[execOp,go_sem,aA p12,hb1])
     ·obtain rfl:=oi ho;cases b0
      all_goals have p6:=G.d 6 rfl
      all_goals have p13:=G.d 13 rfl
      all_goals exact G.nl 14 rfl (by simp[execOp,go_sem,aA p6,aA p13,hd])
     ·obtain rfl:=oi ho;have p14:=G.d 14 rfl;exact G.nl 15 rfl (by simp[execOp,go_sem,aA p14])
     ·obtain rfl:=oi ho;have pg:=G.g 15 rfl;cases d with
      | false=>exact G.sk 16 rfl pg rfl
      | true=>
       exact G.vl 16 rfl pg rfl (by simp[execOp,go_sem,e3x])
     ·obtain rfl:=oi ho;have pg:=G.g 15 rfl;cases d with
      | false=>exact G.sk 17 rfl pg rfl
      | true=>
       have p16:=G.d 16 rfl;exact G.vl 17 rfl pg rfl (by simp[execOp,go_sem,aA p16])
     ·obtain rfl:=oi ho;have pg:=G.g 15 rfl;cases d with
      | false=>exact G.sk 18 rfl pg rfl
      | true=>
       have p17:=G.d 17 rfl;exact G.vl 18 rfl pg rfl (by simp[execOp,go_sem,aA p17])
     ·obtain rfl:=oi ho;have pg:=G.g 15 rfl;cases d with
      | false=>exact G.sk 19 rfl pg rfl
      | true=>
       have xq:w1.cell? ⟨q,0,none⟩=some (.slice A1 m cap1):=(hM.out.next hb1w).ax.cell 0;have p18:=G.d 18 rfl;exact G.vl 19 rfl pg rfl (by simp[execOp,go_sem,aA p18,xq])
     ·obtain rfl:=oi ho;have pg:=G.g 15 rfl;cases d with
      | false=>exact G.sk 20 rfl pg rfl
      | true=>
       have p19:=G.d 19 rfl;exact G.vl 20 rfl pg rfl (by simp[go_sem,aA p19])
     ·obtain rfl:=oi ho;have pg:=G.g 15 rfl;cases d with
      | false=>exact G.sk 21 rfl pg rfl
      | true=>
       have hm1000:(m:Int)<1000:=by omega
       have p20:=G.d 20 rfl;exact G.vl 21 rfl pg rfl (by simp[execOp,go_sem,aA p20,hm1000])
     ·obtain rfl:=oi ho;cases d
      all_goals have p15:=G.d 15 rfl
      all_goals have p21:=G.d 21 rfl
      all_goals exact G.nl 22 rfl (by simp[execOp,go_sem,aA p15,aA p21])
    ·intro zl a1 w1 hI hup;have hb1w:Below Wr.heap.size Wr w1:=hI.st;have hTT:=HTT.out;subst hTT;have z35:=hI.ptk 22 rfl (hup 22 (by decide));obtain⟨ff,rfl,hf⟩:=hI.off.forms;rw[← hf 35]at z35;clear hI;simp only[List.foldl,Act.put,List.setIfInBounds_toArray,List.set];rw[z35];simp only[Exit.then]
     go_step
     go_meet
     exact⟨rfl,zh hb1w⟩
   case rest=>
    obtain⟨rfl,hbc⟩:=hcut;have hM4:=zh (hM.out.next hbc.out);have hB4:=zh (hB.out.trans (hbc.out.mono (by have:=hZ.out;omega)));have hZ4:Hid (q+1≤wc.heap.size):=zh (by have:=hbc.out.size;have:=hZ.out;omega);have hst:=HD.out;have HRx4:Hid (wc.rangeAt ga (oa+k*2) [.int .i64 x.a,.int .i64 x.n]):=zh (fun j v hv=>(hbc.out.cell (p:=⟨ga,oa+k*2+j,none⟩) hga2).trans (HRx.out j v hv));have hga4:ga<wc.heap.size:=Nat.lt_of_lt_of_le hga2 hbc.out.size;clear hM hB hZ HRx hga2 HBs HD hbc;cases d
    ·rw[if_neg (by decide)]at hst;have HST:=zh hst;clear hst
     go_wp2_with fail
     go_roundw
     case rel=>exact⟨k+1,_,_,by go_num,by omega,by rw[HNew.out,HST.out,HLe.out];exact hM4,hB4,hZ4⟩
     case measure=>first |(simp[intOf];done) |(simp[intOf];omega)
    ·rw[if_pos rfl]at hst;have HST:=zh hst;clear hst;obtain⟨W4,hW4⟩:∃ W4,W4=wc:=⟨_,rfl⟩
     subst hW4;have HX4:=zh hM4.out.ax;have HR1:Hid (W4.ownsRow (q+1) 34 2 (.slice A1 m cap1) m (cM acc)):=zh (by have:=hM4.out.r1;rwa [HLe.out]at this);have HR2:Hid (W4.ownsRow (q+1) 4 1 (.slice A2 m cap2) m ((List.replicate m true).map Value.bool)):=zh (by have:=hM4.out.r2;rwa [HLe.out]at this);have HY:Hid (∀ g,(Value.slice A1 m cap1).ownBlock=some g→g∈q::(Value.slice A1 m cap1).ownBlock.toList):=zh (fun g hg=>by rw[hg];simp);have hqe:q≤ga→False:=fun h=>by rw[HQ.out]at hga;omega
     have hbY:Hid (ga∉q::(Value.slice A1 m cap1).ownBlock.toList):=zh (fun h=>by
      rcases List.mem_cons.1 h with h | h
      ·exact hqe (by omega)
      ·have:=(cN HR1.out ga (by simpa using h)).1;exact hqe (by omega))
     go_upto_region 6 with fail
     go_cut [46] (fun v wx=>∃ v1',Hid (Lies wx q 85 #[v1',.slice A2 m cap2])∧Hid (wx.ownsRow (q+1) 34 2 v1' (m+1) (cM acc++[.int .i64 x.a,.int .i64 x.n]))∧Hid (Kp (q::(Value.slice A1 m cap1).ownBlock.toList) W4 wx))
     case first=>
      obtain⟨TT,hTT⟩:∃ TT:List (Nat×Nat×Value),TT=[(0,36,.pointer (some ⟨q,0,none⟩)),(1,37,.pointer (some ⟨q,0,none⟩)),(2,38,.pointer (some ⟨q,0,none⟩)),(3,39,.pointer (some ⟨q,0,none⟩)),(4,40,.slice A1 m cap1),(5,41,.slice (some ⟨ga,oa,none⟩) n cap),(6,42,.int .i64 (k:Int)),(7,43,.pointer (some ⟨ga,oa+k*2,none⟩)),(8,44,.agg #[.int .i64 x.a,.int .i64 x.n]),(11,47,.pointer (some ⟨q,0,none⟩)),(12,48,.pointer (some ⟨q,0,none⟩))]:=⟨_,rfl⟩
      have HTT:=zh hTT;clear hTT;refine fL (by kernel_rfl) (by kernel_rfl) (fun a0=>59≤a0.tmps.size∧a0.eval (.tmp 0)=.slice (some ⟨ga,oa,none⟩) n cap∧a0.eval (.tmp 3)=.pointer (some ⟨q,0,none⟩)∧a0.eval (.tmp 4)=.int .i64 (k:Int)) (GA [36,37,38,39,40,41,42,43,44,45,46,47,48] TT (q::(Value.slice A1 m cap1).ownBlock.toList) W4 4 9 45 10 46 13 q 0 34 85 #[.slice A1 m cap1,.slice A2 m cap2] (q+1) 2 m (.slice A1 m cap1) (cM acc) [.int .i64 x.a,.int .i64 x.n]) ⟨by simp,rfl,rfl,rfl⟩ (GA.start _ _ (Kp.refl _ _).drew HR1.out HX4.out) ?_ ?_
      ·rintro a0 ⟨hs,hq0,hq3,hq4⟩ zl a1 w1 j o hsz hI hun ho zd;have hTT:=HTT.out;subst hTT;have hk:GAk [36,37,38,39,40,41,42,43,44,45,46,47,48] [(0,36,.pointer (some ⟨q,0,none⟩)),(1,37,.pointer (some ⟨q,0,none⟩)),(2,38,.pointer (some ⟨q,0,none⟩)),(3,39,.pointer (some ⟨q,0,none⟩)),(4,40,.slice A1 m cap1),(5,41,.slice (some ⟨ga,oa,none⟩) n cap),(6,42,.int .i64 (k:Int)),(7,43,.pointer (some ⟨ga,oa+k*2,none⟩)),(8,44,.agg #[.int .i64 x.a,.int .i64 x.n]),(11,47,.pointer (some ⟨q,0,none⟩)),(12,48,.pointer (some ⟨q,0,none⟩))] (q::(Value.slice A1 m cap1).ownBlock.toList) 9 45 10 46 13 q 34 85 (.slice A1 m cap1) 59:=⟨rfl,by decide,HY.out,.head _⟩
       have hj:=Up.of_false hun;have hj12:j<14:=by rw[hsz]at hj;exact hj
       have e0x:a1.eval (.tmp 0)=.slice (some ⟨ga,oa,none⟩) n cap:=(hI.off.eval (by decide)).trans hq0;have e3x:a1.eval (.tmp 3)=.pointer (some ⟨q,0,none⟩):=(hI.off.eval (by decide)).trans hq3;have e4x:a1.eval (.tmp 4)=.int .i64 (k:Int):=(hI.off.eval (by decide)).trans hq4;rcases(by omega:j=0∨j=1∨j=2∨j=3∨j=4∨j=5∨j=6∨j=7∨j=8∨j=9∨j=10∨j=11∨j=12∨j=13) with rfl | rfl | rfl | rfl | rfl | rfl | rfl | rfl | rfl | rfl | rfl | rfl | rfl | rfl
       ·obtain rfl:=oi ho;exact bY hk hI hs (.head _) hun ho rfl rfl (by simp[execOp,go_sem,aA e3x])
       ·obtain rfl:=oi ho;exact bY hk hI hs (.tail _ (.head _)) hun ho rfl rfl (by simp[execOp,go_sem,aA e3x])
       ·obtain rfl:=oi ho;have d1:=ud zd 1;have p1:=pk hI.pt 1 rfl d1;exact bY hk hI hs (mm 2 rfl) hun ho rfl rfl (by simp[execOp,go_sem,aA p1])
       ·obtain rfl:=oi ho;have d2:=ud zd 2;have p2:=pk hI.pt 2 rfl d2;exact bY hk hI hs (mm 3 rfl) hun ho rfl rfl (by simp[execOp,go_sem,aA p2])
       ·obtain rfl:=oi ho;have d3:=ud zd 3;have p3:=pk hI.pt 3 rfl d3;have c0:=(hI.unl hun).cell 0;simp only[List.getElem?_toArray,List.getElem?_cons_zero]at c0;exact bY hk hI hs (mm 4 rfl) hun ho rfl rfl (by simp[execOp,go_sem,aA p3,c0])
       ·obtain rfl:=oi ho;exact bY hk hI hs (mm 5 rfl) hun ho rfl rfl (by simp[execOp,go_sem,aA e0x])
       ·obtain rfl:=oi ho;exact bY hk hI hs (mm 6 rfl) hun ho rfl rfl (by simp[execOp,go_sem,aA e4x])
       ·obtain rfl:=oi ho;have d5:=ud zd 5;have p5:=pk hI.pt 5 rfl d5;have d6:=ud zd 6;have p6:=pk hI.pt 6 rfl d6;exact bY hk hI hs (mm 7 rfl) hun ho rfl rfl (by simp[execOp,go_sem,aA p5,aA p6,hkn])
       ·obtain rfl:=oi ho;have d7:=ud zd 7;have p7:=pk hI.pt 7 rfl d7;exact bY hk hI hs (mm 8 rfl) hun ho rfl rfl (aL 34 (.tmp 43) rfl ga (oa+k*2) p7 [.int .i64 x.a,.int .i64 x.n] _ (fun j v hv=>(hI.kp.cell (g:=ga) (i:=oa+k*2+j) hga4 hbY.out).trans (HRx4.out j v hv)) Tryz.underlying34 rfl oW)
       ·obtain rfl:=oi ho;have d8:=ud zd 8;have p8:=pk hI.pt 8 rfl d8;exact sZ hk hI hs hun ho rfl rfl (by simp[execOp,go_sem,aA p8])
       ·obtain rfl:=oi ho;have d4:=ud zd 4;have p4:=pk hI.pt 4 rfl d4;have d9:=ud zd 9;obtain⟨i1,gi,gz0,gz1,gz2⟩:=info_parts uCW;exact uCU hk hI hs hun ho rfl rfl d4 d9 22 40 rfl p4 i1 (.agg #[.int .i64 0,.int .i64 0]) 16 Tryz.underlying22 gi gz0 gz1 gz2 rfl (by decide) rfl (by intro u hu;simp at hu;rcases hu with rfl | rfl <;> rfl) (by unfold maxLen;omega) (by omega) (Nat.le_trans hZ4.out hI.kp.size)
       ·obtain rfl:=oi ho;have d0:=ud zd 0;have p0:=pk hI.pt 0 rfl d0;exact bY hk hI hs (mm 9 rfl) hun ho rfl rfl (by simp[execOp,go_sem,aA p0])
       ·obtain rfl:=oi ho;have d11:=ud zd 11;have p11:=pk hI.pt 9 rfl d11;exact bY hk hI hs (mm 10 rfl) hun ho rfl rfl (by simp[execOp,go_sem,aA p11])
       ·obtain rfl:=oi ho;have d12:=ud zd 12;have p12:=pk hI.pt 10 rfl d12;have d10:=ud zd 10;exact tA hk hI hun ho rfl rfl d10 (fun hL hsl=>by
         obtain⟨gs,cs,hsl⟩:=hsl;have c0:=hL.cell 0;have k0:=hL.frozen 0;simp at c0;rw[hsl];simp[execOp,go_sem,aA p12,aA hsl,c0,k0])
      ·intro zl a1 w1 hI hup;have hTT:=HTT.out;subst hTT;have hkp:=hI.kp;have hown:=hI.o2 (hup 10 (by decide));have hlies:=(hI.b2 (hup 13 (by decide))).2;obtain⟨ff,rfl,hf⟩:=hI.off.forms;rw[← hf 46]at hown hlies;clear hI;generalize ff 46=v' at *;simp only[List.foldl,Act.put,List.setIfInBounds_toArray,List.set];simp only[Exit.then]
       go_step
       go_meet
       exact⟨v',zh hlies,zh hown,zh hkp⟩
     case rest=>
      obtain⟨v1',HX5,HR5,HK5⟩:=hcut;obtain⟨A1',cap1',rfl⟩:=fC HR5.out;have HR52:=zh (jF HR2.out HK5.out (fun g hg=>by
       intro hm;rcases List.mem_cons.1 hm with h | h
       ·subst h;exact fY (by decide) HR2.out HX4.out hg.symm
       ·exact pG (by decide) HR2.out HR1.out g hg (by simpa using h)))
      have HB5:=zh (hB4.out.trans (HK5.out.below (B:=q) (fun g hg=>by
       rcases List.mem_cons.1 hg with h | h
       ·omega
       ·have:=(cN HR1.out g (by simpa using h)).1;omega) (by have:=hZ4.out;omega)))
      have HZ5:Hid (q+1≤wc.heap.size):=zh (Nat.le_trans hZ4.out HK5.out.size);clear HX4 HR1 HR2 HK5 hB4 hZ4 HY hbY hM4 HRx4 hga4;have x1:=HX5.out.cell 1;have f1:=HX5.out.frozen 1;simp only[List.getElem?_toArray,List.getElem?_cons_zero,List.getElem?_cons_succ]at x1;have hqz:q<wc.heap.size:=by have:=HZ5.out;omega
      obtain⟨i1,gi,gz0,gz1,gz2⟩:=info_parts zP
      go_wp2_with (at_builtin;refine wpList_append_own _ rfl _ _ 78 rfl (q+1) 4 i1 (.bool false) 1 1 Tryz.underlying78 gi gz0 gz1 gz2 rfl (by decide) _ _ _ rfl (World.ownsRow.alloc HR52.out _) ⟨wc.heap.size,0,none⟩ 1 1 [.bool true] rfl rfl ?c1 ?c2 ?c3 ?c4 ?c5 ?_)
      case c1=>
       intro j u hj
       match j,hj with
       | 0,hj=>simp at hj;subst hj;simp[Addr.add]
      case c2=>intro u hu;simp at hu;subst hu;rfl
      case c3=>unfold maxLen;omega
      case c4=>omega
      case c5=>have:=HZ5.out;rw[World.size_alloc];omega
      intro v2' W6 hown' hgrow _;obtain⟨A2',cap2',rfl⟩:=fC hown';have hga:wc.grownBy W6 (Value.slice A2 m cap2).ownBlock:=(World.grownBy_alloc wc _ _).trans hgrow;have HX6:=zh (HX5.out.grownA hga (fY (by decide) HR52.out HX5.out));have HR6:=zh (World.ownsRow.kept HR5.out hga (by
       cases hv:(Value.slice A1' (m+1) cap1').ownBlock with
       | none=>exact .inl rfl
       | some g=>exact .inr (fun e=>pG (by decide) HR5.out HR52.out g hv e.symm)))
      have HR62:=zh hown';have HB6:=zh (HB5.out.grown hga (by have:=HZ5.out;omega) (fun g hg=>by have:=(cN HR52.out g hg).1;omega));have HZ6:Hid (q+1≤W6.heap.size):=zh (Nat.le_trans HZ5.out hga.size);clear hga hgrow hown' HX5 HR5 HR52 HB5 HZ5 x1 f1 hqz;have x1:=HX6.out.cell 1;have f1:=HX6.out.frozen 1;simp only[List.getElem?_toArray,List.getElem?_cons_zero,List.getElem?_cons_succ]at x1
      go_wp2_with fail
      go_roundw
      case rel=>
       refine⟨k+1,.slice A1' (m+1) cap1',.slice A2' (m+1) cap2',by go_num,by omega,zh ⟨HX6.out.put 1 _,?_,?_⟩,zh (HB6.out.setCell (p:=⟨q,1,none⟩) (Nat.le_refl q) _),zh (by rw[World.size_setCell];exact HZ6.out)⟩
       ·rw[HNew.out,HST.out,lO,List.length_append,HLe.out];exact nC (by decide) HR6.out HX6.out 1 _
       ·rw[HNew.out,HST.out,List.length_append,HLe.out];have h:=nC (by decide) HR62.out HX6.out 1 (.slice A2' (m+1) cap2');rw[show (List.replicate (m+[x].length) true).map Value.bool=(List.replicate m true).map Value.bool++[.bool true] from by rw[List.length_singleton,List.replicate_succ',List.map_append];rfl,List.map_replicate];exact h
      case measure=>first |(simp[intOf];done) |(simp[intOf];omega)
  ·obtain rfl:k=n:=by omega
   rw[HN.out,HAll.out]at hM
   go_wp2_with fail
   go_ret
   exact⟨v1,v2,by rw[HQ.out];rfl,by rw[HQ.out];exact hM.out,by rw[HQ.out];exact hB.out⟩
end Go.Proofs.YtmgjidnalpgegaaGreatDoor
