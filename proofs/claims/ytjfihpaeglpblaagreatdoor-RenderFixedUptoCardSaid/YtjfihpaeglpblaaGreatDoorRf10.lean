/-
  Lemmas, part 10: PaD PaN PaO PaP.
-/
import Derived.Test.YtjfihpaeglpblaaGreatDoorRf9
set_option maxHeartbeats 100000000
set_option maxRecDepth 1000000
namespace Go.Proofs.YtjfihpaeglpblaaGreatDoor
open Go.RowKit
def dQ(c:UInt8):Bool:=aZ c||aC c||c==46
def cK(c:UInt8):Bool:=aZ c||aC c||c==95||c==46
theorem eC{p:UInt8->Bool}{l:Bs}{k:Nat}(h:(l.take k).all p=true)(hk:k<l.length)(hp:p l[k]=true):(l.take (k+1)).all p=true:=by
 rw[yw hk,List.all_append,h];simp[hp]
theorem lK{p:UInt8->Bool}{l:Bs}{k:Nat}(hk:k<l.length)(hp:p l[k]=false):l.all p=false:=by
 cases h:l.all p with
 |false=>rfl
 |true=>
  rw[List.all_eq_true]at h;rw[h _ (List.getElem_mem hk)]at hp;cases hp
theorem beq_u8(c:UInt8)(d:UInt8)(n:Int)(hn:(d.toNat:Int)=n):((c.toNat:Int)==n)=(c==d):=by
 subst hn;rw[ze,beq_iff_eq,beq_iff_eq];exact⟨fun h=>UInt8.toNat.inj (by omega),fun h=>by rw[h]⟩
theorem jQ(c:UInt8)(d:UInt8)(n:Int)(hn:(d.toNat:Int)=n):((c.toNat:Int) != n)=!(c==d):=by rw[<- beq_u8 c d n hn];rfl
theorem uFQ(l:Bs)(w:World)(hs:l.length<=100000) :
  Calls Tryz.prog 164 #[vT l] w fun e w'=>e=.returned (.bool (bN l))/\Below w.heap.size w w':=by
 rcases l with _|⟨c,t⟩
 ·go_in
  go_wp2_with fail
  go_ret
  exact⟨rfl,Below.refl _ _⟩
 have hlen:0<(c::t).length:=by simp
 have hhd:(c::t).headD 0=c:=rfl;have im:(c::t)[0]'hlen=c:=rfl;have cg:((c::t:Bs)==[])=false:=rfl;have hne2:¬ (c::t:Bs)=[]:=by simp
 generalize (c::t:Bs)=l at *;have pq:=zh (fun W=>cU c W);have HR:Hid (bN l=(decide (l.length<=32)&&aZ c&&l.all dQ&&!(decide (aE l+aG (l.drop (aE l))=l.length)&&decide (aE l<=3)&&decide (1<=aG (l.drop (aE l)))&&decide (aG (l.drop (aE l))<=7)&&!bH l (aE l) 48))):=zh (by
  unfold bN;rw[hhd,decide_eq_true hlen,Bool.true_and];rfl)
 clear hhd;by_cases vw:32<l.length
 ·have hr:bN l=false:=by rw[HR.out,decide_eq_false (by omega)];rfl
  have pr:(32:Int)<(l.length:Int):=by omega
  rw[hr];clear hr
  go_in
  go_wp2_with fail
  go_ret
  exact⟨rfl,Below.refl _ _⟩
 have pr:¬ (32:Int)<(l.length:Int):=by omega
 cases jd:aZ c with
 |false=>
  have hr:bN l=false:=by rw[HR.out,jd,Bool.and_false];rfl
  rw[hr];clear hr HR
  go_in
  go_wp2_with fail
  refine(pq.out _).mono ?_;rintro e w' ⟨rfl,rfl⟩
  go_wp2_with fail
  go_ret
  exact⟨rfl,Below.refl _ _⟩
 |true=>
  have j3:Hid (bN l=(l.all dQ&&!(decide (aE l+aG (l.drop (aE l))=l.length)&&decide (aE l<=3)&&decide (1<=aG (l.drop (aE l)))&&decide (aG (l.drop (aE l))<=7)&&!bH l (aE l) 48))):=zh (by rw[HR.out,jd,decide_eq_true (by omega)];rfl);clear HR;obtain⟨cap,W1,hcv,bp,hb⟩:=qM l w;have HB:=zh hb;have ti:=zh bp;clear hb bp;have HSp:=zh (fun W=>sI l W (by omega))
  go_in
  go_wp2_with fail
  refine(pq.out _).mono ?_;rintro e w' ⟨rfl,rfl⟩
  go_wp2_with fail
  clear hcv pq;generalize w.heap.size=q at ti ⊢
  go_loop [24] (fun i=>∃ k:Nat,k<=l.length/\i=vI k/\(l.take k).all dQ=true) (fun i=>l.length-(intOf i).toNat)
  case atStart=>exact⟨0,zm _,rfl,by simp⟩
  case round=>
   obtain⟨k,hk,rfl,j5⟩:=hrel;by_cases hlt:k<l.length
   ·obtain⟨x0,xf0⟩:=ti.out k hlt;have kq:=jQ l[k] 46 46 rfl;have HALL:=zh j5;clear j5;cases hd:dQ l[k] with
    |false=>
     have hr:bN l=false:=by rw[j3.out,lK hlt hd];rfl
     have hd2:=hd;unfold dQ at hd2;simp only[Bool.or_eq_false_iff]at hd2;obtain⟨⟨d1,d2⟩,d3⟩:=hd2;rw[d3]at kq;clear hd j3
     go_wp2_with (first |(go_at_call 208;refine(cU _ _).mono ?_;rintro e w' ⟨rfl,rfl⟩) |(go_at_call 209;refine(dT _ _).mono ?_;rintro e w' ⟨rfl,rfl⟩))
     go_ret
     exact⟨by first|exact aA hr.symm|exact aA rfl,HB.out⟩
    |true=>
     have je:=zh (eC HALL.out hlt hd);unfold dQ at hd;cases d1:aZ l[k] with
     |true=>
      clear hd
      go_wp2_with (first |(go_at_call 208;refine(cU _ _).mono ?_;rintro e w' ⟨rfl,rfl⟩) |(go_at_call 209;refine(dT _ _).mono ?_;rintro e w' ⟨rfl,rfl⟩))
      go_round
      case rel=>exact⟨k+1,by omega,by go_num,je.out⟩
      case measure=>simp[intOf];omega
     |false=>
      cases d2:aC l[k] with
      |true=>
       clear hd
       go_wp2_with (first |(go_at_call 208;refine(cU _ _).mono ?_;rintro e w' ⟨rfl,rfl⟩) |(go_at_call 209;refine(dT _ _).mono ?_;rintro e w' ⟨rfl,rfl⟩))
       go_round
       case rel=>exact⟨k+1,by omega,by go_num,je.out⟩
       case measure=>simp[intOf];omega
      |false=>
       have d3:(l[k]==46)=true:=by rw[d1,d2]at hd;simpa using hd
       rw[d3]at kq;clear hd
       go_wp2_with (first |(go_at_call 208;refine(cU _ _).mono ?_;rintro e w' ⟨rfl,rfl⟩) |(go_at_call 209;refine(dT _ _).mono ?_;rintro e w' ⟨rfl,rfl⟩))
       go_round
       case rel=>exact⟨k+1,by omega,by go_num,je.out⟩
       case measure=>simp[intOf];omega
   have o9:k=l.length:=by omega
   have nx:l.all dQ=true:=by rw[o9,List.take_length]at j5;exact j5
   clear j5;have j8:Hid (bN l=!(decide (aE l+aG (l.drop (aE l))=l.length)&&decide (aE l<=3)&&decide (1<=aG (l.drop (aE l)))&&decide (aG (l.drop (aE l))<=7)&&!bH l (aE l) 48)):=zh (by rw[j3.out,nx,Bool.true_and]);clear j3 nx;have HAL:Hid (aE l<=l.length):=zh (cJ aZ l);generalize aG (l.drop (aE l))=d at *;generalize aE l=a at *;have ve:=HAL.out;subst o9
   go_wp2_with fail
   refine(HSp.out _).mono ?_;rintro e w' ⟨rfl,rfl⟩;by_cases e1:a+d=l.length
   ·rw[decide_eq_true e1]at j8 ⊢;by_cases e2:a<=3
    ·by_cases e3:1<=d
     ·by_cases e4:d<=7
      ·have hq:=at_bne l a 48 48 rfl (by omega);have hala:a<l.length:=by omega
       have oy:Hid (bN l=!(!bH l a 48)):=zh (by rw[j8.out,decide_eq_true e2,decide_eq_true e3,decide_eq_true e4];rfl);clear j8
       go_wp2_with fail
       go_ret
       exact⟨aA (by rw[oy.out,Bool.not_not]),HB.out⟩
      have hr:bN l=true:=by rw[j8.out,decide_eq_false e4];simp
      clear j8
      go_wp2_with fail
      go_ret
      exact⟨by first|exact aA hr.symm|exact aA rfl,HB.out⟩
     have hr:bN l=true:=by rw[j8.out,decide_eq_false e3];simp
     clear j8
     go_wp2_with fail
     go_ret
     exact⟨by first|exact aA hr.symm|exact aA rfl,HB.out⟩
    have hr:bN l=true:=by rw[j8.out,decide_eq_false e2];simp
    clear j8
    go_wp2_with fail
    go_ret
    exact⟨by first|exact aA hr.symm|exact aA rfl,HB.out⟩
   have hr:bN l=true:=by rw[j8.out,decide_eq_false e1];simp
   rw[decide_eq_false e1];clear j8
   go_wp2_with fail
   go_ret
   exact⟨by first|exact aA hr.symm|exact aA rfl,HB.out⟩
theorem uFR(l:Bs)(w:World)(hs:l.length<=100000) :
  Calls Tryz.prog 167 #[vT l] w fun e w'=>e=.returned (.bool (bB l))/\Below w.heap.size w w':=by
 rcases l with _|⟨c,t⟩
 ·go_in
  go_wp2_with fail
  go_ret
  exact⟨rfl,Below.refl _ _⟩
 have hlen:0<(c::t).length:=by simp
 have hhd:(c::t).headD 0=c:=rfl;have im:(c::t)[0]'hlen=c:=rfl;have cg:((c::t:Bs)==[])=false:=rfl;have hne2:¬ (c::t:Bs)=[]:=by simp
 generalize (c::t:Bs)=l at *;have pq:=zh (fun W=>cU c W);have HR:Hid (bB l=(decide (l.length<=32)&&(aZ c||c==95)&&l.all cK&&!(l==lI||l==gZ||dH l)&&!(decide (aE l+aG (l.drop (aE l))=l.length)&&decide (1<=aE l)&&decide (aE l<=3)&&decide (1<=aG (l.drop (aE l)))))):=zh (by
  unfold bB;rw[hhd,decide_eq_true hlen,Bool.true_and];rfl)
 clear hhd;by_cases vw:32<l.length
 ·have hr:bB l=false:=by rw[HR.out,decide_eq_false (by omega)];rfl
  have pr:(32:Int)<(l.length:Int):=by omega
  rw[hr];clear hr
  go_in
  go_wp2_with fail
  go_ret
  exact⟨rfl,Below.refl _ _⟩
 have pr:¬ (32:Int)<(l.length:Int):=by omega
 have h95:=jQ c 95 95 rfl;cases jd:(aZ c||c==95) with
 |false=>
  have hr:bB l=false:=by rw[HR.out,jd,Bool.and_false];rfl
  obtain⟨hcap1,xi⟩:aZ c=false/\(c==95)=false:=by simpa using jd
  rw[xi]at h95;clear jd xi;have jd:=hcap1;rw[hr];clear hr HR
  go_in
  go_wp2_with fail
  refine(pq.out _).mono ?_;rintro e w' ⟨rfl,rfl⟩
  go_wp2_with fail
  go_ret
  exact⟨rfl,Below.refl _ _⟩
 |true=>
  have j3:Hid (bB l=(l.all cK&&!(l==lI||l==gZ||dH l)&&!(decide (aE l+aG (l.drop (aE l))=l.length)&&decide (1<=aE l)&&decide (aE l<=3)&&decide (1<=aG (l.drop (aE l)))))):=zh (by rw[HR.out,jd,decide_eq_true (by omega)];rfl);clear HR;obtain⟨cap,W1,hcv,bp,hb⟩:=qM l w;have HB:=zh hb;have ti:=zh bp;clear hb bp;have HSp:=zh (fun W=>sI l W (by omega));have HSe:=zh (fun W=>uFS l W (by omega))
  go_in
  go_upto_region 1 with fail
  go_cut [25] (fun v wx=>v=.bool false/\Hid (wx=w))
  case first=>
   go_wp2_with fail
   refine(pq.out _).mono ?_;rintro e w' ⟨rfl,rfl⟩;cases du:aZ c with
   |true=>
    go_wp2_with fail
    all_goals go_meet
    exact⟨rfl,zh rfl⟩
   |false=>
    have h2:(c==95)=true:=by rw[du]at jd;simpa using jd
    rw[h2]at h95
    go_wp2_with fail
    all_goals go_meet
    exact⟨rfl,zh rfl⟩
  case rest=>
  obtain⟨rfl,hcut⟩:=hcut;have ny:=hcut.out;subst ny;clear hcut jd h95
  go_wp2_with fail
  clear hcv pq;generalize wc.heap.size=q at ti ⊢
  go_loop [29] (fun i=>∃ k:Nat,k<=l.length/\i=vI k/\(l.take k).all cK=true) (fun i=>l.length-(intOf i).toNat)
  case atStart=>exact⟨0,zm _,rfl,by simp⟩
  case round=>
   obtain⟨k,hk,rfl,j5⟩:=hrel;by_cases hlt:k<l.length
   ·obtain⟨x0,xf0⟩:=ti.out k hlt;have rl:=jQ l[k] 95 95 rfl;have kq:=jQ l[k] 46 46 rfl;have HALL:=zh j5;clear j5;cases hd:cK l[k] with
    |false=>
     have hr:bB l=false:=by rw[j3.out,lK hlt hd];rfl
     have hd2:=hd;unfold cK at hd2;simp only[Bool.or_eq_false_iff]at hd2;obtain⟨⟨⟨d1,d2⟩,d4⟩,d3⟩:=hd2;rw[d3]at kq;rw[d4]at rl;clear hd j3
     go_wp2_with (first |(go_at_call 208;refine(cU _ _).mono ?_;rintro e w' ⟨rfl,rfl⟩) |(go_at_call 209;refine(dT _ _).mono ?_;rintro e w' ⟨rfl,rfl⟩))
     go_ret
     exact⟨by first|exact aA hr.symm|exact aA rfl,HB.out⟩
    |true=>
     have je:=zh (eC HALL.out hlt hd);unfold cK at hd;cases d1:aZ l[k] with
     |true=>
      clear hd
      go_wp2_with (first |(go_at_call 208;refine(cU _ _).mono ?_;rintro e w' ⟨rfl,rfl⟩) |(go_at_call 209;refine(dT _ _).mono ?_;rintro e w' ⟨rfl,rfl⟩))
      go_round
      case rel=>exact⟨k+1,by omega,by go_num,je.out⟩
      case measure=>simp[intOf];omega
     |false=>
      cases d2:aC l[k] with
      |true=>
       clear hd
       go_wp2_with (first |(go_at_call 208;refine(cU _ _).mono ?_;rintro e w' ⟨rfl,rfl⟩) |(go_at_call 209;refine(dT _ _).mono ?_;rintro e w' ⟨rfl,rfl⟩))
       go_round
       case rel=>exact⟨k+1,by omega,by go_num,je.out⟩
       case measure=>simp[intOf];omega
      |false=>
       cases d4:(l[k]==95) with
       |true=>
        rw[d4]at rl;clear hd
        go_wp2_with (first |(go_at_call 208;refine(cU _ _).mono ?_;rintro e w' ⟨rfl,rfl⟩) |(go_at_call 209;refine(dT _ _).mono ?_;rintro e w' ⟨rfl,rfl⟩))
        go_round
        case rel=>exact⟨k+1,by omega,by go_num,je.out⟩
        case measure=>simp[intOf];omega
       |false=>
        have d3:(l[k]==46)=true:=by rw[d1,d2,d4]at hd;simpa using hd
        rw[d3]at kq;rw[d4]at rl;clear hd
        go_wp2_with (first |(go_at_call 208;refine(cU _ _).mono ?_;rintro e w' ⟨rfl,rfl⟩) |(go_at_call 209;refine(dT _ _).mono ?_;rintro e w' ⟨rfl,rfl⟩))
        go_round
        case rel=>exact⟨k+1,by omega,by go_num,je.out⟩
        case measure=>simp[intOf];omega
   have o9:k=l.length:=by omega
   have nx:l.all cK=true:=by rw[o9,List.take_length]at j5;exact j5
   clear j5;have j8:Hid (bB l=(!(l==lI||l==gZ||dH l)&&!(decide (aE l+aG (l.drop (aE l))=l.length)&&decide (1<=aE l)&&decide (aE l<=3)&&decide (1<=aG (l.drop (aE l)))))):=zh (by rw[j3.out,nx,Bool.true_and]);clear j3 nx;subst o9;by_cases hT:l=[84,82,85,69]
   ·have hr:bB l=false:=by rw[j8.out,hT];rfl
    clear j8;have mw:=zh hr;clear hr;have hT2:(l==([84,82,85,69]:Bs))=true:=by rw[hT];rfl
    have hTb:((⟨l.toArray⟩:ByteArray)==⟨#[84,82,85,69]⟩)=true:=by rw[hT];rfl
    clear hT
    go_wp2_with fail
    go_ret
    exact⟨by first|exact aA mw.out.symm|exact aA rfl,HB.out⟩
   have e1:(l==([84,82,85,69]:Bs))=false:=by simpa using hT
   by_cases hF:l=[70,65,76,83,69]
   ·have hr:bB l=false:=by rw[j8.out,hF];rfl
    clear j8;have mw:=zh hr;clear hr;have hF2:(l==([70,65,76,83,69]:Bs))=true:=by rw[hF];rfl
    have hTb:((⟨l.toArray⟩:ByteArray)==⟨#[84,82,85,69]⟩)=false:=by rw[hF];rfl
    have hFb:((⟨l.toArray⟩:ByteArray)==⟨#[70,65,76,83,69]⟩)=true:=by rw[hF];rfl
    clear hF hT
    go_wp2_with fail
    go_ret
    exact⟨by first|exact aA mw.out.symm|exact aA rfl,HB.out⟩
   have e2:(l==([70,65,76,83,69]:Bs))=false:=by simpa using hF
   have oy:Hid (bB l=(!dH l&&!(decide (aE l+aG (l.drop (aE l))=l.length)&&decide (1<=aE l)&&decide (aE l<=3)&&decide (1<=aG (l.drop (aE l)))))):=zh (by rw[j8.out,show (l==lI)=false from e1,show (l==gZ)=false from e2];rfl);clear j8;have HAL:Hid (aE l<=l.length):=zh (cJ aZ l);generalize aG (l.drop (aE l))=d at *;generalize aE l=a at *;have ve:=HAL.out
   go_wp2_with fail
   refine(HSe.out _).mono ?_;rintro e w2 ⟨rfl,hb⟩;have ba:=zT HB hb;clear hb HSe;cases hse:dH l with
   |true=>
    have mw:Hid (bB l=false):=zh (by rw[oy.out,hse];rfl);clear oy
    go_wp2_with fail
    go_ret
    exact⟨by first|exact aA mw.out.symm|exact aA rfl,ba.out⟩
   |false=>
    rw[hse]at oy
    go_wp2_with fail
    refine(HSp.out _).mono ?_;rintro e w' ⟨rfl,rfl⟩;by_cases f1:a+d=l.length
    ·rw[decide_eq_true f1]at oy ⊢;by_cases f2:1<=a
     ·by_cases f3:a<=3
      ·by_cases f4:1<=d
       ·have mw:Hid (bB l=false):=zh (by rw[oy.out,decide_eq_true f2,decide_eq_true f3,decide_eq_true f4];rfl);clear oy
        go_wp2_with fail
        go_ret
        exact⟨aA (by rw[mw.out];simp;omega),ba.out⟩
       have mw:Hid (bB l=true):=zh (by rw[oy.out,decide_eq_false f4];simp);clear oy
       go_wp2_with fail
       go_ret
       exact⟨aA (by rw[mw.out];simp;omega),ba.out⟩
      have mw:Hid (bB l=true):=zh (by rw[oy.out,decide_eq_false f3];simp);clear oy
      go_wp2_with fail
      go_ret
      exact⟨by first|exact aA mw.out.symm|exact aA rfl,ba.out⟩
     have mw:Hid (bB l=true):=zh (by rw[oy.out,decide_eq_false f2];simp);clear oy
     go_wp2_with fail
     go_ret
     exact⟨by first|exact aA mw.out.symm|exact aA rfl,ba.out⟩
    have mw:Hid (bB l=true):=zh (by rw[oy.out,decide_eq_false f1];simp);rw[decide_eq_false f1];clear oy
    go_wp2_with fail
    go_ret
    exact⟨by first|exact aA mw.out.symm|exact aA rfl,ba.out⟩
theorem wanted_undef{ops:Array Oper}{o:Oper}{a:Act}{g sg:Nat}{pol:Bool}(h:o.guard=some (g,pol)){og:Oper}(hg:ops[g]?=some og)(hd:og.dst=some sg)(hv:a.eval (.tmp sg)=undef):Region.wanted o (yielded ops a.tmps)=false:=by
 have h1:a.tmps[sg]?.getD undef=undef:=bR hv;unfold Region.wanted yielded;rw[h];simp only[hg,Option.bind_some,hd];cases hq:a.tmps[sg]? with
 |none=>rfl
 |some x=>
  rw[hq]at h1;have h2:x=undef:=h1;subst h2;rfl
section
variable {ops:Array Oper} {S:List Nat} {T:List (Nat×Nat×Value)} {P:World->Prop} {w:World} {N:Nat} {a0 a:Act} {zl:Array Bool} {Q:Exit->Act->World->Prop} {o:Oper} {i s:Nat} {v:Value}
theorem gu_call(he:(i,s,v)∈T)(hk:okU (T.map fun e=>(e.1,e.2.1)) S N=true)(hI:GU ops S T [] P a0 zl a w)(hN:N<=a0.tmps.size)(ah:zl.getD i true=false)(ho:ops[i]?=some o)(zd:∀ e∈o.after,Region.binds .any e=true->Up zl e.on)(hw:Region.wanted o (yielded ops a.tmps)=true)(hd:o.dst=some s)
  (f:FuncId) (xs:Array Value) (hr:(execOp a.eval o).run Tryz.prog w=.ok (.enter f xs) w) (hc:Calls Tryz.prog f xs w fun e w1=>e=.returned v/\P w1):wpOp Tryz.prog ops Q i (GU ops S T [] P a0 (zl.setIfInBounds i true)) a w:=by
 have h:=mI hk hI hN he nomk ah ho zd;unfold wpOp;rw[ho];simp only;rw[if_pos hw];refine .inl (rR (v:=v) f xs hr (hc.mono ?_));rintro e w1 ⟨rfl,hP⟩;rw[hd];exact⟨rfl,h.off,h.pt,h.dn,hP⟩
end
theorem tLit_any(v:Val)(m:Bool)(w:World)(we:-9223372036854775808<=v.mant)(wg:v.mant<=9223372036854775807)(hl:v.text.length<=1000000) :
  Calls Tryz.prog 161 #[iB v,.bool m] w fun e w'=>e=.returned (.bool (cS v m))/\Below w.heap.size w w':=by
 have HVR:=zh (fun W=>pS v W we wg hl);obtain⟨W1,am⟩:=zD (w.alloc (.cells #[vI v.kind,vI v.mant,vI v.exp,vT v.text,.bool v.truth,vI v.fault] 25))
 have al:=zh am;have HL:=zL am;have HB:=zA am;clear am;obtain⟨b0,ev⟩:=zE (decide (v.kind≠0))
 obtain⟨b1,ab⟩:=zE (aR v)
 obtain⟨b2,hb2⟩:=zE (decide (0<=v.mant))
 have HR:Hid (cS v m=(b0&&b1&&(m||b2))):=zh (by unfold cS;rw[ev,ab,hb2]);have e0':(v.kind != 0)=b0:=by rw[<- ev,ze];simp
 obtain⟨c1,h1⟩:∃ c1,c1=(b0&&b1):=⟨_,rfl⟩
 obtain⟨d,hd⟩:∃ d,d=(m||b2):=⟨_,rfl⟩
 obtain⟨c2,h2⟩:∃ c2,c2=(c1&&d):=⟨_,rfl⟩
 rw[<- h1,<- hd,<- h2]at HR;have HH:=zh (And.intro h1 (And.intro h2 (And.intro hd (And.intro ab (And.intro hb2 e0')))));clear h1 h2 ev ab hb2 hd e0'
 go_in
 go_upto_region 1 with fail
 rw[<- al.out];generalize hq:w.heap.size=q at *;obtain⟨h1,h2,hd,hvr,hb2,e0'⟩:=HH.out
 obtain⟨TT,ag⟩:∃ TT:List (Nat×Nat×Value),TT=((0,5,vP q 0)::(1,6,vI v.kind)::(2,7,.bool b0)::(3,8,.bool b0)::(4,9,(bif b0 then .agg ([vI v.kind,vI v.mant,vI v.exp,vT v.text,.bool v.truth,vI v.fault]:List Value).toArray else undef))::(5,10,(bif b0 then .bool b1 else undef))::(6,11,.bool c1)::(7,12,.bool c1)::(8,13,(bif c1 then .bool m else undef))::(9,14,(bif c1 then .bool m else undef))::(10,15,(bif c1 then (bif m then undef else vP q 1) else undef))::(11,16,(bif c1 then (bif m then undef else vP q 1) else undef))::(12,17,(bif c1 then (bif m then undef else vI v.mant) else undef))::(13,18,(bif c1 then (bif m then undef else .bool b2) else undef))::(14,19,(bif c1 then .bool d else undef))::(15,20,.bool c2)::(16,4,.bool c2)::[]):=⟨_,rfl⟩
 have aw:=zh ag;clear ag;refine aS (fun a0=>21<=a0.tmps.size/\a0.eval (.tmp 1)=.bool m/\a0.eval (.tmp 2)=vP q 0) (5::6::7::8::9::10::11::12::13::14::15::16::17::18::19::20::4::[]) TT [] (fun w'=>Below W1.heap.size W1 w') (by kernel_rfl) ⟨by simp,rfl,rfl⟩ zB ?_ ?_
 ·rintro a0 ⟨hs,cr,sc⟩ zl a1 w1 zj o ap hI ah ho zd;have ab:Below W1.heap.size W1 w1:=hI.st;have ag:=aw.out
  subst ag;have e1x:=hI.off.q cr;have e2x:=hI.off.q sc;have hj:=Up.of_false ah;have hj12:zj<17:=by rw[ap]at hj;exact hj
  have G:RG _ _ _ _ _ _ _ _ _ _ _:=⟨by rfl,hI,hs,ah,ho,zd⟩
  (iterate 16 rcases zq hj12 with hj12|rfl);obtain rfl:=cz hj12;all_goals obtain rfl:=oi ho
  ·exact G.nl 0 rfl (by simp[execOp,go_sem,e2x])
  ·have xj:=HL.out.next ab;have x0:=xj.cell 0;simp only[za,zb]at x0;exact G.nl 1 rfl (by simp[execOp,go_sem,G.t 0,x0])
  ·exact G.nl 2 rfl (by simp[execOp,go_sem,G.t 1,e0'])
  ·exact G.nl 3 rfl (by simp[execOp,go_sem,G.t 2])
  ·refine G.gv 3 4 ?_;rintro rfl;have xj:=HL.out.next ab;exact aO 25 (.tmp 2) rfl q 0 ((hI.off.eval (by decide)).trans sc) _ _ xj.range Tryz.underlying25 rfl gI
  ·have pg:=G.g 3;cases b0
   ·exact G.sk 5 pg
   refine G.cw 5 rfl pg 59 #[iB v] (by simp[go_sem,G.t 4]) ?_;refine(HVR.out w1).mono ?_;rintro e w2 ⟨rfl,hb⟩;rw[hvr];exact⟨rfl,zU ab hb⟩
  ·cases b0
   all_goals exact G.nl 6 rfl (by simp[execOp,go_sem,G.t 3,G.t 5,h1])
  ·exact G.nl 7 rfl (by simp[execOp,go_sem,G.t 6])
  ·refine G.gv 7 8 ?_;rintro rfl;simp[execOp,go_sem,e1x]
  ·refine G.gv 7 9 ?_;rintro rfl;simp[execOp,go_sem,G.t 8]
  ·have pg:=G.g 9;cases c1
   ·exact G.su 10 pg
   cases m
   ·exact G.vl 10 rfl pg (by simp[execOp,go_sem,e2x])
   exact G.sk 10 pg
  ·have pg:=G.g 9;cases c1
   ·exact G.su 11 pg
   cases m
   ·exact G.vl 11 rfl pg (by simp[execOp,go_sem,G.t 10])
   exact G.sk 11 pg
  ·have pg:=G.g 9;cases c1
   ·exact G.su 12 pg
   cases m
   ·have xj:=HL.out.next ab;have x1:=xj.cell 1;simp only[za,zb,zf]at x1;exact G.vl 12 rfl pg (by simp[execOp,go_sem,G.t 11,x1])
   exact G.sk 12 pg
  ·have pg:=G.g 9;cases c1
   ·exact G.su 13 pg
   cases m
   ·exact G.vl 13 rfl pg (by simp[execOp,go_sem,G.t 12,hb2])
   exact G.sk 13 pg
  ·have pg:=G.g 7;cases c1
   ·exact G.sk 14 pg
   cases m
   all_goals exact G.vl 14 rfl pg (by simp[execOp,go_sem,G.t 9,G.t 13,hd])
  ·cases c1
   all_goals exact G.nl 15 rfl (by simp[execOp,go_sem,G.t 7,G.t 14,h2])
  exact G.nl 16 rfl (by simp[execOp,go_sem,G.t 15])
 intro zl a1 w1 hI bd;have ab:Below W1.heap.size W1 w1:=hI.st;have ag:=aw.out;subst ag;have z4:=hI.ptk 16 rfl (bd 16 (by decide));obtain⟨ff,rfl,hf⟩:=hI.off.forms;rw[<- hf 4]at z4;clear hI;simp only[List.foldl,Act.put,yz,List.set];rw[z4]
 go_wp2_with fail
 go_ret
 exact⟨by rw[HR.out];rfl,by first|exact zU HB.out ab |(rw[hq];exact HB.out.trans (ab.mono (by have:=HB.out.size;omega)))⟩
abbrev kW(c:Cor):Array Value:=#[vI c.row.a,vI c.row.n,vI c.col.a,vI c.col.n,.bool c.fr,.bool c.fc]
theorem uBT(a b:Cor)(w:World) :
  Calls Tryz.prog 163 #[arV a b] w fun e w'=>e=.returned (.bool (bM a b))/\Below w.heap.size w w':=by
 obtain⟨W1,am⟩:=zD (w.alloc (.cells #[vI a.row.a,vI a.row.n,vI a.col.a,vI a.col.n,.bool a.fr,.bool a.fc,vI b.row.a,vI b.row.n,vI b.col.a,vI b.col.n,.bool b.fr,.bool b.fc] 31))
 have al:=zh am;have HL:=zL am;have HB:=zA am;clear am;obtain⟨rb,vx⟩:=zE (bM a b)
 have HR:=zh vx;rw[vx];clear vx;have x0:=HL.out.cell 0;have x1:=HL.out.cell 1;have x2:=HL.out.cell 2;have x3:=HL.out.cell 3;have x4:=HL.out.cell 4;have x5:=HL.out.cell 5;have x6:=HL.out.cell 6;have x7:=HL.out.cell 7;have x8:=HL.out.cell 8;have x9:=HL.out.cell 9;have x10:=HL.out.cell 10;have x11:=HL.out.cell 11;simp only[za,zb,zf]at x0 x1 x2 x3 x4 x5 x6 x7 x8 x9 x10 x11;have hlt:=HL.out.lt
 go_in
 go_upto_region 1 with fail
 rw[<- al.out];generalize hq:w.heap.size=q at *
 go_cut [3,4] (fun va vb wx=>∃ qa qb,va=vP qa 0/\vb=vP qb 0/\Hid (Lies wx qa 29 (kW a)/\Lies wx qb 29 (kW b)/\Below q w wx))
 case first=>
  have ma:=zh (Lies.new W1 29 (kW a));have HA2:=zh (Lies.new (W1.alloc (.cells (kW a) 29)) 29 (kW b));have kz:=zh (Lies.new W1 29 (kW b));have HC2:=zh (Lies.new (W1.alloc (.cells (kW b) 29)) 29 (kW a));have oc:Hid (Below q w (((W1.alloc (.cells (kW a) 29)).alloc (.cells (kW b) 29)).drew)):=zh ((HB.out.alloc (by have:=HB.out.size;omega) _).alloc (by have:=HB.out.size;simp;omega) _).drew;have HBc:Hid (Below q w (((W1.alloc (.cells (kW b) 29)).alloc (.cells (kW a) 29)).drew)):=zh ((HB.out.alloc (by have:=HB.out.size;omega) _).alloc (by have:=HB.out.size;simp;omega) _).drew
  go_region
  all_goals go_wp2_with fail
  all_goals go_meet
  all_goals first
   |exact⟨_,_,rfl,rfl,zh ⟨ma.out.alloc _,by have:=HA2.out;rwa [World.size_alloc]at this,oc.out⟩⟩
   |exact⟨_,_,rfl,rfl,zh ⟨by have:=HC2.out;rwa [World.size_alloc]at this,kz.out.alloc _,HBc.out⟩⟩
 case rest=>
  obtain⟨qa,qb,rfl,rfl,hc⟩:=hcut;clear x0 x1 x2 x3 x4 x5 x6 x7 x8 x9 x10 x11 HL HB al hlt;obtain⟨W3,jk⟩:=zD (wc.alloc (.cells #[vI 0,vI 0] 27))
  have dt:Below wc.heap.size wc W3:=by rw[jk];exact(zp _)
  have HA:=zh (hc.out.1.next dt);have ig:=zh (hc.out.2.1.next dt);have ap:=hc.out.2.2.size;have HZ:=zL jk;have HB:Hid (Below q w W3):=zh (hc.out.2.2.trans (dt.mono (by omega)));have HW3:=zh jk;obtain⟨r1,i7⟩:∃ x,decide (a.row≠id0)=x:=⟨_,rfl⟩
  obtain⟨k1,fw⟩:∃ x,decide (a.col≠id0)=x:=⟨_,rfl⟩
  obtain⟨r2,la⟩:∃ x,decide (b.row≠id0)=x:=⟨_,rfl⟩
  obtain⟨k2,er⟩:∃ x,decide (b.col≠id0)=x:=⟨_,rfl⟩
  obtain⟨f1,hf1⟩:∃ x,a.fr=x:=⟨_,rfl⟩
  obtain⟨f2,ut⟩:∃ x,b.fr=x:=⟨_,rfl⟩
  obtain⟨g1,iy⟩:∃ x,a.fc=x:=⟨_,rfl⟩
  obtain⟨g2,li⟩:∃ x,b.fc=x:=⟨_,rfl⟩
  have j3:Hid (rb=((r1==r2)&&(k1==k2)&&(r1||k1)&&(r1||(!f1&&!f2))&&(k1||(!g1&&!g2)))):=zh (by rw[<- HR.out];unfold bM;dsimp only;rw[i7,fw,la,er,hf1,ut,iy,li]);have N1:∀ w:World,(binOp .neq 27 (idV a.row) (idV id0)).run Tryz.prog w=.ok (.bool r1) w:=fun w=>by rw[dP,i7]
  have N2:∀ w:World,(binOp .neq 27 (idV a.col) (idV id0)).run Tryz.prog w=.ok (.bool k1) w:=fun w=>by rw[dP,fw]
  have N3:∀ w:World,(binOp .neq 27 (idV b.row) (idV id0)).run Tryz.prog w=.ok (.bool r2) w:=fun w=>by rw[dP,la]
  have N4:∀ w:World,(binOp .neq 27 (idV b.col) (idV id0)).run Tryz.prog w=.ok (.bool k2) w:=fun w=>by rw[dP,er]
  have HN:=zh (And.intro N1 (And.intro N2 (And.intro N3 N4)));have HF:=zh (And.intro hf1 (And.intro ut (And.intro iy li)));clear N1 N2 N3 N4 i7 fw la er hf1 ut iy li hc dt jk HR
  go_upto_region 3 with fail
  rw[<- HW3.out];generalize wc.heap.size=qz at *;clear HW3
  go_cut [6,7] (fun va vb wx=>va=.bool r1/\vb=.bool k1/\Hid (Below W3.heap.size W3 wx))
  case first=>
   obtain⟨TT,ag⟩:∃ TT:List (Nat×Nat×Value),TT=((0,13,vP qa 0)::(1,14,idV a.row)::(2,15,idV id0)::(3,16,.bool r1)::(4,17,vP qa 2)::(5,18,idV a.col)::(6,19,idV id0)::(7,20,.bool k1)::(8,6,.bool r1)::(9,7,.bool k1)::[]):=⟨_,rfl⟩
   have aw:=zh ag;clear ag;refine bK (fun a0=>65<=a0.tmps.size/\a0.eval (.tmp 3)=vP qa 0/\a0.eval (.tmp 4)=vP qb 0/\a0.eval (.tmp 5)=vP qz 0) (13::14::15::16::17::18::19::20::6::7::[]) TT [] (fun w'=>Below W3.heap.size W3 w') (by kernel_rfl) (by kernel_rfl) ⟨by simp,rfl,rfl,rfl⟩ zB.drew ?_ ?_
   ·rintro a0 ⟨hs,kg,vy,pu⟩ zl a1 w1 zj o ap hI ah ho zd;have ab:Below W3.heap.size W3 w1:=hI.st;have ag:=aw.out
    subst ag;have e3x:=hI.off.q kg;have e4x:=hI.off.q vy;have e5x:=hI.off.q pu;have hj:=Up.of_false ah;have hj12:zj<10:=by rw[ap]at hj;exact hj
    have G:RG _ _ _ _ _ _ _ _ _ _ _:=⟨by rfl,hI,hs,ah,ho,zd⟩
    (iterate 9 rcases zq hj12 with hj12|rfl);obtain rfl:=cz hj12;all_goals obtain rfl:=oi ho
    ·exact G.nl 0 rfl (by simp[execOp,go_sem,e3x])
    ·have Lx:=HA.out.next ab;have x0:=Lx.cell 0;have x1:=Lx.cell 1;simp only[za,zb,zf]at x0 x1;exact G.nl 1 rfl (by simp[execOp,go_sem,G.t 0,x0,x1])
    ·have Lx:=HZ.out.next ab;have x0:=Lx.cell 0;have x1:=Lx.cell 1;simp only[za,zb,zf]at x0 x1;exact G.nl 2 rfl (by simp[execOp,go_sem,e5x,x0,x1])
    ·have N1:=HN.out.1;exact G.nl 3 rfl (by simp[execOp,go_sem,G.t 1,G.t 2,N1])
    ·exact G.nl 4 rfl (by simp[execOp,go_sem,e3x])
    ·have Lx:=HA.out.next ab;have x2:=Lx.cell 2;have x3:=Lx.cell 3;simp only[za,zb,zf]at x2 x3;exact G.nl 5 rfl (by simp[execOp,go_sem,G.t 4,x2,x3])
    ·have Lx:=HZ.out.next ab;have x0:=Lx.cell 0;have x1:=Lx.cell 1;simp only[za,zb,zf]at x0 x1;exact G.nl 6 rfl (by simp[execOp,go_sem,e5x,x0,x1])
    ·have N1:=HN.out.2.1;exact G.nl 7 rfl (by simp[execOp,go_sem,G.t 5,G.t 6,N1])
    ·exact G.nl 8 rfl (by simp[execOp,go_sem,G.t 3])
    exact G.nl 9 rfl (by simp[execOp,go_sem,G.t 7])
   intro zl a1 w1 hI bd;have ab:Below W3.heap.size W3 w1:=hI.st;have ag:=aw.out;subst ag;have z6:=hI.ptk 8 rfl (bd 8 (by decide));have z7:=hI.ptk 9 rfl (bd 9 (by decide));obtain⟨ff,rfl,hf⟩:=hI.off.forms;rw[<- hf 6]at z6;rw[<- hf 7]at z7;clear hI;simp only[List.foldl,Act.put,yz,List.set];rw[z6,z7]
   go_wp2_with fail
   go_meet
   exact⟨rfl,rfl,zh ab⟩
  case rest=>
   obtain⟨rfl,rfl,ki⟩:=hcut;have tj:=zh (HA.out.next ki.out);have pw:=zh (ig.out.next ki.out);have uk:=zh (HZ.out.next ki.out);have bt:=zh (HB.out.trans (ki.out.mono (by have:=HB.out.size;omega)));clear HA ig HZ HB ki;obtain⟨y1,xe⟩:∃ x,x=!(r1==r2):=⟨_,rfl⟩
   obtain⟨y2,hy2⟩:∃ x,x=!(k1==k2):=⟨_,rfl⟩
   obtain⟨y,hy⟩:∃ x,x=(y1||y2):=⟨_,rfl⟩
   have HY:=zh (And.intro xe (And.intro hy2 hy));clear xe hy2 hy;obtain⟨W4,l8⟩:=zD wc
   subst l8
   go_upto_region 4 with fail
   go_cut [34] (fun v wx=>v=.bool y/\Hid (Below W4.heap.size W4 wx))
   case first=>
    obtain⟨xe,hy2,hy⟩:=HY.out;obtain⟨TT,ag⟩:∃ TT:List (Nat×Nat×Value),TT=((0,21,.bool r1)::(1,22,vP qb 0)::(2,23,idV b.row)::(3,24,idV id0)::(4,25,.bool r2)::(5,26,.bool y1)::(6,27,.bool y1)::(7,28,(bif y1 then undef else .bool k1))::(8,29,(bif y1 then undef else vP qb 2))::(9,30,(bif y1 then undef else idV b.col))::(10,31,(bif y1 then undef else idV id0))::(11,32,(bif y1 then undef else .bool k2))::(12,33,(bif y1 then undef else .bool y2))::(13,34,.bool y)::[]):=⟨_,rfl⟩
    have aw:=zh ag;clear ag;refine aS (fun a0=>65<=a0.tmps.size/\a0.eval (.tmp 3)=vP qa 0/\a0.eval (.tmp 4)=vP qb 0/\a0.eval (.tmp 5)=vP qz 0/\a0.eval (.tmp 6)=.bool r1/\a0.eval (.tmp 7)=.bool k1) (21::22::23::24::25::26::27::28::29::30::31::32::33::34::[]) TT [] (fun w'=>Below W4.heap.size W4 w') (by kernel_rfl) ⟨by simp,rfl,rfl,rfl,rfl,rfl⟩ zB ?_ ?_
    ·rintro a0 ⟨hs,kg,vy,pu,vh,hq7⟩ zl a1 w1 zj o ap hI ah ho zd;have ab:Below W4.heap.size W4 w1:=hI.st;have ag:=aw.out
     subst ag;have e3x:=hI.off.q kg;have e4x:=hI.off.q vy;have e5x:=hI.off.q pu;have e6x:=hI.off.q vh;have e7x:=hI.off.q hq7;have hj:=Up.of_false ah;have hj12:zj<14:=by rw[ap]at hj;exact hj
     have G:RG _ _ _ _ _ _ _ _ _ _ _:=⟨by rfl,hI,hs,ah,ho,zd⟩
     (iterate 13 rcases zq hj12 with hj12|rfl);obtain rfl:=cz hj12;all_goals obtain rfl:=oi ho
     ·exact G.nl 0 rfl (by simp[execOp,go_sem,e6x])
     ·exact G.nl 1 rfl (by simp[execOp,go_sem,e4x])
     ·have Lx:=pw.out.next ab;have x0:=Lx.cell 0;have x1:=Lx.cell 1;simp only[za,zb,zf]at x0 x1;exact G.nl 2 rfl (by simp[execOp,go_sem,G.t 1,x0,x1])
     ·have Lx:=uk.out.next ab;have x0:=Lx.cell 0;have x1:=Lx.cell 1;simp only[za,zb,zf]at x0 x1;exact G.nl 3 rfl (by simp[execOp,go_sem,e5x,x0,x1])
     ·have N1:=HN.out.2.2.1;exact G.nl 4 rfl (by simp[execOp,go_sem,G.t 2,G.t 3,N1])
     ·exact G.nl 5 rfl (by simp[execOp,go_sem,G.t 0,G.t 4,xe])
     ·exact G.nl 6 rfl (by simp[execOp,go_sem,G.t 5])
     ·refine G.gn 6 7 ?_;rintro rfl;simp[execOp,go_sem,e7x]
     ·refine G.gn 6 8 ?_;rintro rfl;simp[execOp,go_sem,e4x]
     ·have pg:=G.g 6;cases y1
      ·have Lx:=pw.out.next ab;have x2:=Lx.cell 2;have x3:=Lx.cell 3;simp only[za,zb,zf]at x2 x3;exact G.vl 9 rfl pg (by simp[execOp,go_sem,G.t 8,x2,x3])
      exact G.sk 9 pg
     ·have pg:=G.g 6;cases y1
      ·have Lx:=uk.out.next ab;have x0:=Lx.cell 0;have x1:=Lx.cell 1;simp only[za,zb,zf]at x0 x1;exact G.vl 10 rfl pg (by simp[execOp,go_sem,e5x,x0,x1])
      exact G.sk 10 pg
     ·refine G.gn 6 11 ?_;rintro rfl;have N1:=HN.out.2.2.2;simp[execOp,go_sem,G.t 9,G.t 10,N1]
     ·refine G.gn 6 12 ?_;rintro rfl;simp[execOp,go_sem,G.t 7,G.t 11,hy2]
     cases y1
     all_goals exact G.nl 13 rfl (by simp[execOp,go_sem,G.t 6,G.t 12,hy])
    intro zl a1 w1 hI bd;have ab:Below W4.heap.size W4 w1:=hI.st;have ag:=aw.out;subst ag;have z34:=hI.ptk 13 rfl (bd 13 (by decide));obtain⟨ff,rfl,hf⟩:=hI.off.forms;rw[<- hf 34]at z34;clear hI;simp only[List.foldl,Act.put,yz,List.set];rw[z34]
    go_wp2_with fail
    go_meet
    exact⟨rfl,zh ab⟩
   case rest=>
    obtain⟨rfl,f8⟩:=hcut;have HA5:=zh (tj.out.next f8.out);have HBb5:=zh (pw.out.next f8.out);have bk:=zh (bt.out.trans (f8.out.mono (by have:=bt.out.size;omega)));clear tj pw uk bt f8 HN;cases y
    ·obtain⟨z,hz⟩:∃ x,x=(r1||k1):=⟨_,rfl⟩
     obtain⟨nf1,tm⟩:∃ x,x=(!f1):=⟨_,rfl⟩
     obtain⟨ng1,tn⟩:∃ x,x=(!g1):=⟨_,rfl⟩
     obtain⟨m1,we⟩:∃ x,x=(nf1&&!f2):=⟨_,rfl⟩
     obtain⟨m2,wg⟩:∃ x,x=(ng1&&!g2):=⟨_,rfl⟩
     obtain⟨s1,fe⟩:∃ x,x=(r1||m1):=⟨_,rfl⟩
     obtain⟨s2,iz⟩:∃ x,x=(k1||m2):=⟨_,rfl⟩
     obtain⟨u,hu⟩:∃ x,x=(z&&s1):=⟨_,rfl⟩
     obtain⟨v,hv⟩:∃ x,x=(u&&s2):=⟨_,rfl⟩
     have HV:Hid (rb=v):=zh (by rw[j3.out,hv,hu,fe,iz,we,wg,tm,tn,hz];have:=HY.out.2.2;rw[HY.out.1,HY.out.2.1]at this;revert this;cases r1 <;> cases r2 <;> cases k1 <;> cases k2 <;> simp);have HVV:=zh (And.intro hz (And.intro tm (And.intro tn (And.intro we (And.intro wg (And.intro fe (And.intro iz (And.intro hu hv))))))));clear hz tm tn we wg fe iz hu hv;obtain⟨W5,dr⟩:=zD wc
     subst dr
     go_upto_region 6 with fail
     obtain⟨hz,tm,tn,we,wg,fe,iz,hu,hv⟩:=HVV.out;obtain⟨hf1,ut,iy,li⟩:=HF.out
     obtain⟨TT,ag⟩:∃ TT:List (Nat×Nat×Value),TT=((0,35,.bool r1)::(1,36,.bool r1)::(2,37,(bif r1 then undef else .bool k1))::(3,38,.bool z)::(4,39,.bool z)::(5,40,(bif z then .bool r1 else undef))::(6,41,(bif z then .bool r1 else undef))::(7,42,(bif z then (bif r1 then undef else vP qa 4) else undef))::(8,43,(bif z then (bif r1 then undef else .bool f1) else undef))::(9,44,(bif z then (bif r1 then undef else .bool nf1) else undef))::(10,45,(bif z then (bif r1 then undef else .bool nf1) else undef))::(11,46,(bif z then (bif r1 then undef else (bif nf1 then vP qb 4 else undef)) else undef))::(12,47,(bif z then (bif r1 then undef else (bif nf1 then .bool f2 else undef)) else undef))::(13,48,(bif z then (bif r1 then undef else (bif nf1 then .bool (!f2) else undef)) else undef))::(14,49,(bif z then (bif r1 then undef else .bool m1) else undef))::(15,50,(bif z then .bool s1 else undef))::(16,51,.bool u)::(17,52,.bool u)::(18,53,(bif u then .bool k1 else undef))::(19,54,(bif u then .bool k1 else undef))::(20,55,(bif u then (bif k1 then undef else vP qa 5) else undef))::(21,56,(bif u then (bif k1 then undef else .bool g1) else undef))::(22,57,(bif u then (bif k1 then undef else .bool ng1) else undef))::(23,58,(bif u then (bif k1 then undef else .bool ng1) else undef))::(24,59,(bif u then (bif k1 then undef else (bif ng1 then vP qb 5 else undef)) else undef))::(25,60,(bif u then (bif k1 then undef else (bif ng1 then .bool g2 else undef)) else undef))::(26,61,(bif u then (bif k1 then undef else (bif ng1 then .bool (!g2) else undef)) else undef))::(27,62,(bif u then (bif k1 then undef else .bool m2) else undef))::(28,63,(bif u then .bool s2 else undef))::(29,64,.bool v)::(30,2,.bool v)::[]):=⟨_,rfl⟩
     have aw:=zh ag;clear ag;refine aS (fun a0=>65<=a0.tmps.size/\a0.eval (.tmp 3)=vP qa 0/\a0.eval (.tmp 4)=vP qb 0/\a0.eval (.tmp 6)=.bool r1/\a0.eval (.tmp 7)=.bool k1) (35::36::37::38::39::40::41::42::43::44::45::46::47::48::49::50::51::52::53::54::55::56::57::58::59::60::61::62::63::64::2::[]) TT [] (fun w'=>Below W5.heap.size W5 w') (by kernel_rfl) ⟨by simp,rfl,rfl,rfl,rfl⟩ zB ?_ ?_
     ·rintro a0 ⟨hs,kg,vy,vh,hq7⟩ zl a1 w1 zj o ap hI ah ho zd;have ab:Below W5.heap.size W5 w1:=hI.st;have ag:=aw.out
      subst ag;have e3x:=hI.off.q kg;have e4x:=hI.off.q vy;have e6x:=hI.off.q vh;have e7x:=hI.off.q hq7;have hj:=Up.of_false ah;have hj12:zj<31:=by rw[ap]at hj;exact hj
      have G:RG _ _ _ _ _ _ _ _ _ _ _:=⟨by rfl,hI,hs,ah,ho,zd⟩
      (iterate 30 rcases zq hj12 with hj12|rfl);obtain rfl:=cz hj12;all_goals obtain rfl:=oi ho
      ·exact G.nl 0 rfl (by simp[execOp,go_sem,e6x])
      ·exact G.nl 1 rfl (by simp[execOp,go_sem,G.t 0])
      ·refine G.gn 1 2 ?_;rintro rfl;simp[execOp,go_sem,e7x]
      ·cases r1
       all_goals exact G.nl 3 rfl (by simp[execOp,go_sem,G.t 1,G.t 2,hz])
      ·exact G.nl 4 rfl (by simp[execOp,go_sem,G.t 3])
      ·refine G.gv 4 5 ?_;rintro rfl;simp[execOp,go_sem,e6x]
      ·refine G.gv 4 6 ?_;rintro rfl;simp[execOp,go_sem,G.t 5]
      ·have pg:=G.g 6;cases z
       ·exact G.su 7 pg
       cases r1
       ·exact G.vl 7 rfl pg (by simp[execOp,go_sem,e3x])
       exact G.sk 7 pg
      ·have pg:=G.g 6;cases z
       ·exact G.su 8 pg
       cases r1
       ·have Lx:=HA5.out.next ab;have x4:=Lx.cell 4;simp only[za,zb,zf]at x4;exact G.vl 8 rfl pg (by simp[execOp,go_sem,G.t 7,x4,hf1])
       exact G.sk 8 pg
      ·have pg:=G.g 6;cases z
       ·exact G.su 9 pg
       cases r1
       ·exact G.vl 9 rfl pg (by simp[execOp,go_sem,G.t 8,tm])
       exact G.sk 9 pg
      ·have pg:=G.g 6;cases z
       ·exact G.su 10 pg
       cases r1
       ·exact G.vl 10 rfl pg (by simp[execOp,go_sem,G.t 9])
       exact G.sk 10 pg
      ·have pg:=G.g 10;cases z
       ·exact G.su 11 pg
       cases r1
       ·cases nf1
        ·exact G.sk 11 pg
        exact G.vl 11 rfl pg (by simp[execOp,go_sem,e4x])
       exact G.su 11 pg
      ·have pg:=G.g 10;cases z
       ·exact G.su 12 pg
       cases r1
       ·cases nf1
        ·exact G.sk 12 pg
        have Lx:=HBb5.out.next ab;have x4:=Lx.cell 4;simp only[za,zb,zf]at x4;exact G.vl 12 rfl pg (by simp[execOp,go_sem,G.t 11,x4,ut])
       exact G.su 12 pg
      ·have pg:=G.g 10;cases z
       ·exact G.su 13 pg
       cases r1
       ·cases nf1
        ·exact G.sk 13 pg
        exact G.vl 13 rfl pg (by simp[execOp,go_sem,G.t 12])
       exact G.su 13 pg
      ·have pg:=G.g 6;cases z
       ·exact G.su 14 pg
       cases r1
       ·cases nf1
        all_goals exact G.vl 14 rfl pg (by simp[execOp,go_sem,G.t 10,G.t 13,we])
       exact G.sk 14 pg
      ·have pg:=G.g 4;cases z
       ·exact G.sk 15 pg
       cases r1
       all_goals exact G.vl 15 rfl pg (by simp[execOp,go_sem,G.t 6,G.t 14,fe])
      ·cases z
       all_goals exact G.nl 16 rfl (by simp[execOp,go_sem,G.t 4,G.t 15,hu])
      ·exact G.nl 17 rfl (by simp[execOp,go_sem,G.t 16])
      ·refine G.gv 17 18 ?_;rintro rfl;simp[execOp,go_sem,e7x]
      ·refine G.gv 17 19 ?_;rintro rfl;simp[execOp,go_sem,G.t 18]
      ·have pg:=G.g 19;cases u
       ·exact G.su 20 pg
       cases k1
       ·exact G.vl 20 rfl pg (by simp[execOp,go_sem,e3x])
       exact G.sk 20 pg
      ·have pg:=G.g 19;cases u
       ·exact G.su 21 pg
       cases k1
       ·have Lx:=HA5.out.next ab;have x5:=Lx.cell 5;simp only[za,zb,zf]at x5;exact G.vl 21 rfl pg (by simp[execOp,go_sem,G.t 20,x5,iy])
       exact G.sk 21 pg
      ·have pg:=G.g 19;cases u
       ·exact G.su 22 pg
       cases k1
       ·exact G.vl 22 rfl pg (by simp[execOp,go_sem,G.t 21,tn])
       exact G.sk 22 pg
      ·have pg:=G.g 19;cases u
       ·exact G.su 23 pg
       cases k1
       ·exact G.vl 23 rfl pg (by simp[execOp,go_sem,G.t 22])
       exact G.sk 23 pg
      ·have pg:=G.g 23;cases u
       ·exact G.su 24 pg
       cases k1
       ·cases ng1
        ·exact G.sk 24 pg
        exact G.vl 24 rfl pg (by simp[execOp,go_sem,e4x])
       exact G.su 24 pg
      ·have pg:=G.g 23;cases u
       ·exact G.su 25 pg
       cases k1
       ·cases ng1
        ·exact G.sk 25 pg
        have Lx:=HBb5.out.next ab;have x5:=Lx.cell 5;simp only[za,zb,zf]at x5;exact G.vl 25 rfl pg (by simp[execOp,go_sem,G.t 24,x5,li])
       exact G.su 25 pg
      ·have pg:=G.g 23;cases u
       ·exact G.su 26 pg
       cases k1
       ·cases ng1
        ·exact G.sk 26 pg
        exact G.vl 26 rfl pg (by simp[execOp,go_sem,G.t 25])
       exact G.su 26 pg
      ·have pg:=G.g 19;cases u
       ·exact G.su 27 pg
       cases k1
       ·cases ng1
        all_goals exact G.vl 27 rfl pg (by simp[execOp,go_sem,G.t 23,G.t 26,wg])
       exact G.sk 27 pg
      ·have pg:=G.g 17;cases u
       ·exact G.sk 28 pg
       cases k1
       all_goals exact G.vl 28 rfl pg (by simp[execOp,go_sem,G.t 19,G.t 27,iz])
      ·cases u
       all_goals exact G.nl 29 rfl (by simp[execOp,go_sem,G.t 17,G.t 28,hv])
      exact G.nl 30 rfl (by simp[execOp,go_sem,G.t 29])
     intro zl a1 w1 hI bd;have ab:Below W5.heap.size W5 w1:=hI.st;have ag:=aw.out;subst ag;have z2:=hI.ptk 30 rfl (bd 30 (by decide));obtain⟨ff,rfl,hf⟩:=hI.off.forms;rw[<- hf 2]at z2;clear hI;simp only[List.foldl,Act.put,yz,List.set];rw[z2]
     go_wp2_with fail
     go_ret
     exact⟨by first|exact aA HV.out.symm |(rw[HV.out];rfl),by first|exact bk.out.trans (ab.mono (by have:=bk.out.size;omega)) |(rw[hq];exact bk.out.trans (ab.mono (by have:=bk.out.size;omega)))⟩
    have hrf:Hid (rb=false):=zh (by rw[j3.out];have:=HY.out.2.2;rw[HY.out.1,HY.out.2.1]at this;revert this;cases r1 <;> cases r2 <;> cases k1 <;> cases k2 <;> simp)
    go_wp2_with fail
    go_ret
    exact⟨by first|exact aA hrf.out.symm |(rw[hrf.out];rfl),by first|exact bk.out |(rw[hq];exact bk.out)⟩
def NodeH.fine(h:NodeH):Prop:=-9223372036854775808<=h.v.mant/\h.v.mant<=9223372036854775807/\h.v.text.length<=1000000/\h.name.length<=100000
mutual
def Tree.fine:Tree->Prop
 | .mk h l=>h.fine/\uCZ l
def uCZ:List Tree->Prop
 | []=>True
 |t::r=>t.fine/\uCZ r
end
theorem nN:∀ {l:List Tree} (i:Nat) (hi:i<l.length),uCZ l->l[i].fine
 | [],_,hi,_=>absurd hi (by simp)
 |t::r,0,_,h=>h.1
 |t::r,i+1,hi,h=>nN (l:=r) i (by simpa using hi) h.2
theorem xT{l:List Tree}{k:Int}(i:Nat)(h:aT (l.take i) k=false):aT l k=false:=by
 induction l generalizing i with
 |nil=>simp[aT]at h
 |cons t r ih=>
  cases i with
  |zero=>simp[aT]at h
  |succ i=>
   rw[List.take_succ_cons]at h;unfold aT at h ⊢;cases h1:(decide (k≠8)||decide (t.h.kind=0)) <;> cases h2:t.right k <;> rw[h1,h2]at h <;> try simp
   simp at h;exact ih i h
structure RF(a:Act)(g o:Nat)(above:Int):Prop where
 sz:287<=a.tmps.size
 s0:a.eval (.tmp 0)=vP g o
 s1:a.eval (.tmp 1)=vI above
 df:a.defers=[]
theorem RF.off{a a':Act}{S:List Nat}{g o:Nat}{above:Int}(h:RF a g o above)(hO:Off S a a')(h0:0∉S)(h1:1∉S):RF a' g o above :=
 ⟨by rw[hO.size];exact h.sz,(hO.eval h0).trans h.s0,(hO.eval h1).trans h.s1,hO.defers.trans h.df⟩
theorem uDP{fn:Func}{t:Tmp}{a:Act}{w:World}{R:Ending->World->Prop}{v:Value}(h:fn.results=#[.tmp t])(hd:a.defers=[])(hv:a.eval (.tmp t)=v)(hR:R (.returned v) w):bodyPost Tryz.prog fn R .ret a w:=by
 refine yt (results_tmp h a.tmps _ _) hd ?_;have:a.tmps.getD t undef=v:=by rw[<- bR hv,Array.getD_eq_getD_getElem?]
 rw[this];exact hR
theorem dC{Q:Exit->Act->World->Prop}{a:Act}{w:World}{id:Nat}{x y s:Nat}{k c:Int}{ty:TypeId}{p1 p2:String}{t1 t2:TypeId}(b:Bool)(h:a.eval (.tmp s)=vI k)(hb:(k==c)=b)(hx:x<a.tmps.size)(hy:y<a.tmps.size)
  (hn:∀ a',Off [x,y] a a'->a'.eval (.tmp y)=.bool b->Q .normal a' w) :
  (Code.region id #[{ dst:=some x,op:=.binOp .eql ty (.tmp s) (.const (vI c)) ty,type:=t1,pos:=p1,after:=#[],guard:=none },{ dst:=some y,op:=.assign (.tmp x),type:=t2,pos:=p2,after:=#[⟨0,.data⟩],guard:=none }] false).wp Tryz.prog Q a w:=by
 subst hb;refine wp_region_lit ?_;refine wpList_plain rfl fun K hK=>?_
 unfold Oper.wp;have h1:(execOp a.eval { dst:=some x,op:=.binOp .eql ty (.tmp s) (.const (vI c)) ty,type:=t1,pos:=p1,after:=#[],guard:=none }).run Tryz.prog w=.ok (.value (.bool (k==c))) w:=by
  have h':=bR h;simp[execOp,go_sem,h']
 rw[h1];refine hK _ _ ?_;refine wpList_plain rfl fun K2 hK2=>?_
 unfold Oper.wp;have h2:(execOp (a.put (some x) (.bool (k==c))).eval { dst:=some y,op:=.assign (.tmp x),type:=t2,pos:=p2,after:=#[⟨0,.data⟩],guard:=none }).run Tryz.prog w=.ok (.value (.bool (k==c))) w:=by
  simp[execOp,go_sem];intro hh;omega
 rw[h2];refine hK2 _ _ ?_;exact hn _ (((Off.refl _ _).put (.head _) _).put (.tail _ (.head _)) _) (fJ _ _ (by rw[mZ];exact hy))
theorem wp_inc{Q:Exit->Act->World->Prop}{a:Act}{w:World}{id:Nat}{x s:Nat}{k:Int}{ty t1 t2:TypeId}{p1 p2:String}(h:a.eval (.tmp s)=vI k)(hk:IntKind.i64.wrap (k+1)=k+1)(hx:x<a.tmps.size)(hs:s<a.tmps.size)
  (hn:∀ a',Off [x,s] a a'->a'.eval (.tmp s)=vI (k+1)->Q .normal a' w) :
  (Code.region id #[{ dst:=some x,op:=.binOp .add ty (.tmp s) (.const (vI 1)) ty,type:=t1,pos:=p1,after:=#[],guard:=none },{ dst:=some s,op:=.move (.tmp x),type:=t2,pos:=p2,after:=#[⟨0,.data⟩],guard:=none }] false).wp Tryz.prog Q a w:=by
 refine wp_region_lit ?_;refine wpList_plain rfl fun K hK=>?_
 unfold Oper.wp;have h1:(execOp a.eval { dst:=some x,op:=.binOp .add ty (.tmp s) (.const (vI 1)) ty,type:=t1,pos:=p1,after:=#[],guard:=none }).run Tryz.prog w=.ok (.value (vI (k+1))) w:=by
  have h':=bR h;simp[execOp,go_sem,h',hk]
 rw[h1];refine hK _ _ ?_;refine wpList_plain rfl fun K2 hK2=>?_
 unfold Oper.wp;have h2:(execOp (a.put (some x) (vI (k+1))).eval { dst:=some s,op:=.move (.tmp x),type:=t2,pos:=p2,after:=#[⟨0,.data⟩],guard:=none }).run Tryz.prog w=.ok (.value (vI (k+1))) w:=by
  simp[execOp,go_sem];intro hh;omega
 rw[h2];refine hK2 _ _ ?_;exact hn _ (((Off.refl _ _).put (.head _) _).put (.tail _ (.head _)) _) (fJ _ _ (by rw[mZ];exact hs))
end Go.Proofs.YtjfihpaeglpblaaGreatDoor
