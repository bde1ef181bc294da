/-
  Lemmas, part 13: RkA RkB RkC RkE RmA PaG.
-/
import Derived.Test.YtjfihpaeglpblaaGreatDoorRf10
set_option maxHeartbeats 100000000
set_option maxRecDepth 1000000
namespace Go.Proofs.YtjfihpaeglpblaaGreatDoor
open Go.RowKit
theorem bZ(c:UInt8)(w:World) :
  Calls Tryz.prog 202 #[.int .u8 (c.toNat:Int)] w fun e w'=>e=.returned (.bool (aZ c))/\w=w':=by
 go_in
 go_wp2
 all_goals go_ret
 all_goals exact⟨aA (by unfold aZ;rw[ze];simp;try omega),rfl⟩
theorem cF(c:UInt8)(w:World) :
  Calls Tryz.prog 203 #[.int .u8 (c.toNat:Int)] w fun e w'=>e=.returned (.bool (aC c))/\w=w':=by
 go_in
 go_wp2
 all_goals go_ret
 all_goals exact⟨aA (by unfold aC;rw[ze];simp;try omega),rfl⟩
theorem pG(l:Bs)(w:World)(hs:l.length<=maxLen) :
  Calls Tryz.prog 234 #[vT l] w fun e w'=>e=.returned (.bool (l.all aC))/\w=w':=by
 unfold maxLen at hs
 go_in
 go_wp2
 go_loop [3] (fun i=>∃ k:Nat,k<=l.length/\i=vI k/\(l.take k).all aC=true) (fun i=>l.length-(intOf i).toNat)
 case atStart=>exact⟨0,zm _,rfl,by simp⟩
 case round=>
  obtain⟨k,hk,rfl,hr⟩:=hrel;have HR:=zh hr;clear hr;by_cases hlt:k<l.length
  ·cases hd:aC l[k]
   ·have HQ:=zh (lK hlt hd)
    go_wp2_with (go_at_call 203;refine(cF _ _).mono ?_;rintro e w' ⟨rfl,rfl⟩)
    go_ret
    exact⟨aA (by rw[HQ.out]),rfl⟩
   have HQ:=zh (eC HR.out hlt hd)
   go_wp2_with (go_at_call 203;refine(cF _ _).mono ?_;rintro e w' ⟨rfl,rfl⟩)
   go_round
   case rel=>exact⟨k+1,by omega,by go_num,HQ.out⟩
   case measure=>simp[intOf];omega
  have HQ:Hid (l.all aC=true):=zh (by have h:=HR.out;rw[List.take_of_length_le (by omega)]at h;exact h)
  go_wp2
  go_ret
  exact⟨aA (by rw[HQ.out]),rfl⟩
def nW(l:Bs):Bool:=decide (aE l<=3)&&(decide (aE l<l.length)&&(decide (l.length<=7+aE l)&&(!bH l (aE l) 48&&(l.drop (aE l)).all aC)))
theorem uFC(l:Bs)(w:World)(hs:l.length<=100000) :
  Calls Tryz.prog 204 #[vT l] w fun e w'=>e=.returned (.bool (nW l))/\w=w':=by
 have HD:=zh (fun k W=>pG (l.drop k) W (by rw[yk];unfold maxLen;omega));unfold nW aE
 go_in
 go_wp2
 go_loop [3] (fun i=>∃ k:Nat,k<=l.length/\i=vI k/\k<=aU aZ l) (fun i=>l.length-(intOf i).toNat)
 case atStart=>exact⟨0,zm _,rfl,zm _⟩
 case round=>
  obtain⟨k,hk,rfl,hr⟩:=hrel;have HK:=zh hr;clear hr;by_cases py:∃ h:k<l.length,aZ l[k]=true
  ·obtain⟨hlt,hd⟩:=py;have HQ:=zh (iL _ _ _ HK.out hlt hd)
   go_wp2_with (go_at_call 202;refine(bZ _ _).mono ?_;rintro e w' ⟨rfl,rfl⟩)
   go_round
   case rel=>exact⟨k+1,by omega,by go_num,HQ.out⟩
   case measure=>simp[intOf];omega
  have en:¬ k<l.length\/∃ h:k<l.length,aZ l[k]=false:=by
   by_cases hlt:k<l.length
   ·exact .inr ⟨hlt,by cases h:aZ l[k];rfl;exact absurd ⟨hlt,h⟩ py⟩
   exact .inl hlt
  have HQ:Hid (aU aZ l=k):=zh (by
   rcases en with h|⟨h,hd⟩
   ·have:=cJ aZ l;have:=HK.out;omega
   exact mX _ _ _ HK.out h hd)
  clear py;rcases en with hlt|⟨hlt,hd⟩
  all_goals go_upto_region 4 with(go_at_call 202;refine(bZ _ _).mono ?_;rintro e w' ⟨rfl,rfl⟩)
  ·by_cases e1:k<=3
   all_goals
    go_wp2_with fail
    go_ret
    exact⟨aA (by rw[HQ.out];simp[e1,hlt]),rfl⟩
  clear hd;by_cases e1:k<=3
  ·by_cases e3:l.length<=7+k
   ·have e4:(l.length:Int)-(k:Int)<=7:=by omega
    have hq:=at_bne l k 48 48 rfl hlt;cases h48:bH l k 48 with
    |true=>
     rw[h48]at hq
     go_wp2_with fail
     go_ret
     exact⟨aA (by rw[HQ.out];simp[h48]),rfl⟩
    |false=>
     rw[h48]at hq;have se:=zh (HD.out k w)
     go_wp2_with fail
     refine se.out.mono ?_;rintro e w' ⟨rfl,rfl⟩
     go_wp2_with fail
     go_ret
     exact⟨aA (by rw[HQ.out,decide_eq_true e3];simp[e1,hlt,h48]),rfl⟩
   have e4:¬ (l.length:Int)-(k:Int)<=7:=by omega
   go_wp2_with fail
   go_ret
   exact⟨aA (by rw[HQ.out,decide_eq_false e3];simp),rfl⟩
  go_wp2_with fail
  go_ret
  exact⟨aA (by rw[HQ.out];simp[e1]),rfl⟩
def rS(l:Bs):Bool:=(decide (1<=aE l)&&(decide (aE l<=3)&&(decide (aE l<l.length)&&(l.drop (aE l)).all aC)))||dH l
theorem lF{l:Bs}{a k:Nat}(h1:a<=k)(h2:k-a<=aU aC (l.drop a))(hlt:k<l.length)(hd:aC l[k]=true):k+1-a<=aU aC (l.drop a):=by
 have h3:k-a<(l.drop a).length:=by rw[yk];omega
 have h4:(l.drop a)[k-a]=l[k]:=by rw[List.getElem_drop];congr 1;omega
 have:=iL aC (l.drop a) (k-a) h2 h3 (by rw[h4];exact hd);omega
theorem mW{l:Bs}{a k:Nat}(h1:a<=k)(h2:k-a<=aU aC (l.drop a))(hk:k<=l.length)(en:¬ k<l.length\/∃ h:k<l.length,aC l[k]=false):k=a+aU aC (l.drop a):=by
 have h5:=cJ aC (l.drop a);rw[yk]at h5;rcases en with h|⟨hlt,hd⟩
 ·omega
 have h3:k-a<(l.drop a).length:=by rw[yk];omega
 have h4:(l.drop a)[k-a]=l[k]:=by rw[List.getElem_drop];congr 1;omega
 have:=mX aC (l.drop a) (k-a) h2 h3 (by rw[h4];exact hd);omega
theorem uFA(l:Bs)(w:World)(hs:l.length<=100000) :
  Calls Tryz.prog 205 #[vT l] w fun e w'=>e=.returned (.bool (rS l))/\w=w':=by
 have HD:=zh (fun k W=>pG (l.drop k) W (by rw[yk];unfold maxLen;omega));obtain⟨R,hR⟩:=zE (rS l)
 have HR:=zh hR;rw[hR];clear hR
 go_in
 go_upto_block 0 with fail
 go_cut [3] (fun v wx=>v=vI (aE l:Nat)/\Hid (wx=w))
 case first=>
  go_wp2_with fail
  go_loop [3] (fun i=>∃ k:Nat,k<=l.length/\i=vI k/\k<=aU aZ l) (fun i=>l.length-(intOf i).toNat)
  case atStart=>exact⟨0,zm _,rfl,zm _⟩
  case round=>
   obtain⟨k,hk,rfl,hr⟩:=hrel;have HK:=zh hr;clear hr;by_cases py:∃ h:k<l.length,aZ l[k]=true
   ·obtain⟨hlt,hd⟩:=py;have HQ:=zh (iL _ _ _ HK.out hlt hd)
    go_wp2_with (go_at_call 202;refine(bZ _ _).mono ?_;rintro e w' ⟨rfl,rfl⟩)
    go_round
    case rel=>exact⟨k+1,by omega,by go_num,HQ.out⟩
    case measure=>simp[intOf];omega
   have en:¬ k<l.length\/∃ h:k<l.length,aZ l[k]=false:=by
    by_cases hlt:k<l.length
    ·exact .inr ⟨hlt,by cases h:aZ l[k];rfl;exact absurd ⟨hlt,h⟩ py⟩
    exact .inl hlt
   have HQ:Hid (aU aZ l=k):=zh (by
    rcases en with h|⟨h,hd⟩
    ·have:=cJ aZ l;have:=HK.out;omega
    exact mX _ _ _ HK.out h hd)
   clear py;rcases en with hlt|⟨hlt,hd⟩
   all_goals go_wp2_with (go_at_call 202;refine(bZ _ _).mono ?_;rintro e w' ⟨rfl,rfl⟩)
   all_goals go_meet
   all_goals exact⟨by unfold aE;rw[HQ.out],zh rfl⟩
 case rest=>
 obtain⟨rfl,hcut⟩:=hcut;have ny:=hcut.out;subst ny;clear hcut;have o9:aE l<=l.length:=cJ aZ l;have j3:Hid (((decide (1<=aE l)&&(decide (aE l<=3)&&(decide (aE l<l.length)&&(l.drop (aE l)).all aC)))||dH l)=R):=zh HR.out;have se:=zh (HD.out (aE l) wc);clear HR HD;generalize (l.drop (aE l)).all aC=ad at *;generalize aE l=k at *
 go_upto_region 4 with fail
 go_cut [34] (fun v wx=>v=.bool (decide (1<=k)&&(decide (k<=3)&&(decide (k<l.length)&&ad)))/\Hid (wx=wc))
 case first=>
  by_cases e1:1<=k
  ·by_cases e2:k<=3
   ·by_cases e3:k<l.length
    ·go_wp2_with fail
     refine se.out.mono ?_;rintro e w' ⟨rfl,rfl⟩
     go_wp2_with fail
     go_meet
     exact⟨by simp[e1,e2,e3],zh rfl⟩
    go_wp2_with fail
    go_meet
    exact⟨by simp[e3],zh rfl⟩
   go_wp2_with fail
   go_meet
   exact⟨by simp[e2],zh rfl⟩
  go_wp2_with fail
  go_meet
  exact⟨by simp[e1],zh rfl⟩
 case rest=>
 obtain⟨rfl,hcut⟩:=hcut;have ny:=hcut.out;subst ny;clear hcut se;generalize (decide (1<=k)&&(decide (k<=3)&&(decide (k<l.length)&&ad)))=c at *;cases c with
 |true=>
  have j8:Hid (true=R):=zh j3.out
  go_wp2_with fail
  go_ret
  exact⟨aA j8.out,rfl⟩
 |false=>
 have j8:Hid (dH l=R):=zh j3.out;clear j3
 go_upto_region 7 with fail
 go_cut [44] (fun v wx=>v=.bool (bH l 0 82)/\Hid (wx=wc))
 case first=>
  by_cases h0:0<l.length
  ·have hq:=qH l 0 82 82 rfl h0
   go_wp2_with fail
   go_meet
   exact⟨rfl,zh rfl⟩
  have hq:=nI l 0 82 (by omega)
  go_wp2_with fail
  go_meet
  exact⟨by rw[hq],zh rfl⟩
 case rest=>
 obtain⟨rfl,hcut⟩:=hcut;have ny:=hcut.out;subst ny;clear hcut;unfold dH at j8;have HAL:Hid ((if bH l 0 82=true then 1+aG (l.drop 1) else 0)<=l.length):=zh (by
  split
  ·rename_i h
   have h1:=wK _ _ _ h;have h2:=cJ aC (l.drop 1);rw[yk]at h2;unfold aG;omega
  exact zm _)
 go_upto_if 44 with fail
 go_cut [4] (fun v wx=>v=vI ((if bH l 0 82=true then 1+aG (l.drop 1) else 0:Nat):Int)/\Hid (wx=wc))
 case first=>
  cases h82:bH l 0 82 with
  |true=>
   have hlt0:=wK _ _ _ h82
   go_wp2_with fail
   go_loop [4] (fun i=>∃ k:Nat,1<=k/\k<=l.length/\i=vI k/\k-1<=aU aC (l.drop 1)) (fun i=>l.length-(intOf i).toNat)
   case atStart=>exact⟨1,zr,by omega,by go_num,by omega⟩
   case round=>
    obtain⟨k2,fw,hk,rfl,hr⟩:=hrel;have HK:=zh hr;clear hr;by_cases py:∃ h:k2<l.length,aC l[k2]=true
    ·obtain⟨hlt,hd⟩:=py;have HQ:=zh (lF fw HK.out hlt hd)
     go_wp2_with (go_at_call 203;refine(cF _ _).mono ?_;rintro e w' ⟨rfl,rfl⟩)
     go_round
     case rel=>exact⟨k2+1,by omega,by omega,by go_num,HQ.out⟩
     case measure=>simp[intOf];omega
    have en:¬ k2<l.length\/∃ h:k2<l.length,aC l[k2]=false:=by
     by_cases hlt:k2<l.length
     ·exact .inr ⟨hlt,by cases h:aC l[k2];rfl;exact absurd ⟨hlt,h⟩ py⟩
     exact .inl hlt
    have HQ:=zh (mW fw HK.out hk en);clear py;rcases en with hlt|⟨hlt,hd⟩
    all_goals go_wp2_with (go_at_call 203;refine(cF _ _).mono ?_;rintro e w' ⟨rfl,rfl⟩)
    all_goals go_meet
    all_goals exact⟨by rw[if_pos h82,HQ.out];rfl,zh rfl⟩
  |false=>
   go_wp2_with fail
   go_meet
   exact⟨by rw[if_neg (by rw[h82];decide)];rfl,zh rfl⟩
 case rest=>
 obtain⟨rfl,hcut⟩:=hcut;have ny:=hcut.out;subst ny;clear hcut;generalize (if bH l 0 82=true then 1+aG (l.drop 1) else 0)=a at *;have ve:=HAL.out;clear HAL
 go_upto_region 11 with fail
 go_cut [68] (fun v wx=>v=.bool (bH l a 67)/\Hid (wx=wc))
 case first=>
  by_cases h0:a<l.length
  ·have hq:=qH l a 67 67 rfl h0
   go_wp2_with fail
   go_meet
   exact⟨rfl,zh rfl⟩
  have hq:=nI l a 67 (by omega)
  go_wp2_with fail
  go_meet
  exact⟨by rw[hq],zh rfl⟩
 case rest=>
 obtain⟨rfl,hcut⟩:=hcut;have ny:=hcut.out;subst ny;clear hcut
 go_upto_if 68 with fail
 go_cut [4] (fun v wx=>v=vI ((if bH l a 67=true then a+1+aG (l.drop (a+1)) else a:Nat):Int)/\Hid (wx=wc))
 case first=>
  cases h67:bH l a 67 with
  |true=>
   have hlt0:=wK _ _ _ h67
   go_wp2_with fail
   go_loop [4] (fun i=>∃ k:Nat,(a+1)<=k/\k<=l.length/\i=vI k/\k-(a+1)<=aU aC (l.drop (a+1))) (fun i=>l.length-(intOf i).toNat)
   case atStart=>exact⟨(a+1),zr,by omega,by go_num,by omega⟩
   case round=>
    obtain⟨k2,fw,hk,rfl,hr⟩:=hrel;have HK:=zh hr;clear hr;by_cases py:∃ h:k2<l.length,aC l[k2]=true
    ·obtain⟨hlt,hd⟩:=py;have HQ:=zh (lF fw HK.out hlt hd)
     go_wp2_with (go_at_call 203;refine(cF _ _).mono ?_;rintro e w' ⟨rfl,rfl⟩)
     go_round
     case rel=>exact⟨k2+1,by omega,by omega,by go_num,HQ.out⟩
     case measure=>simp[intOf];omega
    have en:¬ k2<l.length\/∃ h:k2<l.length,aC l[k2]=false:=by
     by_cases hlt:k2<l.length
     ·exact .inr ⟨hlt,by cases h:aC l[k2];rfl;exact absurd ⟨hlt,h⟩ py⟩
     exact .inl hlt
    have HQ:=zh (mW fw HK.out hk en);clear py;rcases en with hlt|⟨hlt,hd⟩
    all_goals go_wp2_with (go_at_call 203;refine(cF _ _).mono ?_;rintro e w' ⟨rfl,rfl⟩)
    all_goals go_meet
    all_goals exact⟨by rw[if_pos h67,HQ.out];rfl,zh rfl⟩
  |false=>
   go_wp2_with fail
   go_meet
   exact⟨by rw[if_neg (by rw[h67];decide)],zh rfl⟩
 case rest=>
 obtain⟨rfl,hcut⟩:=hcut;have ny:=hcut.out;subst ny;clear hcut;dsimp only at j8;generalize (if bH l a 67=true then a+1+aG (l.drop (a+1)) else a)=b at *
 go_wp2_with fail
 go_ret
 exact⟨aA (by rw[<- j8.out,ze];simp;try omega),rfl⟩
def TxtAt(w:World)(g:Nat)(xs:List Bs):Prop:=∀ j (h:j<xs.length),w.cell? ⟨g,j,none⟩=some (vS (xs[j].toArray))
theorem mT(c:Cor)(w:World) :
  Calls Tryz.prog 149 #[corV c] w fun e w'=>e=.returned (.bool (decide (c.row≠id0)&&decide (c.col≠id0)))/\Below w.heap.size w w':=by
 obtain⟨W1,am⟩:=zD (w.alloc (.cells (kW c) 29))
 have al:=zh am;have HL:=zL am;have HB:=zA am;clear am;have x0:=HL.out.cell 0;have x1:=HL.out.cell 1;have x2:=HL.out.cell 2;have x3:=HL.out.cell 3;simp only[za,zb,zf]at x0 x1 x2 x3;have hlt:=HL.out.lt;obtain⟨r1,i7⟩:∃ b,decide (c.row≠id0)=b:=⟨_,rfl⟩
 obtain⟨r2,la⟩:∃ b,decide (c.col≠id0)=b:=⟨_,rfl⟩
 have N1:∀ w:World,(binOp .neq 27 (idV c.row) (idV id0)).run Tryz.prog w=.ok (.bool r1) w:=fun w=>by rw[dP,i7]
 have N2:∀ w:World,(binOp .neq 27 (idV c.col) (idV id0)).run Tryz.prog w=.ok (.bool r2) w:=fun w=>by rw[dP,la]
 rw[i7,la];clear i7 la
 go_in
 go_upto_region 1 with fail
 rw[<- al.out];generalize hq:w.heap.size=q at *;cases r1 <;> cases r2
 all_goals go_wp2_with fail
 all_goals go_ret
 all_goals exact⟨rfl,by first|exact HB.out |(rw[hq];exact HB.out)⟩
theorem yU{p:UInt8->Bool}:∀ {l:Bs},l.all p=true↔aU p l=l.length
 | []=>by simp[aU]
 |c::l=>by
  have ih:=yU (p:=p) (l:=l);have hle:=cJ p l;rw[List.all_cons,yh,aU,yi,ih];cases hp:p c with
  |true=>simp
  |false=>simp
theorem mark_eq(l:Bs):(decide (aE l+aG (l.drop (aE l))=l.length)&&decide (aE l<=3)&&decide (1<=aG (l.drop (aE l)))&&decide (aG (l.drop (aE l))<=7)&&!bH l (aE l) 48)=nW l:=by
 have h:=yU (p:=aC) (l:=l.drop (aE l));rw[yk]at h;have hc:aE l<=l.length:=cJ aZ l;unfold nW;rw[ze];simp only[yh,decide_eq_true_eq,h];unfold aG;constructor
 ·rintro⟨⟨⟨⟨a1,a2⟩,a3⟩,a4⟩,a5⟩;exact⟨a2,by omega,by omega,a5,by omega⟩
 rintro⟨a2,a3,a4,a5,a6⟩;exact⟨⟨⟨⟨by omega,a2⟩,by omega⟩,by omega⟩,a5⟩
theorem addr_eq(l:Bs):(decide (aE l+aG (l.drop (aE l))=l.length)&&decide (1<=aE l)&&decide (aE l<=3)&&decide (1<=aG (l.drop (aE l))))=(decide (1<=aE l)&&(decide (aE l<=3)&&(decide (aE l<l.length)&&(l.drop (aE l)).all aC))):=by
 have h:=yU (p:=aC) (l:=l.drop (aE l));rw[yk]at h;have hc:aE l<=l.length:=cJ aZ l;rw[ze];simp only[yh,decide_eq_true_eq,h];unfold aG;omega
theorem call_eq(l:Bs):bN l=(decide (0<l.length)&&decide (l.length<=32)&&aZ (l.headD 0)&&l.all dQ&&!nW l):=by
 rw[<- mark_eq];rfl
theorem name_eq(l:Bs):bB l=(decide (0<l.length)&&decide (l.length<=32)&&(aZ (l.headD 0)||l.headD 0==95)&&l.all cK&&!(l==lI||l==gZ)&&!rS l):=by
 unfold rS;rw[<- addr_eq];have e:bB l=(decide (0<l.length)&&decide (l.length<=32)&&(aZ (l.headD 0)||l.headD 0==95)&&l.all cK&&!(l==lI||l==gZ||dH l)&&!(decide (aE l+aG (l.drop (aE l))=l.length)&&decide (1<=aE l)&&decide (aE l<=3)&&decide (1<=aG (l.drop (aE l))))):=rfl;rw[e];generalize (decide (0<l.length)&&decide (l.length<=32)&&(aZ (l.headD 0)||l.headD 0==95)&&l.all cK)=a;generalize (l==lI||l==gZ)=b;generalize dH l=c;generalize (decide (aE l+aG (l.drop (aE l))=l.length)&&decide (1<=aE l)&&decide (aE l<=3)&&decide (1<=aG (l.drop (aE l))))=d;cases a <;> cases b <;> cases c <;> cases d <;> rfl
theorem tM{p:UInt8->Bool}{l:Bs}{k:Nat}(h:k<l.length)(hp:p l[k]=false):l.all p=false:=by
 cases ha:l.all p with
 |false=>rfl
 |true=>rw[List.all_eq_true.1 ha _ (List.getElem_mem h)]at hp;cases hp
theorem wU{l:Bs}(h:0<l.length):l.headD 0=l[0]:=by cases l with|nil=>cases h|cons c t=>rfl
theorem uL(l:Bs)(w:World)(hs:l.length<=100000) :
  Calls Tryz.prog 151 #[vT l] w fun e w'=>e=.returned (.bool (bN l))/\w=w':=by
 have HM:=zh (uFC l w hs);rw[call_eq];generalize nW l=m at *;by_cases h0:l.length<1
 ·have h0i:(l.length:Int)<1:=by omega
  clear HM
  go_in
  go_wp2_with fail
  go_ret
  exact⟨aA (by rw[decide_eq_false (by omega:¬ 0<l.length)];rfl),rfl⟩
 have h1i:¬ (l.length:Int)<1:=by omega
 by_cases vw:32<l.length
 ·have pr:(32:Int)<(l.length:Int):=by omega
  clear HM
  go_in
  go_wp2_with fail
  go_ret
  exact⟨aA (by rw[decide_eq_false (by omega:¬ l.length<=32)];simp),rfl⟩
 have pr:¬ (32:Int)<(l.length:Int):=by omega
 have jp:0<l.length:=by omega
 rw[wU jp,decide_eq_true jp,decide_eq_true (by omega:l.length<=32)];cases jd:aZ l[0] with
 |false=>
  clear HM
  go_in
  go_wp2_with (go_at_call 202;refine(bZ _ _).mono ?_;rintro e w' ⟨rfl,rfl⟩)
  go_ret
  exact⟨aA (by simp),rfl⟩
 |true=>
 obtain⟨r,hr⟩:∃ r,(true&&true&&true&&l.all dQ&&!m)=r:=⟨_,rfl⟩
 have HR:Hid ((l.all dQ&&!m)=r):=zh (by rw[<- hr];simp);rw[hr];have H0:Hid ((l.take 1).all dQ=true):=zh (by
  rw[show l.take 1=[l[0]] by cases l with|nil=>cases jp|cons c t=>rfl];simp[dQ,jd])
 clear h0 vw hr hs
 go_in
 go_wp2_with (go_at_call 202;refine(bZ _ _).mono ?_;rintro e w' ⟨rfl,rfl⟩)
 clear jd
 go_loop [3] (fun i=>∃ k:Nat,1<=k/\k<=l.length/\i=vI k/\Hid ((l.take k).all dQ=true)) (fun i=>l.length-(intOf i).toNat)
 case atStart=>exact⟨1,zr,jp,rfl,H0⟩
 case round=>
  obtain⟨k,fw,hk,rfl,HK⟩:=hrel;by_cases hlt:k<l.length
  ·have kq:=jQ l[k] 46 46 rfl;have ip:(k:Int)<(l.length:Int):=by omega
   cases d:dQ l[k] with
   |false=>
    have HA:=zh (tM hlt d);unfold dQ at d;simp only[Bool.or_eq_false_iff]at d;obtain⟨⟨d1,d2⟩,d3⟩:=d;rw[d3]at kq;clear d3
    go_wp2_with (first |(go_at_call 202;refine(bZ _ _).mono ?_;rintro e w' ⟨rfl,rfl⟩) |(go_at_call 203;refine(cF _ _).mono ?_;rintro e w' ⟨rfl,rfl⟩))
    go_ret
    exact⟨aA (by rw[<- HR.out,HA.out];rfl),rfl⟩
   |true=>
   have HS:=zh (eC HK.out hlt d);unfold dQ at d;cases d1:aZ l[k] with
   |true=>
    clear d
    go_wp2_with (first |(go_at_call 202;refine(bZ _ _).mono ?_;rintro e w' ⟨rfl,rfl⟩) |(go_at_call 203;refine(cF _ _).mono ?_;rintro e w' ⟨rfl,rfl⟩))
    go_round
    case rel=>exact⟨k+1,by omega,by omega,by go_num,HS⟩
    case measure=>simp[intOf];omega
   |false=>
    cases d2:aC l[k] with
    |true=>
     clear d
     go_wp2_with (first |(go_at_call 202;refine(bZ _ _).mono ?_;rintro e w' ⟨rfl,rfl⟩) |(go_at_call 203;refine(cF _ _).mono ?_;rintro e w' ⟨rfl,rfl⟩))
     go_round
     case rel=>exact⟨k+1,by omega,by omega,by go_num,HS⟩
     case measure=>simp[intOf];omega
    |false=>
     have d3:(l[k]==46)=true:=by rw[d1,d2]at d;simpa using d
     rw[d3]at kq;clear d d3
     go_wp2_with (first |(go_at_call 202;refine(bZ _ _).mono ?_;rintro e w' ⟨rfl,rfl⟩) |(go_at_call 203;refine(cF _ _).mono ?_;rintro e w' ⟨rfl,rfl⟩))
     go_round
     case rel=>exact⟨k+1,by omega,by omega,by go_num,HS⟩
     case measure=>simp[intOf];omega
  have HE:Hid (l.all dQ=true):=zh (by have h:=HK.out;rwa [List.take_of_length_le (by omega)]at h);have sq:¬ (k:Int)<(l.length:Int):=by omega
  go_wp2_with fail
  refine HM.out.mono ?_;rintro e w' ⟨rfl,rfl⟩
  go_wp2_with fail
  go_ret
  exact⟨aA (by rw[<- HR.out,HE.out];simp),rfl⟩
theorem uDN(s:Bs)(g cp:Nat)(xs:List Bs)(w:World)(hx:TxtAt w g xs)(hl:xs.length<=100) :
  Calls Tryz.prog 152 #[vT s,.slice (some ⟨g,0,none⟩) xs.length cp] w fun e w'=>e=.returned (.bool (xs.contains s))/\w=w':=by
 have HX:=zh hx;obtain⟨r,hr⟩:=zE (xs.contains s)
 have HR:=zh hr;rw[hr];clear hx hr
 go_in
 go_wp2
 go_loop [5] (fun i=>∃ k:Nat,k<=xs.length/\i=vI k/\Hid (s∉xs.take k)) (fun i=>xs.length-(intOf i).toNat)
 case atStart=>exact⟨0,zm _,rfl,zh (by simp)⟩
 case round=>
  obtain⟨k,hk,rfl,HN⟩:=hrel;by_cases hlt:k<xs.length
  ·have x0:=HX.out k hlt;have ip:(k:Int)<(xs.length:Int):=by omega
   cases hd:(xs[k]==s)
   ·have HQ:Hid (s∉xs.take (k+1)):=zh (by
     rw[yw hlt,List.mem_append,yf];rintro(h|h)
     ·exact HN.out h
     rw[h]at hd;simp at hd)
    go_wp2_with fail
    go_round
    case rel=>exact⟨k+1,by omega,by go_num,HQ⟩
    case measure=>simp[intOf];omega
   have HT:Hid (xs.contains s=true):=zh (by
    rw[List.contains_iff_mem];have:=List.getElem_mem hlt
    rwa [eq_of_beq hd]at this)
   go_wp2_with fail
   go_ret
   exact⟨aA (by rw[<- HR.out,HT.out]),rfl⟩
  have HF:Hid (xs.contains s=false):=zh (by
   cases hc:xs.contains s with
   |false=>rfl
   |true=>exact absurd (List.contains_iff_mem.1 hc) (by have h:=HN.out;rwa [List.take_of_length_le (by omega)]at h))
  have sq:¬ (k:Int)<(xs.length:Int):=by omega
  go_wp2_with fail
  go_ret
  exact⟨aA (by rw[<- HR.out,HF.out]),rfl⟩
theorem uFD(l:Bs)(w:World)(hs:l.length<=100000) :
  Calls Tryz.prog 153 #[vT l] w fun e w'=>e=.returned (.bool (bB l))/\w=w':=by
 have HM:=zh (uFA l w hs);rw[name_eq];generalize rS l=m at *;by_cases h0:l.length<1
 ·have h0i:(l.length:Int)<1:=by omega
  clear HM
  go_in
  go_wp2_with fail
  go_ret
  exact⟨aA (by rw[decide_eq_false (by omega:¬ 0<l.length)];rfl),rfl⟩
 have h1i:¬ (l.length:Int)<1:=by omega
 by_cases vw:32<l.length
 ·have pr:(32:Int)<(l.length:Int):=by omega
  clear HM
  go_in
  go_wp2_with fail
  go_ret
  exact⟨aA (by rw[decide_eq_false (by omega:¬ l.length<=32)];simp),rfl⟩
 have pr:¬ (32:Int)<(l.length:Int):=by omega
 have jp:0<l.length:=by omega
 rw[wU jp,decide_eq_true jp,decide_eq_true (by omega:l.length<=32)];obtain⟨t1,na⟩:∃ b,(l==([84,82,85,69]:Bs))=b:=⟨_,rfl⟩
 obtain⟨t2,r9⟩:∃ b,(l==([70,65,76,83,69]:Bs))=b:=⟨_,rfl⟩
 have h95:=jQ l[0] 95 95 rfl;obtain⟨c1,du⟩:∃ b,aZ l[0]=b:=⟨_,rfl⟩
 obtain⟨c2,jt⟩:∃ b,(l[0]==95)=b:=⟨_,rfl⟩
 rw[jt]at h95;obtain⟨b0,ev⟩:∃ b,(!(c1||c2)||t1||t2||m)=b:=⟨_,rfl⟩
 have H0:=zh ev;obtain⟨r,hr⟩:∃ r,(true&&true&&(aZ l[0]||l[0]==95)&&l.all cK&&!(l==lI||l==gZ)&&!m)=r:=⟨_,rfl⟩
 have HR:Hid ((l.all cK&&!b0)=r):=zh (by
  rw[<- hr,<- ev,du,jt,show (l==lI)=t1 from na,show (l==gZ)=t2 from r9];generalize l.all cK=x;cases c1 <;> cases c2 <;> cases t1 <;> cases t2 <;> cases m <;> cases x <;> rfl)
 rw[hr];have H1:Hid (b0=false->(l.take 1).all cK=true):=zh (fun hb=>by
  rw[show l.take 1=[l[0]] by cases l with|nil=>cases jp|cons c t=>rfl];rw[<- ev]at hb;simp only[Bool.or_eq_false_iff,Bool.not_eq_false',Bool.or_eq_true]at hb;rcases hb.1.1.1 with h|h
  ·rw[h]at du;simp[cK,du]
  rw[h]at jt;simp only[cK,List.all_cons,List.all_nil];rw[jt];simp)
 clear h0 vw hr hs ev jt
 go_in
 go_upto_region 1 with fail
 go_cut [34] (fun v wx=>v=.bool b0/\Hid (wx=w))
 case first=>
  clear HR H1;cases c1 <;> cases c2 <;> cases t1 <;> cases t2
  all_goals go_wp2_with (go_at_call 202;refine(bZ _ _).mono ?_;rintro e w' ⟨rfl,rfl⟩)
  all_goals first |(go_meet;exact⟨by rw[<- H0.out];rfl,zh rfl⟩) |(refine HM.out.mono ?_;rintro e w' ⟨rfl,rfl⟩;go_wp2_with fail;go_meet;exact⟨by rw[<- H0.out];simp,zh rfl⟩)
 case rest=>
 obtain⟨rfl,hcut⟩:=hcut;have ny:=hcut.out;subst ny;clear hcut h95 HM na r9 H0 du;cases b0 with
 |true=>
  go_wp2_with fail
  go_ret
  exact⟨aA (by rw[<- HR.out];simp),rfl⟩
 |false=>
 have H2:=zh (H1.out rfl);clear H1
 go_wp2_with fail
 go_loop [3] (fun i=>∃ k:Nat,1<=k/\k<=l.length/\i=vI k/\Hid ((l.take k).all cK=true)) (fun i=>l.length-(intOf i).toNat)
 case atStart=>exact⟨1,zr,jp,rfl,H2⟩
 case round=>
  obtain⟨k,fw,hk,rfl,HK⟩:=hrel;by_cases hlt:k<l.length
  ·have kq:=jQ l[k] 46 46 rfl;have rl:=jQ l[k] 95 95 rfl;have ip:(k:Int)<(l.length:Int):=by omega
   cases d:cK l[k] with
   |false=>
    have HA:=zh (tM hlt d);unfold cK at d;simp only[Bool.or_eq_false_iff]at d;obtain⟨⟨⟨d1,d2⟩,d4⟩,d3⟩:=d;rw[d3]at kq;rw[d4]at rl;clear d3 d4
    go_wp2_with (first |(go_at_call 202;refine(bZ _ _).mono ?_;rintro e w' ⟨rfl,rfl⟩) |(go_at_call 203;refine(cF _ _).mono ?_;rintro e w' ⟨rfl,rfl⟩))
    go_ret
    exact⟨aA (by rw[<- HR.out,HA.out];rfl),rfl⟩
   |true=>
   have HS:=zh (eC HK.out hlt d);unfold cK at d;cases d1:aZ l[k] with
   |true=>
    clear d
    go_wp2_with (first |(go_at_call 202;refine(bZ _ _).mono ?_;rintro e w' ⟨rfl,rfl⟩) |(go_at_call 203;refine(cF _ _).mono ?_;rintro e w' ⟨rfl,rfl⟩))
    go_round
    case rel=>exact⟨k+1,by omega,by omega,by go_num,HS⟩
    case measure=>simp[intOf];omega
   |false=>
    cases d2:aC l[k] with
    |true=>
     clear d
     go_wp2_with (first |(go_at_call 202;refine(bZ _ _).mono ?_;rintro e w' ⟨rfl,rfl⟩) |(go_at_call 203;refine(cF _ _).mono ?_;rintro e w' ⟨rfl,rfl⟩))
     go_round
     case rel=>exact⟨k+1,by omega,by omega,by go_num,HS⟩
     case measure=>simp[intOf];omega
    |false=>
     rw[d1,d2]at d;cases d3:(l[k]==46) with
     |true=>
      rw[d3]at kq;clear d
      go_wp2_with (first |(go_at_call 202;refine(bZ _ _).mono ?_;rintro e w' ⟨rfl,rfl⟩) |(go_at_call 203;refine(cF _ _).mono ?_;rintro e w' ⟨rfl,rfl⟩))
      go_round
      case rel=>exact⟨k+1,by omega,by omega,by go_num,HS⟩
      case measure=>simp[intOf];omega
     |false=>
      have d4:(l[k]==95)=true:=by rw[d3]at d;simpa using d
      rw[d3]at kq;rw[d4]at rl;clear d
      go_wp2_with (first |(go_at_call 202;refine(bZ _ _).mono ?_;rintro e w' ⟨rfl,rfl⟩) |(go_at_call 203;refine(cF _ _).mono ?_;rintro e w' ⟨rfl,rfl⟩))
      go_round
      case rel=>exact⟨k+1,by omega,by omega,by go_num,HS⟩
      case measure=>simp[intOf];omega
  have HE:Hid (l.all cK=true):=zh (by have h:=HK.out;rwa [List.take_of_length_le (by omega)]at h);have sq:¬ (k:Int)<(l.length:Int):=by omega
  go_wp2_with fail
  go_ret
  exact⟨aA (by rw[<- HR.out,HE.out];rfl),rfl⟩
theorem cG:∀ (n:Nat),n<=1000000->∀ (t t':Tree) (cs l7:Array Value) (w:World),t.size<=n->TreeIn w t cs->TreeIn w t' l7->Calls Tryz.prog 23 #[.agg cs,.agg l7] w fun e w'=>e=.returned (.bool (t.same t'))/\Below w.heap.size w w':=by
 intro n
 induction n with
 |zero=>intro _ t _ _ _ _ hs;cases t;simp[Tree.size]at hs
 |succ n ih=>
 intro bg;rintro⟨h,l⟩ ⟨h',l'⟩ cs l7 w hs ⟨A,cp,rfl,hk⟩ ⟨A',ko,rfl,ft⟩;have IH:=zh (fun(i:Nat) (hi:i<l.length) t' cs l7 W h1 h2=>ih (by omega) (l[i]'hi) t' cs l7 W (by have h9:(l[i]'hi).size<(Tree.mk h l).size:=eF (t:=.mk h l) (i:=i) hi;omega) h1 h2);have fm:Hid (l.length<=1000000):=zh (by have h1:=bS l;have h2:aM l+1<=n+1:=hs;omega);clear ih;dsimp only[Tree.h,Tree.l]at hk ft ⊢;have HK:=zh hk;have HK':=zh ft;clear hk ft hs;have hS:Tree.same (.mk h l) (.mk h' l')=(NodeH.same h h'&&eY l l'):=rfl;rw[hS];clear hS;generalize ir:(w.alloc (.cells (aH h A l.length cp) 34))=W1;have ec:Hid (Lies W1 w.heap.size 34 (aH h A l.length cp)):=zh (by rw[<- ir];exact Lies.new _ _ _);have oc:Hid (Below w.heap.size w W1):=zh (by rw[<- ir];exact zp _);have ru:W1.heap.size=w.heap.size+1:=by rw[<- ir];simp
 generalize hL2:(W1.alloc (.cells (aH h' A' l'.length ko) 34))=W2;have bu:Hid (Lies W2 (w.heap.size+1) 34 (aH h' A' l'.length ko)):=zh (by rw[<- hL2,<- ru];exact Lies.new _ _ _);have ig:Hid (Below W1.heap.size W1 W2):=zh (by rw[<- hL2];exact zp _);have gw:=zh (ec.out.next ig.out);have ba:Hid (Below w.heap.size w W2):=zh (zU oc.out ig.out);have HEA:=zh neq_area;have HEV:=zh neq_val;clear ec oc ig;have al:=zh ir;have jo:=zh hL2;have ew:=zh ru;clear ir hL2 ru
 go_in
 go_upto_region 1 with fail
 rw[al.out,jo.out];clear al jo;generalize hQ:w.heap.size=q at *;obtain⟨bb,sy⟩:∃ bb,(NodeH.same h h'&&decide (l.length=l'.length))=bb:=⟨_,rfl⟩
 have tg:=zh sy;clear sy
 go_cut [47] (fun v wx=>v=.bool (!bb)/\Hid (wx=W2))
 case first=>
  have hea:=HEA.out h.a h.b h'.a h'.b;have hev:=HEV.out h.v h'.v;dsimp only[arV]at hea;obtain⟨d0,qw⟩:∃ x,(h.kind != h'.kind)=x:=⟨_,rfl⟩
  obtain⟨d1,si⟩:∃ x,(!aW h.v h'.v)=x:=⟨_,rfl⟩
  obtain⟨d2,hd2⟩:∃ x,decide (h.name≠h'.name)=x:=⟨_,rfl⟩
  obtain⟨d3,hd3⟩:∃ x,(!(decide (h.a=h'.a)&&decide (h.b=h'.b)))=x:=⟨_,rfl⟩
  obtain⟨d4,hd4⟩:∃ x,(h.rows != h'.rows)=x:=⟨_,rfl⟩
  obtain⟨d5,hd5⟩:∃ x,((l.length:Int) != (l'.length:Int))=x:=⟨_,rfl⟩
  rw[si]at hev;rw[hd3]at hea;have hd2':(h.name==h'.name)=!d2:=by rw[<- hd2,ze];simp
  obtain⟨c1,du⟩:∃ x,x=(d0||d1):=⟨_,rfl⟩
  obtain⟨c2,jt⟩:∃ x,x=(c1||d2):=⟨_,rfl⟩
  obtain⟨c3,ur⟩:∃ x,x=(c2||d3):=⟨_,rfl⟩
  obtain⟨c4,hc4⟩:∃ x,x=(c3||d4):=⟨_,rfl⟩
  obtain⟨c5,hc5⟩:∃ x,x=(c4||d5):=⟨_,rfl⟩
  have HD:Hid (bb=!c5):=zh (by
   rw[hc5,hc4,ur,jt,du,<- qw,<- si,<- hd2,<- hd3,<- hd4,<- hd5,<- tg.out];unfold NodeH.same;rw[show (h.kind != h'.kind)=!decide (h.kind=h'.kind) from by rw[ze];simp,show decide (h.name≠h'.name)=!(h.name==h'.name) from by rw[ze];simp,show (h.rows != h'.rows)=!decide (h.rows=h'.rows) from by rw[ze];simp,show ((l.length:Int) != (l'.length:Int))=!decide (l.length=l'.length) from by rw[ze];simp;omega];cases decide (h.kind=h'.kind) <;> cases aW h.v h'.v <;> cases (h.name==h'.name) <;> cases decide (h.a=h'.a) <;> cases decide (h.b=h'.b) <;> cases decide (h.rows=h'.rows) <;> cases decide (l.length=l'.length) <;> rfl)
  obtain⟨TT,ag⟩:∃ TT:List (Nat×Nat×Value),TT=((0,6,vP q 0)::(1,7,vI h.kind)::(2,8,vP (q+1) 0)::(3,9,vI h'.kind)::(4,10,.bool d0)::(5,11,.bool d0)::(6,12,(bif d0 then undef else vP q 1))::(7,13,(bif d0 then undef else .agg ([vI h.v.kind,vI h.v.mant,vI h.v.exp,vT h.v.text,.bool h.v.truth,vI h.v.fault]:List Value).toArray))::(8,14,(bif d0 then undef else vP (q+1) 1))::(9,15,(bif d0 then undef else .agg ([vI h'.v.kind,vI h'.v.mant,vI h'.v.exp,vT h'.v.text,.bool h'.v.truth,vI h'.v.fault]:List Value).toArray))::(10,16,(bif d0 then undef else .bool d1))::(11,17,.bool c1)::(12,18,.bool c1)::(13,19,(bif c1 then undef else vP q 7))::(14,20,(bif c1 then undef else vT h.name))::(15,21,(bif c1 then undef else vP (q+1) 7))::(16,22,(bif c1 then undef else vT h'.name))::(17,23,(bif c1 then undef else .bool d2))::(18,24,.bool c2)::(19,25,.bool c2)::(20,26,(bif c2 then undef else vP q 8))::(21,27,(bif c2 then undef else .agg ([vI h.a.row.a,vI h.a.row.n,vI h.a.col.a,vI h.a.col.n,.bool h.a.fr,.bool h.a.fc,vI h.b.row.a,vI h.b.row.n,vI h.b.col.a,vI h.b.col.n,.bool h.b.fr,.bool h.b.fc]:List Value).toArray))::(22,28,(bif c2 then undef else vP (q+1) 8))::(23,29,(bif c2 then undef else .agg ([vI h'.a.row.a,vI h'.a.row.n,vI h'.a.col.a,vI h'.a.col.n,.bool h'.a.fr,.bool h'.a.fc,vI h'.b.row.a,vI h'.b.row.n,vI h'.b.col.a,vI h'.b.col.n,.bool h'.b.fr,.bool h'.b.fc]:List Value).toArray))::(24,30,(bif c2 then undef else .bool d3))::(25,31,.bool c3)::(26,32,.bool c3)::(27,33,(bif c3 then undef else vP q 20))::(28,34,(bif c3 then undef else vI h.rows))::(29,35,(bif c3 then undef else vP (q+1) 20))::(30,36,(bif c3 then undef else vI h'.rows))::(31,37,(bif c3 then undef else .bool d4))::(32,38,.bool c4)::(33,39,.bool c4)::(34,40,(bif c4 then undef else vP q 21))::(35,41,(bif c4 then undef else .slice A l.length cp))::(36,42,(bif c4 then undef else vI (l.length:Nat)))::(37,43,(bif c4 then undef else vP (q+1) 21))::(38,44,(bif c4 then undef else .slice A' l'.length ko))::(39,45,(bif c4 then undef else vI (l'.length:Nat)))::(40,46,(bif c4 then undef else .bool d5))::(41,47,.bool c5)::[]):=⟨_,rfl⟩
  have aw:=zh ag;clear ag;refine aS (fun a0=>67<=a0.tmps.size/\a0.eval (.tmp 2)=vP q 0/\a0.eval (.tmp 3)=vP (q+1) 0) (6::7::8::9::10::11::12::13::14::15::16::17::18::19::20::21::22::23::24::25::26::27::28::29::30::31::32::33::34::35::36::37::38::39::40::41::42::43::44::45::46::47::[]) TT [] (fun w'=>w'=W2) (by kernel_rfl) ⟨by simp,rfl,rfl⟩ rfl ?_ ?_
  ·rintro a0 ⟨hs,sc,kg⟩ zl a1 w1 zj o ap hI ah ho zd;obtain rfl:w1=W2:=hI.st;have ag:=aw.out
   subst ag;have e2x:=hI.off.q sc;have e3x:=hI.off.q kg;have hj:=Up.of_false ah;have hj12:zj<42:=by rw[ap]at hj;exact hj
   have G:RG _ _ _ _ _ _ _ _ _ _ _:=⟨by rfl,hI,hs,ah,ho,zd⟩
   (iterate 41 rcases zq hj12 with hj12|rfl);obtain rfl:=cz hj12;all_goals obtain rfl:=oi ho
   ·exact G.nl 0 rfl (by simp[execOp,go_sem,e2x])
   ·have xq:w1.cell? ⟨q,0,none⟩=some (vI h.kind):=gw.out.cell 0;exact G.nl 1 rfl (by simp[execOp,go_sem,G.t 0,xq])
   ·exact G.nl 2 rfl (by simp[execOp,go_sem,e3x])
   ·have xq:w1.cell? ⟨(q+1),0,none⟩=some (vI h'.kind):=bu.out.cell 0;exact G.nl 3 rfl (by simp[execOp,go_sem,G.t 2,xq])
   ·exact G.nl 4 rfl (by simp[execOp,go_sem,G.t 1,G.t 3,qw])
   ·exact G.nl 5 rfl (by simp[execOp,go_sem,G.t 4])
   ·refine G.gn 5 6 ?_;rintro rfl;simp[execOp,go_sem,e2x]
   ·refine G.gn 5 7 ?_;rintro rfl;have p6:=G.d 6;exact aO 25 (.tmp 12) rfl q 1 p6 _ _ (gw.out.sub 1 [vI h.v.kind,vI h.v.mant,vI h.v.exp,vT h.v.text,.bool h.v.truth,vI h.v.fault] rfl) Tryz.underlying25 rfl gI
   ·refine G.gn 5 8 ?_;rintro rfl;simp[execOp,go_sem,e3x]
   ·refine G.gn 5 9 ?_;rintro rfl;have p8:=G.d 8;exact aO 25 (.tmp 14) rfl (q+1) 1 p8 _ _ (bu.out.sub 1 [vI h'.v.kind,vI h'.v.mant,vI h'.v.exp,vT h'.v.text,.bool h'.v.truth,vI h'.v.fault] rfl) Tryz.underlying25 rfl gI
   ·refine G.gn 5 10 ?_;rintro rfl;simp[execOp,go_sem,G.t 7,G.t 9,hev]
   ·cases d0
    all_goals exact G.nl 11 rfl (by simp[execOp,go_sem,G.t 5,G.t 10,du])
   ·exact G.nl 12 rfl (by simp[execOp,go_sem,G.t 11])
   ·refine G.gn 12 13 ?_;rintro rfl;simp[execOp,go_sem,e2x]
   ·refine G.gn 12 14 ?_;rintro rfl;have xq:w1.cell? ⟨q,7,none⟩=some (vT h.name):=gw.out.cell 7;simp[execOp,go_sem,G.t 13,xq]
   ·refine G.gn 12 15 ?_;rintro rfl;simp[execOp,go_sem,e3x]
   ·refine G.gn 12 16 ?_;rintro rfl;have xq:w1.cell? ⟨(q+1),7,none⟩=some (vT h'.name):=bu.out.cell 7;simp[execOp,go_sem,G.t 15,xq]
   ·refine G.gn 12 17 ?_;rintro rfl;simp[execOp,go_sem,G.t 14,G.t 16,hd2']
   ·cases c1
    all_goals exact G.nl 18 rfl (by simp[execOp,go_sem,G.t 12,G.t 17,jt])
   ·exact G.nl 19 rfl (by simp[execOp,go_sem,G.t 18])
   ·refine G.gn 19 20 ?_;rintro rfl;simp[execOp,go_sem,e2x]
   ·refine G.gn 19 21 ?_;rintro rfl;have p20:=G.d 20;exact aO 31 (.tmp 26) rfl q 8 p20 _ _ (gw.out.sub 8 [vI h.a.row.a,vI h.a.row.n,vI h.a.col.a,vI h.a.col.n,.bool h.a.fr,.bool h.a.fc,vI h.b.row.a,vI h.b.row.n,vI h.b.col.a,vI h.b.col.n,.bool h.b.fr,.bool h.b.fc] rfl) Tryz.underlying31 rfl gH
   ·refine G.gn 19 22 ?_;rintro rfl;simp[execOp,go_sem,e3x]
   ·refine G.gn 19 23 ?_;rintro rfl;have p22:=G.d 22;exact aO 31 (.tmp 28) rfl (q+1) 8 p22 _ _ (bu.out.sub 8 [vI h'.a.row.a,vI h'.a.row.n,vI h'.a.col.a,vI h'.a.col.n,.bool h'.a.fr,.bool h'.a.fc,vI h'.b.row.a,vI h'.b.row.n,vI h'.b.col.a,vI h'.b.col.n,.bool h'.b.fr,.bool h'.b.fc] rfl) Tryz.underlying31 rfl gH
   ·refine G.gn 19 24 ?_;rintro rfl;simp[execOp,go_sem,G.t 21,G.t 23,hea]
   ·cases c2
    all_goals exact G.nl 25 rfl (by simp[execOp,go_sem,G.t 19,G.t 24,ur])
   ·exact G.nl 26 rfl (by simp[execOp,go_sem,G.t 25])
   ·refine G.gn 26 27 ?_;rintro rfl;simp[execOp,go_sem,e2x]
   ·refine G.gn 26 28 ?_;rintro rfl;have xq:w1.cell? ⟨q,20,none⟩=some (vI h.rows):=gw.out.cell 20;simp[execOp,go_sem,G.t 27,xq]
   ·refine G.gn 26 29 ?_;rintro rfl;simp[execOp,go_sem,e3x]
   ·refine G.gn 26 30 ?_;rintro rfl;have xq:w1.cell? ⟨(q+1),20,none⟩=some (vI h'.rows):=bu.out.cell 20;simp[execOp,go_sem,G.t 29,xq]
   ·refine G.gn 26 31 ?_;rintro rfl;simp[execOp,go_sem,G.t 28,G.t 30,hd4]
   ·cases c3
    all_goals exact G.nl 32 rfl (by simp[execOp,go_sem,G.t 26,G.t 31,hc4])
   ·exact G.nl 33 rfl (by simp[execOp,go_sem,G.t 32])
   ·refine G.gn 33 34 ?_;rintro rfl;simp[execOp,go_sem,e2x]
   ·refine G.gn 33 35 ?_;rintro rfl;have xq:w1.cell? ⟨q,21,none⟩=some (.slice A l.length cp):=gw.out.cell 21;simp[execOp,go_sem,G.t 34,xq]
   ·refine G.gn 33 36 ?_;rintro rfl;simp[go_sem,G.t 35]
   ·refine G.gn 33 37 ?_;rintro rfl;simp[execOp,go_sem,e3x]
   ·refine G.gn 33 38 ?_;rintro rfl;have xq:w1.cell? ⟨(q+1),21,none⟩=some (.slice A' l'.length ko):=bu.out.cell 21;simp[execOp,go_sem,G.t 37,xq]
   ·refine G.gn 33 39 ?_;rintro rfl;simp[go_sem,G.t 38]
   ·refine G.gn 33 40 ?_;rintro rfl;simp[execOp,go_sem,G.t 36,G.t 39,hd5]
   cases c4
   all_goals exact G.nl 41 rfl (by simp[execOp,go_sem,G.t 33,G.t 40,hc5])
  intro zl a1 w1 hI bd;obtain rfl:w1=W2:=hI.st;have ag:=aw.out;subst ag;have z47:=hI.ptk 41 rfl (bd 41 (by decide));obtain⟨ff,rfl,hf⟩:=hI.off.forms;rw[<- hf 47]at z47;clear hI;simp only[List.foldl,Act.put,yz,List.set];rw[z47];simp only[Exit.then]
  go_step
  go_meet
  exact⟨by rw[HD.out,Bool.not_not],zh rfl⟩
 case rest=>
  obtain⟨rfl,hcut⟩:=hcut;have ny:=hcut.out;subst ny;have bi:Hid (Below w.heap.size w wc):=zh (by rw[hQ];exact ba.out);cases bb
  ·have HR:Hid ((NodeH.same h h'&&eY l l')=false):=zh (by have h1:=tg.out;rw[Bool.and_eq_false_iff]at h1;exact h1.elim (fun h1=>by rw[h1];rfl) (fun h1=>by rw[uQ (of_decide_eq_false h1),Bool.and_false]))
   go_wp2_with fail
   go_ret
   exact⟨by first|exact aA HR.out.symm|exact aA rfl,ba.out⟩
  have HH:=tg.out;rw[yh]at HH;have HLL:=zh (of_decide_eq_true HH.2);have HR:Hid ((NodeH.same h h'&&eY l l')=eY l l'):=zh (by rw[HH.1,Bool.true_and]);clear HH tg HEA HEV
  go_wp2_with fail
  go_loopw [5] (fun v wr=>∃ i:Nat,i<=l.length/\v=vI (i:Int)/\Hid (Below wc.heap.size wc wr/\∀ j (hj:j<i) (h1:j<l.length) (h2:j<l'.length),l[j].same l'[j]=true)) (fun v _=>l.length-(intOf v).toNat)
  case atStart=>exact⟨0,zm _,rfl,zh ⟨Below.refl _ _,fun j hj=>absurd hj (by omega)⟩⟩
  case round=>
   obtain⟨i,hi,rfl,hrel⟩:=hrel;have j9:=zh hrel.out.1;have HPr:=zh hrel.out.2;clear hrel;have hx:=(gw.out.next j9.out).cell 21;have hy:=(bu.out.next j9.out).cell 21;simp only[za,zb,zf]at hx hy;by_cases hlt:i<l.length
   ·have kr:i<l'.length:=by have:=HLL.out;omega
    obtain⟨g,og,ci,rfl,dw,dy⟩:=fU HK.out i hlt;obtain⟨g',og',xu,rfl,hc22',hci'⟩:=fU HK'.out i kr;have vz:=zh hlt;have sh:Hid (∀ W',Below wc.heap.size wc W'->W'.rangeAt g (og+i*22) ci/\W'.rangeAt g' (og'+i*22) xu/\TreeIn W' l[i] ci.toArray/\TreeIn W' l'[i] xu.toArray):=zh (fun W' hb=>by have gq:Kp [] w W':=(Kp.of_below bi.out).trans (Kp.of_below hb);exact⟨(dy W' gq).1,(hci' W' gq).1,(dy W' gq).2,(hci' W' gq).2⟩);clear dy hci';have zi:(Tryz.prog.info? 34).map (·.size)=some ci.length:=by rw[dw];exact bO
    have hinf':(Tryz.prog.info? 34).map (·.size)=some xu.length:=by rw[hc22'];exact bO
    have hib:(i:Int)<=1000000:=by have:=fm.out;omega
    have tp:(i:Int)<(l.length:Int):=by omega
    have hli':(i:Int)<(l'.length:Int):=by omega
    have CI:=zh (fun W' (hb:Below wc.heap.size wc W')=>IH.out i hlt (l'[i]'kr) ci.toArray xu.toArray W' (sh.out W' hb).2.2.1 (sh.out W' hb).2.2.2);obtain⟨b,hb⟩:∃ b,(l[i]'hlt).same (l'[i]'kr)=b:=⟨_,rfl⟩
    rw[hb]at CI;have HBv:=zh hb;clear hb
    go_upto_region 6 with fail
    clear hx hy
    go_cut [66] (fun v wx=>v=.bool (!b)/\Hid (Below wc.heap.size wc wx))
    case first=>
     obtain⟨P0,xt⟩:∃ R:World->Prop,∀ w',R w'↔(Below wc.heap.size wc w'):=⟨_,fun _=>Iff.rfl⟩
     have mg:=zh xt;clear xt;obtain⟨P1,hP1⟩:∃ R:World->Prop,∀ w',R w'↔(Below wc.heap.size wc w'):=⟨_,fun _=>Iff.rfl⟩
     have qj:=zh hP1;clear hP1;obtain⟨TT,ag⟩:∃ TT:List (Nat×Nat×Value),TT=[(0,55,vP q 21),(1,56,.slice (some ⟨g,og,none⟩) l.length cp),(2,57,vI (i:Int)),(3,58,vP g (og+i*22)),(4,59,.agg ci.toArray),(5,60,vP (q+1) 21),(6,61,.slice (some ⟨g',og',none⟩) l'.length ko),(7,62,vI (i:Int)),(8,63,vP g' (og'+i*22)),(9,64,.agg xu.toArray),(10,65,.bool b),(11,66,.bool (!b))]:=⟨_,rfl⟩
     have aw:=zh ag;clear ag;refine bK (fun a0=>67<=a0.tmps.size/\a0.eval (.tmp 2)=vP q 0/\a0.eval (.tmp 3)=vP (q+1) 0/\a0.eval (.tmp 5)=vI (i:Int)) [55,56,57,58,59,60,61,62,63,64,65,66] TT [(10,P1)] P0 (by kernel_rfl) (by kernel_rfl) ⟨by simp,rfl,rfl,rfl⟩ ((mg.out _).2 (j9.out.trans (zB.drew.mono j9.out.size))) ?_ ?_
     ·rintro a0 ⟨hs,sc,kg,pu⟩ zl a1 w1 zj o ap hI ah ho zd;have ag:=aw.out;subst ag;have hk:okU (([(0,55,vP q 21),(1,56,.slice (some ⟨g,og,none⟩) l.length cp),(2,57,vI (i:Int)),(3,58,vP g (og+i*22)),(4,59,.agg ci.toArray),(5,60,vP (q+1) 21),(6,61,.slice (some ⟨g',og',none⟩) l'.length ko),(7,62,vI (i:Int)),(8,63,vP g' (og'+i*22)),(9,64,.agg xu.toArray),(10,65,.bool b),(11,66,.bool (!b))]:List (Nat×Nat×Value)).map fun e=>(e.1,e.2.1)) [55,56,57,58,59,60,61,62,63,64,65,66] 67=true:=by rfl
      have hj:=Up.of_false ah;have hj12:zj<12:=by rw[ap]at hj;exact hj
      have e2x:a1.eval (.tmp 2)=vP q 0:=(hI.off.eval (by decide)).trans sc;have e3x:a1.eval (.tmp 3)=vP (q+1) 0:=(hI.off.eval (by decide)).trans kg;have e5x:a1.eval (.tmp 5)=vI (i:Int):=(hI.off.eval (by decide)).trans pu;(iterate 11 rcases zq hj12 with hj12|rfl);obtain rfl:=cz hj12;all_goals obtain rfl:=oi ho
      ·exact fB hk hI hs (.head _) (by simp) ah ho zd (bI rfl) rfl (by simp[execOp,go_sem,bR e2x])
      ·have d0:=ud zd 0;have p0:=pk hI.pt 0 rfl d0;have hq:w1.cell? ⟨q,21,none⟩=some (.slice (some ⟨g,og,none⟩) l.length cp):=by
        obtain⟨jj,hjj,hP⟩:=hI.low 0 (by simp) (fun m hm=>by obtain rfl:=Option.some.inj hm;kernel_rfl) ah;rcases(by omega:jj=0) with rfl;have hP:P0 w1:=hP;have hW:=(mg.out _).1 hP;exact(gw.out.next hW).cell 21
       exact fB hk hI hs (.tail _ (.head _)) (by simp) ah ho zd (bI rfl) rfl (by simp[execOp,go_sem,bR p0,hq])
      ·exact fB hk hI hs (mm 2 rfl) (by simp) ah ho zd (bI rfl) rfl (by simp[execOp,go_sem,bR e5x])
      ·have d1:=ud zd 1;have p1:=pk hI.pt 1 rfl d1;have d2:=ud zd 2;have p2:=pk hI.pt 2 rfl d2;exact fB hk hI hs (mm 3 rfl) (by simp) ah ho zd (bI rfl) rfl (by simp[execOp,go_sem,bR p1,bR p2,tp])
      ·have d3:=ud zd 3;have p3:=pk hI.pt 3 rfl d3;have hq:w1.rangeAt g (og+i*22) ci:=by
        obtain⟨jj,hjj,hP⟩:=hI.low 0 (by simp) (fun m hm=>by obtain rfl:=Option.some.inj hm;kernel_rfl) ah;rcases(by omega:jj=0) with rfl;have hP:P0 w1:=hP;exact(sh.out _ ((mg.out _).1 hP)).1
       exact fB hk hI hs (mm 4 rfl) (by simp) ah ho zd (bI rfl) rfl (aO 34 (.tmp 58) rfl _ _ p3 _ _ hq Tryz.underlying34 rfl zi)
      ·exact fB hk hI hs (mm 5 rfl) (by simp) ah ho zd (bI rfl) rfl (by simp[execOp,go_sem,bR e3x])
      ·have d5:=ud zd 5;have p5:=pk hI.pt 5 rfl d5;have hq:w1.cell? ⟨(q+1),21,none⟩=some (.slice (some ⟨g',og',none⟩) l'.length ko):=by
        obtain⟨jj,hjj,hP⟩:=hI.low 0 (by simp) (fun m hm=>by obtain rfl:=Option.some.inj hm;kernel_rfl) ah;rcases(by omega:jj=0) with rfl;have hP:P0 w1:=hP;have hW:=(mg.out _).1 hP;exact(bu.out.next hW).cell 21
       exact fB hk hI hs (mm 6 rfl) (by simp) ah ho zd (bI rfl) rfl (by simp[execOp,go_sem,bR p5,hq])
      ·exact fB hk hI hs (mm 7 rfl) (by simp) ah ho zd (bI rfl) rfl (by simp[execOp,go_sem,bR e5x])
      ·have d6:=ud zd 6;have p6:=pk hI.pt 6 rfl d6;have d7:=ud zd 7;have p7:=pk hI.pt 7 rfl d7;exact fB hk hI hs (mm 8 rfl) (by simp) ah ho zd (bI rfl) rfl (by simp[execOp,go_sem,bR p6,bR p7,hli'])
      ·have d8:=ud zd 8;have p8:=pk hI.pt 8 rfl d8;have hq:w1.rangeAt g' (og'+i*22) xu:=by
        obtain⟨jj,hjj,hP⟩:=hI.low 0 (by simp) (fun m hm=>by obtain rfl:=Option.some.inj hm;kernel_rfl) ah;rcases(by omega:jj=0) with rfl;have hP:P0 w1:=hP;exact(sh.out _ ((mg.out _).1 hP)).2.1
       exact fB hk hI hs (mm 9 rfl) (by simp) ah ho zd (bI rfl) rfl (aO 34 (.tmp 63) rfl _ _ p8 _ _ hq Tryz.underlying34 rfl hinf')
      ·have d4:=ud zd 4;have p4:=pk hI.pt 4 rfl d4;have d9:=ud zd 9;have p9:=pk hI.pt 9 rfl d9;refine gu_mark hk hI hs (mm 10 rfl) (by kernel_rfl) [] [] P1 rfl ah ho zd (bI rfl) rfl (fun hP=>?_);have hP:P0 w1:=hP;refine rR (v:=.bool b) 23 #[.agg ci.toArray,.agg xu.toArray] (by simp[go_sem,bR p4,bR p9]) ?_;have hW:=(mg.out _).1 hP;refine(CI.out w1 hW).mono ?_;rintro e w2 ⟨rfl,hb⟩;exact⟨rfl,rfl,(qj.out _).2 (zU hW hb)⟩
      have d10:=ud zd 10;have p10:=pk hI.pt 10 rfl d10;exact fB hk hI hs (mm 11 rfl) (by simp) ah ho zd (bI rfl) rfl (by simp[execOp,go_sem,bR p10])
     intro zl a1 w1 hI bd;have ag:=aw.out;subst ag;have hF:P1 w1:=hI.st.last (fun m hm=>bd m.1 (by simp only[ym,List.not_mem_nil,or_false]at hm;rcases hm with rfl;all_goals simp));have z66:a1.eval (.tmp 66)=.bool (!b):=hI.pt (11,66,.bool (!b)) (mm 11 rfl) (bd 11 (by decide));obtain⟨ff,rfl,hf⟩:=hI.off.forms;rw[<- hf 66]at z66;clear hI;simp only[List.foldl,Act.put,yz,List.set];rw[z66];have hF2:=(qj.out _).1 hF;simp only[Exit.then]
     go_step
     go_meet
     exact⟨rfl,zh hF2⟩
    case rest=>
     obtain⟨rfl,hcut⟩:=hcut;have oe:=zh hcut.out;clear hcut CI sh;cases b
     ·have mw:Hid ((NodeH.same h h'&&eY l l')=false):=zh (by rw[HR.out];cases hs:eY l l' with|false=>rfl|true=>have:=(kQ HLL.out).1 hs i hlt kr;rw[HBv.out]at this;cases this)
      go_wp2_with fail
      go_ret
      exact⟨by first|exact aA mw.out.symm|exact aA rfl,zU bi.out oe.out⟩
     go_wp2_with fail
     go_roundw
     case rel=>exact⟨i+1,by have:=vz.out;omega,by go_num,zh ⟨oe.out,fun j hj h1 h2=>(Nat.lt_or_ge j i).elim (fun hji=>HPr.out j hji h1 h2) (fun hji=>by have e:j=i:=(by omega);subst e;exact HBv.out)⟩⟩
     case measure=>have:=vz.out;simp[intOf];omega
   have hie:i=l.length:=by omega
   have sq:¬ ((i:Int)<(l.length:Int)):=by omega
   have mw:Hid ((NodeH.same h h'&&eY l l')=true):=zh (by rw[HR.out];exact(kQ HLL.out).2 (fun j h1 h2=>HPr.out j (by omega) h1 h2))
   go_wp2_with fail
   go_ret
   exact⟨by first|exact aA mw.out.symm|exact aA rfl,by first|exact zU bi.out j9.out |(rw[<- hQ];exact zU bi.out j9.out)⟩
end Go.Proofs.YtjfihpaeglpblaaGreatDoor
