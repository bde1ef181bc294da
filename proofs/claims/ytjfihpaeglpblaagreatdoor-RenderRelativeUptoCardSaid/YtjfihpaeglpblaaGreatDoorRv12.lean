/-
  Lemmas, part 12: RkA RkB RkC RkE RmA PaG RkD RkG.
-/
import Derived.Test.YtjfihpaeglpblaaGreatDoorRv9
set_option maxHeartbeats 100000000
set_option maxRecDepth 1000000
namespace Go.Proofs.YtjfihpaeglpblaaGreatDoor
open Go.RowKit
theorem cM(c:UInt8)(w:World) :
  Calls Tryz.prog 202 #[.int .u8 (c.toNat:Int)] w fun e w'=>e=.returned (.bool (bK c))/\w=w':=by
 go_in
 go_wp2
 all_goals go_ret
 all_goals exact⟨aA (by unfold bK;rw[ze];simp;try omega),rfl⟩
theorem cS(c:UInt8)(w:World) :
  Calls Tryz.prog 203 #[.int .u8 (c.toNat:Int)] w fun e w'=>e=.returned (.bool (aB c))/\w=w':=by
 go_in
 go_wp2
 all_goals go_ret
 all_goals exact⟨aA (by unfold aB;rw[ze];simp;try omega),rfl⟩
theorem qL(l:Bs)(w:World)(hs:l.length<=maxLen) :
  Calls Tryz.prog 234 #[vT l] w fun e w'=>e=.returned (.bool (l.all aB))/\w=w':=by
 unfold maxLen at hs
 go_in
 go_wp2
 go_loop [3] (fun i=>∃ k:Nat,k<=l.length/\i=vI k/\(l.take k).all aB=true) (fun i=>l.length-(intOf i).toNat)
 case atStart=>exact⟨0,zm _,rfl,by simp⟩
 case round=>
  obtain⟨k,hk,rfl,hr⟩:=hrel;have HR:=zh hr;clear hr;by_cases hlt:k<l.length
  ·cases hd:aB l[k]
   ·have HQ:=zh (mP hlt hd)
    go_wp2_with (go_at_call 203;refine(cS _ _).mono ?_;rintro e w' ⟨rfl,rfl⟩)
    go_ret
    exact⟨aA (by rw[HQ.out]),rfl⟩
   have HQ:=zh (eN HR.out hlt hd)
   go_wp2_with (go_at_call 203;refine(cS _ _).mono ?_;rintro e w' ⟨rfl,rfl⟩)
   go_round
   case rel=>exact⟨k+1,by omega,by go_num,HQ.out⟩
   case measure=>simp[intOf];omega
  have HQ:Hid (l.all aB=true):=zh (by have h:=HR.out;rw[List.take_of_length_le (by omega)]at h;exact h)
  go_wp2
  go_ret
  exact⟨aA (by rw[HQ.out]),rfl⟩
def pG(l:Bs):Bool:=decide (aF l<=3)&&(decide (aF l<l.length)&&(decide (l.length<=7+aF l)&&(!bO l (aF l) 48&&(l.drop (aF l)).all aB)))
theorem uFT(l:Bs)(w:World)(hs:l.length<=100000) :
  Calls Tryz.prog 204 #[vT l] w fun e w'=>e=.returned (.bool (pG l))/\w=w':=by
 have HD:=zh (fun k W=>qL (l.drop k) W (by rw[yk];unfold maxLen;omega));unfold pG aF
 go_in
 go_wp2
 go_loop [3] (fun i=>∃ k:Nat,k<=l.length/\i=vI k/\k<=bA bK l) (fun i=>l.length-(intOf i).toNat)
 case atStart=>exact⟨0,zm _,rfl,zm _⟩
 case round=>
  obtain⟨k,hk,rfl,hr⟩:=hrel;have HK:=zh hr;clear hr;by_cases rl:∃ h:k<l.length,bK l[k]=true
  ·obtain⟨hlt,hd⟩:=rl;have HQ:=zh (jG _ _ _ HK.out hlt hd)
   go_wp2_with (go_at_call 202;refine(cM _ _).mono ?_;rintro e w' ⟨rfl,rfl⟩)
   go_round
   case rel=>exact⟨k+1,by omega,by go_num,HQ.out⟩
   case measure=>simp[intOf];omega
  have ez:¬ k<l.length\/∃ h:k<l.length,bK l[k]=false:=by
   by_cases hlt:k<l.length
   ·exact .inr ⟨hlt,by cases h:bK l[k];rfl;exact absurd ⟨hlt,h⟩ rl⟩
   exact .inl hlt
  have HQ:Hid (bA bK l=k):=zh (by
   rcases ez with h|⟨h,hd⟩
   ·have:=cZ bK l;have:=HK.out;omega
   exact oH _ _ _ HK.out h hd)
  clear rl;rcases ez with hlt|⟨hlt,hd⟩
  all_goals go_upto_region 4 with(go_at_call 202;refine(cM _ _).mono ?_;rintro e w' ⟨rfl,rfl⟩)
  ·by_cases e1:k<=3
   all_goals
    go_wp2_with fail
    go_ret
    exact⟨aA (by rw[HQ.out];simp[e1,hlt]),rfl⟩
  clear hd;by_cases e1:k<=3
  ·by_cases e3:l.length<=7+k
   ·have e4:(l.length:Int)-(k:Int)<=7:=by omega
    have hq:=at_bne l k 48 48 rfl hlt;cases h48:bO l k 48 with
    |true=>
     rw[h48]at hq
     go_wp2_with fail
     go_ret
     exact⟨aA (by rw[HQ.out];simp[h48]),rfl⟩
    |false=>
     rw[h48]at hq;have tq:=zh (HD.out k w)
     go_wp2_with fail
     refine tq.out.mono ?_;rintro e w' ⟨rfl,rfl⟩
     go_wp2_with fail
     go_ret
     exact⟨aA (by rw[HQ.out,decide_eq_true e3];simp[e1,hlt,h48]),rfl⟩
   have e4:¬ (l.length:Int)-(k:Int)<=7:=by omega
   go_wp2_with fail
   go_ret
   exact⟨aA (by rw[HQ.out,decide_eq_false e3];simp),rfl⟩
  go_wp2_with fail
  go_ret
  exact⟨aA (by rw[HQ.out];simp[e1]),rfl⟩
def sU(l:Bs):Bool:=(decide (1<=aF l)&&(decide (aF l<=3)&&(decide (aF l<l.length)&&(l.drop (aF l)).all aB)))||dX l
theorem mI{l:Bs}{a k:Nat}(h1:a<=k)(h2:k-a<=bA aB (l.drop a))(hlt:k<l.length)(hd:aB l[k]=true):k+1-a<=bA aB (l.drop a):=by
 have h3:k-a<(l.drop a).length:=by rw[yk];omega
 have h4:(l.drop a)[k-a]=l[k]:=by rw[List.getElem_drop];congr 1;omega
 have:=jG aB (l.drop a) (k-a) h2 h3 (by rw[h4];exact hd);omega
theorem oG{l:Bs}{a k:Nat}(h1:a<=k)(h2:k-a<=bA aB (l.drop a))(hk:k<=l.length)(ez:¬ k<l.length\/∃ h:k<l.length,aB l[k]=false):k=a+bA aB (l.drop a):=by
 have h5:=cZ aB (l.drop a);rw[yk]at h5;rcases ez with h|⟨hlt,hd⟩
 ·omega
 have h3:k-a<(l.drop a).length:=by rw[yk];omega
 have h4:(l.drop a)[k-a]=l[k]:=by rw[List.getElem_drop];congr 1;omega
 have:=oH aB (l.drop a) (k-a) h2 h3 (by rw[h4];exact hd);omega
theorem uFR(l:Bs)(w:World)(hs:l.length<=100000) :
  Calls Tryz.prog 205 #[vT l] w fun e w'=>e=.returned (.bool (sU l))/\w=w':=by
 have HD:=zh (fun k W=>qL (l.drop k) W (by rw[yk];unfold maxLen;omega));obtain⟨R,hR⟩:=zE (sU l)
 have HR:=zh hR;rw[hR];clear hR
 go_in
 go_upto_block 0 with fail
 go_cut [3] (fun v wx=>v=vI (aF l:Nat)/\Hid (wx=w))
 case first=>
  go_wp2_with fail
  go_loop [3] (fun i=>∃ k:Nat,k<=l.length/\i=vI k/\k<=bA bK l) (fun i=>l.length-(intOf i).toNat)
  case atStart=>exact⟨0,zm _,rfl,zm _⟩
  case round=>
   obtain⟨k,hk,rfl,hr⟩:=hrel;have HK:=zh hr;clear hr;by_cases rl:∃ h:k<l.length,bK l[k]=true
   ·obtain⟨hlt,hd⟩:=rl;have HQ:=zh (jG _ _ _ HK.out hlt hd)
    go_wp2_with (go_at_call 202;refine(cM _ _).mono ?_;rintro e w' ⟨rfl,rfl⟩)
    go_round
    case rel=>exact⟨k+1,by omega,by go_num,HQ.out⟩
    case measure=>simp[intOf];omega
   have ez:¬ k<l.length\/∃ h:k<l.length,bK l[k]=false:=by
    by_cases hlt:k<l.length
    ·exact .inr ⟨hlt,by cases h:bK l[k];rfl;exact absurd ⟨hlt,h⟩ rl⟩
    exact .inl hlt
   have HQ:Hid (bA bK l=k):=zh (by
    rcases ez with h|⟨h,hd⟩
    ·have:=cZ bK l;have:=HK.out;omega
    exact oH _ _ _ HK.out h hd)
   clear rl;rcases ez with hlt|⟨hlt,hd⟩
   all_goals go_wp2_with (go_at_call 202;refine(cM _ _).mono ?_;rintro e w' ⟨rfl,rfl⟩)
   all_goals go_meet
   all_goals exact⟨by unfold aF;rw[HQ.out],zh rfl⟩
 case rest=>
 obtain⟨rfl,hcut⟩:=hcut;have pi:=hcut.out;subst pi;clear hcut;have pd:aF l<=l.length:=cZ bK l;have jb:Hid (((decide (1<=aF l)&&(decide (aF l<=3)&&(decide (aF l<l.length)&&(l.drop (aF l)).all aB)))||dX l)=R):=zh HR.out;have tq:=zh (HD.out (aF l) wc);clear HR HD;generalize (l.drop (aF l)).all aB=ad at *;generalize aF l=k at *
 go_upto_region 4 with fail
 go_cut [34] (fun v wx=>v=.bool (decide (1<=k)&&(decide (k<=3)&&(decide (k<l.length)&&ad)))/\Hid (wx=wc))
 case first=>
  by_cases e1:1<=k
  ·by_cases e2:k<=3
   ·by_cases e3:k<l.length
    ·go_wp2_with fail
     refine tq.out.mono ?_;rintro e w' ⟨rfl,rfl⟩
     go_wp2_with fail
     go_meet
     exact⟨by simp[e1,e2,e3],zh rfl⟩
    go_wp2_with fail
    go_meet
    exact⟨by simp[e3],zh rfl⟩
   go_wp2_with fail
   go_meet
   exact⟨by simp[e2],zh rfl⟩
  go_wp2_with fail
  go_meet
  exact⟨by simp[e1],zh rfl⟩
 case rest=>
 obtain⟨rfl,hcut⟩:=hcut;have pi:=hcut.out;subst pi;clear hcut tq;generalize (decide (1<=k)&&(decide (k<=3)&&(decide (k<l.length)&&ad)))=c at *;cases c with
 |true=>
  have l6:Hid (true=R):=zh jb.out
  go_wp2_with fail
  go_ret
  exact⟨aA l6.out,rfl⟩
 |false=>
 have l6:Hid (dX l=R):=zh jb.out;clear jb
 go_upto_region 7 with fail
 go_cut [44] (fun v wx=>v=.bool (bO l 0 82)/\Hid (wx=wc))
 case first=>
  by_cases h0:0<l.length
  ·have hq:=oQ l 0 82 82 rfl h0
   go_wp2_with fail
   go_meet
   exact⟨rfl,zh rfl⟩
  have hq:=oR l 0 82 (by omega)
  go_wp2_with fail
  go_meet
  exact⟨by rw[hq],zh rfl⟩
 case rest=>
 obtain⟨rfl,hcut⟩:=hcut;have pi:=hcut.out;subst pi;clear hcut;unfold dX at l6;have HAL:Hid ((if bO l 0 82=true then 1+aH (l.drop 1) else 0)<=l.length):=zh (by
  split
  ·rename_i h
   have h1:=xQ _ _ _ h;have h2:=cZ aB (l.drop 1);rw[yk]at h2;unfold aH;omega
  exact zm _)
 go_upto_if 44 with fail
 go_cut [4] (fun v wx=>v=vI ((if bO l 0 82=true then 1+aH (l.drop 1) else 0:Nat):Int)/\Hid (wx=wc))
 case first=>
  cases h82:bO l 0 82 with
  |true=>
   have hlt0:=xQ _ _ _ h82
   go_wp2_with fail
   go_loop [4] (fun i=>∃ k:Nat,1<=k/\k<=l.length/\i=vI k/\k-1<=bA aB (l.drop 1)) (fun i=>l.length-(intOf i).toNat)
   case atStart=>exact⟨1,zr,by omega,by go_num,by omega⟩
   case round=>
    obtain⟨k2,eh,hk,rfl,hr⟩:=hrel;have HK:=zh hr;clear hr;by_cases rl:∃ h:k2<l.length,aB l[k2]=true
    ·obtain⟨hlt,hd⟩:=rl;have HQ:=zh (mI eh HK.out hlt hd)
     go_wp2_with (go_at_call 203;refine(cS _ _).mono ?_;rintro e w' ⟨rfl,rfl⟩)
     go_round
     case rel=>exact⟨k2+1,by omega,by omega,by go_num,HQ.out⟩
     case measure=>simp[intOf];omega
    have ez:¬ k2<l.length\/∃ h:k2<l.length,aB l[k2]=false:=by
     by_cases hlt:k2<l.length
     ·exact .inr ⟨hlt,by cases h:aB l[k2];rfl;exact absurd ⟨hlt,h⟩ rl⟩
     exact .inl hlt
    have HQ:=zh (oG eh HK.out hk ez);clear rl;rcases ez with hlt|⟨hlt,hd⟩
    all_goals go_wp2_with (go_at_call 203;refine(cS _ _).mono ?_;rintro e w' ⟨rfl,rfl⟩)
    all_goals go_meet
    all_goals exact⟨by rw[if_pos h82,HQ.out];rfl,zh rfl⟩
  |false=>
   go_wp2_with fail
   go_meet
   exact⟨by rw[if_neg (by rw[h82];decide)];rfl,zh rfl⟩
 case rest=>
 obtain⟨rfl,hcut⟩:=hcut;have pi:=hcut.out;subst pi;clear hcut;generalize (if bO l 0 82=true then 1+aH (l.drop 1) else 0)=a at *;have wk:=HAL.out;clear HAL
 go_upto_region 11 with fail
 go_cut [68] (fun v wx=>v=.bool (bO l a 67)/\Hid (wx=wc))
 case first=>
  by_cases h0:a<l.length
  ·have hq:=oQ l a 67 67 rfl h0
   go_wp2_with fail
   go_meet
   exact⟨rfl,zh rfl⟩
  have hq:=oR l a 67 (by omega)
  go_wp2_with fail
  go_meet
  exact⟨by rw[hq],zh rfl⟩
 case rest=>
 obtain⟨rfl,hcut⟩:=hcut;have pi:=hcut.out;subst pi;clear hcut
 go_upto_if 68 with fail
 go_cut [4] (fun v wx=>v=vI ((if bO l a 67=true then a+1+aH (l.drop (a+1)) else a:Nat):Int)/\Hid (wx=wc))
 case first=>
  cases h67:bO l a 67 with
  |true=>
   have hlt0:=xQ _ _ _ h67
   go_wp2_with fail
   go_loop [4] (fun i=>∃ k:Nat,(a+1)<=k/\k<=l.length/\i=vI k/\k-(a+1)<=bA aB (l.drop (a+1))) (fun i=>l.length-(intOf i).toNat)
   case atStart=>exact⟨(a+1),zr,by omega,by go_num,by omega⟩
   case round=>
    obtain⟨k2,eh,hk,rfl,hr⟩:=hrel;have HK:=zh hr;clear hr;by_cases rl:∃ h:k2<l.length,aB l[k2]=true
    ·obtain⟨hlt,hd⟩:=rl;have HQ:=zh (mI eh HK.out hlt hd)
     go_wp2_with (go_at_call 203;refine(cS _ _).mono ?_;rintro e w' ⟨rfl,rfl⟩)
     go_round
     case rel=>exact⟨k2+1,by omega,by omega,by go_num,HQ.out⟩
     case measure=>simp[intOf];omega
    have ez:¬ k2<l.length\/∃ h:k2<l.length,aB l[k2]=false:=by
     by_cases hlt:k2<l.length
     ·exact .inr ⟨hlt,by cases h:aB l[k2];rfl;exact absurd ⟨hlt,h⟩ rl⟩
     exact .inl hlt
    have HQ:=zh (oG eh HK.out hk ez);clear rl;rcases ez with hlt|⟨hlt,hd⟩
    all_goals go_wp2_with (go_at_call 203;refine(cS _ _).mono ?_;rintro e w' ⟨rfl,rfl⟩)
    all_goals go_meet
    all_goals exact⟨by rw[if_pos h67,HQ.out];rfl,zh rfl⟩
  |false=>
   go_wp2_with fail
   go_meet
   exact⟨by rw[if_neg (by rw[h67];decide)],zh rfl⟩
 case rest=>
 obtain⟨rfl,hcut⟩:=hcut;have pi:=hcut.out;subst pi;clear hcut;dsimp only at l6;generalize (if bO l a 67=true then a+1+aH (l.drop (a+1)) else a)=b at *
 go_wp2_with fail
 go_ret
 exact⟨aA (by rw[<- l6.out,ze];simp;try omega),rfl⟩
def TxtAt(w:World)(g:Nat)(xs:List Bs):Prop:=∀ j (h:j<xs.length),w.cell? ⟨g,j,none⟩=some (vS (xs[j].toArray))
theorem oC(c:Cor)(w:World) :
  Calls Tryz.prog 149 #[corV c] w fun e w'=>e=.returned (.bool (decide (c.row≠id0)&&decide (c.col≠id0)))/\Below w.heap.size w w':=by
 obtain⟨W1,an⟩:=zD (w.alloc (.cells (kL c) 29))
 have am:=zh an;have HL:=zL an;have HB:=zA an;clear an;have x0:=HL.out.cell 0;have x1:=HL.out.cell 1;have x2:=HL.out.cell 2;have x3:=HL.out.cell 3;simp only[za,zb,zf]at x0 x1 x2 x3;have hlt:=HL.out.lt;obtain⟨r1,fh⟩:∃ b,decide (c.row≠id0)=b:=⟨_,rfl⟩
 obtain⟨r2,lu⟩:∃ b,decide (c.col≠id0)=b:=⟨_,rfl⟩
 have N1:∀ w:World,(binOp .neq 27 (idV c.row) (idV id0)).run Tryz.prog w=.ok (.bool r1) w:=fun w=>by rw[fQ,fh]
 have N2:∀ w:World,(binOp .neq 27 (idV c.col) (idV id0)).run Tryz.prog w=.ok (.bool r2) w:=fun w=>by rw[fQ,lu]
 rw[fh,lu];clear fh lu
 go_in
 go_upto_region 1 with fail
 rw[<- am.out];generalize hq:w.heap.size=q at *;cases r1 <;> cases r2
 all_goals go_wp2_with fail
 all_goals go_ret
 all_goals exact⟨rfl,by first|exact HB.out |(rw[hq];exact HB.out)⟩
theorem uAL{p:UInt8->Bool}:∀ {l:Bs},l.all p=true↔bA p l=l.length
 | []=>by simp[bA]
 |c::l=>by
  have ih:=uAL (p:=p) (l:=l);have hle:=cZ p l;rw[List.all_cons,yh,bA,yi,ih];cases hp:p c with
  |true=>simp
  |false=>simp
theorem mark_eq(l:Bs):(decide (aF l+aH (l.drop (aF l))=l.length)&&decide (aF l<=3)&&decide (1<=aH (l.drop (aF l)))&&decide (aH (l.drop (aF l))<=7)&&!bO l (aF l) 48)=pG l:=by
 have h:=uAL (p:=aB) (l:=l.drop (aF l));rw[yk]at h;have hc:aF l<=l.length:=cZ bK l;unfold pG;rw[ze];simp only[yh,decide_eq_true_eq,h];unfold aH;constructor
 ·rintro⟨⟨⟨⟨a1,a2⟩,a3⟩,a4⟩,a5⟩;exact⟨a2,by omega,by omega,a5,by omega⟩
 rintro⟨a2,a3,a4,a5,a6⟩;exact⟨⟨⟨⟨by omega,a2⟩,by omega⟩,by omega⟩,a5⟩
theorem addr_eq(l:Bs):(decide (aF l+aH (l.drop (aF l))=l.length)&&decide (1<=aF l)&&decide (aF l<=3)&&decide (1<=aH (l.drop (aF l))))=(decide (1<=aF l)&&(decide (aF l<=3)&&(decide (aF l<l.length)&&(l.drop (aF l)).all aB))):=by
 have h:=uAL (p:=aB) (l:=l.drop (aF l));rw[yk]at h;have hc:aF l<=l.length:=cZ bK l;rw[ze];simp only[yh,decide_eq_true_eq,h];unfold aH;omega
theorem call_eq(l:Bs):bY l=(decide (0<l.length)&&decide (l.length<=32)&&bK (l.headD 0)&&l.all eA&&!pG l):=by
 rw[<- mark_eq];rfl
theorem name_eq(l:Bs):bS l=(decide (0<l.length)&&decide (l.length<=32)&&(bK (l.headD 0)||l.headD 0==95)&&l.all dB&&!(l==mL||l==iU)&&!sU l):=by
 unfold sU;rw[<- addr_eq];have e:bS l=(decide (0<l.length)&&decide (l.length<=32)&&(bK (l.headD 0)||l.headD 0==95)&&l.all dB&&!(l==mL||l==iU||dX l)&&!(decide (aF l+aH (l.drop (aF l))=l.length)&&decide (1<=aF l)&&decide (aF l<=3)&&decide (1<=aH (l.drop (aF l))))):=rfl;rw[e];generalize (decide (0<l.length)&&decide (l.length<=32)&&(bK (l.headD 0)||l.headD 0==95)&&l.all dB)=a;generalize (l==mL||l==iU)=b;generalize dX l=c;generalize (decide (aF l+aH (l.drop (aF l))=l.length)&&decide (1<=aF l)&&decide (aF l<=3)&&decide (1<=aH (l.drop (aF l))))=d;cases a <;> cases b <;> cases c <;> cases d <;> rfl
theorem uT{p:UInt8->Bool}{l:Bs}{k:Nat}(h:k<l.length)(hp:p l[k]=false):l.all p=false:=by
 cases ha:l.all p with
 |false=>rfl
 |true=>rw[List.all_eq_true.1 ha _ (List.getElem_mem h)]at hp;cases hp
theorem yA{l:Bs}(h:0<l.length):l.headD 0=l[0]:=by cases l with|nil=>cases h|cons c t=>rfl
theorem vO(l:Bs)(w:World)(hs:l.length<=100000) :
  Calls Tryz.prog 151 #[vT l] w fun e w'=>e=.returned (.bool (bY l))/\w=w':=by
 have HM:=zh (uFT l w hs);rw[call_eq];generalize pG l=m at *;by_cases h0:l.length<1
 ·have h0i:(l.length:Int)<1:=by omega
  clear HM
  go_in
  go_wp2_with fail
  go_ret
  exact⟨aA (by rw[decide_eq_false (by omega:¬ 0<l.length)];rfl),rfl⟩
 have h1i:¬ (l.length:Int)<1:=by omega
 by_cases xi:32<l.length
 ·have rh:(32:Int)<(l.length:Int):=by omega
  clear HM
  go_in
  go_wp2_with fail
  go_ret
  exact⟨aA (by rw[decide_eq_false (by omega:¬ l.length<=32)];simp),rfl⟩
 have rh:¬ (32:Int)<(l.length:Int):=by omega
 have ij:0<l.length:=by omega
 rw[yA ij,decide_eq_true ij,decide_eq_true (by omega:l.length<=32)];cases js:bK l[0] with
 |false=>
  clear HM
  go_in
  go_wp2_with (go_at_call 202;refine(cM _ _).mono ?_;rintro e w' ⟨rfl,rfl⟩)
  go_ret
  exact⟨aA (by simp),rfl⟩
 |true=>
 obtain⟨r,hr⟩:∃ r,(true&&true&&true&&l.all eA&&!m)=r:=⟨_,rfl⟩
 have HR:Hid ((l.all eA&&!m)=r):=zh (by rw[<- hr];simp);rw[hr];have H0:Hid ((l.take 1).all eA=true):=zh (by
  rw[show l.take 1=[l[0]] by cases l with|nil=>cases ij|cons c t=>rfl];simp[eA,js])
 clear h0 xi hr hs
 go_in
 go_wp2_with (go_at_call 202;refine(cM _ _).mono ?_;rintro e w' ⟨rfl,rfl⟩)
 clear js
 go_loop [3] (fun i=>∃ k:Nat,1<=k/\k<=l.length/\i=vI k/\Hid ((l.take k).all eA=true)) (fun i=>l.length-(intOf i).toNat)
 case atStart=>exact⟨1,zr,ij,rfl,H0⟩
 case round=>
  obtain⟨k,eh,hk,rfl,HK⟩:=hrel;by_cases hlt:k<l.length
  ·have lm:=kQ l[k] 46 46 rfl;have ix:(k:Int)<(l.length:Int):=by omega
   cases d:eA l[k] with
   |false=>
    have HA:=zh (uT hlt d);unfold eA at d;simp only[Bool.or_eq_false_iff]at d;obtain⟨⟨d1,d2⟩,d3⟩:=d;rw[d3]at lm;clear d3
    go_wp2_with (first |(go_at_call 202;refine(cM _ _).mono ?_;rintro e w' ⟨rfl,rfl⟩) |(go_at_call 203;refine(cS _ _).mono ?_;rintro e w' ⟨rfl,rfl⟩))
    go_ret
    exact⟨aA (by rw[<- HR.out,HA.out];rfl),rfl⟩
   |true=>
   have HS:=zh (eN HK.out hlt d);unfold eA at d;cases d1:bK l[k] with
   |true=>
    clear d
    go_wp2_with (first |(go_at_call 202;refine(cM _ _).mono ?_;rintro e w' ⟨rfl,rfl⟩) |(go_at_call 203;refine(cS _ _).mono ?_;rintro e w' ⟨rfl,rfl⟩))
    go_round
    case rel=>exact⟨k+1,by omega,by omega,by go_num,HS⟩
    case measure=>simp[intOf];omega
   |false=>
    cases d2:aB l[k] with
    |true=>
     clear d
     go_wp2_with (first |(go_at_call 202;refine(cM _ _).mono ?_;rintro e w' ⟨rfl,rfl⟩) |(go_at_call 203;refine(cS _ _).mono ?_;rintro e w' ⟨rfl,rfl⟩))
     go_round
     case rel=>exact⟨k+1,by omega,by omega,by go_num,HS⟩
     case measure=>simp[intOf];omega
    |false=>
     have d3:(l[k]==46)=true:=by rw[d1,d2]at d;simpa using d
     rw[d3]at lm;clear d d3
     go_wp2_with (first |(go_at_call 202;refine(cM _ _).mono ?_;rintro e w' ⟨rfl,rfl⟩) |(go_at_call 203;refine(cS _ _).mono ?_;rintro e w' ⟨rfl,rfl⟩))
     go_round
     case rel=>exact⟨k+1,by omega,by omega,by go_num,HS⟩
     case measure=>simp[intOf];omega
  have HE:Hid (l.all eA=true):=zh (by have h:=HK.out;rwa [List.take_of_length_le (by omega)]at h);have vm:¬ (k:Int)<(l.length:Int):=by omega
  go_wp2_with fail
  refine HM.out.mono ?_;rintro e w' ⟨rfl,rfl⟩
  go_wp2_with fail
  go_ret
  exact⟨aA (by rw[<- HR.out,HE.out];simp),rfl⟩
theorem uEH(s:Bs)(g cp:Nat)(xs:List Bs)(w:World)(hx:TxtAt w g xs)(hl:xs.length<=100) :
  Calls Tryz.prog 152 #[vT s,.slice (some ⟨g,0,none⟩) xs.length cp] w fun e w'=>e=.returned (.bool (xs.contains s))/\w=w':=by
 have HX:=zh hx;obtain⟨r,hr⟩:=zE (xs.contains s)
 have HR:=zh hr;rw[hr];clear hx hr
 go_in
 go_wp2
 go_loop [5] (fun i=>∃ k:Nat,k<=xs.length/\i=vI k/\Hid (s∉xs.take k)) (fun i=>xs.length-(intOf i).toNat)
 case atStart=>exact⟨0,zm _,rfl,zh (by simp)⟩
 case round=>
  obtain⟨k,hk,rfl,HN⟩:=hrel;by_cases hlt:k<xs.length
  ·have x0:=HX.out k hlt;have ix:(k:Int)<(xs.length:Int):=by omega
   cases hd:(xs[k]==s)
   ·have HQ:Hid (s∉xs.take (k+1)):=zh (by
     rw[yw hlt,List.mem_append,yf];rintro(h|h)
     ·exact HN.out h
     rw[h]at hd;simp at hd)
    go_wp2_with fail
    go_round
    case rel=>exact⟨k+1,by omega,by go_num,HQ⟩
    case measure=>simp[intOf];omega
   have HT:Hid (xs.contains s=true):=zh (by
    rw[List.contains_iff_mem];have:=List.getElem_mem hlt
    rwa [eq_of_beq hd]at this)
   go_wp2_with fail
   go_ret
   exact⟨aA (by rw[<- HR.out,HT.out]),rfl⟩
  have HF:Hid (xs.contains s=false):=zh (by
   cases hc:xs.contains s with
   |false=>rfl
   |true=>exact absurd (List.contains_iff_mem.1 hc) (by have h:=HN.out;rwa [List.take_of_length_le (by omega)]at h))
  have vm:¬ (k:Int)<(xs.length:Int):=by omega
  go_wp2_with fail
  go_ret
  exact⟨aA (by rw[<- HR.out,HF.out]),rfl⟩
theorem uFU(l:Bs)(w:World)(hs:l.length<=100000) :
  Calls Tryz.prog 153 #[vT l] w fun e w'=>e=.returned (.bool (bS l))/\w=w':=by
 have HM:=zh (uFR l w hs);rw[name_eq];generalize sU l=m at *;by_cases h0:l.length<1
 ·have h0i:(l.length:Int)<1:=by omega
  clear HM
  go_in
  go_wp2_with fail
  go_ret
  exact⟨aA (by rw[decide_eq_false (by omega:¬ 0<l.length)];rfl),rfl⟩
 have h1i:¬ (l.length:Int)<1:=by omega
 by_cases xi:32<l.length
 ·have rh:(32:Int)<(l.length:Int):=by omega
  clear HM
  go_in
  go_wp2_with fail
  go_ret
  exact⟨aA (by rw[decide_eq_false (by omega:¬ l.length<=32)];simp),rfl⟩
 have rh:¬ (32:Int)<(l.length:Int):=by omega
 have ij:0<l.length:=by omega
 rw[yA ij,decide_eq_true ij,decide_eq_true (by omega:l.length<=32)];obtain⟨t1,l9⟩:∃ b,(l==([84,82,85,69]:Bs))=b:=⟨_,rfl⟩
 obtain⟨t2,oy⟩:∃ b,(l==([70,65,76,83,69]:Bs))=b:=⟨_,rfl⟩
 have h95:=kQ l[0] 95 95 rfl;obtain⟨c1,dv⟩:∃ b,bK l[0]=b:=⟨_,rfl⟩
 obtain⟨c2,im⟩:∃ b,(l[0]==95)=b:=⟨_,rfl⟩
 rw[im]at h95;obtain⟨b0,fm⟩:∃ b,(!(c1||c2)||t1||t2||m)=b:=⟨_,rfl⟩
 have H0:=zh fm;obtain⟨r,hr⟩:∃ r,(true&&true&&(bK l[0]||l[0]==95)&&l.all dB&&!(l==mL||l==iU)&&!m)=r:=⟨_,rfl⟩
 have HR:Hid ((l.all dB&&!b0)=r):=zh (by
  rw[<- hr,<- fm,dv,im,show (l==mL)=t1 from l9,show (l==iU)=t2 from oy];generalize l.all dB=x;cases c1 <;> cases c2 <;> cases t1 <;> cases t2 <;> cases m <;> cases x <;> rfl)
 rw[hr];have H1:Hid (b0=false->(l.take 1).all dB=true):=zh (fun hb=>by
  rw[show l.take 1=[l[0]] by cases l with|nil=>cases ij|cons c t=>rfl];rw[<- fm]at hb;simp only[Bool.or_eq_false_iff,Bool.not_eq_false',Bool.or_eq_true]at hb;rcases hb.1.1.1 with h|h
  ·rw[h]at dv;simp[dB,dv]
  rw[h]at im;simp only[dB,List.all_cons,List.all_nil];rw[im];simp)
 clear h0 xi hr hs fm im
 go_in
 go_upto_region 1 with fail
 go_cut [34] (fun v wx=>v=.bool b0/\Hid (wx=w))
 case first=>
  clear HR H1;cases c1 <;> cases c2 <;> cases t1 <;> cases t2
  all_goals go_wp2_with (go_at_call 202;refine(cM _ _).mono ?_;rintro e w' ⟨rfl,rfl⟩)
  all_goals first |(go_meet;exact⟨by rw[<- H0.out];rfl,zh rfl⟩) |(refine HM.out.mono ?_;rintro e w' ⟨rfl,rfl⟩;go_wp2_with fail;go_meet;exact⟨by rw[<- H0.out];simp,zh rfl⟩)
 case rest=>
 obtain⟨rfl,hcut⟩:=hcut;have pi:=hcut.out;subst pi;clear hcut h95 HM l9 oy H0 dv;cases b0 with
 |true=>
  go_wp2_with fail
  go_ret
  exact⟨aA (by rw[<- HR.out];simp),rfl⟩
 |false=>
 have H2:=zh (H1.out rfl);clear H1
 go_wp2_with fail
 go_loop [3] (fun i=>∃ k:Nat,1<=k/\k<=l.length/\i=vI k/\Hid ((l.take k).all dB=true)) (fun i=>l.length-(intOf i).toNat)
 case atStart=>exact⟨1,zr,ij,rfl,H2⟩
 case round=>
  obtain⟨k,eh,hk,rfl,HK⟩:=hrel;by_cases hlt:k<l.length
  ·have lm:=kQ l[k] 46 46 rfl;have sv:=kQ l[k] 95 95 rfl;have ix:(k:Int)<(l.length:Int):=by omega
   cases d:dB l[k] with
   |false=>
    have HA:=zh (uT hlt d);unfold dB at d;simp only[Bool.or_eq_false_iff]at d;obtain⟨⟨⟨d1,d2⟩,d4⟩,d3⟩:=d;rw[d3]at lm;rw[d4]at sv;clear d3 d4
    go_wp2_with (first |(go_at_call 202;refine(cM _ _).mono ?_;rintro e w' ⟨rfl,rfl⟩) |(go_at_call 203;refine(cS _ _).mono ?_;rintro e w' ⟨rfl,rfl⟩))
    go_ret
    exact⟨aA (by rw[<- HR.out,HA.out];rfl),rfl⟩
   |true=>
   have HS:=zh (eN HK.out hlt d);unfold dB at d;cases d1:bK l[k] with
   |true=>
    clear d
    go_wp2_with (first |(go_at_call 202;refine(cM _ _).mono ?_;rintro e w' ⟨rfl,rfl⟩) |(go_at_call 203;refine(cS _ _).mono ?_;rintro e w' ⟨rfl,rfl⟩))
    go_round
    case rel=>exact⟨k+1,by omega,by omega,by go_num,HS⟩
    case measure=>simp[intOf];omega
   |false=>
    cases d2:aB l[k] with
    |true=>
     clear d
     go_wp2_with (first |(go_at_call 202;refine(cM _ _).mono ?_;rintro e w' ⟨rfl,rfl⟩) |(go_at_call 203;refine(cS _ _).mono ?_;rintro e w' ⟨rfl,rfl⟩))
     go_round
     case rel=>exact⟨k+1,by omega,by omega,by go_num,HS⟩
     case measure=>simp[intOf];omega
    |false=>
     rw[d1,d2]at d;cases d3:(l[k]==46) with
     |true=>
      rw[d3]at lm;clear d
      go_wp2_with (first |(go_at_call 202;refine(cM _ _).mono ?_;rintro e w' ⟨rfl,rfl⟩) |(go_at_call 203;refine(cS _ _).mono ?_;rintro e w' ⟨rfl,rfl⟩))
      go_round
      case rel=>exact⟨k+1,by omega,by omega,by go_num,HS⟩
      case measure=>simp[intOf];omega
     |false=>
      have d4:(l[k]==95)=true:=by rw[d3]at d;simpa using d
      rw[d3]at lm;rw[d4]at sv;clear d
      go_wp2_with (first |(go_at_call 202;refine(cM _ _).mono ?_;rintro e w' ⟨rfl,rfl⟩) |(go_at_call 203;refine(cS _ _).mono ?_;rintro e w' ⟨rfl,rfl⟩))
      go_round
      case rel=>exact⟨k+1,by omega,by omega,by go_num,HS⟩
      case measure=>simp[intOf];omega
  have HE:Hid (l.all dB=true):=zh (by have h:=HK.out;rwa [List.take_of_length_le (by omega)]at h);have vm:¬ (k:Int)<(l.length:Int):=by omega
  go_wp2_with fail
  go_ret
  exact⟨aA (by rw[<- HR.out,HE.out];rfl),rfl⟩
theorem cU:∀ (n:Nat),n<=1000000->∀ (t t':Tree) (cs nx:Array Value) (w:World),t.size<=n->TreeIn w t cs->TreeIn w t' nx->Calls Tryz.prog 23 #[.agg cs,.agg nx] w fun e w'=>e=.returned (.bool (t.same t'))/\Below w.heap.size w w':=by
 intro n
 induction n with
 |zero=>intro _ t _ _ _ _ hs;cases t;simp[Tree.size]at hs
 |succ n ih=>
 intro bk;rintro⟨h,l⟩ ⟨h',l'⟩ cs nx w hs ⟨A,cp,rfl,hk⟩ ⟨A',li,rfl,en⟩;have IH:=zh (fun(i:Nat) (hi:i<l.length) t' cs nx W h1 h2=>ih (by omega) (l[i]'hi) t' cs nx W (by have h9:(l[i]'hi).size<(Tree.mk h l).size:=fG (t:=.mk h l) (i:=i) hi;omega) h1 h2);have fz:Hid (l.length<=1000000):=zh (by have h1:=cF l;have h2:aN l+1<=n+1:=hs;omega);clear ih;dsimp only[Tree.h,Tree.l]at hk en ⊢;have HK:=zh hk;have HK':=zh en;clear hk en hs;have hS:Tree.same (.mk h l) (.mk h' l')=(NodeH.same h h'&&fL l l'):=rfl;rw[hS];clear hS;generalize iz:(w.alloc (.cells (aK h A l.length cp) 34))=W1;have iq:Hid (Lies W1 w.heap.size 34 (aK h A l.length cp)):=zh (by rw[<- iz];exact Lies.new _ _ _);have vx:Hid (Below w.heap.size w W1):=zh (by rw[<- iz];exact zp _);have td:W1.heap.size=w.heap.size+1:=by rw[<- iz];simp
 generalize hL2:(W1.alloc (.cells (aK h' A' l'.length li) 34))=W2;have cr:Hid (Lies W2 (w.heap.size+1) 34 (aK h' A' l'.length li)):=zh (by rw[<- hL2,<- td];exact Lies.new _ _ _);have ln:Hid (Below W1.heap.size W1 W2):=zh (by rw[<- hL2];exact zp _);have gu:=zh (iq.out.next ln.out);have aw:Hid (Below w.heap.size w W2):=zh (zU vx.out ln.out);have HEA:=zh neq_area;have HEV:=zh neq_val;clear iq vx ln;have am:=zh iz;have jx:=zh hL2;have fo:=zh td;clear iz hL2 td
 go_in
 go_upto_region 1 with fail
 rw[am.out,jx.out];clear am jx;generalize hQ:w.heap.size=q at *;obtain⟨bb,ub⟩:∃ bb,(NodeH.same h h'&&decide (l.length=l'.length))=bb:=⟨_,rfl⟩
 have uo:=zh ub;clear ub
 go_cut [47] (fun v wx=>v=.bool (!bb)/\Hid (wx=W2))
 case first=>
  have hea:=HEA.out h.a h.b h'.a h'.b;have hev:=HEV.out h.v h'.v;dsimp only[arV]at hea;obtain⟨d0,qo⟩:∃ x,(h.kind != h'.kind)=x:=⟨_,rfl⟩
  obtain⟨d1,tz⟩:∃ x,(!bD h.v h'.v)=x:=⟨_,rfl⟩
  obtain⟨d2,hd2⟩:∃ x,decide (h.name≠h'.name)=x:=⟨_,rfl⟩
  obtain⟨d3,zu⟩:∃ x,(!(decide (h.a=h'.a)&&decide (h.b=h'.b)))=x:=⟨_,rfl⟩
  obtain⟨d4,hd4⟩:∃ x,(h.rows != h'.rows)=x:=⟨_,rfl⟩
  obtain⟨d5,hd5⟩:∃ x,((l.length:Int) != (l'.length:Int))=x:=⟨_,rfl⟩
  rw[tz]at hev;rw[zu]at hea;have hd2':(h.name==h'.name)=!d2:=by rw[<- hd2,ze];simp
  obtain⟨c1,dv⟩:∃ x,x=(d0||d1):=⟨_,rfl⟩
  obtain⟨c2,im⟩:∃ x,x=(c1||d2):=⟨_,rfl⟩
  obtain⟨c3,rv⟩:∃ x,x=(c2||d3):=⟨_,rfl⟩
  obtain⟨c4,hc4⟩:∃ x,x=(c3||d4):=⟨_,rfl⟩
  obtain⟨c5,hc5⟩:∃ x,x=(c4||d5):=⟨_,rfl⟩
  have HD:Hid (bb=!c5):=zh (by
   rw[hc5,hc4,rv,im,dv,<- qo,<- tz,<- hd2,<- zu,<- hd4,<- hd5,<- uo.out];unfold NodeH.same;rw[show (h.kind != h'.kind)=!decide (h.kind=h'.kind) from by rw[ze];simp,show decide (h.name≠h'.name)=!(h.name==h'.name) from by rw[ze];simp,show (h.rows != h'.rows)=!decide (h.rows=h'.rows) from by rw[ze];simp,show ((l.length:Int) != (l'.length:Int))=!decide (l.length=l'.length) from by rw[ze];simp;omega];cases decide (h.kind=h'.kind) <;> cases bD h.v h'.v <;> cases (h.name==h'.name) <;> cases decide (h.a=h'.a) <;> cases decide (h.b=h'.b) <;> cases decide (h.rows=h'.rows) <;> cases decide (l.length=l'.length) <;> rfl)
  obtain⟨TT,ai⟩:∃ TT:List (Nat×Nat×Value),TT=((0,6,vP q 0)::(1,7,vI h.kind)::(2,8,vP (q+1) 0)::(3,9,vI h'.kind)::(4,10,.bool d0)::(5,11,.bool d0)::(6,12,(bif d0 then undef else vP q 1))::(7,13,(bif d0 then undef else .agg ([vI h.v.kind,vI h.v.mant,vI h.v.exp,vT h.v.text,.bool h.v.truth,vI h.v.fault]:List Value).toArray))::(8,14,(bif d0 then undef else vP (q+1) 1))::(9,15,(bif d0 then undef else .agg ([vI h'.v.kind,vI h'.v.mant,vI h'.v.exp,vT h'.v.text,.bool h'.v.truth,vI h'.v.fault]:List Value).toArray))::(10,16,(bif d0 then undef else .bool d1))::(11,17,.bool c1)::(12,18,.bool c1)::(13,19,(bif c1 then undef else vP q 7))::(14,20,(bif c1 then undef else vT h.name))::(15,21,(bif c1 then undef else vP (q+1) 7))::(16,22,(bif c1 then undef else vT h'.name))::(17,23,(bif c1 then undef else .bool d2))::(18,24,.bool c2)::(19,25,.bool c2)::(20,26,(bif c2 then undef else vP q 8))::(21,27,(bif c2 then undef else .agg ([vI h.a.row.a,vI h.a.row.n,vI h.a.col.a,vI h.a.col.n,.bool h.a.fr,.bool h.a.fc,vI h.b.row.a,vI h.b.row.n,vI h.b.col.a,vI h.b.col.n,.bool h.b.fr,.bool h.b.fc]:List Value).toArray))::(22,28,(bif c2 then undef else vP (q+1) 8))::(23,29,(bif c2 then undef else .agg ([vI h'.a.row.a,vI h'.a.row.n,vI h'.a.col.a,vI h'.a.col.n,.bool h'.a.fr,.bool h'.a.fc,vI h'.b.row.a,vI h'.b.row.n,vI h'.b.col.a,vI h'.b.col.n,.bool h'.b.fr,.bool h'.b.fc]:List Value).toArray))::(24,30,(bif c2 then undef else .bool d3))::(25,31,.bool c3)::(26,32,.bool c3)::(27,33,(bif c3 then undef else vP q 20))::(28,34,(bif c3 then undef else vI h.rows))::(29,35,(bif c3 then undef else vP (q+1) 20))::(30,36,(bif c3 then undef else vI h'.rows))::(31,37,(bif c3 then undef else .bool d4))::(32,38,.bool c4)::(33,39,.bool c4)::(34,40,(bif c4 then undef else vP q 21))::(35,41,(bif c4 then undef else .slice A l.length cp))::(36,42,(bif c4 then undef else vI (l.length:Nat)))::(37,43,(bif c4 then undef else vP (q+1) 21))::(38,44,(bif c4 then undef else .slice A' l'.length li))::(39,45,(bif c4 then undef else vI (l'.length:Nat)))::(40,46,(bif c4 then undef else .bool d5))::(41,47,.bool c5)::[]):=⟨_,rfl⟩
  have az:=zh ai;clear ai;refine aX (fun a0=>67<=a0.tmps.size/\a0.eval (.tmp 2)=vP q 0/\a0.eval (.tmp 3)=vP (q+1) 0) (6::7::8::9::10::11::12::13::14::15::16::17::18::19::20::21::22::23::24::25::26::27::28::29::30::31::32::33::34::35::36::37::38::39::40::41::42::43::44::45::46::47::[]) TT [] (fun w'=>w'=W2) (by kernel_rfl) ⟨by simp,rfl,rfl⟩ rfl ?_ ?_
  ·rintro a0 ⟨hs,tj,kv⟩ zl a1 w1 zj o aq hI al ho zd;obtain rfl:w1=W2:=hI.st;have ai:=az.out
   subst ai;have e2x:=hI.off.q tj;have e3x:=hI.off.q kv;have hj:=Up.of_false al;have hj12:zj<42:=by rw[aq]at hj;exact hj
   have G:RG _ _ _ _ _ _ _ _ _ _ _:=⟨by rfl,hI,hs,al,ho,zd⟩
   (iterate 41 rcases zq hj12 with hj12|rfl);obtain rfl:=cz hj12;all_goals obtain rfl:=oi ho
   ·exact G.nl 0 rfl (by simp[execOp,go_sem,e2x])
   ·have xq:w1.cell? ⟨q,0,none⟩=some (vI h.kind):=gu.out.cell 0;exact G.nl 1 rfl (by simp[execOp,go_sem,G.t 0,xq])
   ·exact G.nl 2 rfl (by simp[execOp,go_sem,e3x])
   ·have xq:w1.cell? ⟨(q+1),0,none⟩=some (vI h'.kind):=cr.out.cell 0;exact G.nl 3 rfl (by simp[execOp,go_sem,G.t 2,xq])
   ·exact G.nl 4 rfl (by simp[execOp,go_sem,G.t 1,G.t 3,qo])
   ·exact G.nl 5 rfl (by simp[execOp,go_sem,G.t 4])
   ·refine G.gn 5 6 ?_;rintro rfl;simp[execOp,go_sem,e2x]
   ·refine G.gn 5 7 ?_;rintro rfl;have p6:=G.d 6;exact aR 25 (.tmp 12) rfl q 1 p6 _ _ (gu.out.sub 1 [vI h.v.kind,vI h.v.mant,vI h.v.exp,vT h.v.text,.bool h.v.truth,vI h.v.fault] rfl) Tryz.underlying25 rfl iA
   ·refine G.gn 5 8 ?_;rintro rfl;simp[execOp,go_sem,e3x]
   ·refine G.gn 5 9 ?_;rintro rfl;have p8:=G.d 8;exact aR 25 (.tmp 14) rfl (q+1) 1 p8 _ _ (cr.out.sub 1 [vI h'.v.kind,vI h'.v.mant,vI h'.v.exp,vT h'.v.text,.bool h'.v.truth,vI h'.v.fault] rfl) Tryz.underlying25 rfl iA
   ·refine G.gn 5 10 ?_;rintro rfl;simp[execOp,go_sem,G.t 7,G.t 9,hev]
   ·cases d0
    all_goals exact G.nl 11 rfl (by simp[execOp,go_sem,G.t 5,G.t 10,dv])
   ·exact G.nl 12 rfl (by simp[execOp,go_sem,G.t 11])
   ·refine G.gn 12 13 ?_;rintro rfl;simp[execOp,go_sem,e2x]
   ·refine G.gn 12 14 ?_;rintro rfl;have xq:w1.cell? ⟨q,7,none⟩=some (vT h.name):=gu.out.cell 7;simp[execOp,go_sem,G.t 13,xq]
   ·refine G.gn 12 15 ?_;rintro rfl;simp[execOp,go_sem,e3x]
   ·refine G.gn 12 16 ?_;rintro rfl;have xq:w1.cell? ⟨(q+1),7,none⟩=some (vT h'.name):=cr.out.cell 7;simp[execOp,go_sem,G.t 15,xq]
   ·refine G.gn 12 17 ?_;rintro rfl;simp[execOp,go_sem,G.t 14,G.t 16,hd2']
   ·cases c1
    all_goals exact G.nl 18 rfl (by simp[execOp,go_sem,G.t 12,G.t 17,im])
   ·exact G.nl 19 rfl (by simp[execOp,go_sem,G.t 18])
   ·refine G.gn 19 20 ?_;rintro rfl;simp[execOp,go_sem,e2x]
   ·refine G.gn 19 21 ?_;rintro rfl;have p20:=G.d 20;exact aR 31 (.tmp 26) rfl q 8 p20 _ _ (gu.out.sub 8 [vI h.a.row.a,vI h.a.row.n,vI h.a.col.a,vI h.a.col.n,.bool h.a.fr,.bool h.a.fc,vI h.b.row.a,vI h.b.row.n,vI h.b.col.a,vI h.b.col.n,.bool h.b.fr,.bool h.b.fc] rfl) Tryz.underlying31 rfl hH
   ·refine G.gn 19 22 ?_;rintro rfl;simp[execOp,go_sem,e3x]
   ·refine G.gn 19 23 ?_;rintro rfl;have p22:=G.d 22;exact aR 31 (.tmp 28) rfl (q+1) 8 p22 _ _ (cr.out.sub 8 [vI h'.a.row.a,vI h'.a.row.n,vI h'.a.col.a,vI h'.a.col.n,.bool h'.a.fr,.bool h'.a.fc,vI h'.b.row.a,vI h'.b.row.n,vI h'.b.col.a,vI h'.b.col.n,.bool h'.b.fr,.bool h'.b.fc] rfl) Tryz.underlying31 rfl hH
   ·refine G.gn 19 24 ?_;rintro rfl;simp[execOp,go_sem,G.t 21,G.t 23,hea]
   ·cases c2
    all_goals exact G.nl 25 rfl (by simp[execOp,go_sem,G.t 19,G.t 24,rv])
   ·exact G.nl 26 rfl (by simp[execOp,go_sem,G.t 25])
   ·refine G.gn 26 27 ?_;rintro rfl;simp[execOp,go_sem,e2x]
   ·refine G.gn 26 28 ?_;rintro rfl;have xq:w1.cell? ⟨q,20,none⟩=some (vI h.rows):=gu.out.cell 20;simp[execOp,go_sem,G.t 27,xq]
   ·refine G.gn 26 29 ?_;rintro rfl;simp[execOp,go_sem,e3x]
   ·refine G.gn 26 30 ?_;rintro rfl;have xq:w1.cell? ⟨(q+1),20,none⟩=some (vI h'.rows):=cr.out.cell 20;simp[execOp,go_sem,G.t 29,xq]
   ·refine G.gn 26 31 ?_;rintro rfl;simp[execOp,go_sem,G.t 28,G.t 30,hd4]
   ·cases c3
    all_goals exact G.nl 32 rfl (by simp[execOp,go_sem,G.t 26,G.t 31,hc4])
   ·exact G.nl 33 rfl (by simp[execOp,go_sem,G.t 32])
   ·refine G.gn 33 34 ?_;rintro rfl;simp[execOp,go_sem,e2x]
   ·refine G.gn 33 35 ?_;rintro rfl;have xq:w1.cell? ⟨q,21,none⟩=some (.slice A l.length cp):=gu.out.cell 21;simp[execOp,go_sem,G.t 34,xq]
   ·refine G.gn 33 36 ?_;rintro rfl;simp[go_sem,G.t 35]
   ·refine G.gn 33 37 ?_;rintro rfl;simp[execOp,go_sem,e3x]
   ·refine G.gn 33 38 ?_;rintro rfl;have xq:w1.cell? ⟨(q+1),21,none⟩=some (.slice A' l'.length li):=cr.out.cell 21;simp[execOp,go_sem,G.t 37,xq]
   ·refine G.gn 33 39 ?_;rintro rfl;simp[go_sem,G.t 38]
   ·refine G.gn 33 40 ?_;rintro rfl;simp[execOp,go_sem,G.t 36,G.t 39,hd5]
   cases c4
   all_goals exact G.nl 41 rfl (by simp[execOp,go_sem,G.t 33,G.t 40,hc5])
  intro zl a1 w1 hI bj;obtain rfl:w1=W2:=hI.st;have ai:=az.out;subst ai;have z47:=hI.ptk 41 rfl (bj 41 (by decide));obtain⟨ff,rfl,hf⟩:=hI.off.forms;rw[<- hf 47]at z47;clear hI;simp only[List.foldl,Act.put,yz,List.set];rw[z47];simp only[Exit.then]
  go_step
  go_meet
  exact⟨by rw[HD.out,Bool.not_not],zh rfl⟩
 case rest=>
  obtain⟨rfl,hcut⟩:=hcut;have pi:=hcut.out;subst pi;have bf:Hid (Below w.heap.size w wc):=zh (by rw[hQ];exact aw.out);cases bb
  ·have HR:Hid ((NodeH.same h h'&&fL l l')=false):=zh (by have h1:=uo.out;rw[Bool.and_eq_false_iff]at h1;exact h1.elim (fun h1=>by rw[h1];rfl) (fun h1=>by rw[vY (of_decide_eq_false h1),Bool.and_false]))
   go_wp2_with fail
   go_ret
   exact⟨by first|exact aA HR.out.symm|exact aA rfl,aw.out⟩
  have HH:=uo.out;rw[yh]at HH;have HLL:=zh (of_decide_eq_true HH.2);have HR:Hid ((NodeH.same h h'&&fL l l')=fL l l'):=zh (by rw[HH.1,Bool.true_and]);clear HH uo HEA HEV
  go_wp2_with fail
  go_loopw [5] (fun v wr=>∃ i:Nat,i<=l.length/\v=vI (i:Int)/\Hid (Below wc.heap.size wc wr/\∀ j (hj:j<i) (h1:j<l.length) (h2:j<l'.length),l[j].same l'[j]=true)) (fun v _=>l.length-(intOf v).toNat)
  case atStart=>exact⟨0,zm _,rfl,zh ⟨Below.refl _ _,fun j hj=>absurd hj (by omega)⟩⟩
  case round=>
   obtain⟨i,hi,rfl,hrel⟩:=hrel;have kr:=zh hrel.out.1;have HPr:=zh hrel.out.2;clear hrel;have hx:=(gu.out.next kr.out).cell 21;have hy:=(cr.out.next kr.out).cell 21;simp only[za,zb,zf]at hx hy;by_cases hlt:i<l.length
   ·have kq:i<l'.length:=by have:=HLL.out;omega
    obtain⟨g,og,ci,rfl,ei,da⟩:=gN HK.out i hlt;obtain⟨g',og',ci',rfl,hc22',hci'⟩:=gN HK'.out i kq;have xr:=zh hlt;have pq:Hid (∀ W',Below wc.heap.size wc W'->W'.rangeAt g (og+i*22) ci/\W'.rangeAt g' (og'+i*22) ci'/\TreeIn W' l[i] ci.toArray/\TreeIn W' l'[i] ci'.toArray):=zh (fun W' hb=>by have i6:Kp [] w W':=(Kp.of_below bf.out).trans (Kp.of_below hb);exact⟨(da W' i6).1,(hci' W' i6).1,(da W' i6).2,(hci' W' i6).2⟩);clear da hci';have zi:(Tryz.prog.info? 34).map (·.size)=some ci.length:=by rw[ei];exact bZ
    have hinf':(Tryz.prog.info? 34).map (·.size)=some ci'.length:=by rw[hc22'];exact bZ
    have hib:(i:Int)<=1000000:=by have:=fz.out;omega
    have wa:(i:Int)<(l.length:Int):=by omega
    have hli':(i:Int)<(l'.length:Int):=by omega
    have CI:=zh (fun W' (hb:Below wc.heap.size wc W')=>IH.out i hlt (l'[i]'kq) ci.toArray ci'.toArray W' (pq.out W' hb).2.2.1 (pq.out W' hb).2.2.2);obtain⟨b,hb⟩:∃ b,(l[i]'hlt).same (l'[i]'kq)=b:=⟨_,rfl⟩
    rw[hb]at CI;have HBv:=zh hb;clear hb
    go_upto_region 6 with fail
    clear hx hy
    go_cut [66] (fun v wx=>v=.bool (!b)/\Hid (Below wc.heap.size wc wx))
    case first=>
     obtain⟨P0,hP0⟩:∃ R:World->Prop,∀ w',R w'↔(Below wc.heap.size wc w'):=⟨_,fun _=>Iff.rfl⟩
     have nc:=zh hP0;clear hP0;obtain⟨P1,hP1⟩:∃ R:World->Prop,∀ w',R w'↔(Below wc.heap.size wc w'):=⟨_,fun _=>Iff.rfl⟩
     have ry:=zh hP1;clear hP1;obtain⟨TT,ai⟩:∃ TT:List (Nat×Nat×Value),TT=[(0,55,vP q 21),(1,56,.slice (some ⟨g,og,none⟩) l.length cp),(2,57,vI (i:Int)),(3,58,vP g (og+i*22)),(4,59,.agg ci.toArray),(5,60,vP (q+1) 21),(6,61,.slice (some ⟨g',og',none⟩) l'.length li),(7,62,vI (i:Int)),(8,63,vP g' (og'+i*22)),(9,64,.agg ci'.toArray),(10,65,.bool b),(11,66,.bool (!b))]:=⟨_,rfl⟩
     have az:=zh ai;clear ai;refine bX (fun a0=>67<=a0.tmps.size/\a0.eval (.tmp 2)=vP q 0/\a0.eval (.tmp 3)=vP (q+1) 0/\a0.eval (.tmp 5)=vI (i:Int)) [55,56,57,58,59,60,61,62,63,64,65,66] TT [(10,P1)] P0 (by kernel_rfl) (by kernel_rfl) ⟨by simp,rfl,rfl,rfl⟩ ((nc.out _).2 (kr.out.trans (zB.drew.mono kr.out.size))) ?_ ?_
     ·rintro a0 ⟨hs,tj,kv,ri⟩ zl a1 w1 zj o aq hI al ho zd;have ai:=az.out;subst ai;have hk:okU (([(0,55,vP q 21),(1,56,.slice (some ⟨g,og,none⟩) l.length cp),(2,57,vI (i:Int)),(3,58,vP g (og+i*22)),(4,59,.agg ci.toArray),(5,60,vP (q+1) 21),(6,61,.slice (some ⟨g',og',none⟩) l'.length li),(7,62,vI (i:Int)),(8,63,vP g' (og'+i*22)),(9,64,.agg ci'.toArray),(10,65,.bool b),(11,66,.bool (!b))]:List (Nat×Nat×Value)).map fun e=>(e.1,e.2.1)) [55,56,57,58,59,60,61,62,63,64,65,66] 67=true:=by rfl
      have hj:=Up.of_false al;have hj12:zj<12:=by rw[aq]at hj;exact hj
      have e2x:a1.eval (.tmp 2)=vP q 0:=(hI.off.eval (by decide)).trans tj;have e3x:a1.eval (.tmp 3)=vP (q+1) 0:=(hI.off.eval (by decide)).trans kv;have e5x:a1.eval (.tmp 5)=vI (i:Int):=(hI.off.eval (by decide)).trans ri;(iterate 11 rcases zq hj12 with hj12|rfl);obtain rfl:=cz hj12;all_goals obtain rfl:=oi ho
      ·exact fO hk hI hs (.head _) (by simp) al ho zd (bU rfl) rfl (by simp[execOp,go_sem,cD e2x])
      ·have d0:=ud zd 0;have p0:=pk hI.pt 0 rfl d0;have hq:w1.cell? ⟨q,21,none⟩=some (.slice (some ⟨g,og,none⟩) l.length cp):=by
        obtain⟨jj,hjj,hP⟩:=hI.low 0 (by simp) (fun m hm=>by obtain rfl:=Option.some.inj hm;kernel_rfl) al;rcases(by omega:jj=0) with rfl;have hP:P0 w1:=hP;have hW:=(nc.out _).1 hP;exact(gu.out.next hW).cell 21
       exact fO hk hI hs (.tail _ (.head _)) (by simp) al ho zd (bU rfl) rfl (by simp[execOp,go_sem,cD p0,hq])
      ·exact fO hk hI hs (mm 2 rfl) (by simp) al ho zd (bU rfl) rfl (by simp[execOp,go_sem,cD e5x])
      ·have d1:=ud zd 1;have p1:=pk hI.pt 1 rfl d1;have d2:=ud zd 2;have p2:=pk hI.pt 2 rfl d2;exact fO hk hI hs (mm 3 rfl) (by simp) al ho zd (bU rfl) rfl (by simp[execOp,go_sem,cD p1,cD p2,wa])
      ·have d3:=ud zd 3;have p3:=pk hI.pt 3 rfl d3;have hq:w1.rangeAt g (og+i*22) ci:=by
        obtain⟨jj,hjj,hP⟩:=hI.low 0 (by simp) (fun m hm=>by obtain rfl:=Option.some.inj hm;kernel_rfl) al;rcases(by omega:jj=0) with rfl;have hP:P0 w1:=hP;exact(pq.out _ ((nc.out _).1 hP)).1
       exact fO hk hI hs (mm 4 rfl) (by simp) al ho zd (bU rfl) rfl (aR 34 (.tmp 58) rfl _ _ p3 _ _ hq Tryz.underlying34 rfl zi)
      ·exact fO hk hI hs (mm 5 rfl) (by simp) al ho zd (bU rfl) rfl (by simp[execOp,go_sem,cD e3x])
      ·have d5:=ud zd 5;have p5:=pk hI.pt 5 rfl d5;have hq:w1.cell? ⟨(q+1),21,none⟩=some (.slice (some ⟨g',og',none⟩) l'.length li):=by
        obtain⟨jj,hjj,hP⟩:=hI.low 0 (by simp) (fun m hm=>by obtain rfl:=Option.some.inj hm;kernel_rfl) al;rcases(by omega:jj=0) with rfl;have hP:P0 w1:=hP;have hW:=(nc.out _).1 hP;exact(cr.out.next hW).cell 21
       exact fO hk hI hs (mm 6 rfl) (by simp) al ho zd (bU rfl) rfl (by simp[execOp,go_sem,cD p5,hq])
      ·exact fO hk hI hs (mm 7 rfl) (by simp) al ho zd (bU rfl) rfl (by simp[execOp,go_sem,cD e5x])
      ·have d6:=ud zd 6;have p6:=pk hI.pt 6 rfl d6;have d7:=ud zd 7;have p7:=pk hI.pt 7 rfl d7;exact fO hk hI hs (mm 8 rfl) (by simp) al ho zd (bU rfl) rfl (by simp[execOp,go_sem,cD p6,cD p7,hli'])
      ·have d8:=ud zd 8;have p8:=pk hI.pt 8 rfl d8;have hq:w1.rangeAt g' (og'+i*22) ci':=by
        obtain⟨jj,hjj,hP⟩:=hI.low 0 (by simp) (fun m hm=>by obtain rfl:=Option.some.inj hm;kernel_rfl) al;rcases(by omega:jj=0) with rfl;have hP:P0 w1:=hP;exact(pq.out _ ((nc.out _).1 hP)).2.1
       exact fO hk hI hs (mm 9 rfl) (by simp) al ho zd (bU rfl) rfl (aR 34 (.tmp 63) rfl _ _ p8 _ _ hq Tryz.underlying34 rfl hinf')
      ·have d4:=ud zd 4;have p4:=pk hI.pt 4 rfl d4;have d9:=ud zd 9;have p9:=pk hI.pt 9 rfl d9;refine gu_mark hk hI hs (mm 10 rfl) (by kernel_rfl) [] [] P1 rfl al ho zd (bU rfl) rfl (fun hP=>?_);have hP:P0 w1:=hP;refine sS (v:=.bool b) 23 #[.agg ci.toArray,.agg ci'.toArray] (by simp[go_sem,cD p4,cD p9]) ?_;have hW:=(nc.out _).1 hP;refine(CI.out w1 hW).mono ?_;rintro e w2 ⟨rfl,hb⟩;exact⟨rfl,rfl,(ry.out _).2 (zU hW hb)⟩
      have d10:=ud zd 10;have p10:=pk hI.pt 10 rfl d10;exact fO hk hI hs (mm 11 rfl) (by simp) al ho zd (bU rfl) rfl (by simp[execOp,go_sem,cD p10])
     intro zl a1 w1 hI bj;have ai:=az.out;subst ai;have hF:P1 w1:=hI.st.last (fun m hm=>bj m.1 (by simp only[ym,List.not_mem_nil,or_false]at hm;rcases hm with rfl;all_goals simp));have z66:a1.eval (.tmp 66)=.bool (!b):=hI.pt (11,66,.bool (!b)) (mm 11 rfl) (bj 11 (by decide));obtain⟨ff,rfl,hf⟩:=hI.off.forms;rw[<- hf 66]at z66;clear hI;simp only[List.foldl,Act.put,yz,List.set];rw[z66];have hF2:=(ry.out _).1 hF;simp only[Exit.then]
     go_step
     go_meet
     exact⟨rfl,zh hF2⟩
    case rest=>
     obtain⟨rfl,hcut⟩:=hcut;have nn:=zh hcut.out;clear hcut CI pq;cases b
     ·have od:Hid ((NodeH.same h h'&&fL l l')=false):=zh (by rw[HR.out];cases hs:fL l l' with|false=>rfl|true=>have:=(lW HLL.out).1 hs i hlt kq;rw[HBv.out]at this;cases this)
      go_wp2_with fail
      go_ret
      exact⟨by first|exact aA od.out.symm|exact aA rfl,zU bf.out nn.out⟩
     go_wp2_with fail
     go_roundw
     case rel=>exact⟨i+1,by have:=xr.out;omega,by go_num,zh ⟨nn.out,fun j hj h1 h2=>(Nat.lt_or_ge j i).elim (fun hji=>HPr.out j hji h1 h2) (fun hji=>by have e:j=i:=(by omega);subst e;exact HBv.out)⟩⟩
     case measure=>have:=xr.out;simp[intOf];omega
   have hie:i=l.length:=by omega
   have vm:¬ ((i:Int)<(l.length:Int)):=by omega
   have od:Hid ((NodeH.same h h'&&fL l l')=true):=zh (by rw[HR.out];exact(lW HLL.out).2 (fun j h1 h2=>HPr.out j (by omega) h1 h2))
   go_wp2_with fail
   go_ret
   exact⟨by first|exact aA od.out.symm|exact aA rfl,by first|exact zU bf.out kr.out |(rw[<- hQ];exact zU bf.out kr.out)⟩
theorem pX:∀ (l:List Tree) (x:Tree),cQ (l++[x])=max (cQ l) x.depth
 | [],x=>by simp[cQ]
 |t::l,x=>by rw[yp,cQ,cQ,pX l x];omega
theorem xU(l:List Tree)(k:Nat)(h:k<l.length):cQ (l.take (k+1))=max (cQ (l.take k)) l[k].depth:=by rw[yw h,pX]
mutual
theorem mU:∀ t:Tree,t.depth<=t.size
 | .mk _ l=>by rw[Tree.depth,Tree.size];have:=kS l;omega
theorem kS:∀ l:List Tree,cQ l<=aN l
 | []=>zr
 |t::l=>by rw[cQ,aN];have:=mU t;have:=kS l;omega
end
theorem xV(l:List Tree)(k:Nat):cQ (l.take k)<=aN l:=by
 have h:∀ (l:List Tree) k,aN (l.take k)<=aN l:=fun l=>by
  induction l with
  |nil=>intro k;simp
  |cons t l ih=>intro k;cases k with
   |zero=>simp[aN]
   |succ k=>rw[List.take_succ_cons,aN,aN];have:=ih k;omega
 exact yv (kS _) (h l k)
theorem uCC:∀ (n:Nat),n<=1000000->∀ (t:Tree) (cs:Array Value) (w:World),t.size<=n->TreeIn w t cs->Calls Tryz.prog 37 #[.agg cs] w fun e w'=>e=.returned (vI (t.depth:Nat))/\Below w.heap.size w w':=by
 intro n
 induction n with
 |zero=>intro _ t _ _ hs;cases t;simp[Tree.size]at hs
 |succ n ih=>
 intro bk;rintro⟨h,l⟩ cs w hs ⟨A,cp,rfl,hk⟩;have IH:=zh (fun(i:Nat) (hi:i<l.length) cs W h1=>ih (by omega) (l[i]'hi) cs W (by have h9:(l[i]'hi).size<(Tree.mk h l).size:=fG (t:=.mk h l) (i:=i) hi;omega) h1);have fz:Hid (l.length<=1000000/\aN l<=1000000):=zh (by have h1:=cF l;have h2:aN l+1<=n+1:=hs;omega);clear ih;dsimp only[Tree.h,Tree.l]at hk ⊢;have HK:=zh hk;clear hk hs;have hS:(Tree.mk h l).depth=cQ l+1:=by rw[Tree.depth]
 rw[hS];clear hS;generalize iz:(w.alloc (.cells (aK h A l.length cp) 34))=W1;have HL:Hid (Lies W1 w.heap.size 34 (aK h A l.length cp)):=zh (by rw[<- iz];exact Lies.new _ _ _);have HB:Hid (Below w.heap.size w W1):=zh (by rw[<- iz];exact zp _);have am:=zh iz;clear iz
 go_in
 go_upto_region 1 with fail
 rw[am.out];clear am;generalize hQ:w.heap.size=q at *
 go_wp2_with fail
 go_loopw [3,4] (fun d v wr=>∃ i:Nat,i<=l.length/\v=vI (i:Int)/\d=vI (cQ (l.take i):Nat)/\Hid (Below W1.heap.size W1 wr)) (fun _ v _=>l.length-(intOf v).toNat)
 case atStart=>exact⟨0,zm _,rfl,rfl,zh zB⟩
 case round=>
  obtain⟨i,hi,rfl,rfl,kr⟩:=hrel;have hx:=(HL.out.next kr.out).cell 21;simp only[za,zb,zf]at hx;by_cases hlt:i<l.length
  ·obtain⟨g,og,ci,rfl,ei,da⟩:=gN HK.out i hlt;have bf:Hid (Below w.heap.size w wr):=zh (by rw[hQ];exact HB.out.trans (kr.out.mono (by rw[<- hQ];exact HB.out.size)));obtain⟨hra,hti⟩:=da wr (Kp.of_below bf.out);have HRA:=zh hra;have HC:=zh (IH.out i hlt ci.toArray wr hti);have HDS:=zh (xU l i hlt);have hdb:((l[i]'hlt).depth:Int)<=1000000:=by
    have h1:=mU (l[i]'hlt);have h2:(l[i]'hlt).size<(Tree.mk h l).size:=fG (t:=.mk h l) (i:=i) hlt;have h3:(Tree.mk h l).size=aN l+1:=by rw[Tree.size]
    have:=fz.out.2;omega
   generalize (l[i]'hlt).depth=dk at *;have zi:(Tryz.prog.info? 34).map (·.size)=some ci.length:=by rw[ei];exact bZ
   clear da hra hti;have wa:(i:Int)<(l.length:Int):=by omega
   have hib:(i:Int)<=1000000:=by have:=fz.out.1;omega
   go_wp2_with (first |(refine yr rfl 34 (.tmp 16) rfl g (og+i*22) rfl ci _ HRA.out Tryz.underlying34 rfl zi ?_))
   refine HC.out.mono ?_;rintro e w2 ⟨rfl,hb⟩;have bt:Hid (Below W1.heap.size W1 w2):=zT kr hb;clear hb HC
   go_wp2_with fail
   go_roundw
   case rel=>exact⟨i+1,by omega,by go_num,by rw[HDS.out];exact congrArg _ (by omega),bt⟩
   case measure=>simp[intOf];omega
  have vm:¬ ((i:Int)<(l.length:Int)):=by omega
  have HDE:Hid (cQ (l.take i)=cQ l):=zh (by rw[List.take_of_length_le (by omega)]);have hdb:(cQ (l.take i):Int)<=1000000:=by have h1:=xV l i;have:=fz.out.2;omega
  generalize cQ (l.take i)=dd at *
  go_wp2_with fail
  go_ret
  refine⟨?_,?_⟩
  ·rw[<- HDE.out];rfl
  have h2:Below q w wr:=by have h3:=HB.out;exact h3.trans (kr.out.mono (by have:=h3.size;omega))
  first|exact h2 |(rw[hQ];exact h2)
mutual
def Tree.pre:Tree->List Tree
 | .mk h l=>.mk h l::tA l
def tA:List Tree->List Tree
 | []=>[]
 |t::r=>t.pre++tA r
end
theorem vK:∀ (l:List Tree) (x:Tree),tA (l++[x])=tA l++x.pre
 | [],x=>by simp[tA]
 |t::l,x=>by rw[yp,tA,tA,vK l x,List.append_assoc]
theorem uCP(l:List Tree)(k:Nat)(h:k<l.length):aN (l.take (k+1))=aN (l.take k)+l[k].size:=by rw[yw h,uCO]
theorem uFQ(l:List Tree)(k:Nat)(h:k<l.length):tA (l.take (k+1))=tA (l.take k)++l[k].pre:=by rw[yw h,vK]
theorem uCQ(l:List Tree)(k:Nat):aN (l.take k)<=aN l:=by
 have h:∀ (l:List Tree) k,aN (l.take k)<=aN l:=fun l=>by
  induction l with
  |nil=>intro k;simp
  |cons t l ih=>intro k;cases k with
   |zero=>simp[aN]
   |succ k=>rw[List.take_succ_cons,aN,aN];have:=ih k;omega
 exact h l k
def PCells:List Value->List Tree->Prop
 |xs,[]=>xs=[]
 |xs,t::l=>∃ c r,xs=c++r/\c.length=22/\(∃ A cp,c.toArray=aK t.h A t.l.length cp)/\PCells r l
theorem PCells.app:∀ {xs ys:List Value} {l m:List Tree},PCells xs l->PCells ys m->PCells (xs++ys) (l++m)
 |xs,ys,[],m,h,h2=>by
  have h0:xs=[]:=h;subst h0;exact h2
 |xs,ys,t::l,m,⟨c,r,h1,h3,h4,h5⟩,h2=>⟨c,r++ys,by rw[h1,List.append_assoc],h3,h4,PCells.app h5 h2⟩
theorem uBK(h:NodeH)(A:Option Addr)(n c:Nat):(aK h A n c).all (·.oneCell')=true:=by simp[aK,Value.oneCell']
theorem PCells.one':∀ {xs:List Value} {l:List Tree},PCells xs l->∀ u∈xs,u.oneCell'=true
 |xs,[],h,u,hu=>by
  have h0:xs=[]:=h;subst h0;cases hu
 |xs,t::l,⟨c,r,h1,h3,⟨A,cp,h4⟩,h5⟩,u,hu=>by
  subst h1;rcases List.mem_append.1 hu with hu|hu
  ·have:=uBK t.h A t.l.length cp;rw[<- h4]at this;exact(Array.all_eq_true_iff_forall_mem.1 this) u (by simpa using hu)
  exact PCells.one' h5 u hu
theorem PCells.head{h:NodeH}{A:Option Addr}{n cp:Nat}(l:List Tree)(hl:l.length=n):PCells (aK h A n cp).toList [.mk h l]:=by
 refine⟨(aK h A n cp).toList,[],by simp,rfl,⟨A,cp,?_⟩,rfl⟩;rw[<- hl];rfl
theorem mD{ops:Array Oper}{rest:List Oper}{o:Oper}{a:Act}{w:World}{Q:Exit->Act->World->Prop}(pr:o.guard=none)(s x:Operand)(ho:o.op=.call { callee:=.builtin .append,args:=#[s,x],argTypes:=#[32,32] })
  (base n m:Nat) (v:Value) (xs:List Value) (hs:a.eval s=v) (bd:w.ownsRow base 34 22 v n xs) (hn:n+m<=3000000) (du:base<=w.heap.size)
  (v2:Value) (b2:Nat) (news:List Value) (hx:a.eval x=v2) (ik:w.ownsRow b2 34 22 v2 m news) (hm:0<m) (h1:∀ u∈news,u.oneCell'=true)
  (h:∀ A' c' w',w'.ownsRow base 34 22 (.slice A' (n+m) c') (n+m) (xs++news)->w.grownBy w' v.ownBlock->wpList Tryz.prog ops Q rest (a.put o.dst (.slice A' (n+m) c')) w'):wpList Tryz.prog ops Q (o::rest) a w:=by
 have hB:=uFA;obtain⟨i,z,hi,aq,hz,hzc⟩:=oY;rw[hi]at hB;simp at hB;obtain⟨g,cap,hv2,_,_,uw⟩:=fY ik hm;have ux:∀ j u,news[j]?=some u->w.cell? ((⟨g,0,none⟩:Addr).add j)=some u:=fun j u hj=>by
  have e:(⟨g,0,none⟩:Addr).add j=⟨g,j,none⟩:=by cases j <;> simp[Addr.add]
  rw[e];exact uw j u hj
 refine wpList_append_own (P:=Tryz.prog) w pr s x 32 ho base 34 i z 22 192 uCW hi hz aq hB.2 hzc (by decide) v n xs hs bd ⟨g,0,none⟩ m cap news (by rw[hx,hv2]) ik.1 ux h1 (by unfold maxLen;omega) (by omega) du (fun v' w' k1 k2 _=>?_);obtain⟨A',c',rfl⟩:=aV k1;exact h A' c' w' k1 k2
theorem tE:∀ (n:Nat),n<=1000000->∀ (t:Tree) (cs:Array Value) (w:World),t.size<=n->TreeIn w t cs->Calls Tryz.prog 15 #[.agg cs] w fun e w'=>∃ A c xs,e=.returned (.slice A t.size c)/\w'.ownsRow w.heap.size 34 22 (.slice A t.size c) t.size xs/\PCells xs t.pre/\Below w.heap.size w w':=by
 intro n
 induction n with
 |zero=>intro _ t _ _ hs;cases t;simp[Tree.size]at hs
 |succ n ih=>
 intro bk;rintro⟨h,l⟩ cs w hs ⟨A,cp,rfl,hk⟩;have IH:=zh (fun(i:Nat) (hi:i<l.length) cs W h1=>ih (by omega) (l[i]'hi) cs W (by have h9:(l[i]'hi).size<(Tree.mk h l).size:=fG (t:=.mk h l) (i:=i) hi;omega) h1);have fz:Hid (l.length<=1000000/\aN l<=1000000):=zh (by have h1:=cF l;have h2:aN l+1<=n+1:=hs;omega);clear ih;dsimp only[Tree.h,Tree.l]at hk ⊢;have HK:=zh hk;clear hk hs;have hS:(Tree.mk h l).size=aN l+1:=by rw[Tree.size]
 have hP:(Tree.mk h l).pre=.mk h l::tA l:=by rw[Tree.pre]
 rw[hS,hP];clear hS hP;generalize iz:(w.alloc (.cells (aK h A l.length cp) 34))=W1;have HL:Hid (Lies W1 w.heap.size 34 (aK h A l.length cp)):=zh (by rw[<- iz];exact Lies.new _ _ _);have HB:Hid (Below w.heap.size w W1):=zh (by rw[<- iz];exact zp _);have am:=zh iz;clear iz;have fo:Hid (W1.heap.size=w.heap.size+1):=zh (by rw[<- am.out];simp);have HHD:=zh (PCells.head (h:=h) (A:=A) (cp:=cp) l rfl);have HOW:Hid ((W1.alloc (.cells (aK h A l.length cp) 34)).ownsRow W1.heap.size 34 22 (.slice (some ⟨W1.heap.size,0,none⟩) 1 1) 1 (aK h A l.length cp).toList):=zh ⟨rfl,.inr ⟨_,1,_,rfl,zr,heap_alloc_new _ _,zr,by unfold maxLen;omega,rfl,rfl⟩⟩;have zz:Hid (Below W1.heap.size W1 (W1.alloc (.cells (aK h A l.length cp) 34))):=zh (zp _)
 go_in
 go_upto_region 1 with fail
 rw[am.out];clear am;generalize hQ:w.heap.size=q at *;have j6:=zh (HL.out.range);obtain⟨C,hC⟩:∃ C:List Value,C=(aK h A l.length cp).toList:=⟨_,rfl⟩
 have hCa:aK h A l.length cp=C.toArray:=by rw[hC]
 have ti:C.length=22:=by rw[hC];rfl
 rw[<- hC]at j6 HOW HHD;rw[hCa]at HOW zz;have hinf0:(Tryz.prog.info? 34).map (·.size)=some C.length:=by rw[ti];exact bZ
 generalize fj:W1.alloc (.cells C.toArray 34)=W2 at *
 go_wp2_with (first |(refine yr rfl 34 (.tmp 1) rfl q 0 rfl C _ j6.out Tryz.underlying34 rfl hinf0 ?_) |(refine tX rfl (.tmp 5) rfl C rfl ti W1.heap.size rfl (some 6) rfl ?_;rw[fj]))
 have HBQ:Hid (q+1=W1.heap.size):=zh fo.out.symm;clear hC hCa hinf0 j6
 go_loopw [3,4] (fun d v wr=>∃ (i:Nat) (A':Option Addr) (c':Nat) (xs:List Value),i<=l.length/\v=vI (i:Int)/\d=.slice A' (aN (l.take i)+1) c'/\Hid (wr.ownsRow W1.heap.size 34 22 (.slice A' (aN (l.take i)+1) c') (aN (l.take i)+1) xs)/\Hid (PCells xs (.mk h l::tA (l.take i)))/\Hid (Below W1.heap.size W1 wr)) (fun _ v _=>l.length-(intOf v).toNat)
 case atStart=>exact⟨0,_,_,_,zm _,rfl,rfl,HOW,HHD,zz⟩
 case round=>
  obtain⟨i,A',c',xs,hi,rfl,rfl,HO,HP,kr⟩:=hrel;have hx:=(HL.out.next kr.out).cell 21;simp only[za,zb,zf]at hx;by_cases hlt:i<l.length
  ·obtain⟨g,og,ci,rfl,ei,da⟩:=gN HK.out i hlt;have bf:Hid (Below w.heap.size w wr):=zh (by rw[hQ];exact HB.out.trans (kr.out.mono (by rw[<- hQ];exact HB.out.size)));obtain⟨hra,hti⟩:=da wr (Kp.of_below bf.out);have HRA:=zh hra;have HC:=zh (IH.out i hlt ci.toArray wr hti);have bp:=zh (uCP l i hlt);have HPS:=zh (uFQ l i hlt);have HDB:Hid ((l[i]'hlt).size<=1000000/\0<(l[i]'hlt).size/\aN (l.take i)<=1000000):=zh (by
    have h2:(l[i]'hlt).size<(Tree.mk h l).size:=fG (t:=.mk h l) (i:=i) hlt;have h3:(Tree.mk h l).size=aN l+1:=by rw[Tree.size]
    have h4:=uCQ l i;have:=fz.out.2;refine⟨by omega,?_,by omega⟩;cases l[i]'hlt;exact Nat.succ_pos _)
   generalize (l[i]'hlt).size=dk at *;generalize (l[i]'hlt).pre=dp at *;generalize aN (l.take i)=sk at *;have zi:(Tryz.prog.info? 34).map (·.size)=some ci.length:=by rw[ei];exact bZ
   clear da hra hti;have wa:(i:Int)<(l.length:Int):=by omega
   have hib:(i:Int)<=1000000:=by have:=fz.out.1;omega
   go_wp2_with (first |(refine yr rfl 34 (.tmp 18) rfl g (og+i*22) rfl ci _ HRA.out Tryz.underlying34 rfl zi ?_))
   refine HC.out.mono ?_;rintro e w2 ⟨A2,c2,ys,rfl,ho2,hp2,hb⟩;have ej:=zh ho2;have HP2:=zh hp2;have HOa:=zh (HO.out.kept (mH hb none) (Classical.em _));have bt:Hid (Below W1.heap.size W1 w2):=zT kr hb;have HON:=zh (HP2.out.one');have HSB:Hid (W1.heap.size<=w2.heap.size):=zh bt.out.size;clear hb HC ho2 hp2
   go_wp2_with (first |(refine mD rfl (.tmp 14) (.tmp 20) rfl W1.heap.size (sk+1) dk _ xs rfl HOa.out (by have:=HDB.out;omega) HSB.out _ _ ys rfl ej.out HDB.out.2.1 HON.out ?_;intro A3 c3 w3 k1 k2;have K1:=zh k1;have K2:=zh k2;clear k1 k2))
   have bm:Hid (Below W1.heap.size W1 w3):=zh (bt.out.grown K2.out HSB.out (fun k hk=>(HOa.out.lt k hk).1))
   go_roundw
   case rel=>exact⟨i+1,A3,c3,xs++ys,by omega,by go_num,by rw[bp.out,show sk+dk+1=sk+1+dk by omega],zh (by rw[bp.out,show sk+dk+1=sk+1+dk by omega];exact K1.out),zh (by rw[HPS.out];exact PCells.app HP.out HP2.out),bm⟩
   case measure=>simp[intOf];omega
  have vm:¬ ((i:Int)<(l.length:Int)):=by omega
  have e:l.take i=l:=List.take_of_length_le (by omega);rw[e]at HO HP ⊢;clear e
  go_wp2_with fail
  go_ret
  have h2:Below q w wr:=by have h3:=HB.out;exact h3.trans (kr.out.mono (by have:=h3.size;omega))
  have h4:=aM HO.out (show q<=W1.heap.size by have:=HBQ.out;omega);exact⟨A',c',rfl,xs,h4,HP.out,h2⟩
end Go.Proofs.YtjfihpaeglpblaaGreatDoor
