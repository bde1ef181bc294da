/-
  Lemmas, part 2: Lex5 Build1 Val2 Lex8 Num1.
-/
import Derived.Test.YtmgjidnalpgegaaGreatDoorRows
import Derived.WalkSpells
import Derived.WalkLawsBesides
import Derived.Outline
import Derived.Deep.Cut
import Derived.Deep.CutRange
import Derived.Deep.DeepCutAuto
import Derived.Deep.LoopGhost
import Derived.Deep.QuietTactic
import Derived.BigQuiet
import Derived.BigRegion
import Derived.Deep.RegionHeld3
import Derived.Deep.RegionLaw
import Derived.Deep.DeepFit
import Derived.Deep.Light
import Derived.StillTailTactics
import Derived.IntWalk
import Derived.Test.YtmgjidnalpgegaaGreatDoorShelf
import Derived.OneCell
import Derived.Laws.IdiomStrings
import Derived.Test.YtmgjidnalpgegaaGreatDoorPr1
set_option maxHeartbeats 100000000
namespace Go.Proofs.YtmgjidnalpgegaaGreatDoor
open Go.RowKit
theorem jU(c:UInt8)(w:World) :
  Calls Tryz.prog 66 #[.int .u8 (c.toNat:Int)] w fun e w'=>e=.returned (.bool (aB c))/\w=w':=by
 go_enter Tryz.func66,Tryz.ntmps66
 go_wp2
 all_goals go_ret
 all_goals exact⟨aI (by unfold aB;rw[ze];simp;omega),rfl⟩
theorem gG(c:UInt8)(w:World) :
  Calls Tryz.prog 43 #[.int .u8 (c.toNat:Int)] w fun e w'=>e=.returned (.bool (aJ c))/\w=w':=by
 go_enter Tryz.func43,Tryz.ntmps43
 go_wp2
 all_goals go_ret
 all_goals exact⟨aI (by unfold aJ;rw[ze];simp;omega),rfl⟩
theorem gL(l:Bs)(w:World)(hs:l.length<=maxLen) :
  Calls Tryz.prog 65 #[.string ⟨l.toArray⟩,.func (.func 66) #[] #[]] w fun e w'=>e=.returned (.int .i64 (aN aB l))/\w=w':=by
 unfold maxLen at hs
 go_enter Tryz.func65,Tryz.ntmps65
 go_wp2
 go_loop [5] (fun i=>∃ k:Nat,k<=l.length/\i=.int .i64 k/\k<=aN aB l) (fun i=>l.length-(intOf i).toNat)
 case atStart=>exact⟨0,zm _,rfl,zm _⟩
 case round=>
  obtain⟨k,hk,rfl,hr⟩:=hrel;by_cases hlt:k<l.length
  ·cases hd:aB l[k]
   ·have HQ:=zh (jY _ _ _ hr hlt hd)
    go_wp2_with (go_at_call 66;refine(jU _ _).mono ?_;rintro e w' ⟨rfl,rfl⟩)
    go_ret
    exact⟨cI (by rw[HQ.out]),rfl⟩
   have hq:=fM _ _ _ hr hlt hd
   go_wp2_with (go_at_call 66;refine(jU _ _).mono ?_;rintro e w' ⟨rfl,rfl⟩)
   go_round
   case rel=>exact⟨k+1,by omega,by go_num,hq⟩
   case measure=>simp[intOf];omega
  have hq:aN aB l=k:=by have:=bS aB l;omega
  have HQ:=zh hq;clear hq
  go_wp2
  go_ret
  exact⟨cI (by rw[HQ.out]),rfl⟩
theorem uY(l:Bs)(w:World)(hs:l.length<=maxLen) :
  Calls Tryz.prog 65 #[.string ⟨l.toArray⟩,.func (.func 43) #[] #[]] w fun e w'=>e=.returned (.int .i64 (aN aJ l))/\w=w':=by
 unfold maxLen at hs
 go_enter Tryz.func65,Tryz.ntmps65
 go_wp2
 go_loop [5] (fun i=>∃ k:Nat,k<=l.length/\i=.int .i64 k/\k<=aN aJ l) (fun i=>l.length-(intOf i).toNat)
 case atStart=>exact⟨0,zm _,rfl,zm _⟩
 case round=>
  obtain⟨k,hk,rfl,hr⟩:=hrel;by_cases hlt:k<l.length
  ·cases hd:aJ l[k]
   ·have HQ:=zh (jY _ _ _ hr hlt hd)
    go_wp2_with (go_at_call 43;refine(gG _ _).mono ?_;rintro e w' ⟨rfl,rfl⟩)
    go_ret
    exact⟨cI (by rw[HQ.out]),rfl⟩
   have hq:=fM _ _ _ hr hlt hd
   go_wp2_with (go_at_call 43;refine(gG _ _).mono ?_;rintro e w' ⟨rfl,rfl⟩)
   go_round
   case rel=>exact⟨k+1,by omega,by go_num,hq⟩
   case measure=>simp[intOf];omega
  have hq:aN aJ l=k:=by have:=bS aJ l;omega
  have HQ:=zh hq;clear hq
  go_wp2
  go_ret
  exact⟨cI (by rw[HQ.out]),rfl⟩
theorem yV{l:Bs}{n k:Nat}(h:l.length<=n):(l.drop k).length<=n:=by rw[yk];omega
set_option maxRecDepth 100000 in
theorem uDU(l:Bs)(w:World)(hs:l.length<=maxLen) :
  Calls Tryz.prog 42 #[.string ⟨l.toArray⟩] w fun e w'=>e=.returned (.int .i64 (eQ l))/\w=w':=by
 have rk:=hs;unfold maxLen at rk;have ha:=bS aB l;have hb:=uAL l;have hB:iM l=if aX l (aN aB l) 46&&decide (0<aN aB (l.drop (aN aB l+1))) then aN aB l+1+aN aB (l.drop (aN aB l+1)) else aN aB l:=rfl
 have HB:=zh hB;clear hB;have hN:eQ l=if iM l=0\/(aX l (iM l) 101=false/\aX l (iM l) 69=false) then iM l else if 0<aN aB (l.drop (mY l (iM l))) then mY l (iM l)+aN aB (l.drop (mY l (iM l))) else iM l:=rfl
 have HN:=zh hN;clear hN;generalize iM l=b at *;generalize eQ l=r at *
 go_enter Tryz.func42,Tryz.ntmps42
 go_wp2_with fail
 refine(gL _ _ hs).mono ?_;rintro e w' ⟨rfl,rfl⟩;generalize aN aB l=a at *
 go_upto_region 2 with fail
 go_cut [18] (fun v wx=>v=.bool (aX l a 46)/\w=wx)
 case first=>
  by_cases hlt:a<l.length
  ·have e:=gP l a 46 46 rfl hlt
   go_wp2
   all_goals go_meet
   all_goals exact⟨rfl,rfl⟩
  have e:=iI l a 46 (by omega)
  go_wp2
  go_meet
  exact⟨by rw[e],rfl⟩
 case rest=>
  obtain⟨rfl,rfl⟩:=hcut
  go_upto_if 18 with fail
  go_cut [3,4] (fun v _ wx=>v=.int .i64 b/\w=wx)
  case first=>
   have hd:=bS aB (l.drop (a+1));rw[yk]at hd;cases j6:aX l a 46
   ·go_wp2_with fail
    go_meet
    exact⟨by rw[HB.out,j6];rfl,rfl⟩
   have hlt:=at_lt _ _ _ j6
   go_wp2_with fail
   refine(gL _ _ (yV hs)).mono ?_;rintro e w' ⟨rfl,rfl⟩;generalize aN aB (l.drop (a+1))=d at *;by_cases h0:0<d
   all_goals go_wp2_with fail
   all_goals go_meet
   ·exact⟨by rw[HB.out,j6,decide_eq_true h0];simp;omega,rfl⟩
   exact⟨by rw[HB.out,j6,decide_eq_false h0];rfl,rfl⟩
  case rest=>
   obtain⟨rfl,rfl⟩:=hcut;clear HB;by_cases ct:b=0
   ·have iu:Hid (r=b):=zh (by rw[HN.out,if_pos (Or.inl ct)]);subst ct
    go_wp2
    go_ret
    exact⟨cI (by rw[iu.out];rfl),rfl⟩
   by_cases hlt:b<l.length
   ·have e1:=lQ l b 101 101 rfl hlt;have e2:=lQ l b 69 69 rfl hlt;have e3:((b:Int)==0)=false:=by simp;omega
    have e4:((b:Int)==(l.length:Int))=false:=by simp;omega
    go_upto_region 6 with fail
    go_cut [49] (fun v wx=>v=.bool (!(aX l b 101||aX l b 69))/\w=wx)
    case first=>
     cases h1:aX l b 101 <;> cases h2:aX l b 69
     all_goals rw[h1]at e1;rw[h2]at e2
     all_goals go_wp2
     all_goals go_meet
     all_goals exact⟨by rw[h1,h2];rfl,rfl⟩
    case rest=>
     clear e1 e2;obtain⟨rfl,rfl⟩:=hcut;cases hc:(aX l b 101||aX l b 69)
     ·have iu:Hid (r=b):=zh (by rw[HN.out,if_pos (Or.inr (by simpa using hc))]);clear HN
      go_wp2
      go_ret
      exact⟨cI (by rw[iu.out]),rfl⟩
     have iu:Hid (r=if 0<aN aB (l.drop (mY l b)) then mY l b+aN aB (l.drop (mY l b)) else b):=zh (by rw[HN.out,if_neg (by intro h;rcases h with h|⟨h3,h4⟩;exact ct h;rw[h3,h4]at hc;cases hc)]);clear HN
     go_upto_region 9 with fail
     go_cut [68] (fun v wx=>v=.bool (aX l (b+1) 43||aX l (b+1) 45)/\w=wx)
     case first=>
      by_cases zw:b+1<l.length
      ·have e1:=gP l (b+1) 43 43 rfl zw;have e2:=gP l (b+1) 45 45 rfl zw;cases h1:aX l (b+1) 43 <;> cases h2:aX l (b+1) 45
       all_goals rw[h1]at e1;rw[h2]at e2
       all_goals go_wp2
       all_goals go_meet
       all_goals exact⟨by rw[h1,h2];rfl,rfl⟩
      have h1:=iI l (b+1) 43 (by omega);have h2:=iI l (b+1) 45 (by omega)
      go_wp2
      go_meet
      exact⟨by rw[h1,h2];rfl,rfl⟩
     case rest=>
      obtain⟨rfl,rfl⟩:=hcut
      go_upto_if 68 with fail
      go_cut [5] (fun v wx=>v=.int .i64 (mY l b)/\w=wx)
      case first=>
       cases h1:(aX l (b+1) 43||aX l (b+1) 45)
       ·go_wp2
        go_meet
        exact⟨by unfold mY;rw[h1];rfl,rfl⟩
       have lq:b+1<l.length:=by rcases Bool.or_eq_true_iff.1 h1 with h|h <;> exact at_lt _ _ _ h
       go_wp2
       go_meet
       exact⟨by unfold mY;rw[h1];rfl,rfl⟩
      case rest=>
       obtain⟨rfl,rfl⟩:=hcut;have hp:=pPow_le l b hlt;generalize mY l b=p at *;have hd:=bS aB (l.drop p);rw[yk]at hd
       go_wp2_with fail
       refine(gL _ _ (yV hs)).mono ?_;rintro e w' ⟨rfl,rfl⟩;generalize aN aB (l.drop p)=d at *;by_cases h0:0<d
       ·have HN3:Hid (r=p+d):=zh (by rw[iu.out,if_pos h0]);clear iu
        go_wp2_with fail
        go_ret
        exact⟨cI (by rw[HN3.out];simp),rfl⟩
       have HN3:Hid (r=b):=zh (by rw[iu.out,if_neg h0]);clear iu
       go_wp2_with fail
       go_ret
       exact⟨cI (by rw[HN3.out]),rfl⟩
   have iu:Hid (r=b):=zh (by rw[HN.out,if_pos (Or.inr ⟨iI _ _ _ (by omega),iI _ _ _ (by omega)⟩)]);have e3:((b:Int)==0)=false:=by simp;omega
   have e4:((b:Int)==(l.length:Int))=true:=by simp;omega
   go_wp2
   go_ret
   exact⟨cI (by rw[iu.out]),rfl⟩
theorem kA(s p:Bs)(w:World) :
  Calls Tryz.prog 75 #[.string ⟨s.toArray⟩,.string ⟨p.toArray⟩] w fun e w'=>e=.returned (.bool (Lib.hasPrefix s p))/\w=w' :=
 (Tryz.strings_HasPrefix ⟨s.toArray⟩ ⟨p.toArray⟩ w).mono fun _ _ ⟨h1,h2⟩=>⟨h1,h2.symm⟩
theorem hG(s p:Bs)(w:World) :
  Calls Tryz.prog 88 #[.string ⟨s.toArray⟩,.string ⟨p.toArray⟩] w fun e w'=>e=.returned (.tuple #[.string ⟨(Lib.trimPrefix s p).toArray⟩,.bool (Lib.hasPrefix s p)])/\w=w' :=
 (Tryz.strings_CutPrefix ⟨s.toArray⟩ ⟨p.toArray⟩ w).mono fun _ _ ⟨h1,h2⟩=>⟨h1,h2.symm⟩
theorem uJ(s p:Bs)(w:World) :
  Calls Tryz.prog 89 #[.string ⟨s.toArray⟩,.string ⟨p.toArray⟩] w fun e w'=>e=.returned (.string ⟨(Lib.trimPrefix s p).toArray⟩)/\w=w' :=
 (Tryz.strings_TrimPrefix ⟨s.toArray⟩ ⟨p.toArray⟩ w).mono fun _ _ ⟨h1,h2⟩=>⟨h1,h2.symm⟩
theorem u8_back(c:UInt8):((c.toNat:Int)).toNat.toUInt8=c:=by
 apply kT;simp[Nat.toUInt8]
theorem nE(s:Bs)(c:UInt8)(w:World) :
  Calls Tryz.prog 69 #[.string ⟨s.toArray⟩,.int .u8 (c.toNat:Int)] w fun e w'=>e=.returned (.int .i64 (Lib.indexByte s c))/\w=w' :=
 (Tryz.strings_IndexByte ⟨s.toArray⟩ (c.toNat:Int) w).mono fun _ _ ⟨h1,h2⟩=>⟨by rw[h1,u8_back],h2.symm⟩
theorem rF(c:UInt8)(a:Addr)(w:World)(h36:((c.toNat:Int)==36)=false) :
  Calls Tryz.prog 67 #[.int .u8 (c.toNat:Int),.pointer (some a)] w fun e w'=>e=.returned (.bool (cU c))/\w=w':=by
 have e95:((c.toNat:Int)==95)=(c==95):=by rw[ze,beq_iff_eq,beq_iff_eq];exact⟨fun h=>kT (by simpa using (by omega:c.toNat=95)),fun h=>by rw[h];rfl⟩
 have e46:((c.toNat:Int)==46)=(c==46):=by rw[ze,beq_iff_eq,beq_iff_eq];exact⟨fun h=>kT (by simpa using (by omega:c.toNat=46)),fun h=>by rw[h];rfl⟩
 have e36:(c==36)=false:=by rw[beq_eq_false_iff_ne];intro h;rw[h]at h36;cases h36
 have hw:cU c=(aJ c||aB c||c==95||c==46):=by unfold cU;rw[e36,Bool.or_false]
 have HW:=zh hw;clear hw
 go_enter Tryz.func67,Tryz.ntmps67
 cases h1:aJ c <;> cases h2:aB c <;> cases h3:(c==95) <;> cases h4:(c==46)
 all_goals rw[h3]at e95;rw[h4]at e46
 all_goals go_wp2_with (first |(go_at_call 43;refine(gG _ _).mono ?_;rintro e w' ⟨rfl,rfl⟩) |(go_at_call 66;refine(jU _ _).mono ?_;rintro e w' ⟨rfl,rfl⟩))
 all_goals go_ret
 all_goals exact⟨aI (by rw[HW.out,h1,h2,h3,h4];rfl),rfl⟩
theorem yD(b n:Nat)(w:World)(hc:w.cell? ⟨b,0,none⟩=some (.int .i64 n))(hf:w.frozen? ⟨b,0,none⟩=false)(hn:n<9223372036854775807) :
  Calls Tryz.prog 67 #[.int .u8 36,.pointer (some ⟨b,0,none⟩)] w fun e w'=>e=.returned (.bool true)/\w.setCell ⟨b,0,none⟩ (.int .i64 (n+1:Nat))=w':=by
 have h1:aJ 36=false:=rfl;have h2:aB 36=false:=rfl
 go_enter Tryz.func67,Tryz.ntmps67
 go_wp2_with (first |(go_at_call 43;refine(gG 36 _).mono ?_;rintro e w' ⟨rfl,rfl⟩) |(go_at_call 66;refine(jU 36 _).mono ?_;rintro e w' ⟨rfl,rfl⟩))
 go_ret
 exact⟨rfl,by simp⟩
theorem uBF(l:Bs)(b:Nat)(w:World)(hs:l.length<=maxLen)(hb:w.heap[b]?=some (.cells #[.int .i64 0] 3 (0,0))) :
  Calls Tryz.prog 65 #[.string ⟨l.toArray⟩,.func (.func 67) #[] #[.pointer (some ⟨b,0,none⟩)]] w fun e w'=>e=.returned (.int .i64 (aN cU l))/\w'.heap[b]?=some (.cells #[.int .i64 (dU (l.take (aN cU l)):Nat)] 3 (0,0))/\Below b w w':=by
 unfold maxLen at hs
 go_enter Tryz.func65,Tryz.ntmps65
 go_wp2
 go_loopw [5] (fun i wr=>∃ k:Nat,k<=l.length/\i=.int .i64 k/\k<=aN cU l/\wr.heap[b]?=some (.cells #[.int .i64 (dU (l.take k):Nat)] 3 (0,0))/\Below b w wr) (fun i _=>l.length-(intOf i).toNat)
 case atStart=>exact⟨0,zm _,rfl,zm _,hb,Below.refl _ _⟩
 case round=>
  obtain⟨k,hk,rfl,hr,kh,aw⟩:=hrel;clear hb;have HB:=zh kh;have hc:=cell_of_one kh;have hf:=free_of_one kh;have hd:=uCS (l.take k);rw[zc,Nat.min_eq_left hk]at hd;clear kh;by_cases hlt:k<l.length
  ·have hsn:dU (l.take (k+1))=dU (l.take k)+if l[k]==36 then 1 else 0:=by rw[yw hlt,xB]
   have HS:=zh hsn;clear hsn;generalize hn:dU (l.take k)=n at *;have HN:=zh hn;clear hn;cases h36:((l[k].toNat:Int)==36)
   ·have hw:Hid (dU (l.take (k+1))=n):=zh (by
     rw[HS.out,if_neg]
     ·rfl
     intro h;have:=eq_of_beq h;rw[this]at h36;cases h36)
    cases hd:cU l[k]
    ·have HQ:=zh (jY _ _ _ hr hlt hd)
     go_wp2_with (go_at_call 67;refine(rF _ _ _ h36).mono ?_;rintro e w' ⟨rfl,rfl⟩)
     go_ret
     exact⟨cI (by rw[HQ.out]),by rw[HQ.out,HN.out];exact HB.out,aw⟩
    have hq:=fM _ _ _ hr hlt hd
    go_wp2_with (go_at_call 67;refine(rF _ _ _ h36).mono ?_;rintro e w' ⟨rfl,rfl⟩)
    go_roundw
    case rel=>exact⟨k+1,by omega,by go_num,hq,by rw[hw.out];exact HB.out,aw⟩
    case measure=>simp[intOf];omega
   have h36':l[k].toNat=36:=by have:=eq_of_beq h36;omega
   have hw:Hid (dU (l.take (k+1))=n+1):=zh (by rw[HS.out,kT (c:=l[k]) (d:=36) h36'];rfl);have hq:=fM _ _ _ hr hlt (by rw[kT (c:=l[k]) (d:=36) h36'];rfl)
   go_wp2_with (go_at_call 67;refine(yD _ n _ hc hf (by omega)).mono ?_;rintro e w' ⟨rfl,rfl⟩)
   go_roundw
   case rel=>exact⟨k+1,by omega,by go_num,hq,by rw[hw.out];exact one_setCell HB.out,aw.setCell (p:=⟨b,0,none⟩) zr _⟩
   case measure=>simp[intOf];omega
  have hq:aN cU l=k:=by have:=bS cU l;omega
  have HQ:=zh hq;clear hq
  go_wp2
  go_ret
  exact⟨cI (by rw[HQ.out]),by rw[HQ.out];exact HB.out,aw⟩
theorem sign_any(c:UInt8)(l:Bs)(w:World) :
  Calls Tryz.prog 47 #[.string ⟨(c::l).toArray⟩] w fun e w'=>e=.returned (.int .i64 (fV (c::l)))/\w=w':=by
 have hN:fV (c::l)=if Lib.hasPrefix (c::l) [60,62]||Lib.hasPrefix (c::l) [60,61]||Lib.hasPrefix (c::l) [62,61] then 2 else if 0<=Lib.indexByte qB c then 1 else 0:=rfl
 have HN:=zh hN;clear hN;generalize fV (c::l)=r at *
 go_enter Tryz.func47,Tryz.ntmps47
 go_wp2_with fail
 refine(kA (c::l) [60,62] _).mono ?_;rintro e w' ⟨rfl,rfl⟩;cases h1:Lib.hasPrefix (c::l) [60,62]
 ·go_wp2_with fail
  refine(kA (c::l) [60,61] _).mono ?_;rintro e w' ⟨rfl,rfl⟩;cases h2:Lib.hasPrefix (c::l) [60,61]
  ·go_wp2_with fail
   refine(kA (c::l) [62,61] _).mono ?_;rintro e w' ⟨rfl,rfl⟩;cases h3:Lib.hasPrefix (c::l) [62,61]
   ·go_wp2_with fail
    refine(nE qB c _).mono ?_;rintro e w' ⟨rfl,rfl⟩;rw[h1,h2,h3]at HN;generalize Lib.indexByte qB c=i at *;by_cases hi:0<=i
    ·have iu:Hid (r=1):=zh (by rw[HN.out,if_neg (by simp),if_pos hi]);clear HN
     go_wp2_with fail
     go_ret
     exact⟨cI (by rw[iu.out];rfl),rfl⟩
    have iu:Hid (r=0):=zh (by rw[HN.out,if_neg (by simp),if_neg hi]);clear HN
    go_wp2_with fail
    go_ret
    exact⟨cI (by rw[iu.out];rfl),rfl⟩
   rw[h1,h2,h3]at HN
   go_wp2_with fail
   go_ret
   exact⟨cI (by rw[HN.out];rfl),rfl⟩
  rw[h1,h2]at HN
  go_wp2_with fail
  go_ret
  exact⟨cI (by rw[HN.out];rfl),rfl⟩
 rw[h1]at HN
 go_wp2_with fail
 go_ret
 exact⟨cI (by rw[HN.out];rfl),rfl⟩
theorem uDE(l:Bs)(w:World)(hs:l.length<=maxLen) :
  Calls Tryz.prog 68 #[.string ⟨l.toArray⟩] w fun e w'=>e=.returned (.bool (tJ l))/\w=w':=by
 have hN:tJ l=uDY (Lib.hasPrefix l [36]) (Lib.trimPrefix l [36]):=rfl;have HN:=zh hN;clear hN;generalize tJ l=r at *;have ht:=uBP l [36]
 go_enter Tryz.func68,Tryz.ntmps68
 go_wp2_with fail
 refine(hG l [36] _).mono ?_;rintro e w' ⟨rfl,rfl⟩;generalize Lib.hasPrefix l [36]=fixed at *;generalize Lib.trimPrefix l [36]=s at *;have jo:s.length<=maxLen:=by omega
 have hle:=bS aJ s;unfold maxLen at hs
 go_wp2_with fail
 refine(uY _ _ jo).mono ?_;rintro e w' ⟨rfl,rfl⟩;unfold uDY at HN;generalize aN aJ s=n at *;by_cases h3:3<n
 ·rw[if_pos h3]at HN
  go_wp2_with fail
  go_ret
  exact⟨aI (by rw[HN.out]),rfl⟩
 rw[if_neg h3]at HN;have hd:(s.drop n).length<=s.length:=by rw[yk];omega
 go_upto_region 6 with fail
 generalize s.drop n=t at *;have ov:=uBP t [36];rcases t with _|⟨c,t⟩
 ·rw[if_pos (by rfl)]at HN;cases fixed <;> by_cases h0:0<n
  all_goals go_wp2_with fail
  all_goals go_ret
  ·exact⟨aI (by rw[HN.out];rfl),rfl⟩
  ·exact⟨aI (by rw[HN.out];rfl),rfl⟩
  ·exact⟨aI (by rw[HN.out];simp[h0]),rfl⟩
  exact⟨aI (by rw[HN.out];simp[h0]),rfl⟩
 rw[if_neg (by simp)]at HN;by_cases h0:0<n
 ·rw[if_pos h0]at HN
  go_wp2_with fail
  refine(uJ (c::t) [36] _).mono ?_;rintro e w' ⟨rfl,rfl⟩;generalize Lib.trimPrefix (c::t) [36]=u at *;have hu:u.length<=maxLen:=by omega
  go_wp2_with fail
  refine(gL u _ hu).mono ?_;rintro e w' ⟨rfl,rfl⟩;have hm:=bS aB u;unfold uFY at HN;unfold maxLen at hu;generalize aN aB u=m at *;by_cases e1:m=u.length
  ·have b1:((m:Int)==(u.length:Int))=true:=by simp;omega
   by_cases e2:1<=m
   ·by_cases e3:m<=7
    ·have hp:0<u.length:=by omega
     have e4:=lQ u 0 48 48 rfl hp;have HT:Hid (r=!aX u 0 48):=zh (by rw[HN.out];simp[e1];omega);clear HN e1
     go_wp2_with fail
     go_ret
     exact⟨aI (by rw[HT.out]),rfl⟩
    have HT:Hid (r=false):=zh (by rw[HN.out];simp[e3]);clear HN e1
    go_wp2_with fail
    go_ret
    exact⟨aI (by rw[HT.out]),rfl⟩
   have HT:Hid (r=false):=zh (by rw[HN.out];simp[e2]);clear HN e1
   go_wp2_with fail
   go_ret
   exact⟨aI (by rw[HT.out]),rfl⟩
  have b1:((m:Int)==(u.length:Int))=false:=by simp;omega
  have HT:Hid (r=false):=zh (by rw[HN.out];simp[e1]);clear HN e1
  go_wp2_with fail
  go_ret
  exact⟨aI (by rw[HT.out]),rfl⟩
 rw[if_neg h0]at HN;cases fixed
 ·go_wp2_with fail
  go_ret
  exact⟨aI (by rw[HN.out];rfl),rfl⟩
 rw[if_pos (by rfl)]at HN
 go_upto_region 12 with fail
 have hu:(c::t).length<=maxLen:=by omega
 clear ov;generalize c::t=u at *
 go_wp2_with fail
 refine(gL u _ hu).mono ?_;rintro e w' ⟨rfl,rfl⟩;have hm:=bS aB u;unfold uFY at HN;unfold maxLen at hu;generalize aN aB u=m at *;by_cases e1:m=u.length
 ·have b1:((m:Int)==(u.length:Int))=true:=by simp;omega
  by_cases e2:1<=m
  ·by_cases e3:m<=7
   ·have hp:0<u.length:=by omega
    have e4:=lQ u 0 48 48 rfl hp;have HT:Hid (r=!aX u 0 48):=zh (by rw[HN.out];simp[e1];omega);clear HN e1
    go_wp2_with fail
    go_ret
    exact⟨aI (by rw[HT.out]),rfl⟩
   have HT:Hid (r=false):=zh (by rw[HN.out];simp[e3]);clear HN e1
   go_wp2_with fail
   go_ret
   exact⟨aI (by rw[HT.out]),rfl⟩
  have HT:Hid (r=false):=zh (by rw[HN.out];simp[e2]);clear HN e1
  go_wp2_with fail
  go_ret
  exact⟨aI (by rw[HT.out]),rfl⟩
 have b1:((m:Int)==(u.length:Int))=false:=by simp;omega
 have HT:Hid (r=false):=zh (by rw[HN.out];simp[e1]);clear HN e1
 go_wp2_with fail
 go_ret
 exact⟨aI (by rw[HT.out]),rfl⟩
abbrev tokV(x:Nat×Bs×Nat):Value:=.tuple #[.int .i64 x.1,.string ⟨x.2.1.toArray⟩,.int .i64 x.2.2]
theorem uGC{x:Nat×Bs×Nat}{k:Int}{t:Bs}{n:Int}(h:(k,t,n)=((x.1:Int),x.2.1,(x.2.2:Int))):Ending.returned (.tuple #[.int .i64 k,.string ⟨t.toArray⟩,.int .i64 n])=.returned (tokV x):=by
 simp only[Prod.mk.injEq]at h;obtain⟨rfl,rfl,rfl⟩:=h;rfl
theorem word_any(l:Bs)(w:World)(hs:l.length<=maxLen) :
  Calls Tryz.prog 44 #[.string ⟨l.toArray⟩] w fun e w'=>e=.returned (tokV (pA l))/\Below w.heap.size w w':=by
 have hN:pA l=if tJ (l.take (aN cU l)) then (4,l.take (aN cU l),aN cU l) else if dU (l.take (aN cU l))=0 then (3,l.take (aN cU l),aN cU l) else (0,[],0):=rfl
 have HN:=zh hN;clear hN;have hr:=bS cU l;have rk:=hs;unfold maxLen at rk;generalize pA l=r at *
 go_enter Tryz.func44,Tryz.ntmps44
 go_wp2_with fail
 refine(uBF l w.heap.size _ hs (heap_alloc_new w _)).mono ?_;rintro e w1 ⟨rfl,af,aw⟩;generalize aN cU l=n at *;have hc:=cell_of_one af;have HB:Below w.heap.size w w1:=((Below.refl _ w).alloc zr _).trans aw;have ht:(l.take n).length<=maxLen:=by rw[zc];omega
 clear af aw
 go_wp2_with fail
 generalize l.take n=t at *;refine(uDE t _ ht).mono ?_;rintro e w' ⟨rfl,rfl⟩;cases hm:tJ t
 ·rw[hm,if_neg (by simp)]at HN;by_cases hd:dU t=0
  ·rw[if_pos hd]at HN;have hd':(((dU t:Nat):Int)==0)=true:=by simp;omega
   have HD:=zh hd;clear hd
   go_wp2_with fail
   go_ret3
   exact⟨by rw[HN.out];rfl,HB⟩
  rw[if_neg hd]at HN;have hd':(((dU t:Nat):Int)==0)=false:=by simp;omega
  go_wp2_with fail
  go_ret3
  exact⟨by rw[HN.out];rfl,HB⟩
 rw[hm,if_pos rfl]at HN
 go_wp2_with fail
 go_ret3
 exact⟨by rw[HN.out];rfl,HB⟩
end Go.Proofs.YtmgjidnalpgegaaGreatDoor
set_option linter.unusedVariables false
namespace Go.Proofs.YtmgjidnalpgegaaGreatDoor
open Go.RowKit
theorem rB:(Tryz.prog.info? 116).map (·.size)=some 2:=by kernel_rfl
theorem zT:liesAt Tryz.prog Tryz.prog.depth 116 (2 / Tryz.prog.cellsOf 116) 0 116 1=true:=by kernel_rfl
theorem zI:(Tryz.prog.info? 5).map (fun i=>(i.zero,i.size,i.bytes))=some (some (.int .u8 0),1,1):=by kernel_rfl
set_option maxRecDepth 100000 in
theorem sB(b:Nat)(w:World)(h0:w.cell? ⟨b,0,none⟩=some (.pointer (some ⟨b,0,none⟩))) :
  Calls Tryz.prog 91 #[.pointer (some ⟨b,0,none⟩)] w fun e w'=>e=.returned (.tuple #[])/\w=w':=by
 obtain⟨j,hj,_⟩:=Option.map_eq_some_iff.1 rB
 go_enter Tryz.func91,Tryz.ntmps91
 go_wp2
 rw[Lib.run_neq_ptr_same w _ Tryz.underlying114 hj]
 go_wp2
 go_end0
 exact⟨rfl,rfl⟩
set_option maxRecDepth 100000 in
theorem rG(b:Nat)(w:World)(h0:w.cell? ⟨b,0,none⟩=some (.pointer none))(hsh:w.shape? b=some (116,2))(hfz:w.frozen? ⟨b,0,none⟩=false) :
  Calls Tryz.prog 91 #[.pointer (some ⟨b,0,none⟩)] w fun e w'=>e=.returned (.tuple #[])/\w.setCell ⟨b,0,none⟩ (.pointer (some ⟨b,0,none⟩))=w':=by
 obtain⟨j,hj,hjs⟩:=Option.map_eq_some_iff.1 rB
 go_enter Tryz.func91,Tryz.ntmps91
 go_wp2
 rw[Lib.run_to_unsafe w ⟨b,0,none⟩ Tryz.underlying114 Tryz.underlying139 hj (by rw[hjs];decide) hsh (Nat.zero_lt_succ 1)];simp only[Result.andThen];rw[Oper.upon_value]
 go_wp2
 rw[run_callFunc_extern Tryz.func106 (by kernel_rfl) (by kernel_rfl) (by kernel_rfl) (e:=Extern.AbiNoEscape.same) (by kernel_rfl)];rw[Lib.run_noEscape];simp only[Result.andThen];rw[Oper.upon_value]
 go_wp2
 rw[Lib.run_from_unsafe w ⟨b,0,none⟩ Tryz.underlying139 Tryz.underlying114 hj hsh zT];simp only[Result.andThen];rw[Oper.upon_value]
 go_wp2
 go_end0
 exact⟨rfl,rfl⟩
theorem nD(B b:Nat)(bs:List Value)(w:World)(h:Lib.IsBuilder 116 5 B b bs w) :
  Calls Tryz.prog 91 #[.pointer (some ⟨b,0,none⟩)] w fun e w'=>e=.returned (.tuple #[])/\(Lib.BuilderAt 116 5 B b (.pointer (some ⟨b,0,none⟩)) bs w'/\Below B w w'):=by
 rcases h with h|h
 ·refine(rG b w h.cell0 h.shape h.frozen0).mono ?_;rintro e w' ⟨rfl,rfl⟩;exact⟨rfl,h.used _,(Below.refl B w).setCell (p:=⟨b,0,none⟩) h.1 _⟩
 refine(sB b w h.cell0).mono ?_;rintro e w' ⟨rfl,rfl⟩;exact⟨rfl,h,Below.refl B _⟩
theorem vC(B b:Nat)(l:Bs)(c:UInt8)(w:World)(h:Lib.IsBuilder 116 5 B b (Lib.byteCells l) w)(hlen:l.length+1<=140737488355328)(hBw:B<=w.heap.size) :
  Calls Tryz.prog 72 #[.pointer (some ⟨b,0,none⟩),.int .u8 (c.toNat:Int)] w fun e w'=>e=.returned .nilIface/\(Lib.IsBuilder 116 5 B b (Lib.byteCells (l++[c])) w'/\Below B w w'):=by
 have jv:(Lib.byteCells l).length=l.length:=Lib.byteCells_length l;have e1:Lib.byteCells (l++[c])=Lib.byteCells l++[.int .u8 (c.toNat:Int)]:=by simp[Lib.byteCells]
 have hlen:(Lib.byteCells l).length+1<=140737488355328:=by omega
 have E1:=zh e1;clear jv e1;generalize Lib.byteCells l=bs at *;obtain⟨i0,hi,ki,js,j7⟩:=info_parts zI
 go_enter Tryz.func72,Tryz.ntmps72
 go_wp2_with (go_at_call 91;refine(nD B b bs _ h).mono ?_)
 rintro e w1 ⟨rfl,h1,af⟩;obtain⟨hB,v,kh,aj,bp⟩:=h1;have c0:w1.cell? ⟨b,0,none⟩=some (.pointer (some ⟨b,0,none⟩)):=by rw[Lib.cell_of_heap kh];rfl
 have c1:w1.cell? ⟨b,1,none⟩=some v:=by rw[Lib.cell_of_heap kh];rfl
 go_wp2_with (at_builtin;refine wpList_append_own _ rfl _ _ 77 rfl B 5 i0 (.int .u8 0) 1 1 Tryz.underlying77 hi ki js j7 rfl (by decide) _ _ _ rfl (aj.alloc _) ⟨w1.heap.size,0,none⟩ 1 1 [.int .u8 (c.toNat:Int)] rfl rfl ?c1 ?c2 ?c3 ?c4 ?c5 ?_)
 case c1=>
  intro j u hj
  match j,hj with
  |0,hj=>simp at hj;subst hj;simp[Addr.add]
 case c2=>intro u hu;simp at hu;subst hu;rfl
 case c3=>unfold maxLen;omega
 case c4=>omega
 case c5=>have:=af.size;simp;omega
 intro v' w2 du cu _;have hlt:b<w1.heap.size:=by
  rcases Nat.lt_or_ge b w1.heap.size with h'|h'
  ·exact h'
  simp[Array.getElem?_eq_none h']at kh
 have ay:w2.heap[b]?=some (.cells #[.pointer (some ⟨b,0,none⟩),v] 116 (0,0)):=by
  rw[cu.block b (by simp;omega) (fun e=>bp e.symm),Lib.alloc_old w1 _ b hlt];exact kh
 have d0:w2.cell? ⟨b,0,none⟩=some (.pointer (some ⟨b,0,none⟩)):=by rw[Lib.cell_of_heap ay];rfl
 have d1:w2.cell? ⟨b,1,none⟩=some v:=by rw[Lib.cell_of_heap ay];rfl
 have f1:w2.frozen? ⟨b,1,none⟩=false:=Lib.frozen_of_heap ay 1;obtain⟨g,cap,rfl⟩:∃ g cap,v'=.slice (some ⟨g,0,none⟩) (bs.length+1) cap:=by
  rcases du.2 with⟨_,h0⟩|⟨g,cap,cur,hv,_⟩
  ·omega
  exact⟨g,cap,hv⟩
 go_wp2
 go_ret
 refine⟨rfl,?_,?_⟩
 ·rw[E1.out];exact .inr (Lib.BuilderAt.put (T:=116) (e:=5) hB ay (bs':=bs++[.int .u8 (c.toNat:Int)]) (by simpa using du) (by decide))
 exact((af.alloc (by have:=af.size;omega) _).grown cu (by have:=af.size;simp;omega) (fun k hk=>(aj.lt k hk).1)).setCell (p:=⟨b,1,none⟩) hB _
theorem rL(B b:Nat)(l t:Bs)(w:World)(h:Lib.IsBuilder 116 5 B b (Lib.byteCells l) w)(hlen:l.length+t.length<=140737488355328)(hBw:B<=w.heap.size) :
  Calls Tryz.prog 70 #[.pointer (some ⟨b,0,none⟩),.string ⟨t.toArray⟩] w fun e w'=>e=.returned (.tuple #[.int .i64 t.length,.nilIface])/\(Lib.IsBuilder 116 5 B b (Lib.byteCells (l++t)) w'/\Below B w w'):=by
 have jv:(Lib.byteCells l).length=l.length:=Lib.byteCells_length l;have e1:Lib.byteCells (l++t)=Lib.byteCells l++Lib.strCells ⟨t.toArray⟩:=by rw[Lib.byteCells_append,Lib.strCells_eq]
 have hlen:(Lib.byteCells l).length+t.length<=140737488355328:=by omega
 have E1:=zh e1;clear jv e1;generalize Lib.byteCells l=bs at *;have bg:(ByteArray.mk t.toArray).size=t.length:=by simp[ByteArray.size]
 have hb:bs.length+(ByteArray.mk t.toArray).size<=140737488355328:=by omega
 obtain⟨i0,hi,ki,js,j7⟩:=info_parts zI;have c8:=zh bg;clear bg
 go_enter Tryz.func70,Tryz.ntmps70
 go_wp2_with (go_at_call 91;refine(nD B b bs _ h).mono ?_)
 rintro e w1 ⟨rfl,h1,af⟩;obtain⟨hB,v,kh,aj,bp⟩:=h1;have c0:w1.cell? ⟨b,0,none⟩=some (.pointer (some ⟨b,0,none⟩)):=by rw[Lib.cell_of_heap kh];rfl
 have c1:w1.cell? ⟨b,1,none⟩=some v:=by rw[Lib.cell_of_heap kh];rfl
 go_wp2_with (at_builtin;refine Lib.wpList_append_own_string _ rfl _ _ 77 9 rfl B 5 i0 Tryz.underlying77 Tryz.underlying9 hi ki js j7 _ _ _ rfl aj ⟨t.toArray⟩ rfl ?c3 ?c4 ?c5 ?_)
 case c3=>unfold maxLen;omega
 case c4=>omega
 case c5=>have:=af.size;omega
 intro v' w2 du cu _;have hlt:b<w1.heap.size:=by
  rcases Nat.lt_or_ge b w1.heap.size with h'|h'
  ·exact h'
  simp[Array.getElem?_eq_none h']at kh
 have ay:w2.heap[b]?=some (.cells #[.pointer (some ⟨b,0,none⟩),v] 116 (0,0)):=by
  rw[cu.block b hlt (fun e=>bp e.symm)];exact kh
 have d0:w2.cell? ⟨b,0,none⟩=some (.pointer (some ⟨b,0,none⟩)):=by rw[Lib.cell_of_heap ay];rfl
 have d1:w2.cell? ⟨b,1,none⟩=some v:=by rw[Lib.cell_of_heap ay];rfl
 have f1:w2.frozen? ⟨b,1,none⟩=false:=Lib.frozen_of_heap ay 1;obtain⟨ao,n',cap,rfl⟩:∃ ao n' cap,v'=.slice ao n' cap:=by
  rcases du.2 with⟨hv,_⟩|⟨g,cap,cur,hv,_⟩
  ·exact⟨_,_,_,hv⟩
  exact⟨_,_,_,hv⟩
 go_wp2
 go_ret2
 refine⟨rfl,?_,?_⟩
 ·rw[E1.out];exact .inr (Lib.BuilderAt.put (T:=116) (e:=5) hB ay (bs':=bs++Lib.strCells ⟨t.toArray⟩) (by simpa [Lib.strCells_length,ByteArray.size] using du) (by decide))
 exact(af.grown cu (by have:=af.size;omega) (fun k hk=>(aj.lt k hk).1)).setCell (p:=⟨b,1,none⟩) hB _
theorem nO(l:Bs)(w:World):∃ (cap:Nat) (W1:World),(convert 9 77 (.string ⟨l.toArray⟩)).run Tryz.prog w=.ok (.slice (some ⟨w.heap.size,0,none⟩) l.length cap) W1/\Row W1 w.heap.size l/\Below w.heap.size w W1:=by
 have h:=run_bytes_of_string (P:=Tryz.prog) w 9 77 5 ⟨l.toArray⟩ Tryz.underlying9 Tryz.underlying77 Tryz.underlying5;have bg:(ByteArray.mk l.toArray).size=l.length:=by simp[ByteArray.size]
 rw[bg]at h;refine⟨_,_,h,?_,(Below.refl _ w).drew.alloc zr _⟩;intro j hj;have e:(w.drew).heap.size=w.heap.size:=rfl;have hlen:(bytesRow ⟨l.toArray⟩ (grownCap w l.length 0 5)).size >= l.length:=by simp[bytesRow]
 refine⟨?_,?_⟩
 ·have:=World.cell?_alloc_mark w.drew (bytesRow ⟨l.toArray⟩ (grownCap w l.length 0 5)) 5 ((bytesRow ⟨l.toArray⟩ (grownCap w l.length 0 5)).size,(bytesRow ⟨l.toArray⟩ (grownCap w l.length 0 5)).size+1) j;rw[e]at this;rw[this];unfold bytesRow;rw[Array.getElem?_append_left (by simpa using hj)];simp[hj]
 have:=World.frozen?_alloc_mark w.drew (bytesRow ⟨l.toArray⟩ (grownCap w l.length 0 5)) 5 (bytesRow ⟨l.toArray⟩ (grownCap w l.length 0 5)).size ((bytesRow ⟨l.toArray⟩ (grownCap w l.length 0 5)).size+1) j;rw[e]at this;rw[this];simp;omega
theorem uHF(m:Bs)(w:World)(b cap n:Nat)(hn:m.length=n)(h:Row w b m):(convert 77 9 (.slice (some ⟨b,0,none⟩) n cap)).run Tryz.prog w=.ok (.string ⟨m.toArray⟩) w:=by
 subst hn;refine run_convert_bytes_back w 77 9 5 ⟨b,0,none⟩ cap m Tryz.underlying77 Tryz.underlying5 Tryz.underlying9 (fun j hj=>?_);rw[<- (h j hj).1];unfold Addr.add;by_cases e:j=0
 ·simp[e]
 simp[e]
theorem uCV(l:Bs)(w:World)(hs:l.length<=maxLen) :
  Calls Tryz.prog 92 #[.string ⟨l.toArray⟩] w fun e w'=>e=.returned (.string ⟨(aO l).toArray⟩)/\Below w.heap.size w w':=by
 unfold maxLen at hs;obtain⟨cap,W1,hconv,bi,aw⟩:=nO l w;have HR:=zh bi;clear bi
 go_enter Tryz.func92,Tryz.ntmps92
 go_wp2
 go_loopw [10] (fun i wr=>∃ k:Nat,k<=l.length/\i=.int .i64 k/\Hid (Row wr w.heap.size (lP l k))/\Below w.heap.size w wr) (fun i _=>l.length-(intOf i).toNat)
 case atStart=>exact⟨0,zm _,rfl,zh (by simpa [lP,aO] using HR.out),aw⟩
 case round=>
  obtain⟨k,hk,rfl,hr,hb⟩:=hrel;clear aw HR hconv;by_cases hlt:k<l.length
  ·have hlen:k<(lP l k).length:=by rw[zG];exact hlt
   have hc:=(hr.out k hlen).1;have hf:=(hr.out k hlen).2;rw[zF l k hlt hlen]at hc;cases ko:iE l[k]
   ·have hsame:=zh (uHN l k hlt (pF _ ko));have ow:¬ (97<=(l[k].toNat:Int)/\(l[k].toNat:Int)<=122):=by
     intro h;have:iE l[k]=true:=(gS _).2 ⟨by omega,by omega⟩;rw[ko]at this;cases this
    go_wp2
    all_goals go_roundw
    all_goals first
     |exact⟨k+1,by omega,by go_num,by rw[<- hsame.out];exact hr,hb⟩
     |(simp[intOf];omega)
   have hyes:=(gS _).1 ko;have HU:=zh (zH l k hlt);have hval:(((up l[k]).toNat:Nat):Int)=(l[k].toNat:Int)-97+65:=by have:=up_low _ ko;omega
   have HV:=zh hval;clear hval;obtain⟨h97,h122⟩:=hyes
   go_wp2
   go_roundw
   case rel=>exact⟨k+1,by omega,by go_num,by rw[<- HU.out];exact zh (by rw[<- HV.out];exact hr.out.set k _),hb.setCell (p:=⟨w.heap.size,k,none⟩) zr _⟩
   case measure=>simp[intOf];omega
  have mg:k=l.length:=by omega
  have kq:lP l k=aO l:=by rw[mg];exact half_all l
  have lh:Row wr w.heap.size (aO l):=by rw[<- kq];exact hr.out
  have hback:=uHF (aO l) wr w.heap.size cap l.length (eW l) lh;have c6:=zh lh;clear lh kq hr mg
  go_wp2
  go_ret
  exact⟨rfl,hb⟩
theorem kG(l:Bs)(w:World)(hs:l.length<=maxLen) :
  Calls Tryz.prog 74 #[.string ⟨l.toArray⟩] w fun e w'=>e=.returned (.string ⟨(aO l).toArray⟩)/\Below w.heap.size w w':=by
 have rk:=hs;unfold maxLen at rk
 go_enter Tryz.func74,Tryz.ntmps74
 go_wp2
 go_loop [6] (fun i=>∃ k:Nat,k<=l.length/\i=.int .i64 k/\Hid (∀ c∈l.take k,iE c=false)) (fun i=>l.length-(intOf i).toNat)
 case atStart=>exact⟨0,zm _,rfl,zh (by simp)⟩
 case round=>
  obtain⟨k,hk,rfl,hr⟩:=hrel;by_cases hlt:k<l.length
  ·cases ko:iE l[k]
   ·have ow:¬ (97<=(l[k].toNat:Int)/\(l[k].toNat:Int)<=122):=by
     intro h;have:iE l[k]=true:=(gS _).2 ⟨by omega,by omega⟩;rw[ko]at this;cases this
    have lh:Hid (∀ c∈l.take (k+1),iE c=false):=zh (by
     rw[yw hlt];intro c hc;rcases List.mem_append.1 hc with h|h
     ·exact hr.out c h
     simp at h;rw[h];exact ko)
    go_wp2_with fail
    all_goals go_round
    all_goals first
     |exact⟨k+1,by omega,by go_num,lh⟩
     |(simp[intOf];omega)
   obtain⟨h1,h2⟩:=(gS _).1 ko
   go_wp2_with fail
   refine(uCV l _ hs).mono ?_;rintro e w1 ⟨rfl,hb⟩
   go_wp2_with fail
   go_ret
   exact⟨rfl,hb⟩
  have kq:Hid (aO l=l):=zh (tI l (by rw[List.take_of_length_le (by omega)]at hr;exact hr.out))
  go_wp2_with fail
  go_ret
  exact⟨by rw[kq.out];rfl,Below.refl _ _⟩
def dD:Nat->Bs
 |1=>[35,68,73,86,47,48,33]
 |2=>[35,86,65,76,85,69,33]
 |3=>[35,82,69,70,33]
 |4=>[35,78,65,77,69,63]
 |5=>[35,78,85,77,33]
 |6=>[35,78,47,65]
 |7=>[35,83,80,73,76,76,33]
 |8=>[35,67,73,82,67,33]
 |9=>[35,67,65,76,67,33]
 |_=>[]
def Tab(w:World):Prop:=∀ i,i<10->w.cell? ⟨0,i,none⟩=some (.string ⟨(dD i).toArray⟩)
theorem tA{w:World}{a:Addr}{v:Value}(h:w.cell? a=some v):a.block<w.heap.size:=by
 rcases Nat.lt_or_ge a.block w.heap.size with h1|h1
 ·exact h1
 unfold World.cell? at h;simp[Array.getElem?_eq_none h1]at h
theorem Tab.lt{w:World}(h:Tab w):0<w.heap.size:=tA (h 0 (by decide))
theorem Tab.below{w w':World}{B:Nat}(h:Tab w)(hb:Below B w w')(hB:0<B):Tab w':=fun i hi=>(hb.cell (p:=⟨0,i,none⟩) hB).trans (h i hi)
theorem Tab.next{w w':World}(h:Tab w)(hb:Below w.heap.size w w'):Tab w':=h.below hb h.lt
def gA(n:Int):Bs:=if 1<=n/\n<=9 then dD n.toNat else []
theorem uQ(n:Int)(w:World)(ht:Tab w) :
  Calls Tryz.prog 73 #[.int .i64 n] w fun e w'=>e=.returned (.string ⟨(gA n).toArray⟩)/\w=w':=by
 by_cases h:1<=n/\n<=9
 ·have hN:gA n=dD n.toNat:=if_pos h;have HN:=zh hN;clear hN;obtain⟨h1,h2⟩:=h;have hc:=ht n.toNat (by omega);clear ht;generalize gA n=r at *;generalize dD n.toNat=t at *
  go_enter Tryz.func73,Tryz.ntmps73
  go_wp2
  go_ret
  exact⟨by rw[HN.out];rfl,rfl⟩
 have hN:gA n=[]:=if_neg h;have HN:=zh hN;clear hN ht;generalize gA n=r at *;by_cases h1:1<=n
 ·have h2:9<n:=by omega
  clear h
  go_enter Tryz.func73,Tryz.ntmps73
  go_wp2
  go_ret
  exact⟨by rw[HN.out];rfl,rfl⟩
 clear h
 go_enter Tryz.func73,Tryz.ntmps73
 go_wp2
 go_ret
 exact⟨by rw[HN.out];rfl,rfl⟩
theorem uEF(l:Bs)(w:World)(hp:0<l.length)(hs:l.length<=140737488351232) :
  Calls Tryz.prog 45 #[.string ⟨l.toArray⟩] w fun e w'=>e=.returned (tokV (fB l))/\Below w.heap.size w w':=by
 have HP:=zh (QInv.start l hp)
 go_enter Tryz.func45,Tryz.ntmps45
 go_wp2_with fail
 go_loopw [6] (fun i wr=>∃ (k:Nat) (acc:Bs),i=.int .i64 k/\Hid (QInv l acc k)/\Hid (Lib.IsBuilder 116 5 w.heap.size w.heap.size (Lib.byteCells acc) wr)/\Hid (Below w.heap.size w wr)) (fun i _=>l.length+1-(intOf i).toNat)
 case atStart=>exact⟨1,[],rfl,HP,zh (Lib.fresh_isBuilder _ _ w),zh ((Below.refl _ w).alloc zr _)⟩
 case round=>
  obtain⟨k,acc,rfl,hq,hbu,aw⟩:=hrel;clear HP;have dq:=hq.out.1;have fm:=hq.out.2.1;have t9:=hq.out.2.2.1
  go_wp2_with fail
  have hidx:=Lib.indexByte_ge (l.drop k) 34;refine(nE (l.drop k) 34 _).mono ?_;rintro e w' ⟨rfl,rfl⟩;generalize hI:Lib.indexByte (l.drop k) 34=i at *;have HI:=zh hI;clear hI;by_cases hi:i<0
  ·have hf:Hid (fB l=(0,[],0)):=zh (hq.out.fail (by rw[HI.out];exact hi))
   go_wp2_with fail
   go_ret3
   exact⟨by rw[hf.out];rfl,aw.out⟩
  obtain⟨n,rfl⟩:=Int.eq_ofNat_of_zero_le (by omega:0<=i);have hsp:=(hq.out.split HI.out).1;have hlen:acc.length+((l.drop k).take n).length<=140737488355328:=by rw[zc];omega
  go_wp2_with fail
  refine(rL w.heap.size w.heap.size acc ((l.drop k).take n) _ hbu.out hlen aw.out.size).mono ?_;rintro e w1 ⟨rfl,hbu1,af⟩;have HBU:=zh hbu1;have HB:Hid (Below w.heap.size w w1):=zh (aw.out.trans af);clear hbu1 af hbu aw;by_cases hend:k+(n+1)=l.length
  ·have jl:Hid (fB l=(2,acc++(l.drop k).take n,k+n+1)):=zh (hq.out.stop HI.out (iI _ _ _ (by omega)));have b1:((k:Int)+((n:Int)+1)==(l.length:Int))=true:=by rw[beq_iff_eq];omega
   clear hend
   go_wp2_with fail
   refine(Tryz.Builder_String_any w.heap.size w.heap.size (acc++(l.drop k).take n) _ HBU.out HB.out.size).mono ?_;rintro e w2 ⟨rfl,ay⟩;have cq:Hid (Below w.heap.size w w2):=zh (HB.out.trans ay);clear ay
   go_wp2_with fail
   go_ret3
   exact⟨by rw[jl.out];exact uGC (by simp;omega),cq.out⟩
  have hlt:k+(n+1)<l.length:=by omega
  have b1:((k:Int)+((n:Int)+1)==(l.length:Int))=false:=by rw[beq_eq_false_iff_ne];omega
  have e34:=lQ l (k+(n+1)) 34 34 rfl hlt;clear hend;cases zx:aX l (k+(n+1)) 34
  ·have jl:Hid (fB l=(2,acc++(l.drop k).take n,k+n+1)):=zh (hq.out.stop HI.out zx);rw[zx]at e34
   go_wp2_with fail
   refine(Tryz.Builder_String_any w.heap.size w.heap.size (acc++(l.drop k).take n) _ HBU.out HB.out.size).mono ?_;rintro e w2 ⟨rfl,ay⟩;have cq:Hid (Below w.heap.size w w2):=zh (HB.out.trans ay);clear ay
   go_wp2_with fail
   go_ret3
   exact⟨by rw[jl.out];exact uGC (by simp;omega),cq.out⟩
  have sm:=zh (hq.out.next HI.out zx);rw[zx]at e34;have jv:(acc++(l.drop k).take n).length+1<=140737488355328:=by rw[yl,zc];omega
  go_wp2_with fail
  refine(vC w.heap.size w.heap.size (acc++(l.drop k).take n) 34 _ HBU.out jv HB.out.size).mono ?_;rintro e w2 ⟨rfl,hbu2,ay⟩;have HBU2:=zh hbu2;have cq:Hid (Below w.heap.size w w2):=zh (HB.out.trans ay);clear hbu2 ay
  go_wp2_with fail
  go_roundw
  case rel=>exact⟨k+n+1+1,_,by go_num,sm,HBU2,cq⟩
  case measure=>simp[intOf];omega
theorem sM(p:Nat->Bool)(n k:Nat)(h1:1<=k)(h2:k<n+1)(hk:p k=true)(h:∀ j,1<=j->j<k->p j=false):(List.range' 1 n).find? p=some k:=by
 rw[List.find?_range'_eq_some];refine⟨hk,by simp[List.mem_range'_1];omega,fun j hj1 hj2=>by rw[h j hj1 hj2];rfl⟩
theorem uFN(p:Nat->Bool)(n:Nat)(h:∀ j,1<=j->j<n+1->p j=false):(List.range' 1 n).find? p=none:=by
 rw[List.find?_eq_none];intro j hj;rw[List.mem_range'_1]at hj;rw[h j hj.1 (by omega)]
 decide
def jI(l:Bs)(k:Nat):Bool:=decide ((dD k).length<=l.length)&&(aO (l.take (dD k).length)==dD k)
def nV(l:Bs):Option Nat:=if aX l 0 35 then (List.range' 1 9).find? (jI l) else none
def dK(l:Bs):Bs:=match nV l with|some k=>dD k|none=>[]
theorem yZ(L:Bs)(w:World)(hp:0<L.length)(hs:L.length<=maxLen)(ht:Tab w) :
  Calls Tryz.prog 46 #[.string ⟨L.toArray⟩] w fun e w'=>e=.returned (.tuple #[.string ⟨(dK L).toArray⟩,.int .i64 (dK L).length])/\Below w.heap.size w w':=by
 have e35:=lQ L 0 35 35 rfl hp;have hN:nV L=if aX L 0 35 then (List.range' 1 9).find? (jI L) else none:=rfl
 cases zy:aX L 0 35
 ·have hB:dK L=[]:=by unfold dK;rw[hN,zy];rfl
  rw[zy]at e35;rw[hB];clear hN hB ht
  go_enter Tryz.func46,Tryz.ntmps46
  go_wp2_with fail
  go_ret2
  exact⟨rfl,Below.refl _ _⟩
 rw[zy]at e35 hN;rw[if_pos rfl]at hN;have HN:=zh hN;clear hN;have HT:=zh ht;clear ht;have HB:Hid (dK L=match nV L with|some k=>dD k|none=>[]):=zh rfl;generalize dK L=R at *;have rk:=hs;unfold maxLen at rk
 go_enter Tryz.func46,Tryz.ntmps46
 go_wp2_with fail
 go_loopw [4] (fun i wr=>∃ k:Nat,1<=k/\k<=10/\i=.int .i64 k/\Hid (∀ j,1<=j->j<k->jI L j=false)/\Hid (Below w.heap.size w wr)) (fun i _=>10-(intOf i).toNat)
 case atStart=>exact⟨1,by omega,by omega,rfl,zh (fun j h1 h2=>by omega),zh (Below.refl _ _)⟩
 case round=>
  obtain⟨k,dq,fm,rfl,hr,aw⟩:=hrel;have ov:Hid (Tab wr):=zh (HT.out.next aw.out);by_cases hlt:k<=9
  ·have hft:Hid (gA (k:Int)=dD k):=zh (by unfold gA;rw[if_pos (by omega)];simp)
   go_wp2_with fail
   refine(uQ (k:Int) _ ov.out).mono ?_;rintro e w' ⟨rfl,rfl⟩;rw[hft.out];have hA:jI L k=(decide ((dD k).length<=L.length)&&(aO (L.take (dD k).length)==dD k)):=rfl;have HA:=zh hA;have HF:Hid (nV L=some k->R=dD k):=zh (by intro h;rw[HB.out,h]);clear hA hft;generalize dD k=t at *;by_cases hle:t.length<=L.length
   ·go_wp2_with fail
    refine(kG (L.take t.length) _ (by rw[zc];omega)).mono ?_;rintro e w1 ⟨rfl,af⟩;generalize aO (L.take t.length)=u at *;have ay:Hid (Below w.heap.size w w1):=zh (aw.out.trans (af.mono aw.out.size));clear af;cases hu:(u==t)
    ·have hq:Hid (jI L k=false):=zh (by rw[HA.out,hu];simp)
     go_wp2_with fail
     go_roundw
     case rel=>
      refine⟨k+1,by omega,by omega,by go_num,zh (fun j h1 h2=>?_),ay⟩;by_cases e:j=k
      ·rw[e];exact hq.out
      exact hr.out j h1 (by omega)
     case measure=>simp[intOf];omega
    have hq:Hid (R=t):=zh (HF.out (by rw[HN.out];exact sM _ 9 k dq (by omega) (by rw[HA.out,hu];simpa using hle) hr.out))
    go_wp2_with fail
    go_ret2
    exact⟨by rw[hq.out];rfl,ay.out⟩
   have hq:Hid (jI L k=false):=zh (by rw[HA.out];simp;intro h;omega)
   go_wp2_with fail
   go_roundw
   case rel=>
    refine⟨k+1,by omega,by omega,by go_num,zh (fun j h1 h2=>?_),aw⟩;by_cases e:j=k
    ·rw[e];exact hq.out
    exact hr.out j h1 (by omega)
   case measure=>simp[intOf];omega
  have hq:Hid (R=[]):=zh (by rw[HB.out,HN.out,uFN _ 9 (fun j h1 h2=>hr.out j h1 (by omega))])
  go_wp2_with fail
  go_ret2
  exact⟨by rw[hq.out];rfl,aw.out⟩
def lF(l:Bs):Bool:=match l with|c::_=>aJ c | []=>false
theorem uDI(l:Bs)(hp:0<l.length):aJ l[0]=lF l:=by cases l with|nil=>simp at hp|cons c l=>rfl
def bG(l:Bs):Nat×Bs×Nat :=
 if 0<eQ l then (1,l.take (eQ l),eQ l)
 else if lF l||aX l 0 95||aX l 0 36 then pA l
 else if aX l 0 34 then fB l
 else if 0<(dK l).length then (6,dK l,(dK l).length)
 else if 0<fV l then (5,l.take (fV l),fV l)
 else (0,[],0)
theorem sign_at(l:Bs)(w:World)(hp:0<l.length) :
  Calls Tryz.prog 47 #[.string ⟨l.toArray⟩] w fun e w'=>e=.returned (.int .i64 (fV l))/\w=w':=by
 cases l with
 |nil=>simp at hp
 |cons c l=>exact sign_any c l w
theorem uAM(l:Bs)(hp:0<l.length):fV l<=l.length:=by
 unfold fV
 split
 case isTrue h=>
  cases l with
  |nil=>simp at hp
  |cons c l=>
   cases l with
   |nil=>simp[Lib.hasPrefix,List.isPrefixOf]at h
   |cons d l=>simp
 case isFalse=>split <;> omega
theorem uJD(l:Bs)(w:World)(hp:0<l.length)(hs:l.length<=140737488351232)(ht:Tab w) :
  Calls Tryz.prog 34 #[.string ⟨l.toArray⟩] w fun e w'=>e=.returned (tokV (bG l))/\Below w.heap.size w w':=by
 have jo:l.length<=maxLen:=by unfold maxLen;omega
 have zz:=tM l;have jw:=uAM l hp;have hN:bG l=if 0<eQ l then (1,l.take (eQ l),eQ l)
  else if lF l||aX l 0 95||aX l 0 36 then pA l
  else if aX l 0 34 then fB l
  else if 0<(dK l).length then (6,dK l,(dK l).length)
  else if 0<fV l then (5,l.take (fV l),fV l)
  else (0,[],0):=rfl
 have HN:=zh hN;have HT:=zh ht;clear hN ht;generalize bG l=r at *
 go_enter Tryz.func34,Tryz.ntmps34
 go_wp2_with fail
 refine(uDU l _ jo).mono ?_;rintro e w' ⟨rfl,rfl⟩;generalize eQ l=n at *;by_cases hn:0<n
 ·have HR:Hid (r=(1,l.take n,n)):=zh (by rw[HN.out,if_pos hn]);clear HN
  go_wp2_with fail
  go_quiet (fail)
  go_wp2_with fail
  go_ret3
  exact⟨by rw[HR.out];rfl,below_drewN (Below.refl _ _) _⟩
 have HR:=zh (HN.out.trans (if_neg hn));clear HN;have e95:=gP l 0 95 95 rfl hp;have e36:=gP l 0 36 36 rfl hp;have e34:=gP l 0 34 34 rfl hp;have qu:=uDI l hp
 go_upto_region 5 with fail
 go_cut [27] (fun v wx=>v=.bool (lF l||aX l 0 95||aX l 0 36)/\w=wx)
 case first=>
  go_wp2_with fail
  refine(gG _ _).mono ?_;rintro e w' ⟨rfl,rfl⟩;rw[qu];clear qu;cases h1:lF l <;> cases h2:aX l 0 95 <;> cases h3:aX l 0 36
  all_goals rw[h2]at e95;rw[h3]at e36
  all_goals go_wp2_with fail
  all_goals go_meet
  all_goals exact⟨by first|rfl |(rw[h1,h2,h3];rfl),rfl⟩
 case rest=>
  obtain⟨rfl,rfl⟩:=hcut;clear qu e95 e36;cases hw:(lF l||aX l 0 95||aX l 0 36)
  ·have c6:=zh (HR.out.trans (if_neg (by rw[hw];decide)));clear HR;cases zx:aX l 0 34
   ·have fh:=zh (c6.out.trans (if_neg (by rw[zx];decide)));clear c6;rw[zx]at e34
    go_wp2_with fail
    refine(yZ l _ hp jo HT.out).mono ?_;rintro e w1 ⟨rfl,af⟩;have dy:=zh af;clear af;generalize dK l=f at *;by_cases hf:0<f.length
    ·have j8:=zh (fh.out.trans (if_pos hf));clear fh
     go_wp2_with fail
     go_ret3
     exact⟨by rw[j8.out];rfl,dy.out⟩
    have j8:=zh (fh.out.trans (if_neg hf));clear fh
    go_wp2_with fail
    refine(sign_at l _ hp).mono ?_;rintro e w' ⟨rfl,rfl⟩;generalize fV l=g at *;by_cases hg:0<g
    ·have ni:=zh (j8.out.trans (if_pos hg));clear j8
     go_wp2_with fail
     go_quiet (fail)
     go_wp2_with fail
     go_ret3
     exact⟨by rw[ni.out];rfl,below_drewN dy.out _⟩
    have ni:=zh (j8.out.trans (if_neg hg));clear j8
    go_wp2_with fail
    go_ret3
    exact⟨by rw[ni.out];rfl,dy.out⟩
   have fh:=zh (c6.out.trans (if_pos zx));clear c6;rw[zx]at e34
   go_wp2_with fail
   refine(uEF l _ hp hs).mono ?_;rintro e w1 ⟨rfl,af⟩
   go_wp2_with fail
   go_ret3
   exact⟨by rw[fh.out];rfl,af⟩
  have c6:=zh (HR.out.trans (if_pos hw));clear HR
  go_wp2_with fail
  refine(word_any l _ jo).mono ?_;rintro e w1 ⟨rfl,af⟩
  go_wp2_with fail
  go_ret3
  exact⟨by rw[c6.out];rfl,af⟩
structure Tok where
 kind:Nat
 text:Bs
 place:Nat
theorem pWord_le(l:Bs):(pA l).2.2<=l.length:=by
 unfold pA;have:=bS cU l
 split
 ·exact this
 split
 ·exact this
 exact zm _
theorem pText_le(l:Bs):∀ x,cF l=some x->x.2<=l.length/\x.1.length<=l.length:=by
 have key:∀ n (l:Bs),l.length<=n->∀ x,cF l=some x->x.2<=l.length/\x.1.length<=l.length:=by
  intro n
  induction n with
  |zero=>intro l hl x hx;cases l with
   |nil=>simp[cF]at hx
   |cons c l=>simp at hl
  |succ n ih=>
   intro l hl x hx
   match l,hl,hx with
   | [],_,hx=>simp[cF]at hx
   | [c],_,hx=>
    simp only[cF]at hx
    split at hx
    ·injection hx with hx;subst hx;simp
    cases hx
   |c::d::l,hl,hx=>
    simp only[cF]at hx;simp only[yi]at hl
    split at hx
    ·split at hx
     ·cases hy:cF l with
      |none=>rw[hy]at hx;cases hx
      |some y=>
       rw[hy]at hx;injection hx with hx;have:=ih l (by omega) y hy;subst hx;simp only[yi];omega
     injection hx with hx;subst hx;simp
    cases hy:cF (d::l) with
    |none=>rw[hy]at hx;cases hx
    |some y=>
     rw[hy]at hx;injection hx with hx;have:=ih (d::l) (by simp only[yi];omega) y hy;subst hx;simp only[yi]at this ⊢;omega
 exact key l.length l zr
theorem uDZ(l:Bs):(fB l).2.2<=l.length:=by
 unfold fB;cases h:cF (l.drop 1) with
 |none=>exact zm _
 |some x=>
  have:=(pText_le _ x h).1;rw[yk]at this;show x.2+1<=l.length;cases l with
  |nil=>simp[cF]at h
  |cons c l=>simp only[yi]at this ⊢;omega
theorem tH(l:Bs):(dK l).length<=l.length:=by
 unfold dK;cases h:nV l with
 |none=>simp
 |some k=>
  unfold nV at h
  split at h
  ·have:=List.find?_some h;unfold jI at this;simp only[yh,decide_eq_true_eq]at this;exact this.1
  cases h
theorem mS(l:Bs)(hp:0<l.length):(bG l).2.2<=l.length:=by
 unfold bG
 split
 ·exact tM l
 split
 ·exact pWord_le l
 split
 ·exact uDZ l
 split
 ·exact tH l
 split
 ·exact uAM l hp
 exact zm _
def fQ:Nat->Bs->Nat->Except Nat (List Tok)
 |0,_,_=>.ok []
 |_+1,[],_=>.ok []
 |f+1,c::r,k=>
  if c=32 then fQ f r (k+1)
  else if (bG (c::r)).2.2=0 then .error k
  else match fQ f ((c::r).drop (bG (c::r)).2.2) (k+(bG (c::r)).2.2) with
   | .error p=>.error p
   | .ok ts=>.ok (⟨(bG (c::r)).1,(bG (c::r)).2.1,k⟩::ts)
theorem uDL:∀ (f g:Nat) (l:Bs) (k:Nat),l.length<=f->l.length<=g->fQ f l k=fQ g l k:=by
 intro f
 induction f with
 |zero=>
  intro g l k hf hg;obtain rfl:l=[]:=List.eq_nil_of_length_eq_zero (by omega);cases g <;> rfl
 |succ f ih=>
  intro g l k hf hg;cases l with
  |nil=>cases g <;> rfl
  |cons c r=>
   cases g with
   |zero=>simp at hg
   |succ g=>
    simp only[yi]at hf hg;simp only[fQ]
    split
    ·exact ih g r _ (by omega) (by omega)
    split
    ·rfl
    rename_i h0
    rw[ih g _ _ (by rw[yk,yi];omega) (by rw[yk,yi];omega)]
def fX(l:Bs)(k:Nat):Except Nat (List Tok):=fQ l.length l k
theorem zQ(k:Nat):fX [] k=.ok []:=rfl
theorem uT(r:Bs)(k:Nat):fX (32::r) k=fX r (k+1):=by
 unfold fX;simp only[yi,fQ];rfl
theorem zP(c:UInt8)(r:Bs)(k:Nat)(h:c≠32)(h0:(bG (c::r)).2.2=0):fX (c::r) k=.error k:=by
 unfold fX;simp only[yi,fQ];rw[if_neg h,if_pos h0]
def wY(t:Tok):Except Nat (List Tok)->Except Nat (List Tok)
 | .error p=>.error p
 | .ok ts=>.ok (t::ts)
theorem zR(c:UInt8)(r:Bs)(k:Nat)(h:c≠32)(h0:(bG (c::r)).2.2≠0) :
  fX (c::r) k=wY ⟨(bG (c::r)).1,(bG (c::r)).2.1,k⟩ (fX ((c::r).drop (bG (c::r)).2.2) (k+(bG (c::r)).2.2)):=by
 unfold fX;simp only[yi];rw[fQ,if_neg h,if_neg h0];rw[uDL r.length ((c::r).drop (bG (c::r)).2.2).length _ _ (by rw[yk,yi];omega) zr];cases fQ ((c::r).drop (bG (c::r)).2.2).length ((c::r).drop (bG (c::r)).2.2) (k+(bG (c::r)).2.2) <;> rfl
def mX(l:Bs):Except Nat (List Tok):=fX l 0
def rT(a:List Tok):Except Nat (List Tok)->Except Nat (List Tok)
 | .error p=>.error p
 | .ok ts=>.ok (a++ts)
theorem yG(a:List Tok)(t:Tok)(x:Except Nat (List Tok)):rT a (wY t x)=rT (a++[t]) x:=by
 cases x with
 |error p=>rfl
 |ok ts=>simp[rT,wY]
def LInv(l:Bs)(a:List Tok)(k:Nat):Prop:=k<=l.length/\a.length<=k/\mX l=rT a (fX (l.drop k) k)
theorem LInv.start(l:Bs):LInv l [] 0:=by
 refine⟨zm _,zr,?_⟩;unfold mX;rw[List.drop_zero];cases fX l 0 <;> rfl
theorem LInv.blank{l:Bs}{a:List Tok}{k:Nat}(h:LInv l a k)(hb:aX l k 32=true):LInv l a (k+1):=by
 have hlt:=at_lt _ _ _ hb;refine⟨hlt,by have:=h.2.1;omega,?_⟩;have e:l[k]=32:=by
  unfold aX at hb;rw[List.getElem?_eq_getElem hlt]at hb;have:=eq_of_beq hb;injection this
 rw[h.2.2,yx hlt,e,uT]
theorem uAC{l:Bs}{k:Nat}{c:UInt8}(hlt:k<l.length)(hb:aX l k c=false):l[k]≠c:=by
 intro e;unfold aX at hb;rw[List.getElem?_eq_getElem hlt,e]at hb;simp at hb
theorem LInv.bad{l:Bs}{a:List Tok}{k:Nat}(h:LInv l a k)(hlt:k<l.length)(hb:aX l k 32=false)(h0:(bG (l.drop k)).2.2=0):mX l=.error k:=by
 have e:=yx hlt;rw[h.2.2];rw[e]at h0 ⊢;rw[zP _ _ _ (uAC hlt hb) h0];rfl
theorem LInv.tok{l:Bs}{a:List Tok}{k:Nat}(h:LInv l a k)(hlt:k<l.length)(hb:aX l k 32=false)(h0:(bG (l.drop k)).2.2≠0) :
  LInv l (a++[⟨(bG (l.drop k)).1,(bG (l.drop k)).2.1,k⟩]) (k+(bG (l.drop k)).2.2):=by
 have e:=yx hlt;have hle:=mS (l.drop k) (by rw[yk];omega);rw[yk]at hle;refine⟨by omega,by have:=h.2.1;simp;omega,?_⟩;rw[h.2.2,<- yG,<- List.drop_drop];rw[e]at h0 ⊢;rw[zR _ _ _ (uAC hlt hb) h0]
theorem LInv.done{l:Bs}{a:List Tok}{k:Nat}(h:LInv l a k)(hk:¬ k<l.length):mX l=.ok a:=by
 rw[h.2.2,List.drop_of_length_le (by omega),zQ];simp[rT]
def eU(t:Tok):List Value:=[.int .i64 t.kind,.string ⟨t.text.toArray⟩,.int .i64 t.place]
def dZ(ts:List Tok):List Value:=ts.flatMap eU
theorem nJ(ts:List Tok)(t:Tok):dZ (ts++[t])=dZ ts++eU t:=by simp[dZ]
def cJ(n:Nat):Tok:=⟨0,[],n⟩
theorem infoTok:(Tryz.prog.info? 70).map (fun i=>(i.zero,i.size,i.bytes))=some (some (.agg #[.int .i64 0,.string ⟨#[]⟩,.int .i64 0]),3,32):=by kernel_rfl
theorem nF{a w:World}(h:Below a.heap.size a w)(row:Option Nat):a.grownBy w row:=⟨h.os,h.tape,h.output,h.size,fun i hi _=>h.block i hi⟩
theorem cW{a w:World}(h:Below a.heap.size a w){base:Nat}{e:TypeId}{size:Nat}{v:Value}{n:Nat}{xs:List Value}(ho:a.ownsRow base e size v n xs):w.ownsRow base e size v n xs:=by
 refine ho.kept (nF h none) ?_;cases hv:v.ownBlock with
 |none=>exact .inl rfl
 |some k=>exact .inr (by simp)
def LexPost(w:World)(n:Nat)(r:Except Nat (List Tok))(e:Ending)(w':World):Prop :=
 match r with
 | .error k=>e=.returned (.tuple #[.slice none 0 0,.int .i64 k,.int .i64 7])/\Below w.heap.size w w'
 | .ok ts=>∃ v,e=.returned (.tuple #[v,.int .i64 0,.int .i64 0])/\w'.ownsRow w.heap.size 70 3 v (ts.length+1) (dZ (ts++[cJ n]))/\Below w.heap.size w w'
theorem uBO{w:World}(t:Tok):∀ j u,(eU t)[j]?=some u->(w.alloc (.cells #[.int .i64 t.kind,.string ⟨t.text.toArray⟩,.int .i64 t.place] 70)).cell? ((⟨w.heap.size,0,none⟩:Addr).add j)=some u:=by
 intro j u hj
 match j,hj with
 |0,hj=>simp[eU]at hj;subst hj;simp[Addr.add]
 |1,hj=>simp[eU]at hj;subst hj;simp[Addr.add]
 |2,hj=>simp[eU]at hj;subst hj;simp[Addr.add]
theorem uGH(t:Tok):∀ u∈eU t,u.oneCell'=true:=by
 intro u hu;simp[eU]at hu;rcases hu with rfl|rfl|rfl <;> rfl
theorem lex_any(l:Bs)(w:World)(hs:l.length<=1000000)(ht:Tab w) :
  Calls Tryz.prog 22 #[.string ⟨l.toArray⟩] w fun e w'=>LexPost w l.length (mX l) e w':=by
 obtain⟨i0,hi,ki,js,j7⟩:=info_parts infoTok;have HT:=zh ht;clear ht;have HP:=zh (LInv.start l)
 go_enter Tryz.func22,Tryz.ntmps22
 go_wp2_with fail
 go_loopw [5,6] (fun v i wr=>∃ (k:Nat) (a:List Tok),i=.int .i64 k/\Hid (LInv l a k)/\Hid (wr.ownsRow w.heap.size 70 3 v a.length (dZ a))/\Hid (Below w.heap.size w wr)) (fun _ i _=>l.length-(intOf i).toNat)
 case atStart=>exact⟨0,[],rfl,HP,zh (World.ownsRow_nil _ _ _ _),zh (Below.refl _ _)⟩
 case round=>
  obtain⟨k,a,rfl,hq,aj,aw⟩:=hrel
  rename_i v
  clear HP;have dq:=hq.out.1;have fm:=hq.out.2.1;have HT2:Hid (Tab wr):=zh (HT.out.next aw.out);by_cases hlt:k<l.length
  ·have e32:=gP l k 32 32 rfl hlt;cases ub:aX l k 32
   ·rw[ub]at e32;have hdp:0<(l.drop k).length:=by rw[yk];omega
    have hdl:(l.drop k).length<=140737488351232:=by rw[yk];omega
    have hle:=mS (l.drop k) hdp;rw[yk]at hle
    go_wp2_with fail
    refine(uJD (l.drop k) _ hdp hdl HT2.out).mono ?_;rintro e w1 ⟨rfl,af⟩;have dy:Hid (Below w.heap.size w w1):=zh (aw.out.trans (af.mono aw.out.size));have dc:=zh (cW af aj.out);clear af aj aw;have ku:=zh (hq.out.bad hlt ub);have htok:=zh (hq.out.tok hlt ub);generalize bG (l.drop k)=x at *;obtain⟨kind,text,size⟩:=x;by_cases h0:size=0
    ·have rl:=zh (ku.out h0);clear ku htok;subst h0
     go_wp2_with fail
     go_ret3
     rw[rl.out];exact⟨rfl,dy.out⟩
    have rl:=zh (htok.out h0);clear ku htok;have b0:((size:Int)==0)=false:=by rw[beq_eq_false_iff_ne];omega
    go_wp2_with (at_builtin;refine wpList_append_own _ rfl _ _ 59 rfl w.heap.size 70 i0 (.agg #[.int .i64 0,.string ⟨#[]⟩,.int .i64 0]) 3 32 Tryz.underlying59 hi ki js j7 rfl (by decide) _ _ _ rfl (dc.out.alloc _) ⟨w1.heap.size,0,none⟩ 1 1 (eU ⟨kind,text,k⟩) rfl rfl ?c1 ?c2 ?c3 ?c4 ?c5 ?_)
    case c1=>exact uBO ⟨kind,text,k⟩
    case c2=>exact uGH _
    case c3=>unfold maxLen;omega
    case c4=>omega
    case c5=>have:=dy.out.size;simp;omega
    intro v' w2 du cu _;have gm:Hid (w2.ownsRow w.heap.size 70 3 v' (a++[(⟨kind,text,k⟩:Tok)]).length (dZ (a++[⟨kind,text,k⟩]))):=zh (by rw[nJ];simpa using du);have cq:Hid (Below w.heap.size w w2):=zh ((dy.out.alloc dy.out.size _).grown cu (by have:=dy.out.size;simp;omega) (fun j hj=>(dc.out.lt j hj).1));clear du cu dc dy
    go_wp2_with fail
    go_roundw
    case rel=>exact⟨k+size,_,by go_num,rl,gm,cq⟩
    case measure=>simp[intOf];omega
   rw[ub]at e32;have rl:=zh (hq.out.blank ub)
   go_wp2_with fail
   go_roundw
   case rel=>exact⟨k+1,a,by go_num,rl,aj,aw⟩
   case measure=>simp[intOf];omega
  have rl:=zh (hq.out.done hlt)
  go_wp2_with (at_builtin;refine wpList_append_own _ rfl _ _ 59 rfl w.heap.size 70 i0 (.agg #[.int .i64 0,.string ⟨#[]⟩,.int .i64 0]) 3 32 Tryz.underlying59 hi ki js j7 rfl (by decide) _ _ _ rfl (aj.out.alloc _) ⟨wr.heap.size,0,none⟩ 1 1 (eU (cJ l.length)) rfl rfl ?d1 ?d2 ?d3 ?d4 ?d5 ?_)
  case d1=>exact uBO (cJ l.length)
  case d2=>exact uGH _
  case d3=>unfold maxLen;omega
  case d4=>omega
  case d5=>have:=aw.out.size;simp;omega
  intro v' w2 du cu _;have gm:Hid (w2.ownsRow w.heap.size 70 3 v' (a.length+1) (dZ (a++[cJ l.length]))):=zh (by rw[nJ];exact du);have cq:Hid (Below w.heap.size w w2):=zh ((aw.out.alloc aw.out.size _).grown cu (by have:=aw.out.size;simp;omega) (fun j hj=>(aj.out.lt j hj).1));clear du cu
  go_wp2_with fail
  go_ret3
  rw[rl.out];exact⟨v',rfl,gm.out,cq.out⟩
theorem xY(p:UInt8->Bool)(c:UInt8)(l:Bs)(h:p c=false):aN p (c::l)=0:=by simp[aN,h]
theorem uGP(c:UInt8)(l:Bs)(d:UInt8):aX (c::l) 0 d=(c==d):=by
 unfold aX;simp
theorem xT(c:UInt8)(l:Bs)(h:aB c=false)(j6:c≠46):eQ (c::l)=0:=by
 have e:iM (c::l)=0:=by
  unfold iM;rw[xY _ _ _ h,uGP];have:(c==46)=false:=by rw[beq_eq_false_iff_ne];exact j6
  rw[this];rfl
 unfold eQ pNumE;rw[e];rfl
theorem uEE{P:Program}{f:FuncId}{args:Array Value}{w:World}{n:Nat}{v:Value}
  (h:Calls P f args (w.drewN n) fun e w'=>e=.returned v/\w.drewN n=w'):Calls P f args (w.drewN n) fun e w''=>e=.returned v/\∃ m,w''=w.drewN m :=
 h.mono fun _ _ ⟨he,hm⟩=>⟨he,n,hm.symm⟩
theorem mL(n:Int)(h:0<=n/\n<=18446744073709551615):IntKind.u64.wrap n=n:=by
 simp[IntKind.wrap,IntKind.bits,IntKind.signed];omega
theorem size_any(m:Int)(w:World)(h1:-9223372036854775808<=m)(h2:m<=9223372036854775807) :
  Calls Tryz.prog 108 #[.int .i64 m] w fun e w'=>e=.returned (.int .u64 (m.natAbs:Int))/\w=w':=by
 by_cases h:m<0
 ·go_enter Tryz.func108,Tryz.ntmps108
  go_wp2
  go_ret
  exact⟨cI (by simp[IntKind.wrap,IntKind.bits,IntKind.signed];omega),rfl⟩
 go_enter Tryz.func108,Tryz.ntmps108
 go_wp2
 go_ret
 exact⟨cI (by omega),rfl⟩
theorem uHG(n:Nat)(w:World)(h:n<18446744073709551616) :
  Calls Tryz.prog 109 #[.int .u64 n] w fun e w'=>e=.returned (.int .i64 (jQ n))/\w=w':=by
 have HN:Hid (n<18446744073709551616):=zh h;clear h;have HD:Hid (jQ n=jQ n):=zh rfl
 go_enter Tryz.func109,Tryz.ntmps109
 go_wp2
 go_loop [0,3] (fun v d=>∃ (x k:Nat),v=.int .u64 x/\d=.int .i64 k/\k<=21/\x<=n/\Hid (k+jQ x=jQ n+1)) (fun v _=>(intOf v).toNat)
 case atStart=>exact⟨n,1,rfl,rfl,by omega,zr,zh (by omega)⟩
 case round=>
  obtain⟨x,k,rfl,rfl,hk,hx,hq⟩:=hrel;have hd:=oH n;have hdx:=oH x;by_cases uc:x<10
  ·have ls:Hid (k=jQ n):=zh (by have:=hq.out;rw[uCP x uc]at this;omega)
   go_wp2
   go_ret
   exact⟨cI (by rw[ls.out]),rfl⟩
  have hb:=digs_big x uc (by have:=HN.out;omega);have ls:Hid (k+1+jQ (x / 10)=jQ n+1):=zh (by have:=hq.out;omega);have fm:k+1<=21:=by have:=hq.out;have:=oH (x / 10);omega
  clear hb;have hw:Hid (IntKind.u64.wrap ((x:Int) / 10)=((x / 10:Nat):Int)):=zh (by rw[mL _ (by have:=HN.out;omega)];omega)
  go_wp2
  go_round
  case rel=>exact⟨x / 10,k+1,by rw[hw.out],by go_num,fm,by omega,ls⟩
  case measure=>rw[hw.out];simp[intOf];omega
abbrev rI(m e:Int):Value:=.agg #[.int .i64 m,.int .i64 e]
set_option maxRecDepth 100000 in
theorem pY(m e:Int)(w:World)(h1:-9223372036854775808<=m)(h2:m<=9223372036854775807) :
  Calls Tryz.prog 95 #[rI m e] w fun x w'=>x=.returned (.bool (cC m e))/\Below w.heap.size w w':=by
 have hN:cC m e=if m=0 then decide (e=0) else decide (m.natAbs<1000000000000000)&&decide (m.natAbs % 10≠0)&&decide (-40<=e)&&decide (e<40)&&decide ((jQ m.natAbs:Int)+e<=40):=rfl
 have HN:=zh hN;clear hN;generalize cC m e=r at *;have HB:Hid (Below w.heap.size w (w.alloc (.cells #[.int .i64 m,.int .i64 e] 30))):=zh ((Below.refl _ w).alloc zr _);by_cases h0:m=0
 ·rw[if_pos h0]at HN;subst h0
  go_enter Tryz.func95,Tryz.ntmps95
  go_wp2_with fail
  go_ret
  exact⟨aI (by rw[HN.out];rfl),HB.out⟩
 rw[if_neg h0]at HN;have b0:(m==0)=false:=by rw[beq_eq_false_iff_ne];exact h0
 have hx:m.natAbs<18446744073709551616:=by omega
 have hd:=oH m.natAbs;clear h0
 go_enter Tryz.func95,Tryz.ntmps95
 go_wp2_with fail
 refine(size_any m _ h1 h2).mono ?_;rintro e1 w' ⟨rfl,rfl⟩;generalize m.natAbs=x at *;have HX:=zh hx;have H1:=zh h1;have H2:=zh h2;clear hx h1 h2;by_cases c1:x<1000000000000000
 ·have d1:decide ((1000000000000000:Int)<=(x:Int))=false:=by simp;omega
  rw[decide_eq_true c1]at HN;clear c1;by_cases c2:x % 10≠0
  ·have b2:((x:Int) % 10==0)=false:=by rw[beq_eq_false_iff_ne];omega
   rw[decide_eq_true c2]at HN;clear c2;by_cases c3:-40<=e
   ·by_cases c4:e<40
    ·rw[decide_eq_true c3,decide_eq_true c4]at HN;have lj:Hid (r=decide ((jQ x:Int)+e<=40)):=zh (by rw[HN.out];rfl);clear HN
     go_wp2_with fail
     go_quiet ((go_at_call 109;exact uEE (uHG x _ HX.out)))
     go_wp2_with fail
     go_ret
     exact⟨aI (by rw[lj.out]),below_drewN HB.out _⟩
    rw[decide_eq_false c4]at HN;have lj:Hid (r=false):=zh (by rw[HN.out];simp);clear HN
    go_wp2_with fail
    go_ret
    exact⟨aI (by rw[lj.out]),HB.out⟩
   rw[decide_eq_false c3]at HN;have lj:Hid (r=false):=zh (by rw[HN.out];simp);clear HN
   go_wp2_with fail
   go_ret
   exact⟨aI (by rw[lj.out]),HB.out⟩
  have b2:((x:Int) % 10==0)=true:=by rw[beq_iff_eq];omega
  rw[decide_eq_false c2]at HN;have lj:Hid (r=false):=zh (by rw[HN.out];simp);clear HN c2
  go_wp2_with fail
  go_ret
  exact⟨aI (by rw[lj.out]),HB.out⟩
 have d1:decide ((1000000000000000:Int)<=(x:Int))=true:=by simp;omega
 rw[decide_eq_false c1]at HN;have lj:Hid (r=false):=zh (by rw[HN.out];simp);clear HN c1
 go_wp2_with fail
 go_ret
 exact⟨aI (by rw[lj.out]),HB.out⟩
end Go.Proofs.YtmgjidnalpgegaaGreatDoor
