/-
  Lemmas, part 2: Lex5 Build1 Val2 Lex8 Num1.
-/
import Derived.Test.YtmgjidnalpgegaaGreatDoorRows
import Derived.WalkSpells
import Derived.WalkLawsBesides
import Derived.Outline
import Derived.Deep.Cut
import Derived.Deep.CutRange
import Derived.Deep.DeepCutAuto
import Derived.Deep.LoopGhost
import Derived.Deep.QuietTactic
import Derived.BigQuiet
import Derived.BigRegion
import Derived.Deep.RegionHeld3
import Derived.Deep.RegionLaw
import Derived.Deep.DeepFit
import Derived.Deep.Light
import Derived.StillTailTactics
import Derived.IntWalk
import Derived.Test.YtmgjidnalpgegaaGreatDoorShelf
import Derived.OneCell
import Derived.Laws.IdiomStrings
import Derived.Test.YtmgjidnalpgegaaGreatDoorPk1
set_option maxHeartbeats 100000000
namespace Go.Proofs.YtmgjidnalpgegaaGreatDoor
open Go.RowKit
theorem kS(c:UInt8)(w:World) :
  Calls Tryz.prog 66 #[.int .u8 (c.toNat:Int)] w fun e w'=>e=.returned (.bool (aB c))/\w=w':=by
 go_enter Tryz.func66,Tryz.ntmps66
 go_wp2
 all_goals go_ret
 all_goals exact⟨aI (by unfold aB;rw[ze];simp;omega),rfl⟩
theorem iH(c:UInt8)(w:World) :
  Calls Tryz.prog 43 #[.int .u8 (c.toNat:Int)] w fun e w'=>e=.returned (.bool (aJ c))/\w=w':=by
 go_enter Tryz.func43,Tryz.ntmps43
 go_wp2
 all_goals go_ret
 all_goals exact⟨aI (by unfold aJ;rw[ze];simp;omega),rfl⟩
theorem iM(l:Bs)(w:World)(hs:l.length<=maxLen) :
  Calls Tryz.prog 65 #[.string ⟨l.toArray⟩,.func (.func 66) #[] #[]] w fun e w'=>e=.returned (.int .i64 (aM aB l))/\w=w':=by
 unfold maxLen at hs
 go_enter Tryz.func65,Tryz.ntmps65
 go_wp2
 go_loop [5] (fun i=>∃ k:Nat,k<=l.length/\i=.int .i64 k/\k<=aM aB l) (fun i=>l.length-(intOf i).toNat)
 case atStart=>exact⟨0,zm _,rfl,zm _⟩
 case round=>
  obtain⟨k,hk,rfl,hr⟩:=hrel;by_cases hlt:k<l.length
  ·cases hd:aB l[k]
   ·have HQ:=zh (kW _ _ _ hr hlt hd)
    go_wp2_with (go_at_call 66;refine(kS _ _).mono ?_;rintro e w' ⟨rfl,rfl⟩)
    go_ret
    exact⟨cW (by rw[HQ.out]),rfl⟩
   have hq:=gI _ _ _ hr hlt hd
   go_wp2_with (go_at_call 66;refine(kS _ _).mono ?_;rintro e w' ⟨rfl,rfl⟩)
   go_round
   case rel=>exact⟨k+1,by omega,by go_num,hq⟩
   case measure=>simp[intOf];omega
  have hq:aM aB l=k:=by have:=bT aB l;omega
  have HQ:=zh hq;clear hq
  go_wp2
  go_ret
  exact⟨cW (by rw[HQ.out]),rfl⟩
theorem wM(l:Bs)(w:World)(hs:l.length<=maxLen) :
  Calls Tryz.prog 65 #[.string ⟨l.toArray⟩,.func (.func 43) #[] #[]] w fun e w'=>e=.returned (.int .i64 (aM aJ l))/\w=w':=by
 unfold maxLen at hs
 go_enter Tryz.func65,Tryz.ntmps65
 go_wp2
 go_loop [5] (fun i=>∃ k:Nat,k<=l.length/\i=.int .i64 k/\k<=aM aJ l) (fun i=>l.length-(intOf i).toNat)
 case atStart=>exact⟨0,zm _,rfl,zm _⟩
 case round=>
  obtain⟨k,hk,rfl,hr⟩:=hrel;by_cases hlt:k<l.length
  ·cases hd:aJ l[k]
   ·have HQ:=zh (kW _ _ _ hr hlt hd)
    go_wp2_with (go_at_call 43;refine(iH _ _).mono ?_;rintro e w' ⟨rfl,rfl⟩)
    go_ret
    exact⟨cW (by rw[HQ.out]),rfl⟩
   have hq:=gI _ _ _ hr hlt hd
   go_wp2_with (go_at_call 43;refine(iH _ _).mono ?_;rintro e w' ⟨rfl,rfl⟩)
   go_round
   case rel=>exact⟨k+1,by omega,by go_num,hq⟩
   case measure=>simp[intOf];omega
  have hq:aM aJ l=k:=by have:=bT aJ l;omega
  have HQ:=zh hq;clear hq
  go_wp2
  go_ret
  exact⟨cW (by rw[HQ.out]),rfl⟩
theorem uAM{l:Bs}{n k:Nat}(h:l.length<=n):(l.drop k).length<=n:=by rw[yk];omega
set_option maxRecDepth 100000 in
theorem uFP(l:Bs)(w:World)(hs:l.length<=maxLen) :
  Calls Tryz.prog 42 #[.string ⟨l.toArray⟩] w fun e w'=>e=.returned (.int .i64 (dY l))/\w=w':=by
 have rh:=hs;unfold maxLen at rh;have ha:=bT aB l;have hb:=vA l;have hB:iA l=if aZ l (aM aB l) 46&&decide (0<aM aB (l.drop (aM aB l+1))) then aM aB l+1+aM aB (l.drop (aM aB l+1)) else aM aB l:=rfl
 have HB:=zh hB;clear hB;have hN:dY l=if iA l=0\/(aZ l (iA l) 101=false/\aZ l (iA l) 69=false) then iA l else if 0<aM aB (l.drop (mK l (iA l))) then mK l (iA l)+aM aB (l.drop (mK l (iA l))) else iA l:=rfl
 have HN:=zh hN;clear hN;generalize iA l=b at *;generalize dY l=r at *
 go_enter Tryz.func42,Tryz.ntmps42
 go_wp2_with fail
 refine(iM _ _ hs).mono ?_;rintro e w' ⟨rfl,rfl⟩;generalize aM aB l=a at *
 go_upto_region 2 with fail
 go_cut [18] (fun v wx=>v=.bool (aZ l a 46)/\w=wx)
 case first=>
  by_cases hlt:a<l.length
  ·have e:=iE l a 46 46 rfl hlt
   go_wp2
   all_goals go_meet
   all_goals exact⟨rfl,rfl⟩
  have e:=iF l a 46 (by omega)
  go_wp2
  go_meet
  exact⟨by rw[e],rfl⟩
 case rest=>
  obtain⟨rfl,rfl⟩:=hcut
  go_upto_if 18 with fail
  go_cut [3,4] (fun v _ wx=>v=.int .i64 b/\w=wx)
  case first=>
   have hd:=bT aB (l.drop (a+1));rw[yk]at hd;cases jc:aZ l a 46
   ·go_wp2_with fail
    go_meet
    exact⟨by rw[HB.out,jc];rfl,rfl⟩
   have hlt:=at_lt _ _ _ jc
   go_wp2_with fail
   refine(iM _ _ (uAM hs)).mono ?_;rintro e w' ⟨rfl,rfl⟩;generalize aM aB (l.drop (a+1))=d at *;by_cases h0:0<d
   all_goals go_wp2_with fail
   all_goals go_meet
   ·exact⟨by rw[HB.out,jc,decide_eq_true h0];simp;omega,rfl⟩
   exact⟨by rw[HB.out,jc,decide_eq_false h0];rfl,rfl⟩
  case rest=>
   obtain⟨rfl,rfl⟩:=hcut;clear HB;by_cases cn:b=0
   ·have ft:Hid (r=b):=zh (by rw[HN.out,if_pos (Or.inl cn)]);subst cn
    go_wp2
    go_ret
    exact⟨cW (by rw[ft.out];rfl),rfl⟩
   by_cases hlt:b<l.length
   ·have e1:=mV l b 101 101 rfl hlt;have e2:=mV l b 69 69 rfl hlt;have e3:((b:Int)==0)=false:=by simp;omega
    have e4:((b:Int)==(l.length:Int))=false:=by simp;omega
    go_upto_region 6 with fail
    go_cut [49] (fun v wx=>v=.bool (!(aZ l b 101||aZ l b 69))/\w=wx)
    case first=>
     cases h1:aZ l b 101 <;> cases h2:aZ l b 69
     all_goals rw[h1]at e1;rw[h2]at e2
     all_goals go_wp2
     all_goals go_meet
     all_goals exact⟨by rw[h1,h2];rfl,rfl⟩
    case rest=>
     clear e1 e2;obtain⟨rfl,rfl⟩:=hcut;cases hc:(aZ l b 101||aZ l b 69)
     ·have ft:Hid (r=b):=zh (by rw[HN.out,if_pos (Or.inr (by simpa using hc))]);clear HN
      go_wp2
      go_ret
      exact⟨cW (by rw[ft.out]),rfl⟩
     have ft:Hid (r=if 0<aM aB (l.drop (mK l b)) then mK l b+aM aB (l.drop (mK l b)) else b):=zh (by rw[HN.out,if_neg (by intro h;rcases h with h|⟨h3,h4⟩;exact cn h;rw[h3,h4]at hc;cases hc)]);clear HN
     go_upto_region 9 with fail
     go_cut [68] (fun v wx=>v=.bool (aZ l (b+1) 43||aZ l (b+1) 45)/\w=wx)
     case first=>
      by_cases hlt1:b+1<l.length
      ·have e1:=iE l (b+1) 43 43 rfl hlt1;have e2:=iE l (b+1) 45 45 rfl hlt1;cases h1:aZ l (b+1) 43 <;> cases h2:aZ l (b+1) 45
       all_goals rw[h1]at e1;rw[h2]at e2
       all_goals go_wp2
       all_goals go_meet
       all_goals exact⟨by rw[h1,h2];rfl,rfl⟩
      have h1:=iF l (b+1) 43 (by omega);have h2:=iF l (b+1) 45 (by omega)
      go_wp2
      go_meet
      exact⟨by rw[h1,h2];rfl,rfl⟩
     case rest=>
      obtain⟨rfl,rfl⟩:=hcut
      go_upto_if 68 with fail
      go_cut [5] (fun v wx=>v=.int .i64 (mK l b)/\w=wx)
      case first=>
       cases h1:(aZ l (b+1) 43||aZ l (b+1) 45)
       ·go_wp2
        go_meet
        exact⟨by unfold mK;rw[h1];rfl,rfl⟩
       have ll:b+1<l.length:=by rcases Bool.or_eq_true_iff.1 h1 with h|h <;> exact at_lt _ _ _ h
       go_wp2
       go_meet
       exact⟨by unfold mK;rw[h1];rfl,rfl⟩
      case rest=>
       obtain⟨rfl,rfl⟩:=hcut;have hp:=uHV l b hlt;generalize mK l b=p at *;have hd:=bT aB (l.drop p);rw[yk]at hd
       go_wp2_with fail
       refine(iM _ _ (uAM hs)).mono ?_;rintro e w' ⟨rfl,rfl⟩;generalize aM aB (l.drop p)=d at *;by_cases h0:0<d
       ·have m6:Hid (r=p+d):=zh (by rw[ft.out,if_pos h0]);clear ft
        go_wp2_with fail
        go_ret
        exact⟨cW (by rw[m6.out];simp),rfl⟩
       have m6:Hid (r=b):=zh (by rw[ft.out,if_neg h0]);clear ft
       go_wp2_with fail
       go_ret
       exact⟨cW (by rw[m6.out]),rfl⟩
   have ft:Hid (r=b):=zh (by rw[HN.out,if_pos (Or.inr ⟨iF _ _ _ (by omega),iF _ _ _ (by omega)⟩)]);have e3:((b:Int)==0)=false:=by simp;omega
   have e4:((b:Int)==(l.length:Int))=true:=by simp;omega
   go_wp2
   go_ret
   exact⟨cW (by rw[ft.out]),rfl⟩
theorem lA(s p:Bs)(w:World) :
  Calls Tryz.prog 75 #[.string ⟨s.toArray⟩,.string ⟨p.toArray⟩] w fun e w'=>e=.returned (.bool (Lib.hasPrefix s p))/\w=w' :=
 (Tryz.strings_HasPrefix ⟨s.toArray⟩ ⟨p.toArray⟩ w).mono fun _ _ ⟨h1,h2⟩=>⟨h1,h2.symm⟩
theorem jA(s p:Bs)(w:World) :
  Calls Tryz.prog 88 #[.string ⟨s.toArray⟩,.string ⟨p.toArray⟩] w fun e w'=>e=.returned (.tuple #[.string ⟨(Lib.trimPrefix s p).toArray⟩,.bool (Lib.hasPrefix s p)])/\w=w' :=
 (Tryz.strings_CutPrefix ⟨s.toArray⟩ ⟨p.toArray⟩ w).mono fun _ _ ⟨h1,h2⟩=>⟨h1,h2.symm⟩
theorem vZ(s p:Bs)(w:World) :
  Calls Tryz.prog 89 #[.string ⟨s.toArray⟩,.string ⟨p.toArray⟩] w fun e w'=>e=.returned (.string ⟨(Lib.trimPrefix s p).toArray⟩)/\w=w' :=
 (Tryz.strings_TrimPrefix ⟨s.toArray⟩ ⟨p.toArray⟩ w).mono fun _ _ ⟨h1,h2⟩=>⟨h1,h2.symm⟩
theorem u8_back(c:UInt8):((c.toNat:Int)).toNat.toUInt8=c:=by
 apply lS;simp[Nat.toUInt8]
theorem oI(s:Bs)(c:UInt8)(w:World) :
  Calls Tryz.prog 69 #[.string ⟨s.toArray⟩,.int .u8 (c.toNat:Int)] w fun e w'=>e=.returned (.int .i64 (Lib.indexByte s c))/\w=w' :=
 (Tryz.strings_IndexByte ⟨s.toArray⟩ (c.toNat:Int) w).mono fun _ _ ⟨h1,h2⟩=>⟨by rw[h1,u8_back],h2.symm⟩
theorem sS(c:UInt8)(a:Addr)(w:World)(uq:((c.toNat:Int)==36)=false) :
  Calls Tryz.prog 67 #[.int .u8 (c.toNat:Int),.pointer (some a)] w fun e w'=>e=.returned (.bool (cX c))/\w=w':=by
 have e95:((c.toNat:Int)==95)=(c==95):=by rw[ze,beq_iff_eq,beq_iff_eq];exact⟨fun h=>lS (by simpa using (by omega:c.toNat=95)),fun h=>by rw[h];rfl⟩
 have e46:((c.toNat:Int)==46)=(c==46):=by rw[ze,beq_iff_eq,beq_iff_eq];exact⟨fun h=>lS (by simpa using (by omega:c.toNat=46)),fun h=>by rw[h];rfl⟩
 have e36:(c==36)=false:=by rw[beq_eq_false_iff_ne];intro h;rw[h]at uq;cases uq
 have hw:cX c=(aJ c||aB c||c==95||c==46):=by unfold cX;rw[e36,Bool.or_false]
 have HW:=zh hw;clear hw
 go_enter Tryz.func67,Tryz.ntmps67
 cases h1:aJ c <;> cases h2:aB c <;> cases h3:(c==95) <;> cases h4:(c==46)
 all_goals rw[h3]at e95;rw[h4]at e46
 all_goals go_wp2_with (first |(go_at_call 43;refine(iH _ _).mono ?_;rintro e w' ⟨rfl,rfl⟩) |(go_at_call 66;refine(kS _ _).mono ?_;rintro e w' ⟨rfl,rfl⟩))
 all_goals go_ret
 all_goals exact⟨aI (by rw[HW.out,h1,h2,h3,h4];rfl),rfl⟩
theorem zS(b n:Nat)(w:World)(hc:w.cell? ⟨b,0,none⟩=some (.int .i64 n))(hf:w.frozen? ⟨b,0,none⟩=false)(hn:n<9223372036854775807) :
  Calls Tryz.prog 67 #[.int .u8 36,.pointer (some ⟨b,0,none⟩)] w fun e w'=>e=.returned (.bool true)/\w.setCell ⟨b,0,none⟩ (.int .i64 (n+1:Nat))=w':=by
 have h1:aJ 36=false:=rfl;have h2:aB 36=false:=rfl
 go_enter Tryz.func67,Tryz.ntmps67
 go_wp2_with (first |(go_at_call 43;refine(iH 36 _).mono ?_;rintro e w' ⟨rfl,rfl⟩) |(go_at_call 66;refine(kS 36 _).mono ?_;rintro e w' ⟨rfl,rfl⟩))
 go_ret
 exact⟨rfl,by simp⟩
theorem uCY(l:Bs)(b:Nat)(w:World)(hs:l.length<=maxLen)(hb:w.heap[b]?=some (.cells #[.int .i64 0] 3 (0,0))) :
  Calls Tryz.prog 65 #[.string ⟨l.toArray⟩,.func (.func 67) #[] #[.pointer (some ⟨b,0,none⟩)]] w fun e w'=>e=.returned (.int .i64 (aM cX l))/\w'.heap[b]?=some (.cells #[.int .i64 (eH (l.take (aM cX l)):Nat)] 3 (0,0))/\Below b w w':=by
 unfold maxLen at hs
 go_enter Tryz.func65,Tryz.ntmps65
 go_wp2
 go_loopw [5] (fun i wr=>∃ k:Nat,k<=l.length/\i=.int .i64 k/\k<=aM cX l/\wr.heap[b]?=some (.cells #[.int .i64 (eH (l.take k):Nat)] 3 (0,0))/\Below b w wr) (fun i _=>l.length-(intOf i).toNat)
 case atStart=>exact⟨0,zm _,rfl,zm _,hb,Below.refl _ _⟩
 case round=>
  obtain⟨k,hk,rfl,hr,kc,ay⟩:=hrel;clear hb;have HB:=zh kc;have hc:=cell_of_one kc;have hf:=free_of_one kc;have hd:=uEK (l.take k);rw[zc,Nat.min_eq_left hk]at hd;clear kc;by_cases hlt:k<l.length
  ·have hsn:eH (l.take (k+1))=eH (l.take k)+if l[k]==36 then 1 else 0:=by rw[yw hlt,yN]
   have HS:=zh hsn;clear hsn;generalize hn:eH (l.take k)=n at *;have HN:=zh hn;clear hn;cases uq:((l[k].toNat:Int)==36)
   ·have hw:Hid (eH (l.take (k+1))=n):=zh (by
     rw[HS.out,if_neg]
     ·rfl
     intro h;have:=eq_of_beq h;rw[this]at uq;cases uq)
    cases hd:cX l[k]
    ·have HQ:=zh (kW _ _ _ hr hlt hd)
     go_wp2_with (go_at_call 67;refine(sS _ _ _ uq).mono ?_;rintro e w' ⟨rfl,rfl⟩)
     go_ret
     exact⟨cW (by rw[HQ.out]),by rw[HQ.out,HN.out];exact HB.out,ay⟩
    have hq:=gI _ _ _ hr hlt hd
    go_wp2_with (go_at_call 67;refine(sS _ _ _ uq).mono ?_;rintro e w' ⟨rfl,rfl⟩)
    go_roundw
    case rel=>exact⟨k+1,by omega,by go_num,hq,by rw[hw.out];exact HB.out,ay⟩
    case measure=>simp[intOf];omega
   have h36':l[k].toNat=36:=by have:=eq_of_beq uq;omega
   have hw:Hid (eH (l.take (k+1))=n+1):=zh (by rw[HS.out,lS (c:=l[k]) (d:=36) h36'];rfl);have hq:=gI _ _ _ hr hlt (by rw[lS (c:=l[k]) (d:=36) h36'];rfl)
   go_wp2_with (go_at_call 67;refine(zS _ n _ hc hf (by omega)).mono ?_;rintro e w' ⟨rfl,rfl⟩)
   go_roundw
   case rel=>exact⟨k+1,by omega,by go_num,hq,by rw[hw.out];exact one_setCell HB.out,ay.setCell (p:=⟨b,0,none⟩) zr _⟩
   case measure=>simp[intOf];omega
  have hq:aM cX l=k:=by have:=bT cX l;omega
  have HQ:=zh hq;clear hq
  go_wp2
  go_ret
  exact⟨cW (by rw[HQ.out]),by rw[HQ.out];exact HB.out,ay⟩
theorem sign_any(c:UInt8)(l:Bs)(w:World) :
  Calls Tryz.prog 47 #[.string ⟨(c::l).toArray⟩] w fun e w'=>e=.returned (.int .i64 (eJ (c::l)))/\w=w':=by
 have hN:eJ (c::l)=if Lib.hasPrefix (c::l) [60,62]||Lib.hasPrefix (c::l) [60,61]||Lib.hasPrefix (c::l) [62,61] then 2 else if 0<=Lib.indexByte rO c then 1 else 0:=rfl
 have HN:=zh hN;clear hN;generalize eJ (c::l)=r at *
 go_enter Tryz.func47,Tryz.ntmps47
 go_wp2_with fail
 refine(lA (c::l) [60,62] _).mono ?_;rintro e w' ⟨rfl,rfl⟩;cases h1:Lib.hasPrefix (c::l) [60,62]
 ·go_wp2_with fail
  refine(lA (c::l) [60,61] _).mono ?_;rintro e w' ⟨rfl,rfl⟩;cases h2:Lib.hasPrefix (c::l) [60,61]
  ·go_wp2_with fail
   refine(lA (c::l) [62,61] _).mono ?_;rintro e w' ⟨rfl,rfl⟩;cases h3:Lib.hasPrefix (c::l) [62,61]
   ·go_wp2_with fail
    refine(oI rO c _).mono ?_;rintro e w' ⟨rfl,rfl⟩;rw[h1,h2,h3]at HN;generalize Lib.indexByte rO c=i at *;by_cases hi:0<=i
    ·have ft:Hid (r=1):=zh (by rw[HN.out,if_neg (by simp),if_pos hi]);clear HN
     go_wp2_with fail
     go_ret
     exact⟨cW (by rw[ft.out];rfl),rfl⟩
    have ft:Hid (r=0):=zh (by rw[HN.out,if_neg (by simp),if_neg hi]);clear HN
    go_wp2_with fail
    go_ret
    exact⟨cW (by rw[ft.out];rfl),rfl⟩
   rw[h1,h2,h3]at HN
   go_wp2_with fail
   go_ret
   exact⟨cW (by rw[HN.out];rfl),rfl⟩
  rw[h1,h2]at HN
  go_wp2_with fail
  go_ret
  exact⟨cW (by rw[HN.out];rfl),rfl⟩
 rw[h1]at HN
 go_wp2_with fail
 go_ret
 exact⟨cW (by rw[HN.out];rfl),rfl⟩
theorem uEY(l:Bs)(w:World)(hs:l.length<=maxLen) :
  Calls Tryz.prog 68 #[.string ⟨l.toArray⟩] w fun e w'=>e=.returned (.bool (uX l))/\w=w':=by
 have hN:uX l=uFS (Lib.hasPrefix l [36]) (Lib.trimPrefix l [36]):=rfl;have HN:=zh hN;clear hN;generalize uX l=r at *;have ht:=uDH l [36]
 go_enter Tryz.func68,Tryz.ntmps68
 go_wp2_with fail
 refine(jA l [36] _).mono ?_;rintro e w' ⟨rfl,rfl⟩;generalize Lib.hasPrefix l [36]=fixed at *;generalize Lib.trimPrefix l [36]=s at *;have hs1:s.length<=maxLen:=by omega
 have hle:=bT aJ s;unfold maxLen at hs
 go_wp2_with fail
 refine(wM _ _ hs1).mono ?_;rintro e w' ⟨rfl,rfl⟩;unfold uFS at HN;generalize aM aJ s=n at *;by_cases h3:3<n
 ·rw[if_pos h3]at HN
  go_wp2_with fail
  go_ret
  exact⟨aI (by rw[HN.out]),rfl⟩
 rw[if_neg h3]at HN;have hd:(s.drop n).length<=s.length:=by rw[yk];omega
 go_upto_region 6 with fail
 generalize s.drop n=t at *;have ou:=uDH t [36];rcases t with _|⟨c,t⟩
 ·rw[if_pos (by rfl)]at HN;cases fixed <;> by_cases h0:0<n
  all_goals go_wp2_with fail
  all_goals go_ret
  ·exact⟨aI (by rw[HN.out];rfl),rfl⟩
  ·exact⟨aI (by rw[HN.out];rfl),rfl⟩
  ·exact⟨aI (by rw[HN.out];simp[h0]),rfl⟩
  exact⟨aI (by rw[HN.out];simp[h0]),rfl⟩
 rw[if_neg (by simp)]at HN;by_cases h0:0<n
 ·rw[if_pos h0]at HN
  go_wp2_with fail
  refine(vZ (c::t) [36] _).mono ?_;rintro e w' ⟨rfl,rfl⟩;generalize Lib.trimPrefix (c::t) [36]=u at *;have hu:u.length<=maxLen:=by omega
  go_wp2_with fail
  refine(iM u _ hu).mono ?_;rintro e w' ⟨rfl,rfl⟩;have hm:=bT aB u;unfold uHW at HN;unfold maxLen at hu;generalize aM aB u=m at *;by_cases e1:m=u.length
  ·have b1:((m:Int)==(u.length:Int))=true:=by simp;omega
   by_cases e2:1<=m
   ·by_cases e3:m<=7
    ·have hp:0<u.length:=by omega
     have e4:=mV u 0 48 48 rfl hp;have HT:Hid (r=!aZ u 0 48):=zh (by rw[HN.out];simp[e1];omega);clear HN e1
     go_wp2_with fail
     go_ret
     exact⟨aI (by rw[HT.out]),rfl⟩
    have HT:Hid (r=false):=zh (by rw[HN.out];simp[e3]);clear HN e1
    go_wp2_with fail
    go_ret
    exact⟨aI (by rw[HT.out]),rfl⟩
   have HT:Hid (r=false):=zh (by rw[HN.out];simp[e2]);clear HN e1
   go_wp2_with fail
   go_ret
   exact⟨aI (by rw[HT.out]),rfl⟩
  have b1:((m:Int)==(u.length:Int))=false:=by simp;omega
  have HT:Hid (r=false):=zh (by rw[HN.out];simp[e1]);clear HN e1
  go_wp2_with fail
  go_ret
  exact⟨aI (by rw[HT.out]),rfl⟩
 rw[if_neg h0]at HN;cases fixed
 ·go_wp2_with fail
  go_ret
  exact⟨aI (by rw[HN.out];rfl),rfl⟩
 rw[if_pos (by rfl)]at HN
 go_upto_region 12 with fail
 have hu:(c::t).length<=maxLen:=by omega
 clear ou;generalize c::t=u at *
 go_wp2_with fail
 refine(iM u _ hu).mono ?_;rintro e w' ⟨rfl,rfl⟩;have hm:=bT aB u;unfold uHW at HN;unfold maxLen at hu;generalize aM aB u=m at *;by_cases e1:m=u.length
 ·have b1:((m:Int)==(u.length:Int))=true:=by simp;omega
  by_cases e2:1<=m
  ·by_cases e3:m<=7
   ·have hp:0<u.length:=by omega
    have e4:=mV u 0 48 48 rfl hp;have HT:Hid (r=!aZ u 0 48):=zh (by rw[HN.out];simp[e1];omega);clear HN e1
    go_wp2_with fail
    go_ret
    exact⟨aI (by rw[HT.out]),rfl⟩
   have HT:Hid (r=false):=zh (by rw[HN.out];simp[e3]);clear HN e1
   go_wp2_with fail
   go_ret
   exact⟨aI (by rw[HT.out]),rfl⟩
  have HT:Hid (r=false):=zh (by rw[HN.out];simp[e2]);clear HN e1
  go_wp2_with fail
  go_ret
  exact⟨aI (by rw[HT.out]),rfl⟩
 have b1:((m:Int)==(u.length:Int))=false:=by simp;omega
 have HT:Hid (r=false):=zh (by rw[HN.out];simp[e1]);clear HN e1
 go_wp2_with fail
 go_ret
 exact⟨aI (by rw[HT.out]),rfl⟩
abbrev tokV(x:Nat×Bs×Nat):Value:=.tuple #[.int .i64 x.1,.string ⟨x.2.1.toArray⟩,.int .i64 x.2.2]
theorem uIA{x:Nat×Bs×Nat}{k:Int}{t:Bs}{n:Int}(h:(k,t,n)=((x.1:Int),x.2.1,(x.2.2:Int))):Ending.returned (.tuple #[.int .i64 k,.string ⟨t.toArray⟩,.int .i64 n])=.returned (tokV x):=by
 simp only[Prod.mk.injEq]at h;obtain⟨rfl,rfl,rfl⟩:=h;rfl
theorem word_any(l:Bs)(w:World)(hs:l.length<=maxLen) :
  Calls Tryz.prog 44 #[.string ⟨l.toArray⟩] w fun e w'=>e=.returned (tokV (mS l))/\Below w.heap.size w w':=by
 have hN:mS l=if uX (l.take (aM cX l)) then (4,l.take (aM cX l),aM cX l) else if eH (l.take (aM cX l))=0 then (3,l.take (aM cX l),aM cX l) else (0,[],0):=rfl
 have HN:=zh hN;clear hN;have hr:=bT cX l;have rh:=hs;unfold maxLen at rh;generalize mS l=r at *
 go_enter Tryz.func44,Tryz.ntmps44
 go_wp2_with fail
 refine(uCY l w.heap.size _ hs (heap_alloc_new w _)).mono ?_;rintro e w1 ⟨rfl,af,ay⟩;generalize aM cX l=n at *;have hc:=cell_of_one af;have HB:Below w.heap.size w w1:=((Below.refl _ w).alloc zr _).trans ay;have ht:(l.take n).length<=maxLen:=by rw[zc];omega
 clear af ay
 go_wp2_with fail
 generalize l.take n=t at *;refine(uEY t _ ht).mono ?_;rintro e w' ⟨rfl,rfl⟩;cases hm:uX t
 ·rw[hm,if_neg (by simp)]at HN;by_cases hd:eH t=0
  ·rw[if_pos hd]at HN;have hd':(((eH t:Nat):Int)==0)=true:=by simp;omega
   have HD:=zh hd;clear hd
   go_wp2_with fail
   go_ret3
   exact⟨by rw[HN.out];rfl,HB⟩
  rw[if_neg hd]at HN;have hd':(((eH t:Nat):Int)==0)=false:=by simp;omega
  go_wp2_with fail
  go_ret3
  exact⟨by rw[HN.out];rfl,HB⟩
 rw[hm,if_pos rfl]at HN
 go_wp2_with fail
 go_ret3
 exact⟨by rw[HN.out];rfl,HB⟩
end Go.Proofs.YtmgjidnalpgegaaGreatDoor
set_option linter.unusedVariables false
namespace Go.Proofs.YtmgjidnalpgegaaGreatDoor
open Go.RowKit
theorem sO:(Tryz.prog.info? 116).map (·.size)=some 2:=by kernel_rfl
theorem uBL:liesAt Tryz.prog Tryz.prog.depth 116 (2 / Tryz.prog.cellsOf 116) 0 116 1=true:=by kernel_rfl
theorem uBA:(Tryz.prog.info? 5).map (fun i=>(i.zero,i.size,i.bytes))=some (some (.int .u8 0),1,1):=by kernel_rfl
set_option maxRecDepth 100000 in
theorem tP(b:Nat)(w:World)(h0:w.cell? ⟨b,0,none⟩=some (.pointer (some ⟨b,0,none⟩))) :
  Calls Tryz.prog 91 #[.pointer (some ⟨b,0,none⟩)] w fun e w'=>e=.returned (.tuple #[])/\w=w':=by
 obtain⟨j,hj,_⟩:=Option.map_eq_some_iff.1 sO
 go_enter Tryz.func91,Tryz.ntmps91
 go_wp2
 rw[Lib.run_neq_ptr_same w _ Tryz.underlying114 hj]
 go_wp2
 go_end0
 exact⟨rfl,rfl⟩
set_option maxRecDepth 100000 in
theorem sT(b:Nat)(w:World)(h0:w.cell? ⟨b,0,none⟩=some (.pointer none))(hsh:w.shape? b=some (116,2))(hfz:w.frozen? ⟨b,0,none⟩=false) :
  Calls Tryz.prog 91 #[.pointer (some ⟨b,0,none⟩)] w fun e w'=>e=.returned (.tuple #[])/\w.setCell ⟨b,0,none⟩ (.pointer (some ⟨b,0,none⟩))=w':=by
 obtain⟨j,hj,hjs⟩:=Option.map_eq_some_iff.1 sO
 go_enter Tryz.func91,Tryz.ntmps91
 go_wp2
 rw[Lib.run_to_unsafe w ⟨b,0,none⟩ Tryz.underlying114 Tryz.underlying139 hj (by rw[hjs];decide) hsh (Nat.zero_lt_succ 1)];simp only[Result.andThen];rw[Oper.upon_value]
 go_wp2
 rw[run_callFunc_extern Tryz.func106 (by kernel_rfl) (by kernel_rfl) (by kernel_rfl) (e:=Extern.AbiNoEscape.same) (by kernel_rfl)];rw[Lib.run_noEscape];simp only[Result.andThen];rw[Oper.upon_value]
 go_wp2
 rw[Lib.run_from_unsafe w ⟨b,0,none⟩ Tryz.underlying139 Tryz.underlying114 hj hsh uBL];simp only[Result.andThen];rw[Oper.upon_value]
 go_wp2
 go_end0
 exact⟨rfl,rfl⟩
theorem oH(B b:Nat)(bs:List Value)(w:World)(h:Lib.IsBuilder 116 5 B b bs w) :
  Calls Tryz.prog 91 #[.pointer (some ⟨b,0,none⟩)] w fun e w'=>e=.returned (.tuple #[])/\(Lib.BuilderAt 116 5 B b (.pointer (some ⟨b,0,none⟩)) bs w'/\Below B w w'):=by
 rcases h with h|h
 ·refine(sT b w h.cell0 h.shape h.frozen0).mono ?_;rintro e w' ⟨rfl,rfl⟩;exact⟨rfl,h.used _,(Below.refl B w).setCell (p:=⟨b,0,none⟩) h.1 _⟩
 refine(tP b w h.cell0).mono ?_;rintro e w' ⟨rfl,rfl⟩;exact⟨rfl,h,Below.refl B _⟩
theorem wQ(B b:Nat)(l:Bs)(c:UInt8)(w:World)(h:Lib.IsBuilder 116 5 B b (Lib.byteCells l) w)(hlen:l.length+1<=140737488355328)(hBw:B<=w.heap.size) :
  Calls Tryz.prog 72 #[.pointer (some ⟨b,0,none⟩),.int .u8 (c.toNat:Int)] w fun e w'=>e=.returned .nilIface/\(Lib.IsBuilder 116 5 B b (Lib.byteCells (l++[c])) w'/\Below B w w'):=by
 have jw:(Lib.byteCells l).length=l.length:=Lib.byteCells_length l;have e1:Lib.byteCells (l++[c])=Lib.byteCells l++[.int .u8 (c.toNat:Int)]:=by simp[Lib.byteCells]
 have hlen:(Lib.byteCells l).length+1<=140737488355328:=by omega
 have E1:=zh e1;clear jw e1;generalize Lib.byteCells l=bs at *;obtain⟨i0,hi,ke,jt,j5⟩:=info_parts uBA
 go_enter Tryz.func72,Tryz.ntmps72
 go_wp2_with (go_at_call 91;refine(oH B b bs _ h).mono ?_)
 rintro e w1 ⟨rfl,h1,af⟩;obtain⟨hB,v,kc,al,bp⟩:=h1;have c0:w1.cell? ⟨b,0,none⟩=some (.pointer (some ⟨b,0,none⟩)):=by rw[Lib.cell_of_heap kc];rfl
 have c1:w1.cell? ⟨b,1,none⟩=some v:=by rw[Lib.cell_of_heap kc];rfl
 go_wp2_with (at_builtin;refine wpList_append_own _ rfl _ _ 77 rfl B 5 i0 (.int .u8 0) 1 1 Tryz.underlying77 hi ke jt j5 rfl (by decide) _ _ _ rfl (al.alloc _) ⟨w1.heap.size,0,none⟩ 1 1 [.int .u8 (c.toNat:Int)] rfl rfl ?c1 ?c2 ?c3 ?c4 ?c5 ?_)
 case c1=>
  intro j u hj
  match j,hj with
  |0,hj=>simp at hj;subst hj;simp[Addr.add]
 case c2=>intro u hu;simp at hu;subst hu;rfl
 case c3=>unfold maxLen;omega
 case c4=>omega
 case c5=>have:=af.size;simp;omega
 intro v' w2 dm cu _;have hlt:b<w1.heap.size:=by
  rcases Nat.lt_or_ge b w1.heap.size with h'|h'
  ·exact h'
  simp[Array.getElem?_eq_none h']at kc
 have bf:w2.heap[b]?=some (.cells #[.pointer (some ⟨b,0,none⟩),v] 116 (0,0)):=by
  rw[cu.block b (by simp;omega) (fun e=>bp e.symm),Lib.alloc_old w1 _ b hlt];exact kc
 have d0:w2.cell? ⟨b,0,none⟩=some (.pointer (some ⟨b,0,none⟩)):=by rw[Lib.cell_of_heap bf];rfl
 have d1:w2.cell? ⟨b,1,none⟩=some v:=by rw[Lib.cell_of_heap bf];rfl
 have f1:w2.frozen? ⟨b,1,none⟩=false:=Lib.frozen_of_heap bf 1;obtain⟨g,cap,rfl⟩:∃ g cap,v'=.slice (some ⟨g,0,none⟩) (bs.length+1) cap:=by
  rcases dm.2 with⟨_,h0⟩|⟨g,cap,cur,hv,_⟩
  ·omega
  exact⟨g,cap,hv⟩
 go_wp2
 go_ret
 refine⟨rfl,?_,?_⟩
 ·rw[E1.out];exact .inr (Lib.BuilderAt.put (T:=116) (e:=5) hB bf (bs':=bs++[.int .u8 (c.toNat:Int)]) (by simpa using dm) (by decide))
 exact((af.alloc (by have:=af.size;omega) _).grown cu (by have:=af.size;simp;omega) (fun k hk=>(al.lt k hk).1)).setCell (p:=⟨b,1,none⟩) hB _
theorem sW(B b:Nat)(l t:Bs)(w:World)(h:Lib.IsBuilder 116 5 B b (Lib.byteCells l) w)(hlen:l.length+t.length<=140737488355328)(hBw:B<=w.heap.size) :
  Calls Tryz.prog 70 #[.pointer (some ⟨b,0,none⟩),.string ⟨t.toArray⟩] w fun e w'=>e=.returned (.tuple #[.int .i64 t.length,.nilIface])/\(Lib.IsBuilder 116 5 B b (Lib.byteCells (l++t)) w'/\Below B w w'):=by
 have jw:(Lib.byteCells l).length=l.length:=Lib.byteCells_length l;have e1:Lib.byteCells (l++t)=Lib.byteCells l++Lib.strCells ⟨t.toArray⟩:=by rw[Lib.byteCells_append,Lib.strCells_eq]
 have hlen:(Lib.byteCells l).length+t.length<=140737488355328:=by omega
 have E1:=zh e1;clear jw e1;generalize Lib.byteCells l=bs at *;have bg:(ByteArray.mk t.toArray).size=t.length:=by simp[ByteArray.size]
 have hb:bs.length+(ByteArray.mk t.toArray).size<=140737488355328:=by omega
 obtain⟨i0,hi,ke,jt,j5⟩:=info_parts uBA;have cr:=zh bg;clear bg
 go_enter Tryz.func70,Tryz.ntmps70
 go_wp2_with (go_at_call 91;refine(oH B b bs _ h).mono ?_)
 rintro e w1 ⟨rfl,h1,af⟩;obtain⟨hB,v,kc,al,bp⟩:=h1;have c0:w1.cell? ⟨b,0,none⟩=some (.pointer (some ⟨b,0,none⟩)):=by rw[Lib.cell_of_heap kc];rfl
 have c1:w1.cell? ⟨b,1,none⟩=some v:=by rw[Lib.cell_of_heap kc];rfl
 go_wp2_with (at_builtin;refine Lib.wpList_append_own_string _ rfl _ _ 77 9 rfl B 5 i0 Tryz.underlying77 Tryz.underlying9 hi ke jt j5 _ _ _ rfl al ⟨t.toArray⟩ rfl ?c3 ?c4 ?c5 ?_)
 case c3=>unfold maxLen;omega
 case c4=>omega
 case c5=>have:=af.size;omega
 intro v' w2 dm cu _;have hlt:b<w1.heap.size:=by
  rcases Nat.lt_or_ge b w1.heap.size with h'|h'
  ·exact h'
  simp[Array.getElem?_eq_none h']at kc
 have bf:w2.heap[b]?=some (.cells #[.pointer (some ⟨b,0,none⟩),v] 116 (0,0)):=by
  rw[cu.block b hlt (fun e=>bp e.symm)];exact kc
 have d0:w2.cell? ⟨b,0,none⟩=some (.pointer (some ⟨b,0,none⟩)):=by rw[Lib.cell_of_heap bf];rfl
 have d1:w2.cell? ⟨b,1,none⟩=some v:=by rw[Lib.cell_of_heap bf];rfl
 have f1:w2.frozen? ⟨b,1,none⟩=false:=Lib.frozen_of_heap bf 1;obtain⟨ao,n',cap,rfl⟩:∃ ao n' cap,v'=.slice ao n' cap:=by
  rcases dm.2 with⟨hv,_⟩|⟨g,cap,cur,hv,_⟩
  ·exact⟨_,_,_,hv⟩
  exact⟨_,_,_,hv⟩
 go_wp2
 go_ret2
 refine⟨rfl,?_,?_⟩
 ·rw[E1.out];exact .inr (Lib.BuilderAt.put (T:=116) (e:=5) hB bf (bs':=bs++Lib.strCells ⟨t.toArray⟩) (by simpa [Lib.strCells_length,ByteArray.size] using dm) (by decide))
 exact(af.grown cu (by have:=af.size;omega) (fun k hk=>(al.lt k hk).1)).setCell (p:=⟨b,1,none⟩) hB _
theorem oS(l:Bs)(w:World):∃ (cap:Nat) (W1:World),(convert 9 77 (.string ⟨l.toArray⟩)).run Tryz.prog w=.ok (.slice (some ⟨w.heap.size,0,none⟩) l.length cap) W1/\Row W1 w.heap.size l/\Below w.heap.size w W1:=by
 have h:=run_bytes_of_string (P:=Tryz.prog) w 9 77 5 ⟨l.toArray⟩ Tryz.underlying9 Tryz.underlying77 Tryz.underlying5;have bg:(ByteArray.mk l.toArray).size=l.length:=by simp[ByteArray.size]
 rw[bg]at h;refine⟨_,_,h,?_,(Below.refl _ w).drew.alloc zr _⟩;intro j hj;have e:(w.drew).heap.size=w.heap.size:=rfl;have hlen:(bytesRow ⟨l.toArray⟩ (grownCap w l.length 0 5)).size >= l.length:=by simp[bytesRow]
 refine⟨?_,?_⟩
 ·have:=World.cell?_alloc_mark w.drew (bytesRow ⟨l.toArray⟩ (grownCap w l.length 0 5)) 5 ((bytesRow ⟨l.toArray⟩ (grownCap w l.length 0 5)).size,(bytesRow ⟨l.toArray⟩ (grownCap w l.length 0 5)).size+1) j;rw[e]at this;rw[this];unfold bytesRow;rw[Array.getElem?_append_left (by simpa using hj)];simp[hj]
 have:=World.frozen?_alloc_mark w.drew (bytesRow ⟨l.toArray⟩ (grownCap w l.length 0 5)) 5 (bytesRow ⟨l.toArray⟩ (grownCap w l.length 0 5)).size ((bytesRow ⟨l.toArray⟩ (grownCap w l.length 0 5)).size+1) j;rw[e]at this;rw[this];simp;omega
theorem uIY(m:Bs)(w:World)(b cap n:Nat)(hn:m.length=n)(h:Row w b m):(convert 77 9 (.slice (some ⟨b,0,none⟩) n cap)).run Tryz.prog w=.ok (.string ⟨m.toArray⟩) w:=by
 subst hn;refine run_convert_bytes_back w 77 9 5 ⟨b,0,none⟩ cap m Tryz.underlying77 Tryz.underlying5 Tryz.underlying9 (fun j hj=>?_);rw[<- (h j hj).1];unfold Addr.add;by_cases e:j=0
 ·simp[e]
 simp[e]
theorem uEP(l:Bs)(w:World)(hs:l.length<=maxLen) :
  Calls Tryz.prog 92 #[.string ⟨l.toArray⟩] w fun e w'=>e=.returned (.string ⟨(aN l).toArray⟩)/\Below w.heap.size w w':=by
 unfold maxLen at hs;obtain⟨cap,W1,hconv,bj,ay⟩:=oS l w;have HR:=zh bj;clear bj
 go_enter Tryz.func92,Tryz.ntmps92
 go_wp2
 go_loopw [10] (fun i wr=>∃ k:Nat,k<=l.length/\i=.int .i64 k/\Hid (Row wr w.heap.size (mU l k))/\Below w.heap.size w wr) (fun i _=>l.length-(intOf i).toNat)
 case atStart=>exact⟨0,zm _,rfl,zh (by simpa [mU,aN] using HR.out),ay⟩
 case round=>
  obtain⟨k,hk,rfl,hr,hb⟩:=hrel;clear ay HR hconv;by_cases hlt:k<l.length
  ·have hlen:k<(mU l k).length:=by rw[uAX];exact hlt
   have hc:=(hr.out k hlen).1;have hf:=(hr.out k hlen).2;rw[uAW l k hlt hlen]at hc;cases kj:jE l[k]
   ·have hsame:=zh (uJH l k hlt (qN _ kj));have m8:¬ (97<=(l[k].toNat:Int)/\(l[k].toNat:Int)<=122):=by
     intro h;have:jE l[k]=true:=(iR _).2 ⟨by omega,by omega⟩;rw[kj]at this;cases this
    go_wp2
    all_goals go_roundw
    all_goals first
     |exact⟨k+1,by omega,by go_num,by rw[<- hsame.out];exact hr,hb⟩
     |(simp[intOf];omega)
   have hyes:=(iR _).1 kj;have HU:=zh (uAY l k hlt);have hval:(((up l[k]).toNat:Nat):Int)=(l[k].toNat:Int)-97+65:=by have:=up_low _ kj;omega
   have HV:=zh hval;clear hval;obtain⟨h97,h122⟩:=hyes
   go_wp2
   go_roundw
   case rel=>exact⟨k+1,by omega,by go_num,by rw[<- HU.out];exact zh (by rw[<- HV.out];exact hr.out.set k _),hb.setCell (p:=⟨w.heap.size,k,none⟩) zr _⟩
   case measure=>simp[intOf];omega
  have hk':k=l.length:=by omega
  have kl:mU l k=aN l:=by rw[hk'];exact half_all l
  have j7:Row wr w.heap.size (aN l):=by rw[<- kl];exact hr.out
  have hback:=uIY (aN l) wr w.heap.size cap l.length (fL l) j7;have ce:=zh j7;clear j7 kl hr hk'
  go_wp2
  go_ret
  exact⟨rfl,hb⟩
theorem lG(l:Bs)(w:World)(hs:l.length<=maxLen) :
  Calls Tryz.prog 74 #[.string ⟨l.toArray⟩] w fun e w'=>e=.returned (.string ⟨(aN l).toArray⟩)/\Below w.heap.size w w':=by
 have rh:=hs;unfold maxLen at rh
 go_enter Tryz.func74,Tryz.ntmps74
 go_wp2
 go_loop [6] (fun i=>∃ k:Nat,k<=l.length/\i=.int .i64 k/\Hid (∀ c∈l.take k,jE c=false)) (fun i=>l.length-(intOf i).toNat)
 case atStart=>exact⟨0,zm _,rfl,zh (by simp)⟩
 case round=>
  obtain⟨k,hk,rfl,hr⟩:=hrel;by_cases hlt:k<l.length
  ·cases kj:jE l[k]
   ·have m8:¬ (97<=(l[k].toNat:Int)/\(l[k].toNat:Int)<=122):=by
     intro h;have:jE l[k]=true:=(iR _).2 ⟨by omega,by omega⟩;rw[kj]at this;cases this
    have j7:Hid (∀ c∈l.take (k+1),jE c=false):=zh (by
     rw[yw hlt];intro c hc;rcases List.mem_append.1 hc with h|h
     ·exact hr.out c h
     simp at h;rw[h];exact kj)
    go_wp2_with fail
    all_goals go_round
    all_goals first
     |exact⟨k+1,by omega,by go_num,j7⟩
     |(simp[intOf];omega)
   obtain⟨h1,h2⟩:=(iR _).1 kj
   go_wp2_with fail
   refine(uEP l _ hs).mono ?_;rintro e w1 ⟨rfl,hb⟩
   go_wp2_with fail
   go_ret
   exact⟨rfl,hb⟩
  have kl:Hid (aN l=l):=zh (uW l (by rw[List.take_of_length_le (by omega)]at hr;exact hr.out))
  go_wp2_with fail
  go_ret
  exact⟨by rw[kl.out];rfl,Below.refl _ _⟩
def dE:Nat->Bs
 |1=>[35,68,73,86,47,48,33]
 |2=>[35,86,65,76,85,69,33]
 |3=>[35,82,69,70,33]
 |4=>[35,78,65,77,69,63]
 |5=>[35,78,85,77,33]
 |6=>[35,78,47,65]
 |7=>[35,83,80,73,76,76,33]
 |8=>[35,67,73,82,67,33]
 |9=>[35,67,65,76,67,33]
 |_=>[]
def Tab(w:World):Prop:=∀ i,i<10->w.cell? ⟨0,i,none⟩=some (.string ⟨(dE i).toArray⟩)
theorem uO{w:World}{a:Addr}{v:Value}(h:w.cell? a=some v):a.block<w.heap.size:=by
 rcases Nat.lt_or_ge a.block w.heap.size with h1|h1
 ·exact h1
 unfold World.cell? at h;simp[Array.getElem?_eq_none h1]at h
theorem Tab.lt{w:World}(h:Tab w):0<w.heap.size:=uO (h 0 (by decide))
theorem Tab.below{w w':World}{B:Nat}(h:Tab w)(hb:Below B w w')(hB:0<B):Tab w':=fun i hi=>(hb.cell (p:=⟨0,i,none⟩) hB).trans (h i hi)
theorem Tab.next{w w':World}(h:Tab w)(hb:Below w.heap.size w w'):Tab w':=h.below hb h.lt
def gW(n:Int):Bs:=if 1<=n/\n<=9 then dE n.toNat else []
theorem wF(n:Int)(w:World)(ht:Tab w) :
  Calls Tryz.prog 73 #[.int .i64 n] w fun e w'=>e=.returned (.string ⟨(gW n).toArray⟩)/\w=w':=by
 by_cases h:1<=n/\n<=9
 ·have hN:gW n=dE n.toNat:=if_pos h;have HN:=zh hN;clear hN;obtain⟨h1,h2⟩:=h;have hc:=ht n.toNat (by omega);clear ht;generalize gW n=r at *;generalize dE n.toNat=t at *
  go_enter Tryz.func73,Tryz.ntmps73
  go_wp2
  go_ret
  exact⟨by rw[HN.out];rfl,rfl⟩
 have hN:gW n=[]:=if_neg h;have HN:=zh hN;clear hN ht;generalize gW n=r at *;by_cases h1:1<=n
 ·have h2:9<n:=by omega
  clear h
  go_enter Tryz.func73,Tryz.ntmps73
  go_wp2
  go_ret
  exact⟨by rw[HN.out];rfl,rfl⟩
 clear h
 go_enter Tryz.func73,Tryz.ntmps73
 go_wp2
 go_ret
 exact⟨by rw[HN.out];rfl,rfl⟩
theorem uGB(l:Bs)(w:World)(hp:0<l.length)(hs:l.length<=140737488351232) :
  Calls Tryz.prog 45 #[.string ⟨l.toArray⟩] w fun e w'=>e=.returned (tokV (fF l))/\Below w.heap.size w w':=by
 have HP:=zh (QInv.start l hp)
 go_enter Tryz.func45,Tryz.ntmps45
 go_wp2_with fail
 go_loopw [6] (fun i wr=>∃ (k:Nat) (acc:Bs),i=.int .i64 k/\Hid (QInv l acc k)/\Hid (Lib.IsBuilder 116 5 w.heap.size w.heap.size (Lib.byteCells acc) wr)/\Hid (Below w.heap.size w wr)) (fun i _=>l.length+1-(intOf i).toNat)
 case atStart=>exact⟨1,[],rfl,HP,zh (Lib.fresh_isBuilder _ _ w),zh ((Below.refl _ w).alloc zr _)⟩
 case round=>
  obtain⟨k,acc,rfl,hq,hbu,ay⟩:=hrel;clear HP;have dc:=hq.out.1;have fg:=hq.out.2.1;have ur:=hq.out.2.2.1
  go_wp2_with fail
  have hidx:=Lib.indexByte_ge (l.drop k) 34;refine(oI (l.drop k) 34 _).mono ?_;rintro e w' ⟨rfl,rfl⟩;generalize hI:Lib.indexByte (l.drop k) 34=i at *;have HI:=zh hI;clear hI;by_cases hi:i<0
  ·have hf:Hid (fF l=(0,[],0)):=zh (hq.out.fail (by rw[HI.out];exact hi))
   go_wp2_with fail
   go_ret3
   exact⟨by rw[hf.out];rfl,ay.out⟩
  obtain⟨n,rfl⟩:=Int.eq_ofNat_of_zero_le (by omega:0<=i);have hsp:=(hq.out.split HI.out).1;have hlen:acc.length+((l.drop k).take n).length<=140737488355328:=by rw[zc];omega
  go_wp2_with fail
  refine(sW w.heap.size w.heap.size acc ((l.drop k).take n) _ hbu.out hlen ay.out.size).mono ?_;rintro e w1 ⟨rfl,hbu1,af⟩;have HBU:=zh hbu1;have HB:Hid (Below w.heap.size w w1):=zh (ay.out.trans af);clear hbu1 af hbu ay;by_cases hend:k+(n+1)=l.length
  ·have jl:Hid (fF l=(2,acc++(l.drop k).take n,k+n+1)):=zh (hq.out.stop HI.out (iF _ _ _ (by omega)));have b1:((k:Int)+((n:Int)+1)==(l.length:Int))=true:=by rw[beq_iff_eq];omega
   clear hend
   go_wp2_with fail
   refine(Tryz.Builder_String_any w.heap.size w.heap.size (acc++(l.drop k).take n) _ HBU.out HB.out.size).mono ?_;rintro e w2 ⟨rfl,bf⟩;have co:Hid (Below w.heap.size w w2):=zh (HB.out.trans bf);clear bf
   go_wp2_with fail
   go_ret3
   exact⟨by rw[jl.out];exact uIA (by simp;omega),co.out⟩
  have hlt:k+(n+1)<l.length:=by omega
  have b1:((k:Int)+((n:Int)+1)==(l.length:Int))=false:=by rw[beq_eq_false_iff_ne];omega
  have e34:=mV l (k+(n+1)) 34 34 rfl hlt;clear hend;cases ov:aZ l (k+(n+1)) 34
  ·have jl:Hid (fF l=(2,acc++(l.drop k).take n,k+n+1)):=zh (hq.out.stop HI.out ov);rw[ov]at e34
   go_wp2_with fail
   refine(Tryz.Builder_String_any w.heap.size w.heap.size (acc++(l.drop k).take n) _ HBU.out HB.out.size).mono ?_;rintro e w2 ⟨rfl,bf⟩;have co:Hid (Below w.heap.size w w2):=zh (HB.out.trans bf);clear bf
   go_wp2_with fail
   go_ret3
   exact⟨by rw[jl.out];exact uIA (by simp;omega),co.out⟩
  have sm:=zh (hq.out.next HI.out ov);rw[ov]at e34;have jw:(acc++(l.drop k).take n).length+1<=140737488355328:=by rw[yl,zc];omega
  go_wp2_with fail
  refine(wQ w.heap.size w.heap.size (acc++(l.drop k).take n) 34 _ HBU.out jw HB.out.size).mono ?_;rintro e w2 ⟨rfl,hbu2,bf⟩;have HBU2:=zh hbu2;have co:Hid (Below w.heap.size w w2):=zh (HB.out.trans bf);clear hbu2 bf
  go_wp2_with fail
  go_roundw
  case rel=>exact⟨k+n+1+1,_,by go_num,sm,HBU2,co⟩
  case measure=>simp[intOf];omega
theorem tX(p:Nat->Bool)(n k:Nat)(h1:1<=k)(h2:k<n+1)(hk:p k=true)(h:∀ j,1<=j->j<k->p j=false):(List.range' 1 n).find? p=some k:=by
 rw[List.find?_range'_eq_some];refine⟨hk,by simp[List.mem_range'_1];omega,fun j hj1 hj2=>by rw[h j hj1 hj2];rfl⟩
theorem uHH(p:Nat->Bool)(n:Nat)(h:∀ j,1<=j->j<n+1->p j=false):(List.range' 1 n).find? p=none:=by
 rw[List.find?_eq_none];intro j hj;rw[List.mem_range'_1]at hj;rw[h j hj.1 (by omega)]
 decide
def gQ(l:Bs)(k:Nat):Bool:=decide ((dE k).length<=l.length)&&(aN (l.take (dE k).length)==dE k)
def lD(l:Bs):Option Nat:=if aZ l 0 35 then (List.range' 1 9).find? (gQ l) else none
def cL(l:Bs):Bs:=match lD l with|some k=>dE k|none=>[]
theorem uAR(L:Bs)(w:World)(hp:0<L.length)(hs:L.length<=maxLen)(ht:Tab w) :
  Calls Tryz.prog 46 #[.string ⟨L.toArray⟩] w fun e w'=>e=.returned (.tuple #[.string ⟨(cL L).toArray⟩,.int .i64 (cL L).length])/\Below w.heap.size w w':=by
 have e35:=mV L 0 35 35 rfl hp;have hN:lD L=if aZ L 0 35 then (List.range' 1 9).find? (gQ L) else none:=rfl
 cases m9:aZ L 0 35
 ·have hB:cL L=[]:=by unfold cL;rw[hN,m9];rfl
  rw[m9]at e35;rw[hB];clear hN hB ht
  go_enter Tryz.func46,Tryz.ntmps46
  go_wp2_with fail
  go_ret2
  exact⟨rfl,Below.refl _ _⟩
 rw[m9]at e35 hN;rw[if_pos rfl]at hN;have HN:=zh hN;clear hN;have HT:=zh ht;clear ht;have HB:Hid (cL L=match lD L with|some k=>dE k|none=>[]):=zh rfl;generalize cL L=R at *;have rh:=hs;unfold maxLen at rh
 go_enter Tryz.func46,Tryz.ntmps46
 go_wp2_with fail
 go_loopw [4] (fun i wr=>∃ k:Nat,1<=k/\k<=10/\i=.int .i64 k/\Hid (∀ j,1<=j->j<k->gQ L j=false)/\Hid (Below w.heap.size w wr)) (fun i _=>10-(intOf i).toNat)
 case atStart=>exact⟨1,by omega,by omega,rfl,zh (fun j h1 h2=>by omega),zh (Below.refl _ _)⟩
 case round=>
  obtain⟨k,dc,fg,rfl,hr,ay⟩:=hrel;have ou:Hid (Tab wr):=zh (HT.out.next ay.out);by_cases hlt:k<=9
  ·have hft:Hid (gW (k:Int)=dE k):=zh (by unfold gW;rw[if_pos (by omega)];simp)
   go_wp2_with fail
   refine(wF (k:Int) _ ou.out).mono ?_;rintro e w' ⟨rfl,rfl⟩;rw[hft.out];have hA:gQ L k=(decide ((dE k).length<=L.length)&&(aN (L.take (dE k).length)==dE k)):=rfl;have HA:=zh hA;have HF:Hid (lD L=some k->R=dE k):=zh (by intro h;rw[HB.out,h]);clear hA hft;generalize dE k=t at *;by_cases hle:t.length<=L.length
   ·go_wp2_with fail
    refine(lG (L.take t.length) _ (by rw[zc];omega)).mono ?_;rintro e w1 ⟨rfl,af⟩;generalize aN (L.take t.length)=u at *;have bf:Hid (Below w.heap.size w w1):=zh (ay.out.trans (af.mono ay.out.size));clear af;cases hu:(u==t)
    ·have hq:Hid (gQ L k=false):=zh (by rw[HA.out,hu];simp)
     go_wp2_with fail
     go_roundw
     case rel=>
      refine⟨k+1,by omega,by omega,by go_num,zh (fun j h1 h2=>?_),bf⟩;by_cases e:j=k
      ·rw[e];exact hq.out
      exact hr.out j h1 (by omega)
     case measure=>simp[intOf];omega
    have hq:Hid (R=t):=zh (HF.out (by rw[HN.out];exact tX _ 9 k dc (by omega) (by rw[HA.out,hu];simpa using hle) hr.out))
    go_wp2_with fail
    go_ret2
    exact⟨by rw[hq.out];rfl,bf.out⟩
   have hq:Hid (gQ L k=false):=zh (by rw[HA.out];simp;intro h;omega)
   go_wp2_with fail
   go_roundw
   case rel=>
    refine⟨k+1,by omega,by omega,by go_num,zh (fun j h1 h2=>?_),ay⟩;by_cases e:j=k
    ·rw[e];exact hq.out
    exact hr.out j h1 (by omega)
   case measure=>simp[intOf];omega
  have hq:Hid (R=[]):=zh (by rw[HB.out,HN.out,uHH _ 9 (fun j h1 h2=>hr.out j h1 (by omega))])
  go_wp2_with fail
  go_ret2
  exact⟨by rw[hq.out];rfl,ay.out⟩
def gD(l:Bs):Bool:=match l with|c::_=>aJ c | []=>false
theorem uFC(l:Bs)(hp:0<l.length):aJ l[0]=gD l:=by cases l with|nil=>simp at hp|cons c l=>rfl
def bE(l:Bs):Nat×Bs×Nat :=
 if 0<dY l then (1,l.take (dY l),dY l)
 else if gD l||aZ l 0 95||aZ l 0 36 then mS l
 else if aZ l 0 34 then fF l
 else if 0<(cL l).length then (6,cL l,(cL l).length)
 else if 0<eJ l then (5,l.take (eJ l),eJ l)
 else (0,[],0)
theorem sign_at(l:Bs)(w:World)(hp:0<l.length) :
  Calls Tryz.prog 47 #[.string ⟨l.toArray⟩] w fun e w'=>e=.returned (.int .i64 (eJ l))/\w=w':=by
 cases l with
 |nil=>simp at hp
 |cons c l=>exact sign_any c l w
theorem vB(l:Bs)(hp:0<l.length):eJ l<=l.length:=by
 unfold eJ
 split
 case isTrue h=>
  cases l with
  |nil=>simp at hp
  |cons c l=>
   cases l with
   |nil=>simp[Lib.hasPrefix,List.isPrefixOf]at h
   |cons d l=>simp
 case isFalse=>split <;> omega
theorem uKX(l:Bs)(w:World)(hp:0<l.length)(hs:l.length<=140737488351232)(ht:Tab w) :
  Calls Tryz.prog 34 #[.string ⟨l.toArray⟩] w fun e w'=>e=.returned (tokV (bE l))/\Below w.heap.size w w':=by
 have hs1:l.length<=maxLen:=by unfold maxLen;omega
 have hnl:=pA l;have jx:=vB l hp;have hN:bE l=if 0<dY l then (1,l.take (dY l),dY l)
  else if gD l||aZ l 0 95||aZ l 0 36 then mS l
  else if aZ l 0 34 then fF l
  else if 0<(cL l).length then (6,cL l,(cL l).length)
  else if 0<eJ l then (5,l.take (eJ l),eJ l)
  else (0,[],0):=rfl
 have HN:=zh hN;have HT:=zh ht;clear hN ht;generalize bE l=r at *
 go_enter Tryz.func34,Tryz.ntmps34
 go_wp2_with fail
 refine(uFP l _ hs1).mono ?_;rintro e w' ⟨rfl,rfl⟩;generalize dY l=n at *;by_cases hn:0<n
 ·have HR:Hid (r=(1,l.take n,n)):=zh (by rw[HN.out,if_pos hn]);clear HN
  go_wp2_with fail
  go_quiet (fail)
  go_wp2_with fail
  go_ret3
  exact⟨by rw[HR.out];rfl,below_drewN (Below.refl _ _) _⟩
 have HR:=zh (HN.out.trans (if_neg hn));clear HN;have e95:=iE l 0 95 95 rfl hp;have e36:=iE l 0 36 36 rfl hp;have e34:=iE l 0 34 34 rfl hp;have qp:=uFC l hp
 go_upto_region 5 with fail
 go_cut [27] (fun v wx=>v=.bool (gD l||aZ l 0 95||aZ l 0 36)/\w=wx)
 case first=>
  go_wp2_with fail
  refine(iH _ _).mono ?_;rintro e w' ⟨rfl,rfl⟩;rw[qp];clear qp;cases h1:gD l <;> cases h2:aZ l 0 95 <;> cases h3:aZ l 0 36
  all_goals rw[h2]at e95;rw[h3]at e36
  all_goals go_wp2_with fail
  all_goals go_meet
  all_goals exact⟨by first|rfl |(rw[h1,h2,h3];rfl),rfl⟩
 case rest=>
  obtain⟨rfl,rfl⟩:=hcut;clear qp e95 e36;cases hw:(gD l||aZ l 0 95||aZ l 0 36)
  ·have ce:=zh (HR.out.trans (if_neg (by rw[hw];decide)));clear HR;cases ov:aZ l 0 34
   ·have ev:=zh (ce.out.trans (if_neg (by rw[ov];decide)));clear ce;rw[ov]at e34
    go_wp2_with fail
    refine(uAR l _ hp hs1 HT.out).mono ?_;rintro e w1 ⟨rfl,af⟩;have eo:=zh af;clear af;generalize cL l=f at *;by_cases hf:0<f.length
    ·have j6:=zh (ev.out.trans (if_pos hf));clear ev
     go_wp2_with fail
     go_ret3
     exact⟨by rw[j6.out];rfl,eo.out⟩
    have j6:=zh (ev.out.trans (if_neg hf));clear ev
    go_wp2_with fail
    refine(sign_at l _ hp).mono ?_;rintro e w' ⟨rfl,rfl⟩;generalize eJ l=g at *;by_cases hg:0<g
    ·have tg:=zh (j6.out.trans (if_pos hg));clear j6
     go_wp2_with fail
     go_quiet (fail)
     go_wp2_with fail
     go_ret3
     exact⟨by rw[tg.out];rfl,below_drewN eo.out _⟩
    have tg:=zh (j6.out.trans (if_neg hg));clear j6
    go_wp2_with fail
    go_ret3
    exact⟨by rw[tg.out];rfl,eo.out⟩
   have ev:=zh (ce.out.trans (if_pos ov));clear ce;rw[ov]at e34
   go_wp2_with fail
   refine(uGB l _ hp hs).mono ?_;rintro e w1 ⟨rfl,af⟩
   go_wp2_with fail
   go_ret3
   exact⟨by rw[ev.out];rfl,af⟩
  have ce:=zh (HR.out.trans (if_pos hw));clear HR
  go_wp2_with fail
  refine(word_any l _ hs1).mono ?_;rintro e w1 ⟨rfl,af⟩
  go_wp2_with fail
  go_ret3
  exact⟨by rw[ce.out];rfl,af⟩
structure Tok where
 kind:Nat
 text:Bs
 place:Nat
theorem pWord_le(l:Bs):(mS l).2.2<=l.length:=by
 unfold mS;have:=bT cX l
 split
 ·exact this
 split
 ·exact this
 exact zm _
theorem pText_le(l:Bs):∀ x,bQ l=some x->x.2<=l.length/\x.1.length<=l.length:=by
 have key:∀ n (l:Bs),l.length<=n->∀ x,bQ l=some x->x.2<=l.length/\x.1.length<=l.length:=by
  intro n
  induction n with
  |zero=>intro l hl x hx;cases l with
   |nil=>simp[bQ]at hx
   |cons c l=>simp at hl
  |succ n ih=>
   intro l hl x hx
   match l,hl,hx with
   | [],_,hx=>simp[bQ]at hx
   | [c],_,hx=>
    simp only[bQ]at hx
    split at hx
    ·injection hx with hx;subst hx;simp
    cases hx
   |c::d::l,hl,hx=>
    simp only[bQ]at hx;simp only[yi]at hl
    split at hx
    ·split at hx
     ·cases hy:bQ l with
      |none=>rw[hy]at hx;cases hx
      |some y=>
       rw[hy]at hx;injection hx with hx;have:=ih l (by omega) y hy;subst hx;simp only[yi];omega
     injection hx with hx;subst hx;simp
    cases hy:bQ (d::l) with
    |none=>rw[hy]at hx;cases hx
    |some y=>
     rw[hy]at hx;injection hx with hx;have:=ih (d::l) (by simp only[yi];omega) y hy;subst hx;simp only[yi]at this ⊢;omega
 exact key l.length l zr
theorem uFT(l:Bs):(fF l).2.2<=l.length:=by
 unfold fF;cases h:bQ (l.drop 1) with
 |none=>exact zm _
 |some x=>
  have:=(pText_le _ x h).1;rw[yk]at this;show x.2+1<=l.length;cases l with
  |nil=>simp[bQ]at h
  |cons c l=>simp only[yi]at this ⊢;omega
theorem uV(l:Bs):(cL l).length<=l.length:=by
 unfold cL;cases h:lD l with
 |none=>simp
 |some k=>
  unfold lD at h
  split at h
  ·have:=List.find?_some h;unfold gQ at this;simp only[yh,decide_eq_true_eq]at this;exact this.1
  cases h
theorem nZ(l:Bs)(hp:0<l.length):(bE l).2.2<=l.length:=by
 unfold bE
 split
 ·exact pA l
 split
 ·exact pWord_le l
 split
 ·exact uFT l
 split
 ·exact uV l
 split
 ·exact vB l hp
 exact zm _
def fW:Nat->Bs->Nat->Except Nat (List Tok)
 |0,_,_=>.ok []
 |_+1,[],_=>.ok []
 |f+1,c::r,k=>
  if c=32 then fW f r (k+1)
  else if (bE (c::r)).2.2=0 then .error k
  else match fW f ((c::r).drop (bE (c::r)).2.2) (k+(bE (c::r)).2.2) with
   | .error p=>.error p
   | .ok ts=>.ok (⟨(bE (c::r)).1,(bE (c::r)).2.1,k⟩::ts)
theorem uFF:∀ (f g:Nat) (l:Bs) (k:Nat),l.length<=f->l.length<=g->fW f l k=fW g l k:=by
 intro f
 induction f with
 |zero=>
  intro g l k hf hg;obtain rfl:l=[]:=List.eq_nil_of_length_eq_zero (by omega);cases g <;> rfl
 |succ f ih=>
  intro g l k hf hg;cases l with
  |nil=>cases g <;> rfl
  |cons c r=>
   cases g with
   |zero=>simp at hg
   |succ g=>
    simp only[yi]at hf hg;simp only[fW]
    split
    ·exact ih g r _ (by omega) (by omega)
    split
    ·rfl
    rename_i h0
    rw[ih g _ _ (by rw[yk,yi];omega) (by rw[yk,yi];omega)]
def bK(l:Bs)(k:Nat):Except Nat (List Tok):=fW l.length l k
theorem gZ(k:Nat):bK [] k=.ok []:=rfl
theorem gO(r:Bs)(k:Nat):bK (32::r) k=bK r (k+1):=by
 unfold bK;simp only[yi,fW];rfl
theorem rX(c:UInt8)(r:Bs)(k:Nat)(h:c≠32)(h0:(bE (c::r)).2.2=0):bK (c::r) k=.error k:=by
 unfold bK;simp only[yi,fW];rw[if_neg h,if_pos h0]
def kO(t:Tok):Except Nat (List Tok)->Except Nat (List Tok)
 | .error p=>.error p
 | .ok ts=>.ok (t::ts)
theorem hG(c:UInt8)(r:Bs)(k:Nat)(h:c≠32)(h0:(bE (c::r)).2.2≠0) :
  bK (c::r) k=kO ⟨(bE (c::r)).1,(bE (c::r)).2.1,k⟩ (bK ((c::r).drop (bE (c::r)).2.2) (k+(bE (c::r)).2.2)):=by
 unfold bK;simp only[yi];rw[fW,if_neg h,if_neg h0];rw[uFF r.length ((c::r).drop (bE (c::r)).2.2).length _ _ (by rw[yk,yi];omega) zr];cases fW ((c::r).drop (bE (c::r)).2.2).length ((c::r).drop (bE (c::r)).2.2) (k+(bE (c::r)).2.2) <;> rfl
def jH(l:Bs):Except Nat (List Tok):=bK l 0
def lV(a:List Tok):Except Nat (List Tok)->Except Nat (List Tok)
 | .error p=>.error p
 | .ok ts=>.ok (a++ts)
theorem zV(a:List Tok)(t:Tok)(x:Except Nat (List Tok)):lV a (kO t x)=lV (a++[t]) x:=by
 cases x with
 |error p=>rfl
 |ok ts=>simp[lV,kO]
def LInv(l:Bs)(a:List Tok)(k:Nat):Prop:=k<=l.length/\a.length<=k/\jH l=lV a (bK (l.drop k) k)
theorem LInv.start(l:Bs):LInv l [] 0:=by
 refine⟨zm _,zr,?_⟩;unfold jH;rw[List.drop_zero];cases bK l 0 <;> rfl
theorem LInv.blank{l:Bs}{a:List Tok}{k:Nat}(h:LInv l a k)(hb:aZ l k 32=true):LInv l a (k+1):=by
 have hlt:=at_lt _ _ _ hb;refine⟨hlt,by have:=h.2.1;omega,?_⟩;have e:l[k]=32:=by
  unfold aZ at hb;rw[List.getElem?_eq_getElem hlt]at hb;have:=eq_of_beq hb;injection this
 rw[h.2.2,yx hlt,e,gO]
theorem uBT{l:Bs}{k:Nat}{c:UInt8}(hlt:k<l.length)(hb:aZ l k c=false):l[k]≠c:=by
 intro e;unfold aZ at hb;rw[List.getElem?_eq_getElem hlt,e]at hb;simp at hb
theorem LInv.bad{l:Bs}{a:List Tok}{k:Nat}(h:LInv l a k)(hlt:k<l.length)(hb:aZ l k 32=false)(h0:(bE (l.drop k)).2.2=0):jH l=.error k:=by
 have e:=yx hlt;rw[h.2.2];rw[e]at h0 ⊢;rw[rX _ _ _ (uBT hlt hb) h0];rfl
theorem LInv.tok{l:Bs}{a:List Tok}{k:Nat}(h:LInv l a k)(hlt:k<l.length)(hb:aZ l k 32=false)(h0:(bE (l.drop k)).2.2≠0) :
  LInv l (a++[⟨(bE (l.drop k)).1,(bE (l.drop k)).2.1,k⟩]) (k+(bE (l.drop k)).2.2):=by
 have e:=yx hlt;have hle:=nZ (l.drop k) (by rw[yk];omega);rw[yk]at hle;refine⟨by omega,by have:=h.2.1;simp;omega,?_⟩;rw[h.2.2,<- zV,<- List.drop_drop];rw[e]at h0 ⊢;rw[hG _ _ _ (uBT hlt hb) h0]
theorem LInv.done{l:Bs}{a:List Tok}{k:Nat}(h:LInv l a k)(hk:¬ k<l.length):jH l=.ok a:=by
 rw[h.2.2,List.drop_of_length_le (by omega),gZ];simp[lV]
def fJ(t:Tok):List Value:=[.int .i64 t.kind,.string ⟨t.text.toArray⟩,.int .i64 t.place]
def eL(ts:List Tok):List Value:=ts.flatMap fJ
theorem oL(ts:List Tok)(t:Tok):eL (ts++[t])=eL ts++fJ t:=by simp[eL]
def bA(n:Nat):Tok:=⟨0,[],n⟩
theorem infoTok:(Tryz.prog.info? 70).map (fun i=>(i.zero,i.size,i.bytes))=some (some (.agg #[.int .i64 0,.string ⟨#[]⟩,.int .i64 0]),3,32):=by kernel_rfl
theorem oJ{a w:World}(h:Below a.heap.size a w)(row:Option Nat):a.grownBy w row:=⟨h.os,h.tape,h.output,h.size,fun i hi _=>h.block i hi⟩
theorem gP{a w:World}(h:Below a.heap.size a w){base:Nat}{e:TypeId}{size:Nat}{v:Value}{n:Nat}{xs:List Value}(ho:a.ownsRow base e size v n xs):w.ownsRow base e size v n xs:=by
 refine ho.kept (oJ h none) ?_;cases hv:v.ownBlock with
 |none=>exact .inl rfl
 |some k=>exact .inr (by simp)
def LexPost(w:World)(n:Nat)(r:Except Nat (List Tok))(e:Ending)(w':World):Prop :=
 match r with
 | .error k=>e=.returned (.tuple #[.slice none 0 0,.int .i64 k,.int .i64 7])/\Below w.heap.size w w'
 | .ok ts=>∃ v,e=.returned (.tuple #[v,.int .i64 0,.int .i64 0])/\w'.ownsRow w.heap.size 70 3 v (ts.length+1) (eL (ts++[bA n]))/\Below w.heap.size w w'
theorem uDG{w:World}(t:Tok):∀ j u,(fJ t)[j]?=some u->(w.alloc (.cells #[.int .i64 t.kind,.string ⟨t.text.toArray⟩,.int .i64 t.place] 70)).cell? ((⟨w.heap.size,0,none⟩:Addr).add j)=some u:=by
 intro j u hj
 match j,hj with
 |0,hj=>simp[fJ]at hj;subst hj;simp[Addr.add]
 |1,hj=>simp[fJ]at hj;subst hj;simp[Addr.add]
 |2,hj=>simp[fJ]at hj;subst hj;simp[Addr.add]
theorem uIF(t:Tok):∀ u∈fJ t,u.oneCell'=true:=by
 intro u hu;simp[fJ]at hu;rcases hu with rfl|rfl|rfl <;> rfl
theorem lex_any(l:Bs)(w:World)(hs:l.length<=1000000)(ht:Tab w) :
  Calls Tryz.prog 22 #[.string ⟨l.toArray⟩] w fun e w'=>LexPost w l.length (jH l) e w':=by
 obtain⟨i0,hi,ke,jt,j5⟩:=info_parts infoTok;have HT:=zh ht;clear ht;have HP:=zh (LInv.start l)
 go_enter Tryz.func22,Tryz.ntmps22
 go_wp2_with fail
 go_loopw [5,6] (fun v i wr=>∃ (k:Nat) (a:List Tok),i=.int .i64 k/\Hid (LInv l a k)/\Hid (wr.ownsRow w.heap.size 70 3 v a.length (eL a))/\Hid (Below w.heap.size w wr)) (fun _ i _=>l.length-(intOf i).toNat)
 case atStart=>exact⟨0,[],rfl,HP,zh (World.ownsRow_nil _ _ _ _),zh (Below.refl _ _)⟩
 case round=>
  obtain⟨k,a,rfl,hq,al,ay⟩:=hrel
  rename_i v
  clear HP;have dc:=hq.out.1;have fg:=hq.out.2.1;have HT2:Hid (Tab wr):=zh (HT.out.next ay.out);by_cases hlt:k<l.length
  ·have e32:=iE l k 32 32 rfl hlt;cases oj:aZ l k 32
   ·rw[oj]at e32;have hdp:0<(l.drop k).length:=by rw[yk];omega
    have hdl:(l.drop k).length<=140737488351232:=by rw[yk];omega
    have hle:=nZ (l.drop k) hdp;rw[yk]at hle
    go_wp2_with fail
    refine(uKX (l.drop k) _ hdp hdl HT2.out).mono ?_;rintro e w1 ⟨rfl,af⟩;have eo:Hid (Below w.heap.size w w1):=zh (ay.out.trans (af.mono ay.out.size));have db:=zh (gP af al.out);clear af al ay;have km:=zh (hq.out.bad hlt oj);have htok:=zh (hq.out.tok hlt oj);generalize bE (l.drop k)=x at *;obtain⟨kind,text,size⟩:=x;by_cases h0:size=0
    ·have ri:=zh (km.out h0);clear km htok;subst h0
     go_wp2_with fail
     go_ret3
     rw[ri.out];exact⟨rfl,eo.out⟩
    have ri:=zh (htok.out h0);clear km htok;have b0:((size:Int)==0)=false:=by rw[beq_eq_false_iff_ne];omega
    go_wp2_with (at_builtin;refine wpList_append_own _ rfl _ _ 59 rfl w.heap.size 70 i0 (.agg #[.int .i64 0,.string ⟨#[]⟩,.int .i64 0]) 3 32 Tryz.underlying59 hi ke jt j5 rfl (by decide) _ _ _ rfl (db.out.alloc _) ⟨w1.heap.size,0,none⟩ 1 1 (fJ ⟨kind,text,k⟩) rfl rfl ?c1 ?c2 ?c3 ?c4 ?c5 ?_)
    case c1=>exact uDG ⟨kind,text,k⟩
    case c2=>exact uIF _
    case c3=>unfold maxLen;omega
    case c4=>omega
    case c5=>have:=eo.out.size;simp;omega
    intro v' w2 dm cu _;have gy:Hid (w2.ownsRow w.heap.size 70 3 v' (a++[(⟨kind,text,k⟩:Tok)]).length (eL (a++[⟨kind,text,k⟩]))):=zh (by rw[oL];simpa using dm);have co:Hid (Below w.heap.size w w2):=zh ((eo.out.alloc eo.out.size _).grown cu (by have:=eo.out.size;simp;omega) (fun j hj=>(db.out.lt j hj).1));clear dm cu db eo
    go_wp2_with fail
    go_roundw
    case rel=>exact⟨k+size,_,by go_num,ri,gy,co⟩
    case measure=>simp[intOf];omega
   rw[oj]at e32;have ri:=zh (hq.out.blank oj)
   go_wp2_with fail
   go_roundw
   case rel=>exact⟨k+1,a,by go_num,ri,al,ay⟩
   case measure=>simp[intOf];omega
  have ri:=zh (hq.out.done hlt)
  go_wp2_with (at_builtin;refine wpList_append_own _ rfl _ _ 59 rfl w.heap.size 70 i0 (.agg #[.int .i64 0,.string ⟨#[]⟩,.int .i64 0]) 3 32 Tryz.underlying59 hi ke jt j5 rfl (by decide) _ _ _ rfl (al.out.alloc _) ⟨wr.heap.size,0,none⟩ 1 1 (fJ (bA l.length)) rfl rfl ?d1 ?d2 ?d3 ?d4 ?d5 ?_)
  case d1=>exact uDG (bA l.length)
  case d2=>exact uIF _
  case d3=>unfold maxLen;omega
  case d4=>omega
  case d5=>have:=ay.out.size;simp;omega
  intro v' w2 dm cu _;have gy:Hid (w2.ownsRow w.heap.size 70 3 v' (a.length+1) (eL (a++[bA l.length]))):=zh (by rw[oL];exact dm);have co:Hid (Below w.heap.size w w2):=zh ((ay.out.alloc ay.out.size _).grown cu (by have:=ay.out.size;simp;omega) (fun j hj=>(al.out.lt j hj).1));clear dm cu
  go_wp2_with fail
  go_ret3
  rw[ri.out];exact⟨v',rfl,gy.out,co.out⟩
theorem zN(p:UInt8->Bool)(c:UInt8)(l:Bs)(h:p c=false):aM p (c::l)=0:=by simp[aM,h]
theorem qW(c:UInt8)(l:Bs)(d:UInt8):aZ (c::l) 0 d=(c==d):=by
 unfold aZ;simp
theorem jP(c:UInt8)(l:Bs)(h:aB c=false)(jc:c≠46):dY (c::l)=0:=by
 have e:iA (c::l)=0:=by
  unfold iA;rw[zN _ _ _ h,qW];have:(c==46)=false:=by rw[beq_eq_false_iff_ne];exact jc
  rw[this];rfl
 unfold dY uHU;rw[e];rfl
theorem uGA{P:Program}{f:FuncId}{args:Array Value}{w:World}{n:Nat}{v:Value}
  (h:Calls P f args (w.drewN n) fun e w'=>e=.returned v/\w.drewN n=w'):Calls P f args (w.drewN n) fun e w''=>e=.returned v/\∃ m,w''=w.drewN m :=
 h.mono fun _ _ ⟨he,hm⟩=>⟨he,n,hm.symm⟩
theorem nT(n:Int)(h:0<=n/\n<=18446744073709551615):IntKind.u64.wrap n=n:=by
 simp[IntKind.wrap,IntKind.bits,IntKind.signed];omega
theorem size_any(m:Int)(w:World)(h1:-9223372036854775808<=m)(h2:m<=9223372036854775807) :
  Calls Tryz.prog 108 #[.int .i64 m] w fun e w'=>e=.returned (.int .u64 (m.natAbs:Int))/\w=w':=by
 by_cases h:m<0
 ·go_enter Tryz.func108,Tryz.ntmps108
  go_wp2
  go_ret
  exact⟨cW (by simp[IntKind.wrap,IntKind.bits,IntKind.signed];omega),rfl⟩
 go_enter Tryz.func108,Tryz.ntmps108
 go_wp2
 go_ret
 exact⟨cW (by omega),rfl⟩
theorem uIZ(n:Nat)(w:World)(h:n<18446744073709551616) :
  Calls Tryz.prog 109 #[.int .u64 n] w fun e w'=>e=.returned (.int .i64 (kL n))/\w=w':=by
 have HN:Hid (n<18446744073709551616):=zh h;clear h;have HD:Hid (kL n=kL n):=zh rfl
 go_enter Tryz.func109,Tryz.ntmps109
 go_wp2
 go_loop [0,3] (fun v d=>∃ (x k:Nat),v=.int .u64 x/\d=.int .i64 k/\k<=21/\x<=n/\Hid (k+kL x=kL n+1)) (fun v _=>(intOf v).toNat)
 case atStart=>exact⟨n,1,rfl,rfl,by omega,zr,zh (by omega)⟩
 case round=>
  obtain⟨x,k,rfl,rfl,hk,hx,hq⟩:=hrel;have hd:=pL n;have hdx:=pL x;by_cases uu:x<10
  ·have ma:Hid (k=kL n):=zh (by have:=hq.out;rw[uEH x uu]at this;omega)
   go_wp2
   go_ret
   exact⟨cW (by rw[ma.out]),rfl⟩
  have hb:=digs_big x uu (by have:=HN.out;omega);have ma:Hid (k+1+kL (x / 10)=kL n+1):=zh (by have:=hq.out;omega);have fg:k+1<=21:=by have:=hq.out;have:=pL (x / 10);omega
  clear hb;have hw:Hid (IntKind.u64.wrap ((x:Int) / 10)=((x / 10:Nat):Int)):=zh (by rw[nT _ (by have:=HN.out;omega)];omega)
  go_wp2
  go_round
  case rel=>exact⟨x / 10,k+1,by rw[hw.out],by go_num,fg,by omega,ma⟩
  case measure=>rw[hw.out];simp[intOf];omega
abbrev sV(m e:Int):Value:=.agg #[.int .i64 m,.int .i64 e]
set_option maxRecDepth 100000 in
theorem rJ(m e:Int)(w:World)(h1:-9223372036854775808<=m)(h2:m<=9223372036854775807) :
  Calls Tryz.prog 95 #[sV m e] w fun x w'=>x=.returned (.bool (cO m e))/\Below w.heap.size w w':=by
 have hN:cO m e=if m=0 then decide (e=0) else decide (m.natAbs<1000000000000000)&&decide (m.natAbs % 10≠0)&&decide (-40<=e)&&decide (e<40)&&decide ((kL m.natAbs:Int)+e<=40):=rfl
 have HN:=zh hN;clear hN;generalize cO m e=r at *;have HB:Hid (Below w.heap.size w (w.alloc (.cells #[.int .i64 m,.int .i64 e] 30))):=zh ((Below.refl _ w).alloc zr _);by_cases h0:m=0
 ·rw[if_pos h0]at HN;subst h0
  go_enter Tryz.func95,Tryz.ntmps95
  go_wp2_with fail
  go_ret
  exact⟨aI (by rw[HN.out];rfl),HB.out⟩
 rw[if_neg h0]at HN;have b0:(m==0)=false:=by rw[beq_eq_false_iff_ne];exact h0
 have hx:m.natAbs<18446744073709551616:=by omega
 have hd:=pL m.natAbs;clear h0
 go_enter Tryz.func95,Tryz.ntmps95
 go_wp2_with fail
 refine(size_any m _ h1 h2).mono ?_;rintro e1 w' ⟨rfl,rfl⟩;generalize m.natAbs=x at *;have HX:=zh hx;have H1:=zh h1;have H2:=zh h2;clear hx h1 h2;by_cases c1:x<1000000000000000
 ·have d1:decide ((1000000000000000:Int)<=(x:Int))=false:=by simp;omega
  rw[decide_eq_true c1]at HN;clear c1;by_cases c2:x % 10≠0
  ·have b2:((x:Int) % 10==0)=false:=by rw[beq_eq_false_iff_ne];omega
   rw[decide_eq_true c2]at HN;clear c2;by_cases c3:-40<=e
   ·by_cases c4:e<40
    ·rw[decide_eq_true c3,decide_eq_true c4]at HN;have ld:Hid (r=decide ((kL x:Int)+e<=40)):=zh (by rw[HN.out];rfl);clear HN
     go_wp2_with fail
     go_quiet ((go_at_call 109;exact uGA (uIZ x _ HX.out)))
     go_wp2_with fail
     go_ret
     exact⟨aI (by rw[ld.out]),below_drewN HB.out _⟩
    rw[decide_eq_false c4]at HN;have ld:Hid (r=false):=zh (by rw[HN.out];simp);clear HN
    go_wp2_with fail
    go_ret
    exact⟨aI (by rw[ld.out]),HB.out⟩
   rw[decide_eq_false c3]at HN;have ld:Hid (r=false):=zh (by rw[HN.out];simp);clear HN
   go_wp2_with fail
   go_ret
   exact⟨aI (by rw[ld.out]),HB.out⟩
  have b2:((x:Int) % 10==0)=true:=by rw[beq_iff_eq];omega
  rw[decide_eq_false c2]at HN;have ld:Hid (r=false):=zh (by rw[HN.out];simp);clear HN c2
  go_wp2_with fail
  go_ret
  exact⟨aI (by rw[ld.out]),HB.out⟩
 have d1:decide ((1000000000000000:Int)<=(x:Int))=true:=by simp;omega
 rw[decide_eq_false c1]at HN;have ld:Hid (r=false):=zh (by rw[HN.out];simp);clear HN c1
 go_wp2_with fail
 go_ret
 exact⟨aI (by rw[ld.out]),HB.out⟩
end Go.Proofs.YtmgjidnalpgegaaGreatDoor
