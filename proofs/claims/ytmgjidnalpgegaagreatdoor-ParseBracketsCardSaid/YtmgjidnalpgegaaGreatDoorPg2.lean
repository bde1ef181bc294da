/-
  Lemmas, part 2: Lex5 Build1 Val2 Lex8.
-/
import Derived.Test.YtmgjidnalpgegaaGreatDoorRows
import Derived.WalkSpells
import Derived.WalkLawsBesides
import Derived.Outline
import Derived.Deep.Cut
import Derived.Deep.CutRange
import Derived.Deep.DeepCutAuto
import Derived.Deep.LoopGhost
import Derived.Deep.QuietTactic
import Derived.BigQuiet
import Derived.BigRegion
import Derived.Deep.RegionHeld3
import Derived.Deep.RegionLaw
import Derived.Deep.DeepFit
import Derived.Deep.Light
import Derived.StillTailTactics
import Derived.IntWalk
import Derived.Test.YtmgjidnalpgegaaGreatDoorShelf
import Derived.OneCell
import Derived.Laws.IdiomStrings
import Derived.Test.YtmgjidnalpgegaaGreatDoorPg1
namespace Go.Proofs.YtmgjidnalpgegaaGreatDoor
open Go.RowKit
set_option maxHeartbeats 400000 in
theorem jT(c:UInt8)(w:World) :
  Calls Tryz.prog 66 #[.int .u8 (c.toNat:Int)] w fun e w'=>e=.returned (.bool (aC c))∧w=w':=by
 go_enter Tryz.func66,Tryz.ntmps66
 go_wp2
 all_goals go_ret
 all_goals exact⟨aJ (by unfold aC;rw[Bool.eq_iff_iff];simp;omega),rfl⟩
set_option maxHeartbeats 400000 in
theorem gL(c:UInt8)(w:World) :
  Calls Tryz.prog 43 #[.int .u8 (c.toNat:Int)] w fun e w'=>e=.returned (.bool (aI c))∧w=w':=by
 go_enter Tryz.func43,Tryz.ntmps43
 go_wp2
 all_goals go_ret
 all_goals exact⟨aJ (by unfold aI;rw[Bool.eq_iff_iff];simp;omega),rfl⟩
set_option maxHeartbeats 400000 in
theorem gQ(l:Bs)(w:World)(hs:l.length≤maxLen) :
  Calls Tryz.prog 65 #[.string ⟨l.toArray⟩,.func (.func 66) #[] #[]] w fun e w'=>e=.returned (.int .i64 (aM aC l))∧w=w':=by
 unfold maxLen at hs
 go_enter Tryz.func65,Tryz.ntmps65
 go_wp2
 go_loop [5] (fun i=>∃ k:Nat,k≤l.length∧i=.int .i64 k∧k≤aM aC l) (fun i=>l.length-(intOf i).toNat)
 case atStart=>exact⟨0,Nat.zero_le _,rfl,Nat.zero_le _⟩
 case round=>
  obtain⟨k,hk,rfl,hr⟩:=hrel;by_cases hlt:k<l.length
  ·cases hd:aC l[k]
   ·have HQ:=zh (pL _ _ _ hr hlt hd)
    go_wp2_with (go_at_call 66;refine(jT _ _).mono ?_;rintro e w' ⟨rfl,rfl⟩)
    go_ret
    exact⟨cQ (by rw[HQ.out]),rfl⟩
   ·have hq:=iQ _ _ _ hr hlt hd
    go_wp2_with (go_at_call 66;refine(jT _ _).mono ?_;rintro e w' ⟨rfl,rfl⟩)
    go_round
    case rel=>exact⟨k+1,by omega,by go_num,hq⟩
    case measure=>simp[intOf];omega
  ·have hq:aM aC l=k:=by have:=bW aC l;omega
   have HQ:=zh hq;clear hq
   go_wp2
   go_ret
   exact⟨cQ (by rw[HQ.out]),rfl⟩
set_option maxHeartbeats 400000 in
theorem vG(l:Bs)(w:World)(hs:l.length≤maxLen) :
  Calls Tryz.prog 65 #[.string ⟨l.toArray⟩,.func (.func 43) #[] #[]] w fun e w'=>e=.returned (.int .i64 (aM aI l))∧w=w':=by
 unfold maxLen at hs
 go_enter Tryz.func65,Tryz.ntmps65
 go_wp2
 go_loop [5] (fun i=>∃ k:Nat,k≤l.length∧i=.int .i64 k∧k≤aM aI l) (fun i=>l.length-(intOf i).toNat)
 case atStart=>exact⟨0,Nat.zero_le _,rfl,Nat.zero_le _⟩
 case round=>
  obtain⟨k,hk,rfl,hr⟩:=hrel;by_cases hlt:k<l.length
  ·cases hd:aI l[k]
   ·have HQ:=zh (pL _ _ _ hr hlt hd)
    go_wp2_with (go_at_call 43;refine(gL _ _).mono ?_;rintro e w' ⟨rfl,rfl⟩)
    go_ret
    exact⟨cQ (by rw[HQ.out]),rfl⟩
   ·have hq:=iQ _ _ _ hr hlt hd
    go_wp2_with (go_at_call 43;refine(gL _ _).mono ?_;rintro e w' ⟨rfl,rfl⟩)
    go_round
    case rel=>exact⟨k+1,by omega,by go_num,hq⟩
    case measure=>simp[intOf];omega
  ·have hq:aM aI l=k:=by have:=bW aI l;omega
   have HQ:=zh hq;clear hq
   go_wp2
   go_ret
   exact⟨cQ (by rw[HQ.out]),rfl⟩
theorem zB{l:Bs}{n k:Nat}(h:l.length≤n):(l.drop k).length≤n:=by rw[List.length_drop];omega
set_option maxRecDepth 100000 in
set_option maxHeartbeats 800000 in
theorem uDO(l:Bs)(w:World)(hs:l.length≤maxLen) :
  Calls Tryz.prog 42 #[.string ⟨l.toArray⟩] w fun e w'=>e=.returned (.int .i64 (cP l))∧w=w':=by
 have hs':=hs;unfold maxLen at hs';have ha:=bW aC l;have hb:=tU l;have hB:fJ l=if aP l (aM aC l) 46&&decide (0<aM aC (l.drop (aM aC l+1))) then aM aC l+1+aM aC (l.drop (aM aC l+1)) else aM aC l:=rfl
 have HB:=zh hB;clear hB;have hN:cP l=if fJ l=0∨(aP l (fJ l) 101=false∧aP l (fJ l) 69=false) then fJ l else if 0<aM aC (l.drop (jO l (fJ l))) then jO l (fJ l)+aM aC (l.drop (jO l (fJ l))) else fJ l:=rfl
 have HN:=zh hN;clear hN;generalize fJ l=b at *;generalize cP l=r at *
 go_enter Tryz.func42,Tryz.ntmps42
 go_wp2_with fail
 refine(gQ _ _ hs).mono ?_;rintro e w' ⟨rfl,rfl⟩;generalize aM aC l=a at *
 go_upto_region 2 with fail
 go_cut [18] (fun v wx=>v=.bool (aP l a 46)∧w=wx)
 case first=>
  by_cases hlt:a<l.length
  ·have e:=gS l a 46 46 rfl hlt
   go_wp2
   all_goals go_meet
   all_goals exact⟨rfl,rfl⟩
  ·have e:=iE l a 46 (by omega)
   go_wp2
   go_meet
   exact⟨by rw[e],rfl⟩
 case rest=>
  obtain⟨rfl,rfl⟩:=hcut
  go_upto_if 18 with fail
  go_cut [3,4] (fun v _ wx=>v=.int .i64 b∧w=wx)
  case first=>
   have hd:=bW aC (l.drop (a+1));rw[List.length_drop]at hd;cases h46:aP l a 46
   ·go_wp2_with fail
    go_meet
    exact⟨by rw[HB.out,h46];rfl,rfl⟩
   ·have hlt:=at_lt _ _ _ h46
    go_wp2_with fail
    refine(gQ _ _ (zB hs)).mono ?_;rintro e w' ⟨rfl,rfl⟩;generalize aM aC (l.drop (a+1))=d at *;by_cases h0:0<d
    all_goals go_wp2_with fail
    all_goals go_meet
    ·exact⟨by rw[HB.out,h46,decide_eq_true h0];simp;omega,rfl⟩
    ·exact⟨by rw[HB.out,h46,decide_eq_false h0];rfl,rfl⟩
  case rest=>
   obtain⟨rfl,rfl⟩:=hcut;clear HB;by_cases hb0:b=0
   ·have HN2:Hid (r=b):=zh (by rw[HN.out,if_pos (Or.inl hb0)]);subst hb0
    go_wp2
    go_ret
    exact⟨cQ (by rw[HN2.out];rfl),rfl⟩
   ·by_cases hlt:b<l.length
    ·have e1:=nT l b 101 101 rfl hlt;have e2:=nT l b 69 69 rfl hlt;have e3:((b:Int)==0)=false:=by simp;omega
     have e4:((b:Int)==(l.length:Int))=false:=by simp;omega
     go_upto_region 6 with fail
     go_cut [49] (fun v wx=>v=.bool (!(aP l b 101||aP l b 69))∧w=wx)
     case first=>
      cases h1:aP l b 101 <;> cases h2:aP l b 69
      all_goals rw[h1]at e1;rw[h2]at e2
      all_goals go_wp2
      all_goals go_meet
      all_goals exact⟨by rw[h1,h2];rfl,rfl⟩
     case rest=>
      clear e1 e2;obtain⟨rfl,rfl⟩:=hcut;cases hc:(aP l b 101||aP l b 69)
      ·have HN2:Hid (r=b):=zh (by rw[HN.out,if_pos (Or.inr (by simpa using hc))]);clear HN
       go_wp2
       go_ret
       exact⟨cQ (by rw[HN2.out]),rfl⟩
      ·have HN2:Hid (r=if 0<aM aC (l.drop (jO l b)) then jO l b+aM aC (l.drop (jO l b)) else b):=zh (by rw[HN.out,if_neg (by intro h;rcases h with h | ⟨h3,h4⟩;exact hb0 h;rw[h3,h4]at hc;cases hc)]);clear HN
       go_upto_region 9 with fail
       go_cut [68] (fun v wx=>v=.bool (aP l (b+1) 43||aP l (b+1) 45)∧w=wx)
       case first=>
        by_cases hlt1:b+1<l.length
        ·have e1:=gS l (b+1) 43 43 rfl hlt1;have e2:=gS l (b+1) 45 45 rfl hlt1;cases h1:aP l (b+1) 43 <;> cases h2:aP l (b+1) 45
         all_goals rw[h1]at e1;rw[h2]at e2
         all_goals go_wp2
         all_goals go_meet
         all_goals exact⟨by rw[h1,h2];rfl,rfl⟩
        ·have h1:=iE l (b+1) 43 (by omega);have h2:=iE l (b+1) 45 (by omega)
         go_wp2
         go_meet
         exact⟨by rw[h1,h2];rfl,rfl⟩
       case rest=>
        obtain⟨rfl,rfl⟩:=hcut
        go_upto_if 68 with fail
        go_cut [5] (fun v wx=>v=.int .i64 (jO l b)∧w=wx)
        case first=>
         cases h1:(aP l (b+1) 43||aP l (b+1) 45)
         ·go_wp2
          go_meet
          exact⟨by unfold jO;rw[h1];rfl,rfl⟩
         ·have hlt2:b+1<l.length:=by rcases Bool.or_eq_true_iff.1 h1 with h | h <;> exact at_lt _ _ _ h
          go_wp2
          go_meet
          exact⟨by unfold jO;rw[h1];rfl,rfl⟩
        case rest=>
         obtain⟨rfl,rfl⟩:=hcut;have hp:=uFM l b hlt;generalize jO l b=p at *;have hd:=bW aC (l.drop p);rw[List.length_drop]at hd
         go_wp2_with fail
         refine(gQ _ _ (zB hs)).mono ?_;rintro e w' ⟨rfl,rfl⟩;generalize aM aC (l.drop p)=d at *;by_cases h0:0<d
         ·have HN3:Hid (r=p+d):=zh (by rw[HN2.out,if_pos h0]);clear HN2
          go_wp2_with fail
          go_ret
          exact⟨cQ (by rw[HN3.out];simp),rfl⟩
         ·have HN3:Hid (r=b):=zh (by rw[HN2.out,if_neg h0]);clear HN2
          go_wp2_with fail
          go_ret
          exact⟨cQ (by rw[HN3.out]),rfl⟩
    ·have HN2:Hid (r=b):=zh (by rw[HN.out,if_pos (Or.inr ⟨iE _ _ _ (by omega),iE _ _ _ (by omega)⟩)]);have e3:((b:Int)==0)=false:=by simp;omega
     have e4:((b:Int)==(l.length:Int))=true:=by simp;omega
     go_wp2
     go_ret
     exact⟨cQ (by rw[HN2.out]),rfl⟩
theorem kD(s p:Bs)(w:World) :
  Calls Tryz.prog 75 #[.string ⟨s.toArray⟩,.string ⟨p.toArray⟩] w fun e w'=>e=.returned (.bool (Lib.hasPrefix s p))∧w=w' :=
 (Tryz.strings_HasPrefix ⟨s.toArray⟩ ⟨p.toArray⟩ w).mono fun _ _ ⟨h1,h2⟩=>⟨h1,h2.symm⟩
theorem gY(s p:Bs)(w:World) :
  Calls Tryz.prog 88 #[.string ⟨s.toArray⟩,.string ⟨p.toArray⟩] w fun e w'=>e=.returned (.tuple #[.string ⟨(Lib.trimPrefix s p).toArray⟩,.bool (Lib.hasPrefix s p)])∧w=w' :=
 (Tryz.strings_CutPrefix ⟨s.toArray⟩ ⟨p.toArray⟩ w).mono fun _ _ ⟨h1,h2⟩=>⟨h1,h2.symm⟩
theorem uP(s p:Bs)(w:World) :
  Calls Tryz.prog 89 #[.string ⟨s.toArray⟩,.string ⟨p.toArray⟩] w fun e w'=>e=.returned (.string ⟨(Lib.trimPrefix s p).toArray⟩)∧w=w' :=
 (Tryz.strings_TrimPrefix ⟨s.toArray⟩ ⟨p.toArray⟩ w).mono fun _ _ ⟨h1,h2⟩=>⟨h1,h2.symm⟩
theorem u8_back(c:UInt8):((c.toNat:Int)).toNat.toUInt8=c:=by
 apply lC;simp[Nat.toUInt8]
theorem nM(s:Bs)(c:UInt8)(w:World) :
  Calls Tryz.prog 69 #[.string ⟨s.toArray⟩,.int .u8 (c.toNat:Int)] w fun e w'=>e=.returned (.int .i64 (Lib.indexByte s c))∧w=w' :=
 (Tryz.strings_IndexByte ⟨s.toArray⟩ (c.toNat:Int) w).mono fun _ _ ⟨h1,h2⟩=>⟨by rw[h1,u8_back],h2.symm⟩
set_option maxHeartbeats 400000 in
theorem rN(c:UInt8)(a:Addr)(w:World)(h36:((c.toNat:Int)==36)=false) :
  Calls Tryz.prog 67 #[.int .u8 (c.toNat:Int),.pointer (some a)] w fun e w'=>e=.returned (.bool (cC c))∧w=w':=by
 have e95:((c.toNat:Int)==95)=(c==95):=by rw[Bool.eq_iff_iff,beq_iff_eq,beq_iff_eq];exact⟨fun h=>lC (by simpa using (by omega:c.toNat=95)),fun h=>by rw[h];rfl⟩
 have e46:((c.toNat:Int)==46)=(c==46):=by rw[Bool.eq_iff_iff,beq_iff_eq,beq_iff_eq];exact⟨fun h=>lC (by simpa using (by omega:c.toNat=46)),fun h=>by rw[h];rfl⟩
 have e36:(c==36)=false:=by rw[beq_eq_false_iff_ne];intro h;rw[h]at h36;cases h36
 have hw:cC c=(aI c||aC c||c==95||c==46):=by unfold cC;rw[e36,Bool.or_false]
 have HW:=zh hw;clear hw
 go_enter Tryz.func67,Tryz.ntmps67
 cases h1:aI c <;> cases h2:aC c <;> cases h3:(c==95) <;> cases h4:(c==46)
 all_goals rw[h3]at e95;rw[h4]at e46
 all_goals go_wp2_with (first |(go_at_call 43;refine(gL _ _).mono ?_;rintro e w' ⟨rfl,rfl⟩) |(go_at_call 66;refine(jT _ _).mono ?_;rintro e w' ⟨rfl,rfl⟩))
 all_goals go_ret
 all_goals exact⟨aJ (by rw[HW.out,h1,h2,h3,h4];rfl),rfl⟩
set_option maxHeartbeats 400000 in
theorem yK(b n:Nat)(w:World)(hc:w.cell? ⟨b,0,none⟩=some (.int .i64 n))(hf:w.frozen? ⟨b,0,none⟩=false)(hn:n<9223372036854775807) :
  Calls Tryz.prog 67 #[.int .u8 36,.pointer (some ⟨b,0,none⟩)] w fun e w'=>e=.returned (.bool true)∧w.setCell ⟨b,0,none⟩ (.int .i64 (n+1:Nat))=w':=by
 have h1:aI 36=false:=rfl;have h2:aC 36=false:=rfl
 go_enter Tryz.func67,Tryz.ntmps67
 go_wp2_with (first |(go_at_call 43;refine(gL 36 _).mono ?_;rintro e w' ⟨rfl,rfl⟩) |(go_at_call 66;refine(jT 36 _).mono ?_;rintro e w' ⟨rfl,rfl⟩))
 go_ret
 exact⟨rfl,by simp⟩
set_option maxHeartbeats 800000 in
theorem uBF(l:Bs)(b:Nat)(w:World)(hs:l.length≤maxLen)(hb:w.heap[b]?=some (.cells #[.int .i64 0] 3 (0,0))) :
  Calls Tryz.prog 65 #[.string ⟨l.toArray⟩,.func (.func 67) #[] #[.pointer (some ⟨b,0,none⟩)]] w fun e w'=>e=.returned (.int .i64 (aM cC l))∧w'.heap[b]?=some (.cells #[.int .i64 (dF (l.take (aM cC l)):Nat)] 3 (0,0))∧Below b w w':=by
 unfold maxLen at hs
 go_enter Tryz.func65,Tryz.ntmps65
 go_wp2
 go_loopw [5] (fun i wr=>∃ k:Nat,k≤l.length∧i=.int .i64 k∧k≤aM cC l∧wr.heap[b]?=some (.cells #[.int .i64 (dF (l.take k):Nat)] 3 (0,0))∧Below b w wr) (fun i _=>l.length-(intOf i).toNat)
 case atStart=>exact⟨0,Nat.zero_le _,rfl,Nat.zero_le _,hb,Below.refl _ _⟩
 case round=>
  obtain⟨k,hk,rfl,hr,hbk,hbel⟩:=hrel;clear hb;have HB:=zh hbk;have hc:=cell_of_one hbk;have hf:=free_of_one hbk;have hd:=uCM (l.take k);rw[List.length_take,Nat.min_eq_left hk]at hd;clear hbk;by_cases hlt:k<l.length
  ·have hsn:dF (l.take (k+1))=dF (l.take k)+if l[k]==36 then 1 else 0:=by rw[List.take_succ_eq_append_getElem hlt,xH]
   have HS:=zh hsn;clear hsn;generalize hn:dF (l.take k)=n at *;have HN:=zh hn;clear hn;cases h36:((l[k].toNat:Int)==36)
   ·have hw:Hid (dF (l.take (k+1))=n):=zh (by
     rw[HS.out,if_neg]
     ·rfl
     ·intro h;have:=eq_of_beq h;rw[this]at h36;cases h36)
    cases hd:cC l[k]
    ·have HQ:=zh (pL _ _ _ hr hlt hd)
     go_wp2_with (go_at_call 67;refine(rN _ _ _ h36).mono ?_;rintro e w' ⟨rfl,rfl⟩)
     go_ret
     exact⟨cQ (by rw[HQ.out]),by rw[HQ.out,HN.out];exact HB.out,hbel⟩
    ·have hq:=iQ _ _ _ hr hlt hd
     go_wp2_with (go_at_call 67;refine(rN _ _ _ h36).mono ?_;rintro e w' ⟨rfl,rfl⟩)
     go_roundw
     case rel=>exact⟨k+1,by omega,by go_num,hq,by rw[hw.out];exact HB.out,hbel⟩
     case measure=>simp[intOf];omega
   ·have h36':l[k].toNat=36:=by have:=eq_of_beq h36;omega
    have hw:Hid (dF (l.take (k+1))=n+1):=zh (by rw[HS.out,lC (c:=l[k]) (d:=36) h36'];rfl);have hq:=iQ _ _ _ hr hlt (by rw[lC (c:=l[k]) (d:=36) h36'];rfl)
    go_wp2_with (go_at_call 67;refine(yK _ n _ hc hf (by omega)).mono ?_;rintro e w' ⟨rfl,rfl⟩)
    go_roundw
    case rel=>exact⟨k+1,by omega,by go_num,hq,by rw[hw.out];exact one_setCell HB.out,hbel.setCell (p:=⟨b,0,none⟩) (Nat.le_refl _) _⟩
    case measure=>simp[intOf];omega
  ·have hq:aM cC l=k:=by have:=bW cC l;omega
   have HQ:=zh hq;clear hq
   go_wp2
   go_ret
   exact⟨cQ (by rw[HQ.out]),by rw[HQ.out];exact HB.out,hbel⟩
set_option maxHeartbeats 800000 in
theorem sign_any(c:UInt8)(l:Bs)(w:World) :
  Calls Tryz.prog 47 #[.string ⟨(c::l).toArray⟩] w fun e w'=>e=.returned (.int .i64 (dZ (c::l)))∧w=w':=by
 have hN:dZ (c::l)=if Lib.hasPrefix (c::l) [60,62]||Lib.hasPrefix (c::l) [60,61]||Lib.hasPrefix (c::l) [62,61] then 2 else if 0≤Lib.indexByte gR c then 1 else 0:=rfl
 have HN:=zh hN;clear hN;generalize dZ (c::l)=r at *
 go_enter Tryz.func47,Tryz.ntmps47
 go_wp2_with fail
 refine(kD (c::l) [60,62] _).mono ?_;rintro e w' ⟨rfl,rfl⟩;cases h1:Lib.hasPrefix (c::l) [60,62]
 ·go_wp2_with fail
  refine(kD (c::l) [60,61] _).mono ?_;rintro e w' ⟨rfl,rfl⟩;cases h2:Lib.hasPrefix (c::l) [60,61]
  ·go_wp2_with fail
   refine(kD (c::l) [62,61] _).mono ?_;rintro e w' ⟨rfl,rfl⟩;cases h3:Lib.hasPrefix (c::l) [62,61]
   ·go_wp2_with fail
    refine(nM gR c _).mono ?_;rintro e w' ⟨rfl,rfl⟩;rw[h1,h2,h3]at HN;generalize Lib.indexByte gR c=i at *;by_cases hi:0≤i
    ·have HN2:Hid (r=1):=zh (by rw[HN.out,if_neg (by simp),if_pos hi]);clear HN
     go_wp2_with fail
     go_ret
     exact⟨cQ (by rw[HN2.out];rfl),rfl⟩
    ·have HN2:Hid (r=0):=zh (by rw[HN.out,if_neg (by simp),if_neg hi]);clear HN
     go_wp2_with fail
     go_ret
     exact⟨cQ (by rw[HN2.out];rfl),rfl⟩
   ·rw[h1,h2,h3]at HN
    go_wp2_with fail
    go_ret
    exact⟨cQ (by rw[HN.out];rfl),rfl⟩
  ·rw[h1,h2]at HN
   go_wp2_with fail
   go_ret
   exact⟨cQ (by rw[HN.out];rfl),rfl⟩
 ·rw[h1]at HN
  go_wp2_with fail
  go_ret
  exact⟨cQ (by rw[HN.out];rfl),rfl⟩
set_option maxHeartbeats 800000 in
theorem uCZ(l:Bs)(w:World)(hs:l.length≤maxLen) :
  Calls Tryz.prog 68 #[.string ⟨l.toArray⟩] w fun e w'=>e=.returned (.bool (nO l))∧w=w':=by
 have hN:nO l=xZ (Lib.hasPrefix l [36]) (Lib.trimPrefix l [36]):=rfl;have HN:=zh hN;clear hN;generalize nO l=r at *;have ht:=uBO l [36]
 go_enter Tryz.func68,Tryz.ntmps68
 go_wp2_with fail
 refine(gY l [36] _).mono ?_;rintro e w' ⟨rfl,rfl⟩;generalize Lib.hasPrefix l [36]=fixed at *;generalize Lib.trimPrefix l [36]=s at *;have hs1:s.length≤maxLen:=by omega
 have hle:=bW aI s;unfold maxLen at hs
 go_wp2_with fail
 refine(vG _ _ hs1).mono ?_;rintro e w' ⟨rfl,rfl⟩;unfold xZ at HN;generalize aM aI s=n at *;by_cases h3:3<n
 ·rw[if_pos h3]at HN
  go_wp2_with fail
  go_ret
  exact⟨aJ (by rw[HN.out]),rfl⟩
 ·rw[if_neg h3]at HN;have hd:(s.drop n).length≤s.length:=by rw[List.length_drop];omega
  go_upto_region 6 with fail
  generalize s.drop n=t at *;have ht2:=uBO t [36];rcases t with _ | ⟨c,t⟩
  ·rw[if_pos (by rfl)]at HN;cases fixed <;> by_cases h0:0<n
   all_goals go_wp2_with fail
   all_goals go_ret
   ·exact⟨aJ (by rw[HN.out];rfl),rfl⟩
   ·exact⟨aJ (by rw[HN.out];rfl),rfl⟩
   ·exact⟨aJ (by rw[HN.out];simp[h0]),rfl⟩
   ·exact⟨aJ (by rw[HN.out];simp[h0]),rfl⟩
  ·rw[if_neg (by simp)]at HN;by_cases h0:0<n
   ·rw[if_pos h0]at HN
    go_wp2_with fail
    refine(uP (c::t) [36] _).mono ?_;rintro e w' ⟨rfl,rfl⟩;generalize Lib.trimPrefix (c::t) [36]=u at *;have hu:u.length≤maxLen:=by omega
    go_wp2_with fail
    refine(gQ u _ hu).mono ?_;rintro e w' ⟨rfl,rfl⟩;have hm:=bW aC u;unfold tV at HN;unfold maxLen at hu;generalize aM aC u=m at *;by_cases e1:m=u.length
    ·have b1:((m:Int)==(u.length:Int))=true:=by simp;omega
     by_cases e2:1≤m
     ·by_cases e3:m≤7
      ·have hp:0<u.length:=by omega
       have e4:=nT u 0 48 48 rfl hp;have HT:Hid (r=!aP u 0 48):=zh (by rw[HN.out];simp[e1];omega);clear HN e1
       go_wp2_with fail
       go_ret
       exact⟨aJ (by rw[HT.out]),rfl⟩
      ·have HT:Hid (r=false):=zh (by rw[HN.out];simp[e3]);clear HN e1
       go_wp2_with fail
       go_ret
       exact⟨aJ (by rw[HT.out]),rfl⟩
     ·have HT:Hid (r=false):=zh (by rw[HN.out];simp[e2]);clear HN e1
      go_wp2_with fail
      go_ret
      exact⟨aJ (by rw[HT.out]),rfl⟩
    ·have b1:((m:Int)==(u.length:Int))=false:=by simp;omega
     have HT:Hid (r=false):=zh (by rw[HN.out];simp[e1]);clear HN e1
     go_wp2_with fail
     go_ret
     exact⟨aJ (by rw[HT.out]),rfl⟩
   ·rw[if_neg h0]at HN;cases fixed
    ·go_wp2_with fail
     go_ret
     exact⟨aJ (by rw[HN.out];rfl),rfl⟩
    ·rw[if_pos (by rfl)]at HN
     go_upto_region 12 with fail
     have hu:(c::t).length≤maxLen:=by omega
     clear ht2;generalize c::t=u at *
     go_wp2_with fail
     refine(gQ u _ hu).mono ?_;rintro e w' ⟨rfl,rfl⟩;have hm:=bW aC u;unfold tV at HN;unfold maxLen at hu;generalize aM aC u=m at *;by_cases e1:m=u.length
     ·have b1:((m:Int)==(u.length:Int))=true:=by simp;omega
      by_cases e2:1≤m
      ·by_cases e3:m≤7
       ·have hp:0<u.length:=by omega
        have e4:=nT u 0 48 48 rfl hp;have HT:Hid (r=!aP u 0 48):=zh (by rw[HN.out];simp[e1];omega);clear HN e1
        go_wp2_with fail
        go_ret
        exact⟨aJ (by rw[HT.out]),rfl⟩
       ·have HT:Hid (r=false):=zh (by rw[HN.out];simp[e3]);clear HN e1
        go_wp2_with fail
        go_ret
        exact⟨aJ (by rw[HT.out]),rfl⟩
      ·have HT:Hid (r=false):=zh (by rw[HN.out];simp[e2]);clear HN e1
       go_wp2_with fail
       go_ret
       exact⟨aJ (by rw[HT.out]),rfl⟩
     ·have b1:((m:Int)==(u.length:Int))=false:=by simp;omega
      have HT:Hid (r=false):=zh (by rw[HN.out];simp[e1]);clear HN e1
      go_wp2_with fail
      go_ret
      exact⟨aJ (by rw[HT.out]),rfl⟩
abbrev tokV(x:Nat×Bs×Nat):Value:=.tuple #[.int .i64 x.1,.string ⟨x.2.1.toArray⟩,.int .i64 x.2.2]
theorem uFQ{x:Nat×Bs×Nat}{k:Int}{t:Bs}{n:Int}(h:(k,t,n)=((x.1:Int),x.2.1,(x.2.2:Int))):Ending.returned (.tuple #[.int .i64 k,.string ⟨t.toArray⟩,.int .i64 n])=.returned (tokV x):=by
 simp only[Prod.mk.injEq]at h;obtain⟨rfl,rfl,rfl⟩:=h;rfl
set_option maxHeartbeats 800000 in
theorem word_any(l:Bs)(w:World)(hs:l.length≤maxLen) :
  Calls Tryz.prog 44 #[.string ⟨l.toArray⟩] w fun e w'=>e=.returned (tokV (iC l))∧Below w.heap.size w w':=by
 have hN:iC l=if nO (l.take (aM cC l)) then (4,l.take (aM cC l),aM cC l) else if dF (l.take (aM cC l))=0 then (3,l.take (aM cC l),aM cC l) else (0,[],0):=rfl
 have HN:=zh hN;clear hN;have hr:=bW cC l;have hs':=hs;unfold maxLen at hs';generalize iC l=r at *
 go_enter Tryz.func44,Tryz.ntmps44
 go_wp2_with fail
 refine(uBF l w.heap.size _ hs (heap_alloc_new w _)).mono ?_;rintro e w1 ⟨rfl,hb1,hbel⟩;generalize aM cC l=n at *;have hc:=cell_of_one hb1;have HB:Below w.heap.size w w1:=((Below.refl _ w).alloc (Nat.le_refl _) _).trans hbel;have ht:(l.take n).length≤maxLen:=by rw[List.length_take];omega
 clear hb1 hbel
 go_wp2_with fail
 generalize l.take n=t at *;refine(uCZ t _ ht).mono ?_;rintro e w' ⟨rfl,rfl⟩;cases hm:nO t
 ·rw[hm,if_neg (by simp)]at HN;by_cases hd:dF t=0
  ·rw[if_pos hd]at HN;have hd':(((dF t:Nat):Int)==0)=true:=by simp;omega
   have HD:=zh hd;clear hd
   go_wp2_with fail
   go_ret3
   exact⟨by rw[HN.out];rfl,HB⟩
  ·rw[if_neg hd]at HN;have hd':(((dF t:Nat):Int)==0)=false:=by simp;omega
   go_wp2_with fail
   go_ret3
   exact⟨by rw[HN.out];rfl,HB⟩
 ·rw[hm,if_pos rfl]at HN
  go_wp2_with fail
  go_ret3
  exact⟨by rw[HN.out];rfl,HB⟩
end Go.Proofs.YtmgjidnalpgegaaGreatDoor
set_option linter.unusedVariables false
namespace Go.Proofs.YtmgjidnalpgegaaGreatDoor
open Go.RowKit
theorem rK:(Tryz.prog.info? 116).map (·.size)=some 2:=by kernel_rfl
theorem zZ:liesAt Tryz.prog Tryz.prog.depth 116 (2 / Tryz.prog.cellsOf 116) 0 116 1=true:=by kernel_rfl
theorem zQ:(Tryz.prog.info? 5).map (fun i=>(i.zero,i.size,i.bytes))=some (some (.int .u8 0),1,1):=by kernel_rfl
set_option maxRecDepth 100000 in
set_option maxHeartbeats 1000000 in
theorem sL(b:Nat)(w:World)(h0:w.cell? ⟨b,0,none⟩=some (.pointer (some ⟨b,0,none⟩))) :
  Calls Tryz.prog 91 #[.pointer (some ⟨b,0,none⟩)] w fun e w'=>e=.returned (.tuple #[])∧w=w':=by
 obtain⟨j,hj,_⟩:=Option.map_eq_some_iff.1 rK
 go_enter Tryz.func91,Tryz.ntmps91
 go_wp2
 rw[Lib.run_neq_ptr_same w _ Tryz.underlying114 hj]
 go_wp2
 go_end0
 exact⟨rfl,rfl⟩
set_option maxRecDepth 100000 in
set_option maxHeartbeats 1000000 in
theorem rO(b:Nat)(w:World)(h0:w.cell? ⟨b,0,none⟩=some (.pointer none))(hsh:w.shape? b=some (116,2))(hfz:w.frozen? ⟨b,0,none⟩=false) :
  Calls Tryz.prog 91 #[.pointer (some ⟨b,0,none⟩)] w fun e w'=>e=.returned (.tuple #[])∧w.setCell ⟨b,0,none⟩ (.pointer (some ⟨b,0,none⟩))=w':=by
 obtain⟨j,hj,hjs⟩:=Option.map_eq_some_iff.1 rK
 go_enter Tryz.func91,Tryz.ntmps91
 go_wp2
 rw[Lib.run_to_unsafe w ⟨b,0,none⟩ Tryz.underlying114 Tryz.underlying139 hj (by rw[hjs];decide) hsh (Nat.zero_lt_succ 1)];simp only[Result.andThen];rw[Oper.upon_value]
 go_wp2
 rw[run_callFunc_extern Tryz.func106 (by kernel_rfl) (by kernel_rfl) (by kernel_rfl) (e:=Extern.AbiNoEscape.same) (by kernel_rfl)];rw[Lib.run_noEscape];simp only[Result.andThen];rw[Oper.upon_value]
 go_wp2
 rw[Lib.run_from_unsafe w ⟨b,0,none⟩ Tryz.underlying139 Tryz.underlying114 hj hsh zZ];simp only[Result.andThen];rw[Oper.upon_value]
 go_wp2
 go_end0
 exact⟨rfl,rfl⟩
theorem nL(B b:Nat)(bs:List Value)(w:World)(h:Lib.IsBuilder 116 5 B b bs w) :
  Calls Tryz.prog 91 #[.pointer (some ⟨b,0,none⟩)] w fun e w'=>e=.returned (.tuple #[])∧(Lib.BuilderAt 116 5 B b (.pointer (some ⟨b,0,none⟩)) bs w'∧Below B w w'):=by
 rcases h with h | h
 ·refine(rO b w h.cell0 h.shape h.frozen0).mono ?_;rintro e w' ⟨rfl,rfl⟩;exact⟨rfl,h.used _,(Below.refl B w).setCell (p:=⟨b,0,none⟩) h.1 _⟩
 ·refine(sL b w h.cell0).mono ?_;rintro e w' ⟨rfl,rfl⟩;exact⟨rfl,h,Below.refl B _⟩
set_option maxHeartbeats 2000000 in
theorem vK(B b:Nat)(l:Bs)(c:UInt8)(w:World)(h:Lib.IsBuilder 116 5 B b (Lib.byteCells l) w)(hlen:l.length+1≤140737488355328)(hBw:B≤w.heap.size) :
  Calls Tryz.prog 72 #[.pointer (some ⟨b,0,none⟩),.int .u8 (c.toNat:Int)] w fun e w'=>e=.returned .nilIface∧(Lib.IsBuilder 116 5 B b (Lib.byteCells (l++[c])) w'∧Below B w w'):=by
 have hlen2:(Lib.byteCells l).length=l.length:=Lib.byteCells_length l;have e1:Lib.byteCells (l++[c])=Lib.byteCells l++[.int .u8 (c.toNat:Int)]:=by simp[Lib.byteCells]
 have hlen:(Lib.byteCells l).length+1≤140737488355328:=by omega
 have E1:=zh e1;clear hlen2 e1;generalize Lib.byteCells l=bs at *;obtain⟨i0,hi,hz0,hz1,hz2⟩:=info_parts zQ
 go_enter Tryz.func72,Tryz.ntmps72
 go_wp2_with (go_at_call 91;refine(nL B b bs _ h).mono ?_)
 rintro e w1 ⟨rfl,h1,hb1⟩;obtain⟨hB,v,hbk,hown,hne⟩:=h1;have c0:w1.cell? ⟨b,0,none⟩=some (.pointer (some ⟨b,0,none⟩)):=by rw[Lib.cell_of_heap hbk];rfl
 have c1:w1.cell? ⟨b,1,none⟩=some v:=by rw[Lib.cell_of_heap hbk];rfl
 go_wp2_with (at_builtin;refine wpList_append_own _ rfl _ _ 77 rfl B 5 i0 (.int .u8 0) 1 1 Tryz.underlying77 hi hz0 hz1 hz2 rfl (by decide) _ _ _ rfl (hown.alloc _) ⟨w1.heap.size,0,none⟩ 1 1 [.int .u8 (c.toNat:Int)] rfl rfl ?c1 ?c2 ?c3 ?c4 ?c5 ?_)
 case c1=>
  intro j u hj
  match j,hj with
  | 0,hj=>simp at hj;subst hj;simp[Addr.add]
 case c2=>intro u hu;simp at hu;subst hu;rfl
 case c3=>unfold maxLen;omega
 case c4=>omega
 case c5=>have:=hb1.size;simp;omega
 intro v' w2 hown' hgrow _;have hlt:b<w1.heap.size:=by
  rcases Nat.lt_or_ge b w1.heap.size with h' | h'
  ·exact h'
  ·simp[Array.getElem?_eq_none h']at hbk
 have hb2:w2.heap[b]?=some (.cells #[.pointer (some ⟨b,0,none⟩),v] 116 (0,0)):=by
  rw[hgrow.block b (by simp;omega) (fun e=>hne e.symm),Lib.alloc_old w1 _ b hlt];exact hbk
 have d0:w2.cell? ⟨b,0,none⟩=some (.pointer (some ⟨b,0,none⟩)):=by rw[Lib.cell_of_heap hb2];rfl
 have d1:w2.cell? ⟨b,1,none⟩=some v:=by rw[Lib.cell_of_heap hb2];rfl
 have f1:w2.frozen? ⟨b,1,none⟩=false:=Lib.frozen_of_heap hb2 1;obtain⟨g,cap,rfl⟩:∃ g cap,v'=.slice (some ⟨g,0,none⟩) (bs.length+1) cap:=by
  rcases hown'.2 with⟨_,h0⟩ | ⟨g,cap,cur,hv,_⟩
  ·omega
  ·exact⟨g,cap,hv⟩
 go_wp2
 go_ret
 refine⟨rfl,?_,?_⟩
 ·rw[E1.out];exact .inr (Lib.BuilderAt.put (T:=116) (e:=5) hB hb2 (bs':=bs++[.int .u8 (c.toNat:Int)]) (by simpa using hown') (by decide))
 ·exact((hb1.alloc (by have:=hb1.size;omega) _).grown hgrow (by have:=hb1.size;simp;omega) (fun k hk=>(hown.lt k hk).1)).setCell (p:=⟨b,1,none⟩) hB _
set_option maxHeartbeats 2000000 in
theorem rR(B b:Nat)(l t:Bs)(w:World)(h:Lib.IsBuilder 116 5 B b (Lib.byteCells l) w)(hlen:l.length+t.length≤140737488355328)(hBw:B≤w.heap.size) :
  Calls Tryz.prog 70 #[.pointer (some ⟨b,0,none⟩),.string ⟨t.toArray⟩] w fun e w'=>e=.returned (.tuple #[.int .i64 t.length,.nilIface])∧(Lib.IsBuilder 116 5 B b (Lib.byteCells (l++t)) w'∧Below B w w'):=by
 have hlen2:(Lib.byteCells l).length=l.length:=Lib.byteCells_length l;have e1:Lib.byteCells (l++t)=Lib.byteCells l++Lib.strCells ⟨t.toArray⟩:=by rw[Lib.byteCells_append,Lib.strCells_eq]
 have hlen:(Lib.byteCells l).length+t.length≤140737488355328:=by omega
 have E1:=zh e1;clear hlen2 e1;generalize Lib.byteCells l=bs at *;have hsz:(ByteArray.mk t.toArray).size=t.length:=by simp[ByteArray.size]
 have hb:bs.length+(ByteArray.mk t.toArray).size≤140737488355328:=by omega
 obtain⟨i0,hi,hz0,hz1,hz2⟩:=info_parts zQ;have HSZ:=zh hsz;clear hsz
 go_enter Tryz.func70,Tryz.ntmps70
 go_wp2_with (go_at_call 91;refine(nL B b bs _ h).mono ?_)
 rintro e w1 ⟨rfl,h1,hb1⟩;obtain⟨hB,v,hbk,hown,hne⟩:=h1;have c0:w1.cell? ⟨b,0,none⟩=some (.pointer (some ⟨b,0,none⟩)):=by rw[Lib.cell_of_heap hbk];rfl
 have c1:w1.cell? ⟨b,1,none⟩=some v:=by rw[Lib.cell_of_heap hbk];rfl
 go_wp2_with (at_builtin;refine Lib.wpList_append_own_string _ rfl _ _ 77 9 rfl B 5 i0 Tryz.underlying77 Tryz.underlying9 hi hz0 hz1 hz2 _ _ _ rfl hown ⟨t.toArray⟩ rfl ?c3 ?c4 ?c5 ?_)
 case c3=>unfold maxLen;omega
 case c4=>omega
 case c5=>have:=hb1.size;omega
 intro v' w2 hown' hgrow _;have hlt:b<w1.heap.size:=by
  rcases Nat.lt_or_ge b w1.heap.size with h' | h'
  ·exact h'
  ·simp[Array.getElem?_eq_none h']at hbk
 have hb2:w2.heap[b]?=some (.cells #[.pointer (some ⟨b,0,none⟩),v] 116 (0,0)):=by
  rw[hgrow.block b hlt (fun e=>hne e.symm)];exact hbk
 have d0:w2.cell? ⟨b,0,none⟩=some (.pointer (some ⟨b,0,none⟩)):=by rw[Lib.cell_of_heap hb2];rfl
 have d1:w2.cell? ⟨b,1,none⟩=some v:=by rw[Lib.cell_of_heap hb2];rfl
 have f1:w2.frozen? ⟨b,1,none⟩=false:=Lib.frozen_of_heap hb2 1;obtain⟨ao,n',cap,rfl⟩:∃ ao n' cap,v'=.slice ao n' cap:=by
  rcases hown'.2 with⟨hv,_⟩ | ⟨g,cap,cur,hv,_⟩
  ·exact⟨_,_,_,hv⟩
  ·exact⟨_,_,_,hv⟩
 go_wp2
 go_ret2
 refine⟨rfl,?_,?_⟩
 ·rw[E1.out];exact .inr (Lib.BuilderAt.put (T:=116) (e:=5) hB hb2 (bs':=bs++Lib.strCells ⟨t.toArray⟩) (by simpa [Lib.strCells_length,ByteArray.size] using hown') (by decide))
 ·exact(hb1.grown hgrow (by have:=hb1.size;omega) (fun k hk=>(hown.lt k hk).1)).setCell (p:=⟨b,1,none⟩) hB _
theorem nV(l:Bs)(w:World):∃ (cap:Nat) (W1:World),(convert 9 77 (.string ⟨l.toArray⟩)).run Tryz.prog w=.ok (.slice (some ⟨w.heap.size,0,none⟩) l.length cap) W1∧Row W1 w.heap.size l∧Below w.heap.size w W1:=by
 have h:=run_bytes_of_string (P:=Tryz.prog) w 9 77 5 ⟨l.toArray⟩ Tryz.underlying9 Tryz.underlying77 Tryz.underlying5;have hsz:(ByteArray.mk l.toArray).size=l.length:=by simp[ByteArray.size]
 rw[hsz]at h;refine⟨_,_,h,?_,(Below.refl _ w).drew.alloc (Nat.le_refl _) _⟩;intro j hj;have e:(w.drew).heap.size=w.heap.size:=rfl;have hlen:(bytesRow ⟨l.toArray⟩ (grownCap w l.length 0 5)).size ≥ l.length:=by simp[bytesRow]
 refine⟨?_,?_⟩
 ·have:=World.cell?_alloc_mark w.drew (bytesRow ⟨l.toArray⟩ (grownCap w l.length 0 5)) 5 ((bytesRow ⟨l.toArray⟩ (grownCap w l.length 0 5)).size,(bytesRow ⟨l.toArray⟩ (grownCap w l.length 0 5)).size+1) j;rw[e]at this;rw[this];unfold bytesRow;rw[Array.getElem?_append_left (by simpa using hj)];simp[hj]
 ·have:=World.frozen?_alloc_mark w.drew (bytesRow ⟨l.toArray⟩ (grownCap w l.length 0 5)) 5 (bytesRow ⟨l.toArray⟩ (grownCap w l.length 0 5)).size ((bytesRow ⟨l.toArray⟩ (grownCap w l.length 0 5)).size+1) j;rw[e]at this;rw[this];simp;omega
theorem vO(m:Bs)(w:World)(b cap n:Nat)(hn:m.length=n)(h:Row w b m):(convert 77 9 (.slice (some ⟨b,0,none⟩) n cap)).run Tryz.prog w=.ok (.string ⟨m.toArray⟩) w:=by
 subst hn;refine run_convert_bytes_back w 77 9 5 ⟨b,0,none⟩ cap m Tryz.underlying77 Tryz.underlying5 Tryz.underlying9 (fun j hj=>?_);rw[← (h j hj).1];unfold Addr.add;by_cases e:j=0
 ·simp[e]
 ·simp[e]
set_option maxHeartbeats 800000 in
theorem uCS(l:Bs)(w:World)(hs:l.length≤maxLen) :
  Calls Tryz.prog 92 #[.string ⟨l.toArray⟩] w fun e w'=>e=.returned (.string ⟨(aG l).toArray⟩)∧Below w.heap.size w w':=by
 unfold maxLen at hs;obtain⟨cap,W1,hconv,hrow,hbel⟩:=nV l w;have HR:=zh hrow;clear hrow
 go_enter Tryz.func92,Tryz.ntmps92
 go_wp2
 go_loopw [10] (fun i wr=>∃ k:Nat,k≤l.length∧i=.int .i64 k∧Hid (Row wr w.heap.size (lY l k))∧Below w.heap.size w wr) (fun i _=>l.length-(intOf i).toNat)
 case atStart=>exact⟨0,Nat.zero_le _,rfl,zh (by simpa [lY,aG] using HR.out),hbel⟩
 case round=>
  obtain⟨k,hk,rfl,hr,hb⟩:=hrel;clear hbel HR hconv;by_cases hlt:k<l.length
  ·have hlen:k<(lY l k).length:=by rw[zN];exact hlt
   have hc:=(hr.out k hlen).1;have hf:=(hr.out k hlen).2;rw[zM l k hlt hlen]at hc;cases hlow:gM l[k]
   ·have hsame:=zh (uHD l k hlt (mZ _ hlow));have hno:¬ (97≤(l[k].toNat:Int)∧(l[k].toNat:Int)≤122):=by
     intro h;have:gM l[k]=true:=(fM _).2 ⟨by omega,by omega⟩;rw[hlow]at this;cases this
    go_wp2
    all_goals go_roundw
    all_goals first
     | exact⟨k+1,by omega,by go_num,by rw[← hsame.out];exact hr,hb⟩
     |(simp[intOf];omega)
   ·have hyes:=(fM _).1 hlow;have HU:=zh (zO l k hlt);have hval:(((up l[k]).toNat:Nat):Int)=(l[k].toNat:Int)-97+65:=by have:=uES _ hlow;omega
    have HV:=zh hval;clear hval;obtain⟨h97,h122⟩:=hyes
    go_wp2
    go_roundw
    case rel=>exact⟨k+1,by omega,by go_num,by rw[← HU.out];exact zh (by rw[← HV.out];exact hr.out.set k _),hb.setCell (p:=⟨w.heap.size,k,none⟩) (Nat.le_refl _) _⟩
    case measure=>simp[intOf];omega
  ·have hk':k=l.length:=by omega
   have hfin:lY l k=aG l:=by rw[hk'];exact half_all l
   have hr2:Row wr w.heap.size (aG l):=by rw[← hfin];exact hr.out
   have hback:=vO (aG l) wr w.heap.size cap l.length (cR l) hr2;have HR2:=zh hr2;clear hr2 hfin hr hk'
   go_wp2
   go_ret
   exact⟨rfl,hb⟩
set_option maxHeartbeats 800000 in
theorem kJ(l:Bs)(w:World)(hs:l.length≤maxLen) :
  Calls Tryz.prog 74 #[.string ⟨l.toArray⟩] w fun e w'=>e=.returned (.string ⟨(aG l).toArray⟩)∧Below w.heap.size w w':=by
 have hs':=hs;unfold maxLen at hs'
 go_enter Tryz.func74,Tryz.ntmps74
 go_wp2
 go_loop [6] (fun i=>∃ k:Nat,k≤l.length∧i=.int .i64 k∧Hid (∀ c∈l.take k,gM c=false)) (fun i=>l.length-(intOf i).toNat)
 case atStart=>exact⟨0,Nat.zero_le _,rfl,zh (by simp)⟩
 case round=>
  obtain⟨k,hk,rfl,hr⟩:=hrel;by_cases hlt:k<l.length
  ·cases hlow:gM l[k]
   ·have hno:¬ (97≤(l[k].toNat:Int)∧(l[k].toNat:Int)≤122):=by
     intro h;have:gM l[k]=true:=(fM _).2 ⟨by omega,by omega⟩;rw[hlow]at this;cases this
    have hr2:Hid (∀ c∈l.take (k+1),gM c=false):=zh (by
     rw[List.take_succ_eq_append_getElem hlt];intro c hc;rcases List.mem_append.1 hc with h | h
     ·exact hr.out c h
     ·simp at h;rw[h];exact hlow)
    go_wp2_with fail
    all_goals go_round
    all_goals first
     | exact⟨k+1,by omega,by go_num,hr2⟩
     |(simp[intOf];omega)
   ·obtain⟨h1,h2⟩:=(fM _).1 hlow
    go_wp2_with fail
    refine(uCS l _ hs).mono ?_;rintro e w1 ⟨rfl,hb⟩
    go_wp2_with fail
    go_ret
    exact⟨rfl,hb⟩
  ·have hfin:Hid (aG l=l):=zh (tS l (by rw[List.take_of_length_le (by omega)]at hr;exact hr.out))
   go_wp2_with fail
   go_ret
   exact⟨by rw[hfin.out];rfl,Below.refl _ _⟩
def cX:Nat→Bs
 | 1=>[35,68,73,86,47,48,33]
 | 2=>[35,86,65,76,85,69,33]
 | 3=>[35,82,69,70,33]
 | 4=>[35,78,65,77,69,63]
 | 5=>[35,78,85,77,33]
 | 6=>[35,78,47,65]
 | 7=>[35,83,80,73,76,76,33]
 | 8=>[35,67,73,82,67,33]
 | 9=>[35,67,65,76,67,33]
 | _=>[]
def Tab(w:World):Prop:=∀ i,i<10→w.cell? ⟨0,i,none⟩=some (.string ⟨(cX i).toArray⟩)
theorem tK{w:World}{a:Addr}{v:Value}(h:w.cell? a=some v):a.block<w.heap.size:=by
 rcases Nat.lt_or_ge a.block w.heap.size with h1 | h1
 ·exact h1
 ·unfold World.cell? at h;simp[Array.getElem?_eq_none h1]at h
theorem Tab.lt{w:World}(h:Tab w):0<w.heap.size:=tK (h 0 (by decide))
theorem Tab.below{w w':World}{B:Nat}(h:Tab w)(hb:Below B w w')(hB:0<B):Tab w':=fun i hi=>(hb.cell (p:=⟨0,i,none⟩) hB).trans (h i hi)
theorem Tab.next{w w':World}(h:Tab w)(hb:Below w.heap.size w w'):Tab w':=h.below hb h.lt
def gB(n:Int):Bs:=if 1≤n∧n≤9 then cX n.toNat else []
set_option maxHeartbeats 400000 in
theorem uY(n:Int)(w:World)(ht:Tab w) :
  Calls Tryz.prog 73 #[.int .i64 n] w fun e w'=>e=.returned (.string ⟨(gB n).toArray⟩)∧w=w':=by
 by_cases h:1≤n∧n≤9
 ·have hN:gB n=cX n.toNat:=if_pos h;have HN:=zh hN;clear hN;obtain⟨h1,h2⟩:=h;have hc:=ht n.toNat (by omega);clear ht;generalize gB n=r at *;generalize cX n.toNat=t at *
  go_enter Tryz.func73,Tryz.ntmps73
  go_wp2
  go_ret
  exact⟨by rw[HN.out];rfl,rfl⟩
 ·have hN:gB n=[]:=if_neg h;have HN:=zh hN;clear hN ht;generalize gB n=r at *;by_cases h1:1≤n
  ·have h2:9<n:=by omega
   clear h
   go_enter Tryz.func73,Tryz.ntmps73
   go_wp2
   go_ret
   exact⟨by rw[HN.out];rfl,rfl⟩
  ·clear h
   go_enter Tryz.func73,Tryz.ntmps73
   go_wp2
   go_ret
   exact⟨by rw[HN.out];rfl,rfl⟩
set_option maxHeartbeats 1600000 in
theorem uDW(l:Bs)(w:World)(hp:0<l.length)(hs:l.length≤140737488351232) :
  Calls Tryz.prog 45 #[.string ⟨l.toArray⟩] w fun e w'=>e=.returned (tokV (eH l))∧Below w.heap.size w w':=by
 have HP:=zh (QInv.start l hp)
 go_enter Tryz.func45,Tryz.ntmps45
 go_wp2_with fail
 go_loopw [6] (fun i wr=>∃ (k:Nat) (acc:Bs),i=.int .i64 k∧Hid (QInv l acc k)∧Hid (Lib.IsBuilder 116 5 w.heap.size w.heap.size (Lib.byteCells acc) wr)∧Hid (Below w.heap.size w wr)) (fun i _=>l.length+1-(intOf i).toNat)
 case atStart=>exact⟨1,[],rfl,HP,zh (Lib.fresh_isBuilder _ _ w),zh ((Below.refl _ w).alloc (Nat.le_refl _) _)⟩
 case round=>
  obtain⟨k,acc,rfl,hq,hbu,hbel⟩:=hrel;clear HP;have hk1:=hq.out.1;have hk2:=hq.out.2.1;have hk3:=hq.out.2.2.1
  go_wp2_with fail
  have hidx:=Lib.indexByte_ge (l.drop k) 34;refine(nM (l.drop k) 34 _).mono ?_;rintro e w' ⟨rfl,rfl⟩;generalize hI:Lib.indexByte (l.drop k) 34=i at *;have HI:=zh hI;clear hI;by_cases hi:i<0
  ·have hf:Hid (eH l=(0,[],0)):=zh (hq.out.fail (by rw[HI.out];exact hi))
   go_wp2_with fail
   go_ret3
   exact⟨by rw[hf.out];rfl,hbel.out⟩
  ·obtain⟨n,rfl⟩:=Int.eq_ofNat_of_zero_le (by omega:0≤i);have hsp:=(hq.out.split HI.out).1;have hlen:acc.length+((l.drop k).take n).length≤140737488355328:=by rw[List.length_take];omega
   go_wp2_with fail
   refine(rR w.heap.size w.heap.size acc ((l.drop k).take n) _ hbu.out hlen hbel.out.size).mono ?_;rintro e w1 ⟨rfl,hbu1,hb1⟩;have HBU:=zh hbu1;have HB:Hid (Below w.heap.size w w1):=zh (hbel.out.trans hb1);clear hbu1 hb1 hbu hbel;by_cases hend:k+(n+1)=l.length
   ·have hstop:Hid (eH l=(2,acc++(l.drop k).take n,k+n+1)):=zh (hq.out.stop HI.out (iE _ _ _ (by omega)));have b1:((k:Int)+((n:Int)+1)==(l.length:Int))=true:=by rw[beq_iff_eq];omega
    clear hend
    go_wp2_with fail
    refine(Tryz.Builder_String_any w.heap.size w.heap.size (acc++(l.drop k).take n) _ HBU.out HB.out.size).mono ?_;rintro e w2 ⟨rfl,hb2⟩;have HB2:Hid (Below w.heap.size w w2):=zh (HB.out.trans hb2);clear hb2
    go_wp2_with fail
    go_ret3
    exact⟨by rw[hstop.out];exact uFQ (by simp;omega),HB2.out⟩
   ·have hlt:k+(n+1)<l.length:=by omega
    have b1:((k:Int)+((n:Int)+1)==(l.length:Int))=false:=by rw[beq_eq_false_iff_ne];omega
    have e34:=nT l (k+(n+1)) 34 34 rfl hlt;clear hend;cases h34:aP l (k+(n+1)) 34
    ·have hstop:Hid (eH l=(2,acc++(l.drop k).take n,k+n+1)):=zh (hq.out.stop HI.out h34);rw[h34]at e34
     go_wp2_with fail
     refine(Tryz.Builder_String_any w.heap.size w.heap.size (acc++(l.drop k).take n) _ HBU.out HB.out.size).mono ?_;rintro e w2 ⟨rfl,hb2⟩;have HB2:Hid (Below w.heap.size w w2):=zh (HB.out.trans hb2);clear hb2
     go_wp2_with fail
     go_ret3
     exact⟨by rw[hstop.out];exact uFQ (by simp;omega),HB2.out⟩
    ·have hnext:=zh (hq.out.next HI.out h34);rw[h34]at e34;have hlen2:(acc++(l.drop k).take n).length+1≤140737488355328:=by rw[List.length_append,List.length_take];omega
     go_wp2_with fail
     refine(vK w.heap.size w.heap.size (acc++(l.drop k).take n) 34 _ HBU.out hlen2 HB.out.size).mono ?_;rintro e w2 ⟨rfl,hbu2,hb2⟩;have HBU2:=zh hbu2;have HB2:Hid (Below w.heap.size w w2):=zh (HB.out.trans hb2);clear hbu2 hb2
     go_wp2_with fail
     go_roundw
     case rel=>exact⟨k+n+1+1,_,by go_num,hnext,HBU2,HB2⟩
     case measure=>simp[intOf];omega
theorem sV(p:Nat→Bool)(n k:Nat)(h1:1≤k)(h2:k<n+1)(hk:p k=true)(h:∀ j,1≤j→j<k→p j=false):(List.range' 1 n).find? p=some k:=by
 rw[List.find?_range'_eq_some];refine⟨hk,by simp[List.mem_range'_1];omega,fun j hj1 hj2=>by rw[h j hj1 hj2];rfl⟩
theorem uEY(p:Nat→Bool)(n:Nat)(h:∀ j,1≤j→j<n+1→p j=false):(List.range' 1 n).find? p=none:=by
 rw[List.find?_eq_none];intro j hj;rw[List.mem_range'_1]at hj;rw[h j hj.1 (by omega)]
 decide
def eM(l:Bs)(k:Nat):Bool:=decide ((cX k).length≤l.length)&&(aG (l.take (cX k).length)==cX k)
def kE(l:Bs):Option Nat:=if aP l 0 35 then (List.range' 1 9).find? (eM l) else none
def bZ(l:Bs):Bs:=match kE l with | some k=>cX k | none=>[]
set_option maxHeartbeats 800000 in
theorem zG(L:Bs)(w:World)(hp:0<L.length)(hs:L.length≤maxLen)(ht:Tab w) :
  Calls Tryz.prog 46 #[.string ⟨L.toArray⟩] w fun e w'=>e=.returned (.tuple #[.string ⟨(bZ L).toArray⟩,.int .i64 (bZ L).length])∧Below w.heap.size w w':=by
 have e35:=nT L 0 35 35 rfl hp;have hN:kE L=if aP L 0 35 then (List.range' 1 9).find? (eM L) else none:=rfl
 cases h35:aP L 0 35
 ·have hB:bZ L=[]:=by unfold bZ;rw[hN,h35];rfl
  rw[h35]at e35;rw[hB];clear hN hB ht
  go_enter Tryz.func46,Tryz.ntmps46
  go_wp2_with fail
  go_ret2
  exact⟨rfl,Below.refl _ _⟩
 ·rw[h35]at e35 hN;rw[if_pos rfl]at hN;have HN:=zh hN;clear hN;have HT:=zh ht;clear ht;have HB:Hid (bZ L=match kE L with | some k=>cX k | none=>[]):=zh rfl;generalize bZ L=R at *;have hs':=hs;unfold maxLen at hs'
  go_enter Tryz.func46,Tryz.ntmps46
  go_wp2_with fail
  go_loopw [4] (fun i wr=>∃ k:Nat,1≤k∧k≤10∧i=.int .i64 k∧Hid (∀ j,1≤j→j<k→eM L j=false)∧Hid (Below w.heap.size w wr)) (fun i _=>10-(intOf i).toNat)
  case atStart=>exact⟨1,by omega,by omega,rfl,zh (fun j h1 h2=>by omega),zh (Below.refl _ _)⟩
  case round=>
   obtain⟨k,hk1,hk2,rfl,hr,hbel⟩:=hrel;have ht2:Hid (Tab wr):=zh (HT.out.next hbel.out);by_cases hlt:k≤9
   ·have hft:Hid (gB (k:Int)=cX k):=zh (by unfold gB;rw[if_pos (by omega)];simp)
    go_wp2_with fail
    refine(uY (k:Int) _ ht2.out).mono ?_;rintro e w' ⟨rfl,rfl⟩;rw[hft.out];have hA:eM L k=(decide ((cX k).length≤L.length)&&(aG (L.take (cX k).length)==cX k)):=rfl;have HA:=zh hA;have HF:Hid (kE L=some k→R=cX k):=zh (by intro h;rw[HB.out,h]);clear hA hft;generalize cX k=t at *;by_cases hle:t.length≤L.length
    ·go_wp2_with fail
     refine(kJ (L.take t.length) _ (by rw[List.length_take];omega)).mono ?_;rintro e w1 ⟨rfl,hb1⟩;generalize aG (L.take t.length)=u at *;have hb2:Hid (Below w.heap.size w w1):=zh (hbel.out.trans (hb1.mono hbel.out.size));clear hb1;cases hu:(u==t)
     ·have hq:Hid (eM L k=false):=zh (by rw[HA.out,hu];simp)
      go_wp2_with fail
      go_roundw
      case rel=>
       refine⟨k+1,by omega,by omega,by go_num,zh (fun j h1 h2=>?_),hb2⟩;by_cases e:j=k
       ·rw[e];exact hq.out
       ·exact hr.out j h1 (by omega)
      case measure=>simp[intOf];omega
     ·have hq:Hid (R=t):=zh (HF.out (by rw[HN.out];exact sV _ 9 k hk1 (by omega) (by rw[HA.out,hu];simpa using hle) hr.out))
      go_wp2_with fail
      go_ret2
      exact⟨by rw[hq.out];rfl,hb2.out⟩
    ·have hq:Hid (eM L k=false):=zh (by rw[HA.out];simp;intro h;omega)
     go_wp2_with fail
     go_roundw
     case rel=>
      refine⟨k+1,by omega,by omega,by go_num,zh (fun j h1 h2=>?_),hbel⟩;by_cases e:j=k
      ·rw[e];exact hq.out
      ·exact hr.out j h1 (by omega)
     case measure=>simp[intOf];omega
   ·have hq:Hid (R=[]):=zh (by rw[HB.out,HN.out,uEY _ 9 (fun j h1 h2=>hr.out j h1 (by omega))])
    go_wp2_with fail
    go_ret2
    exact⟨by rw[hq.out];rfl,hbel.out⟩
def fB(l:Bs):Bool:=match l with | c::_=>aI c | []=>false
theorem uDD(l:Bs)(hp:0<l.length):aI l[0]=fB l:=by cases l with | nil=>simp at hp | cons c l=>rfl
def aR(l:Bs):Nat×Bs×Nat :=
 if 0<cP l then (1,l.take (cP l),cP l)
 else if fB l||aP l 0 95||aP l 0 36 then iC l
 else if aP l 0 34 then eH l
 else if 0<(bZ l).length then (6,bZ l,(bZ l).length)
 else if 0<dZ l then (5,l.take (dZ l),dZ l)
 else (0,[],0)
theorem sign_at(l:Bs)(w:World)(hp:0<l.length) :
  Calls Tryz.prog 47 #[.string ⟨l.toArray⟩] w fun e w'=>e=.returned (.int .i64 (dZ l))∧w=w':=by
 cases l with
 | nil=>simp at hp
 | cons c l=>exact sign_any c l w
theorem pJ(l:Bs)(hp:0<l.length):dZ l≤l.length:=by
 unfold dZ
 split
 case isTrue h=>
  cases l with
  | nil=>simp at hp
  | cons c l=>
   cases l with
   | nil=>simp[Lib.hasPrefix,List.isPrefixOf]at h
   | cons d l=>simp
 case isFalse=>split <;> omega
set_option maxHeartbeats 1600000 in
theorem uIL(l:Bs)(w:World)(hp:0<l.length)(hs:l.length≤140737488351232)(ht:Tab w) :
  Calls Tryz.prog 34 #[.string ⟨l.toArray⟩] w fun e w'=>e=.returned (tokV (aR l))∧Below w.heap.size w w':=by
 have hs1:l.length≤maxLen:=by unfold maxLen;omega
 have hnl:=lR l;have hsl:=pJ l hp;have hN:aR l=if 0<cP l then (1,l.take (cP l),cP l)
  else if fB l||aP l 0 95||aP l 0 36 then iC l
  else if aP l 0 34 then eH l
  else if 0<(bZ l).length then (6,bZ l,(bZ l).length)
  else if 0<dZ l then (5,l.take (dZ l),dZ l)
  else (0,[],0):=rfl
 have HN:=zh hN;have HT:=zh ht;clear hN ht;generalize aR l=r at *
 go_enter Tryz.func34,Tryz.ntmps34
 go_wp2_with fail
 refine(uDO l _ hs1).mono ?_;rintro e w' ⟨rfl,rfl⟩;generalize cP l=n at *;by_cases hn:0<n
 ·have HR:Hid (r=(1,l.take n,n)):=zh (by rw[HN.out,if_pos hn]);clear HN
  go_wp2_with fail
  go_quiet (fail)
  go_wp2_with fail
  go_ret3
  exact⟨by rw[HR.out];rfl,below_drewN (Below.refl _ _) _⟩
 ·have HR:=zh (HN.out.trans (if_neg hn));clear HN;have e95:=gS l 0 95 95 rfl hp;have e36:=gS l 0 36 36 rfl hp;have e34:=gS l 0 34 34 rfl hp;have hl0:=uDD l hp
  go_upto_region 5 with fail
  go_cut [27] (fun v wx=>v=.bool (fB l||aP l 0 95||aP l 0 36)∧w=wx)
  case first=>
   go_wp2_with fail
   refine(gL _ _).mono ?_;rintro e w' ⟨rfl,rfl⟩;rw[hl0];clear hl0;cases h1:fB l <;> cases h2:aP l 0 95 <;> cases h3:aP l 0 36
   all_goals rw[h2]at e95;rw[h3]at e36
   all_goals go_wp2_with fail
   all_goals go_meet
   all_goals exact⟨by first | rfl |(rw[h1,h2,h3];rfl),rfl⟩
  case rest=>
   obtain⟨rfl,rfl⟩:=hcut;clear hl0 e95 e36;cases hw:(fB l||aP l 0 95||aP l 0 36)
   ·have HR2:=zh (HR.out.trans (if_neg (by rw[hw];decide)));clear HR;cases h34:aP l 0 34
    ·have HR3:=zh (HR2.out.trans (if_neg (by rw[h34];decide)));clear HR2;rw[h34]at e34
     go_wp2_with fail
     refine(zG l _ hp hs1 HT.out).mono ?_;rintro e w1 ⟨rfl,hb1⟩;have HB1:=zh hb1;clear hb1;generalize bZ l=f at *;by_cases hf:0<f.length
     ·have HR4:=zh (HR3.out.trans (if_pos hf));clear HR3
      go_wp2_with fail
      go_ret3
      exact⟨by rw[HR4.out];rfl,HB1.out⟩
     ·have HR4:=zh (HR3.out.trans (if_neg hf));clear HR3
      go_wp2_with fail
      refine(sign_at l _ hp).mono ?_;rintro e w' ⟨rfl,rfl⟩;generalize dZ l=g at *;by_cases hg:0<g
      ·have HR5:=zh (HR4.out.trans (if_pos hg));clear HR4
       go_wp2_with fail
       go_quiet (fail)
       go_wp2_with fail
       go_ret3
       exact⟨by rw[HR5.out];rfl,below_drewN HB1.out _⟩
      ·have HR5:=zh (HR4.out.trans (if_neg hg));clear HR4
       go_wp2_with fail
       go_ret3
       exact⟨by rw[HR5.out];rfl,HB1.out⟩
    ·have HR3:=zh (HR2.out.trans (if_pos h34));clear HR2;rw[h34]at e34
     go_wp2_with fail
     refine(uDW l _ hp hs).mono ?_;rintro e w1 ⟨rfl,hb1⟩
     go_wp2_with fail
     go_ret3
     exact⟨by rw[HR3.out];rfl,hb1⟩
   ·have HR2:=zh (HR.out.trans (if_pos hw));clear HR
    go_wp2_with fail
    refine(word_any l _ hs1).mono ?_;rintro e w1 ⟨rfl,hb1⟩
    go_wp2_with fail
    go_ret3
    exact⟨by rw[HR2.out];rfl,hb1⟩
structure Tok where
 kind:Nat
 text:Bs
 place:Nat
theorem pWord_le(l:Bs):(iC l).2.2≤l.length:=by
 unfold iC;have:=bW cC l
 split
 ·exact this
 ·split
  ·exact this
  ·exact Nat.zero_le _
theorem pText_le(l:Bs):∀ x,bG l=some x→x.2≤l.length∧x.1.length≤l.length:=by
 have key:∀ n (l:Bs),l.length≤n→∀ x,bG l=some x→x.2≤l.length∧x.1.length≤l.length:=by
  intro n
  induction n with
  | zero=>intro l hl x hx;cases l with
   | nil=>simp[bG]at hx
   | cons c l=>simp at hl
  | succ n ih=>
   intro l hl x hx
   match l,hl,hx with
   | [],_,hx=>simp[bG]at hx
   | [c],_,hx=>
    simp only[bG]at hx
    split at hx
    ·injection hx with hx;subst hx;simp
    ·cases hx
   | c::d::l,hl,hx=>
    simp only[bG]at hx;simp only[List.length_cons]at hl
    split at hx
    ·split at hx
     ·cases hy:bG l with
      | none=>rw[hy]at hx;cases hx
      | some y=>
       rw[hy]at hx;injection hx with hx;have:=ih l (by omega) y hy;subst hx;simp only[List.length_cons];omega
     ·injection hx with hx;subst hx;simp
    ·cases hy:bG (d::l) with
     | none=>rw[hy]at hx;cases hx
     | some y=>
      rw[hy]at hx;injection hx with hx;have:=ih (d::l) (by simp only[List.length_cons];omega) y hy;subst hx;simp only[List.length_cons]at this ⊢;omega
 exact key l.length l (Nat.le_refl _)
theorem uDQ(l:Bs):(eH l).2.2≤l.length:=by
 unfold eH;cases h:bG (l.drop 1) with
 | none=>exact Nat.zero_le _
 | some x=>
  have:=(pText_le _ x h).1;rw[List.length_drop]at this;show x.2+1≤l.length;cases l with
  | nil=>simp[bG]at h
  | cons c l=>simp only[List.length_cons]at this ⊢;omega
theorem tR(l:Bs):(bZ l).length≤l.length:=by
 unfold bZ;cases h:kE l with
 | none=>simp
 | some k=>
  unfold kE at h
  split at h
  ·have:=List.find?_some h;unfold eM at this;simp only[Bool.and_eq_true,decide_eq_true_eq]at this;exact this.1
  ·cases h
theorem iP(l:Bs)(hp:0<l.length):(aR l).2.2≤l.length:=by
 unfold aR
 split
 ·exact lR l
 ·split
  ·exact pWord_le l
  ·split
   ·exact uDQ l
   ·split
    ·exact tR l
    ·split
     ·exact pJ l hp
     ·exact Nat.zero_le _
def dR:Nat→Bs→Nat→Except Nat (List Tok)
 | 0,_,_=>.ok []
 | _+1,[],_=>.ok []
 | f+1,c::r,k=>
  if c=32 then dR f r (k+1)
  else if (aR (c::r)).2.2=0 then .error k
  else match dR f ((c::r).drop (aR (c::r)).2.2) (k+(aR (c::r)).2.2) with
   | .error p=>.error p
   | .ok ts=>.ok (⟨(aR (c::r)).1,(aR (c::r)).2.1,k⟩::ts)
theorem uDF:∀ (f g:Nat) (l:Bs) (k:Nat),l.length≤f→l.length≤g→dR f l k=dR g l k:=by
 intro f
 induction f with
 | zero=>
  intro g l k hf hg;obtain rfl:l=[]:=List.eq_nil_of_length_eq_zero (by omega);cases g <;> rfl
 | succ f ih=>
  intro g l k hf hg;cases l with
  | nil=>cases g <;> rfl
  | cons c r=>
   cases g with
   | zero=>simp at hg
   | succ g=>
    simp only[List.length_cons]at hf hg;simp only[dR]
    split
    ·exact ih g r _ (by omega) (by omega)
    ·split
     ·rfl
     ·rename_i h0
      rw[ih g _ _ (by rw[List.length_drop,List.length_cons];omega) (by rw[List.length_drop,List.length_cons];omega)]
def bF(l:Bs)(k:Nat):Except Nat (List Tok):=dR l.length l k
theorem jW(k:Nat):bF [] k=.ok []:=rfl
theorem eB(r:Bs)(k:Nat):bF (32::r) k=bF r (k+1):=by
 unfold bF;simp only[List.length_cons,dR];rfl
theorem jV(c:UInt8)(r:Bs)(k:Nat)(h:c≠32)(h0:(aR (c::r)).2.2=0):bF (c::r) k=.error k:=by
 unfold bF;simp only[List.length_cons,dR];rw[if_neg h,if_pos h0]
def rS(t:Tok):Except Nat (List Tok)→Except Nat (List Tok)
 | .error p=>.error p
 | .ok ts=>.ok (t::ts)
theorem gF(c:UInt8)(r:Bs)(k:Nat)(h:c≠32)(h0:(aR (c::r)).2.2≠0) :
  bF (c::r) k=rS ⟨(aR (c::r)).1,(aR (c::r)).2.1,k⟩ (bF ((c::r).drop (aR (c::r)).2.2) (k+(aR (c::r)).2.2)):=by
 unfold bF;simp only[List.length_cons];rw[dR,if_neg h,if_neg h0];rw[uDF r.length ((c::r).drop (aR (c::r)).2.2).length _ _ (by rw[List.length_drop,List.length_cons];omega) (Nat.le_refl _)];cases dR ((c::r).drop (aR (c::r)).2.2).length ((c::r).drop (aR (c::r)).2.2) (k+(aR (c::r)).2.2) <;> rfl
def iG(l:Bs):Except Nat (List Tok):=bF l 0
def mA(a:List Tok):Except Nat (List Tok)→Except Nat (List Tok)
 | .error p=>.error p
 | .ok ts=>.ok (a++ts)
theorem yN(a:List Tok)(t:Tok)(x:Except Nat (List Tok)):mA a (rS t x)=mA (a++[t]) x:=by
 cases x with
 | error p=>rfl
 | ok ts=>simp[mA,rS]
def LInv(l:Bs)(a:List Tok)(k:Nat):Prop:=k≤l.length∧a.length≤k∧iG l=mA a (bF (l.drop k) k)
theorem LInv.start(l:Bs):LInv l [] 0:=by
 refine⟨Nat.zero_le _,Nat.le_refl _,?_⟩;unfold iG;rw[List.drop_zero];cases bF l 0 <;> rfl
theorem LInv.blank{l:Bs}{a:List Tok}{k:Nat}(h:LInv l a k)(hb:aP l k 32=true):LInv l a (k+1):=by
 have hlt:=at_lt _ _ _ hb;refine⟨hlt,by have:=h.2.1;omega,?_⟩;have e:l[k]=32:=by
  unfold aP at hb;rw[List.getElem?_eq_getElem hlt]at hb;have:=eq_of_beq hb;injection this
 rw[h.2.2,List.drop_eq_getElem_cons hlt,e,eB]
theorem uAG{l:Bs}{k:Nat}{c:UInt8}(hlt:k<l.length)(hb:aP l k c=false):l[k]≠c:=by
 intro e;unfold aP at hb;rw[List.getElem?_eq_getElem hlt,e]at hb;simp at hb
theorem LInv.bad{l:Bs}{a:List Tok}{k:Nat}(h:LInv l a k)(hlt:k<l.length)(hb:aP l k 32=false)(h0:(aR (l.drop k)).2.2=0):iG l=.error k:=by
 have e:=List.drop_eq_getElem_cons hlt;rw[h.2.2];rw[e]at h0 ⊢;rw[jV _ _ _ (uAG hlt hb) h0];rfl
theorem LInv.tok{l:Bs}{a:List Tok}{k:Nat}(h:LInv l a k)(hlt:k<l.length)(hb:aP l k 32=false)(h0:(aR (l.drop k)).2.2≠0) :
  LInv l (a++[⟨(aR (l.drop k)).1,(aR (l.drop k)).2.1,k⟩]) (k+(aR (l.drop k)).2.2):=by
 have e:=List.drop_eq_getElem_cons hlt;have hle:=iP (l.drop k) (by rw[List.length_drop];omega);rw[List.length_drop]at hle;refine⟨by omega,by have:=h.2.1;simp;omega,?_⟩;rw[h.2.2,← yN,← List.drop_drop];rw[e]at h0 ⊢;rw[gF _ _ _ (uAG hlt hb) h0]
theorem LInv.done{l:Bs}{a:List Tok}{k:Nat}(h:LInv l a k)(hk:¬ k<l.length):iG l=.ok a:=by
 rw[h.2.2,List.drop_of_length_le (by omega),jW];simp[mA]
def eX(t:Tok):List Value:=[.int .i64 t.kind,.string ⟨t.text.toArray⟩,.int .i64 t.place]
def eA(ts:List Tok):List Value:=ts.flatMap eX
theorem nQ(ts:List Tok)(t:Tok):eA (ts++[t])=eA ts++eX t:=by simp[eA]
def aW(n:Nat):Tok:=⟨0,[],n⟩
theorem infoTok:(Tryz.prog.info? 70).map (fun i=>(i.zero,i.size,i.bytes))=some (some (.agg #[.int .i64 0,.string ⟨#[]⟩,.int .i64 0]),3,32):=by kernel_rfl
theorem vB{a w:World}(h:Below a.heap.size a w)(row:Option Nat):a.grownBy w row:=⟨h.os,h.tape,h.output,h.size,fun i hi _=>h.block i hi⟩
theorem fW{a w:World}(h:Below a.heap.size a w){base:Nat}{e:TypeId}{size:Nat}{v:Value}{n:Nat}{xs:List Value}(ho:a.ownsRow base e size v n xs):w.ownsRow base e size v n xs:=by
 refine ho.kept (vB h none) ?_;cases hv:v.ownBlock with
 | none=>exact .inl rfl
 | some k=>exact .inr (by simp)
def LexPost(w:World)(n:Nat)(r:Except Nat (List Tok))(e:Ending)(w':World):Prop :=
 match r with
 | .error k=>e=.returned (.tuple #[.slice none 0 0,.int .i64 k,.int .i64 7])∧Below w.heap.size w w'
 | .ok ts=>∃ v,e=.returned (.tuple #[v,.int .i64 0,.int .i64 0])∧w'.ownsRow w.heap.size 70 3 v (ts.length+1) (eA (ts++[aW n]))∧Below w.heap.size w w'
theorem uBN{w:World}(t:Tok):∀ j u,(eX t)[j]?=some u→(w.alloc (.cells #[.int .i64 t.kind,.string ⟨t.text.toArray⟩,.int .i64 t.place] 70)).cell? ((⟨w.heap.size,0,none⟩:Addr).add j)=some u:=by
 intro j u hj
 match j,hj with
 | 0,hj=>simp[eX]at hj;subst hj;simp[Addr.add]
 | 1,hj=>simp[eX]at hj;subst hj;simp[Addr.add]
 | 2,hj=>simp[eX]at hj;subst hj;simp[Addr.add]
theorem uFW(t:Tok):∀ u∈eX t,u.oneCell'=true:=by
 intro u hu;simp[eX]at hu;rcases hu with rfl | rfl | rfl <;> rfl
set_option maxHeartbeats 1600000 in
theorem lex_any(l:Bs)(w:World)(hs:l.length≤1000000)(ht:Tab w) :
  Calls Tryz.prog 22 #[.string ⟨l.toArray⟩] w fun e w'=>LexPost w l.length (iG l) e w':=by
 obtain⟨i0,hi,hz0,hz1,hz2⟩:=info_parts infoTok;have HT:=zh ht;clear ht;have HP:=zh (LInv.start l)
 go_enter Tryz.func22,Tryz.ntmps22
 go_wp2_with fail
 go_loopw [5,6] (fun v i wr=>∃ (k:Nat) (a:List Tok),i=.int .i64 k∧Hid (LInv l a k)∧Hid (wr.ownsRow w.heap.size 70 3 v a.length (eA a))∧Hid (Below w.heap.size w wr)) (fun _ i _=>l.length-(intOf i).toNat)
 case atStart=>exact⟨0,[],rfl,HP,zh (World.ownsRow_nil _ _ _ _),zh (Below.refl _ _)⟩
 case round=>
  obtain⟨k,a,rfl,hq,hown,hbel⟩:=hrel
  rename_i v
  clear HP;have hk1:=hq.out.1;have hk2:=hq.out.2.1;have HT2:Hid (Tab wr):=zh (HT.out.next hbel.out);by_cases hlt:k<l.length
  ·have e32:=gS l k 32 32 rfl hlt;cases h32:aP l k 32
   ·rw[h32]at e32;have hdp:0<(l.drop k).length:=by rw[List.length_drop];omega
    have hdl:(l.drop k).length≤140737488351232:=by rw[List.length_drop];omega
    have hle:=iP (l.drop k) hdp;rw[List.length_drop]at hle
    go_wp2_with fail
    refine(uIL (l.drop k) _ hdp hdl HT2.out).mono ?_;rintro e w1 ⟨rfl,hb1⟩;have HB1:Hid (Below w.heap.size w w1):=zh (hbel.out.trans (hb1.mono hbel.out.size));have HO1:=zh (fW hb1 hown.out);clear hb1 hown hbel;have hbad:=zh (hq.out.bad hlt h32);have htok:=zh (hq.out.tok hlt h32);generalize aR (l.drop k)=x at *;obtain⟨kind,text,size⟩:=x;by_cases h0:size=0
    ·have hres:=zh (hbad.out h0);clear hbad htok;subst h0
     go_wp2_with fail
     go_ret3
     rw[hres.out];exact⟨rfl,HB1.out⟩
    ·have hres:=zh (htok.out h0);clear hbad htok;have b0:((size:Int)==0)=false:=by rw[beq_eq_false_iff_ne];omega
     go_wp2_with (at_builtin;refine wpList_append_own _ rfl _ _ 59 rfl w.heap.size 70 i0 (.agg #[.int .i64 0,.string ⟨#[]⟩,.int .i64 0]) 3 32 Tryz.underlying59 hi hz0 hz1 hz2 rfl (by decide) _ _ _ rfl (HO1.out.alloc _) ⟨w1.heap.size,0,none⟩ 1 1 (eX ⟨kind,text,k⟩) rfl rfl ?c1 ?c2 ?c3 ?c4 ?c5 ?_)
     case c1=>exact uBN ⟨kind,text,k⟩
     case c2=>exact uFW _
     case c3=>unfold maxLen;omega
     case c4=>omega
     case c5=>have:=HB1.out.size;simp;omega
     intro v' w2 hown' hgrow _;have HO2:Hid (w2.ownsRow w.heap.size 70 3 v' (a++[(⟨kind,text,k⟩:Tok)]).length (eA (a++[⟨kind,text,k⟩]))):=zh (by rw[nQ];simpa using hown');have HB2:Hid (Below w.heap.size w w2):=zh ((HB1.out.alloc HB1.out.size _).grown hgrow (by have:=HB1.out.size;simp;omega) (fun j hj=>(HO1.out.lt j hj).1));clear hown' hgrow HO1 HB1
     go_wp2_with fail
     go_roundw
     case rel=>exact⟨k+size,_,by go_num,hres,HO2,HB2⟩
     case measure=>simp[intOf];omega
   ·rw[h32]at e32;have hres:=zh (hq.out.blank h32)
    go_wp2_with fail
    go_roundw
    case rel=>exact⟨k+1,a,by go_num,hres,hown,hbel⟩
    case measure=>simp[intOf];omega
  ·have hres:=zh (hq.out.done hlt)
   go_wp2_with (at_builtin;refine wpList_append_own _ rfl _ _ 59 rfl w.heap.size 70 i0 (.agg #[.int .i64 0,.string ⟨#[]⟩,.int .i64 0]) 3 32 Tryz.underlying59 hi hz0 hz1 hz2 rfl (by decide) _ _ _ rfl (hown.out.alloc _) ⟨wr.heap.size,0,none⟩ 1 1 (eX (aW l.length)) rfl rfl ?d1 ?d2 ?d3 ?d4 ?d5 ?_)
   case d1=>exact uBN (aW l.length)
   case d2=>exact uFW _
   case d3=>unfold maxLen;omega
   case d4=>omega
   case d5=>have:=hbel.out.size;simp;omega
   intro v' w2 hown' hgrow _;have HO2:Hid (w2.ownsRow w.heap.size 70 3 v' (a.length+1) (eA (a++[aW l.length]))):=zh (by rw[nQ];exact hown');have HB2:Hid (Below w.heap.size w w2):=zh ((hbel.out.alloc hbel.out.size _).grown hgrow (by have:=hbel.out.size;simp;omega) (fun j hj=>(hown.out.lt j hj).1));clear hown' hgrow
   go_wp2_with fail
   go_ret3
   rw[hres.out];exact⟨v',rfl,HO2.out,HB2.out⟩
theorem yF(p:UInt8→Bool)(c:UInt8)(l:Bs)(h:p c=false):aM p (c::l)=0:=by simp[aM,h]
theorem vL(c:UInt8)(l:Bs)(d:UInt8):aP (c::l) 0 d=(c==d):=by
 unfold aP;simp
theorem pI(c:UInt8)(l:Bs)(h:aC c=false)(h46:c≠46):cP (c::l)=0:=by
 have e:fJ (c::l)=0:=by
  unfold fJ;rw[yF _ _ _ h,vL];have:(c==46)=false:=by rw[beq_eq_false_iff_ne];exact h46
  rw[this];rfl
 unfold cP uAP;rw[e];rfl
end Go.Proofs.YtmgjidnalpgegaaGreatDoor
