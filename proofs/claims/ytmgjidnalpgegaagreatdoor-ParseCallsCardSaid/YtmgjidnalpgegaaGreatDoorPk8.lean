/-
  Lemmas, part 8: AdG1 AdG2 Par6 Par7 Par8.
-/
import Derived.Test.YtmgjidnalpgegaaGreatDoorPk7
set_option maxHeartbeats 100000000
namespace Go.Proofs.YtmgjidnalpgegaaGreatDoor
open Go.RowKit
theorem ItIn.high{l:Bs}{w wr:World}{pos:Nat}(h:ItIn l w pos wr)(hp:pos<l.length)(ha:128<=l[pos].toNat):∃ (r:Nat) (W:World),128<=r/\r<=2147483647/\Below w.heap.size w W/\∀ ty,(Instr.next (.pointer (some ⟨w.heap.size,0,none⟩)) true ty).run Tryz.prog wr=.ok (.tuple #[.bool true,.int .i64 pos,.int .i32 (r:Int)]) W:=by
 have qu:pos<(ByteArray.mk l.toArray).size:=by simpa [ByteArray.size] using hp
 have hg:(ByteArray.mk l.toArray)[pos]=l[pos]:=zU l pos qu;refine⟨(Utf8.decode ⟨l.toArray⟩ pos).1,wr.iterAt w.heap.size ⟨l.toArray⟩ (pos+(Utf8.decode ⟨l.toArray⟩ pos).2),(decode_high _ pos qu (by rw[hg];exact ha)).1,decode_le _ _,Lib.below_iterAt h.bel zr _ _,fun ty=>?_⟩;exact Lib.run_next_any_at (P:=Tryz.prog) wr w.heap.size ⟨l.toArray⟩ pos ty h.it qu
theorem xB(l:Bs)(k:Nat)(h:k<l.length):eC (aN (l.take (k+1)))=eC (aN (l.take k))*26+((up l[k]).toNat-65)+1:=by
 rw[yw h];unfold aN;rw[List.map_append];exact tN _ _
theorem pV(c:UInt8):(aJ c=true/\((65<=c.toNat/\c.toNat<=90/\(up c).toNat=c.toNat)\/(97<=c.toNat/\c.toNat<=122/\(up c).toNat=c.toNat-32)))\/(aJ c=false/\¬ (65<=c.toNat/\c.toNat<=90)/\¬ (97<=c.toNat/\c.toNat<=122)):=by
 unfold aJ;by_cases h1:97<=c.toNat/\c.toNat<=122
 ·refine .inl ⟨by simp[h1.1,h1.2],.inr ⟨h1.1,h1.2,up_low c ((iR c).2 h1)⟩⟩
 by_cases h2:65<=c.toNat/\c.toNat<=90
 ·refine .inl ⟨by simp[h2.1,h2.2],.inl ⟨h2.1,h2.2,?_⟩⟩;unfold up;rw[if_neg];intro h;have:=(iR c).1 h;omega
 refine .inr ⟨?_,h2,h1⟩;simp;omega
theorem mD(l:Bs)(h:∀ c∈l,aJ c=true)(k:Nat)(hk:k<=3):eC (aN (l.take k))<=18278:=by
 have hc:∀ c∈aN l,cD c=true:=by
  intro c hc;unfold aN at hc;obtain⟨d,hd,rfl⟩:=yj.1 hc;rcases pV d with⟨_,⟨h1,h2,h3⟩|⟨h1,h2,h3⟩⟩|⟨h1,_⟩
  ·unfold cD;simp;omega
  ·unfold cD;simp;omega
  rw[h d hd]at h1;cases h1
 have:=colOf_bd (aN l) hc k hk;unfold aN at this ⊢;rw[List.map_take];exact this
def tO(l:Bs):Value:=match bX l with
 |none=>.tuple #[.int .i64 0,.bool false]
 |some c=>.tuple #[.int .i64 (c:Int),.bool true]
theorem uIV{l:Bs}{c:UInt8}(hc:c∈l)(hl:aJ c=false):tO l=.tuple #[.int .i64 0,.bool false]:=by
 have:bX l=none:=by
  unfold bX;by_cases h:l.length=0\/3<l.length
  ·rw[if_pos h]
  rw[if_neg h,if_neg];intro ha;rw[List.all_eq_true.1 ha c hc]at hl;cases hl
 unfold tO;rw[this]
theorem uIW{l:Bs}(h1:1<=l.length)(h3:l.length<=3)(hl:∀ c∈l,aJ c=true):tO l=.tuple #[.int .i64 ((eC (aN l):Int)-1),.bool true]:=by
 have hp:bX l=some (eC (aN l)-1):=by
  unfold bX;rw[if_neg (by omega),if_pos (List.all_eq_true.2 hl)]
 have vj:1<=eC (aN l):=by
  have:=xB l (l.length-1) (by omega);rw[show l.length-1+1=l.length by omega,List.take_length]at this;omega
 unfold tO;rw[hp];show Value.tuple #[.int .i64 ((eC (aN l)-1:Nat):Int),.bool true]=_;rw[show ((eC (aN l)-1:Nat):Int)=(eC (aN l):Int)-1 by omega]
theorem uAH{l:Bs}(h:l.length=0\/3<l.length):tO l=.tuple #[.int .i64 0,.bool false]:=by
 unfold tO bX;rw[if_pos h]
set_option maxRecDepth 100000 in
theorem rQ(l:Bs)(w:World)(hL:l.length<=100000) :
  Calls Tryz.prog 130 #[.string ⟨l.toArray⟩] w fun e w'=>e=.returned (tO l)/\Below w.heap.size w w':=by
 rcases Nat.eq_zero_or_pos l.length with h0|h1
 ·obtain rfl:l=[]:=List.eq_nil_of_length_eq_zero h0;rw[uAH (.inl rfl)]
  go_enter Tryz.func130,Tryz.ntmps130
  go_wp2_with fail
  go_ret2
  exact⟨rfl,Below.refl _ _⟩
 have bp:l.isEmpty=false:=by cases l with|nil=>simp at h1|cons c l=>rfl
 have hne':l≠[]:=by intro e;rw[e]at h1;simp at h1
 by_cases h3:l.length<=3
 ·have HR:=zh (fun hl=>uIW h1 h3 hl);have HN:=zh (fun c=>uIV (l:=l) (c:=c));generalize tO l=R at *
  go_enter Tryz.func130,Tryz.ntmps130
  go_wp2_with fail
  go_loopw [4] (fun v wr=>∃ pos:Nat,v=.int .i64 (eC (aN (l.take pos)):Int)/\Hid (ItIn l w pos wr/\∀ c∈l.take pos,aJ c=true)) (fun _ wr=>l.length-wr.iterPos w.heap.size)
  case atStart=>exact⟨0,rfl,zh ⟨ItIn.start l w,fun c hc=>by simp at hc⟩⟩
  case round=>
   obtain⟨pos,rfl,hI'⟩:=hrel;have hI:=zh hI'.out.1;have bk:=zh hI'.out.2;clear hI';by_cases hp:pos<l.length
   ·have vx:=mD (l.take pos) bk.out pos (by omega);rw[List.take_take,Nat.min_self]at vx;rcases pV l[pos] with⟨tf,gz⟩|⟨tf,av,ep⟩
    ·have HS:=zh (xB l pos hp);have jo:Hid (∀ c∈l.take (pos+1),aJ c=true):=zh (by
      intro c hc;rw[yw hp]at hc;rcases List.mem_append.1 hc with hc|hc
      ·exact bk.out c hc
      rw[yf.1 hc];exact tf)
     have mi:=fun ty=>hI.out.run (l:=l) hp (by omega) ty
     have su:=zh (hI.out.next hp);have hp1:=zh hI.out.pos;have sy:=zh su.out.pos;clear tf bk;generalize (up l[pos]).toNat=u at *;generalize l[pos].toNat=c at *;generalize eC (aN (l.take pos))=n at *;rcases gz with⟨q1,q2,q3⟩|⟨q1,q2,q3⟩
     ·subst q3
      go_wp2_with fail
      go_roundw
      case rel=>exact⟨pos+1,by rw[HS.out];go_num,zh ⟨su.out,jo.out⟩⟩
      case measure=>rw[sy.out,hp1.out];omega
     have hu:u=c-97+65:=by omega
     clear q3;subst hu
     go_wp2_with fail
     go_roundw
     case rel=>exact⟨pos+1,by rw[HS.out];go_num,zh ⟨su.out,jo.out⟩⟩
     case measure=>rw[sy.out,hp1.out];omega
    have hr:=HN.out _ (List.getElem_mem hp) tf;subst hr;clear tf HN HR bk;by_cases ha:l[pos].toNat<128
    ·have mi:=fun ty=>hI.out.run (l:=l) hp ha ty
     have hB:=zh (hI.out.next hp).bel;generalize wr.iterAt w.heap.size ⟨l.toArray⟩ (pos+1)=W at *;generalize l[pos].toNat=c at *;generalize eC (aN (l.take pos))=n at *;have m1:(decide ((65:Int)<=(c:Int))&&decide ((c:Int)<=90))=false:=by
      simp;omega
     have m2:(decide ((97:Int)<=(c:Int))&&decide ((c:Int)<=122))=false:=by
      simp;omega
     go_wp2_with fail
     all_goals go_ret2
     all_goals exact⟨rfl,hB.out⟩
    obtain⟨r,W,r1,r2,hB,mi⟩:=hI.out.high hp (by omega);have HB:=zh hB;clear hB av ep ha;generalize eC (aN (l.take pos))=n at *
    go_wp2_with fail
    all_goals go_ret2
    all_goals exact⟨rfl,HB.out⟩
   have mi:=fun ty=>hI.out.stop (l:=l) hp ty
   have e:pos=l.length:=by have:=hI.out.le;omega
   have HE:Hid (l.take pos=l):=zh (by rw[e,List.take_length]);have hr:=HR.out (by rw[HE.out]at bk;exact bk.out);subst hr;clear e HR HN;rw[HE.out];have vx:=mD l (by have:=bk.out;rw[HE.out]at this;exact this) 3 (by omega);rw[List.take_of_length_le h3]at vx
   go_wp2_with fail
   go_ret2
   exact⟨rfl,hI.out.bel⟩
 rw[uAH (.inr (by omega))]
 go_enter Tryz.func130,Tryz.ntmps130
 go_wp2_with fail
 go_ret2
 exact⟨rfl,Below.refl _ _⟩
def zA(l:Bs):Value:=match gV l with
 |none=>.tuple #[.int .i64 0,.bool false]
 |some n=>.tuple #[.int .i64 (n:Int),.bool true]
theorem uR{l:Bs}(h:l.length=0\/7<l.length\/aZ l 0 48=true):zA l=.tuple #[.int .i64 0,.bool false]:=by
 unfold zA gV;rw[if_pos h]
theorem uJW{l:Bs}{c:UInt8}(hc:c∈l)(hl:¬ (48<=c.toNat/\c.toNat<=57)):zA l=.tuple #[.int .i64 0,.bool false]:=by
 have:gV l=none:=by
  unfold gV;by_cases h:l.length=0\/7<l.length\/aZ l 0 48=true
  ·rw[if_pos h]
  rw[if_neg h,if_neg];intro ha;exact hl ((dJ c).1 (List.all_eq_true.1 ha c hc))
 unfold zA;rw[this]
theorem uJX{l:Bs}(h1:1<=l.length)(h7:l.length<=7)(h0:aZ l 0 48=false)(hl:AllDig l):zA l=.tuple #[.int .i64 (aY (eG l):Int),.bool true]:=by
 have:gV l=some (aY (eG l)):=by
  unfold gV;rw[if_neg (by rintro(h|h|h);omega;omega;(rw[h0]at h;cases h)),if_pos (List.all_eq_true.2 hl)]
 unfold zA;rw[this]
set_option maxRecDepth 100000 in
theorem uBX(l:Bs)(w:World)(hL:l.length<=100000) :
  Calls Tryz.prog 131 #[.string ⟨l.toArray⟩] w fun e w'=>e=.returned (zA l)/\Below w.heap.size w w':=by
 rcases Nat.eq_zero_or_pos l.length with h0|h1
 ·obtain rfl:l=[]:=List.eq_nil_of_length_eq_zero h0;rw[uR (.inl rfl)]
  go_enter Tryz.func131,Tryz.ntmps131
  go_wp2_with fail
  go_ret2
  exact⟨rfl,Below.refl _ _⟩
 have bp:l.isEmpty=false:=by cases l with|nil=>simp at h1|cons c l=>rfl
 have hne':l≠[]:=by intro e;rw[e]at h1;simp at h1
 by_cases h7:l.length<=7
 ·have e48:=iE l 0 48 48 rfl h1;by_cases o7:aZ l 0 48=true
  ·rw[uR (.inr (.inr o7))];rw[o7]at e48;clear o7
   go_enter Tryz.func131,Tryz.ntmps131
   go_wp2_with fail
   go_ret2
   exact⟨rfl,Below.refl _ _⟩
  have o7:aZ l 0 48=false:=by simpa using o7
  rw[o7]at e48;have HR:=zh (fun hl=>uJX h1 h7 o7 hl);have HN:=zh (fun c=>uJW (l:=l) (c:=c));clear o7;generalize zA l=R at *
  go_enter Tryz.func131,Tryz.ntmps131
  go_wp2_with fail
  go_loopw [4] (fun v wr=>∃ pos:Nat,v=.int .i64 (aY (eG (l.take pos)):Int)/\Hid (ItIn l w pos wr/\AllDig (l.take pos))) (fun _ wr=>l.length-wr.iterPos w.heap.size)
  case atStart=>exact⟨0,rfl,zh ⟨ItIn.start l w,fun c hc=>by simp at hc⟩⟩
  case round=>
   obtain⟨pos,rfl,hI'⟩:=hrel;have hI:=zh hI'.out.1;have bk:=zh hI'.out.2;clear hI' e48 bp hne';by_cases hp:pos<l.length
   ·have vx:=uBS (l.take pos) bk.out (by rw[zc];omega) pos;rw[List.take_take,Nat.min_self]at vx;by_cases hdg:48<=l[pos].toNat/\l[pos].toNat<=57
    ·have HS:=zh (uFN l pos hp);obtain⟨q1,q2⟩:=hdg;have jo:Hid (AllDig (l.take (pos+1))):=zh (by
      intro c hc;rw[yw hp]at hc;rcases List.mem_append.1 hc with hc|hc
      ·exact bk.out c hc
      rw[yf.1 hc];exact(dJ _).2 ⟨q1,q2⟩)
     have mi:=fun ty=>hI.out.run (l:=l) hp (by omega) ty
     have su:=zh (hI.out.next hp);have hp1:=zh hI.out.pos;have sy:=zh su.out.pos;have hbz:(aY (eG (l.take pos)):Int)<=9999999:=by omega
     clear vx bk;generalize l[pos].toNat=c at *;generalize aY (eG (l.take pos))=n at *
     go_wp2_with fail
     go_roundw
     case rel=>exact⟨pos+1,by rw[HS.out];go_num,zh ⟨su.out,jo.out⟩⟩
     case measure=>rw[sy.out,hp1.out];omega
    have hr:=HN.out _ (List.getElem_mem hp) hdg;subst hr;clear HN HR bk;by_cases ha:l[pos].toNat<128
    ·have mi:=fun ty=>hI.out.run (l:=l) hp ha ty
     have hB:=zh (hI.out.next hp).bel;generalize wr.iterAt w.heap.size ⟨l.toArray⟩ (pos+1)=W at *;generalize l[pos].toNat=c at *;generalize aY (eG (l.take pos))=n at *;have gz:(c:Int)<48\/(¬ (c:Int)<48/\(57:Int)<(c:Int)):=by omega
     clear hdg;rcases gz with q1|⟨q1,q2⟩
     all_goals go_wp2_with fail
     all_goals go_ret2
     all_goals exact⟨rfl,hB.out⟩
    obtain⟨r,W,r1,r2,hB,mi⟩:=hI.out.high hp (by omega);have HB:=zh hB;clear hB hdg ha;generalize aY (eG (l.take pos))=n at *
    go_wp2_with fail
    all_goals go_ret2
    all_goals exact⟨rfl,HB.out⟩
   have mi:=fun ty=>hI.out.stop (l:=l) hp ty
   have e:pos=l.length:=by have:=hI.out.le;omega
   have HE:Hid (l.take pos=l):=zh (by rw[e,List.take_length]);have hr:=HR.out (by rw[HE.out]at bk;exact bk.out);subst hr;clear e HR HN;rw[HE.out]
   go_wp2_with fail
   go_ret2
   exact⟨rfl,hI.out.bel⟩
 rw[uR (.inr (.inl (by omega)))]
 go_enter Tryz.func131,Tryz.ntmps131
 go_wp2_with fail
 go_ret2
 exact⟨rfl,Below.refl _ _⟩
def jK(s:Bs):Value:=match bG s with
 |none=>.tuple #[kC 0 0 false false,.bool false]
 |some m=>.tuple #[kC (m.row:Int) (m.col:Int) m.fr m.fc,.bool true]
theorem uJQ{s:Bs}(h:bX ((Lib.trimPrefix s [36]).take (aM aJ (Lib.trimPrefix s [36])))=none):jK s=.tuple #[kC 0 0 false false,.bool false]:=by
 have:bG s=none:=by
  unfold bG;dsimp only;rw[h]
 unfold jK;rw[this]
theorem uJR{s:Bs}{c:Nat}(h:bX ((Lib.trimPrefix s [36]).take (aM aJ (Lib.trimPrefix s [36])))=some c)(h2:gV (Lib.trimPrefix ((Lib.trimPrefix s [36]).drop (aM aJ (Lib.trimPrefix s [36]))) [36])=none):jK s=.tuple #[kC 0 0 false false,.bool false]:=by
 have:bG s=none:=by
  unfold bG;dsimp only;rw[h];dsimp only;rw[h2]
 unfold jK;rw[this]
theorem oW{l:Bs}{n:Nat}(h:gV l=some n):1<=n/\n<=9999999:=by
 unfold gV at h
 split at h
 ·cases h
 rename_i h0
 split at h
 ·rename_i bk
  injection h with h;have hd:AllDig l:=fun c hc=>List.all_eq_true.1 bk c hc
  have h7:l.length<=7:=by
   rcases Nat.lt_or_ge 7 l.length with h'|h'
   ·exact absurd (.inr (.inl h')) h0
   exact h'
  have vx:=uBS l hd h7 l.length;rw[List.take_length]at vx;refine⟨?_,by omega⟩;cases l with
  |nil=>exact absurd (.inl rfl) h0
  |cons c r=>
   have h48:aZ (c::r) 0 48=false:=by
    cases hh:aZ (c::r) 0 48
    ·rfl
    exact absurd (.inr (.inr hh)) h0
   have hc:=(dJ c).1 (hd c (by simp));have bp:c.toNat-48≠0:=by
    intro e;have:c=48:=UInt8.toNat.inj (by show c.toNat=48;omega);rw[this]at h48;cases h48
   have hg:=pZ (c.toNat-48) (eG r) bp;have hp:0<10 ^ (eG r).length:=Nat.pow_pos (by decide);have he:eG (c::r)=(c.toNat-48)::eG r:=rfl;rw[he]at h;omega
 cases h
theorem uFI{s:Bs}{c n:Nat}(h:bX ((Lib.trimPrefix s [36]).take (aM aJ (Lib.trimPrefix s [36])))=some c)(h2:gV (Lib.trimPrefix ((Lib.trimPrefix s [36]).drop (aM aJ (Lib.trimPrefix s [36]))) [36])=some n):jK s=.tuple #[kC ((n:Int)-1) (c:Int) (Lib.hasPrefix ((Lib.trimPrefix s [36]).drop (aM aJ (Lib.trimPrefix s [36]))) [36]) (Lib.hasPrefix s [36]),.bool true]:=by
 have hp:=(oW h2).1;have:bG s=some ⟨n-1,c,Lib.hasPrefix ((Lib.trimPrefix s [36]).drop (aM aJ (Lib.trimPrefix s [36]))) [36],Lib.hasPrefix s [36]⟩:=by
  unfold bG;dsimp only;rw[h];dsimp only;rw[h2]
 unfold jK;rw[this];show Value.tuple #[kC ((n-1:Nat):Int) _ _ _,.bool true]=_;rw[show ((n-1:Nat):Int)=(n:Int)-1 by omega]
theorem rP(s p:Bs):(Lib.trimPrefix s p).length<=s.length:=by
 unfold Lib.trimPrefix
 split
 ·rw[yk];omega
 exact zr
set_option maxRecDepth 100000 in
theorem iW(s:Bs)(w:World)(hL:s.length<=100000) :
  Calls Tryz.prog 119 #[.string ⟨s.toArray⟩] w fun e w'=>e=.returned (jK s)/\Below w.heap.size w w':=by
 have C1:=zh (fun W=>jA s [36] W);have hSl:=rP s [36];have HMC:=zh (uJQ (s:=s));have HMN:=zh (fun c=>uJR (s:=s) (c:=c));have HMS:=zh (fun c n=>uFI (s:=s) (c:=c) (n:=n));generalize Lib.hasPrefix s [36]=fc at *;generalize Lib.trimPrefix s [36]=S at *;generalize jK s=R at *;have hSb:S.length<=100000:=by omega
 clear hSl;have hRl:=bT aJ S;have hlt:=fun k (h1:k<aM aJ S) (h2:k<S.length)=>sY aJ S k h1 h2
 have jl:=fun(h:aM aJ S<S.length)=>lR aJ S h
 have HLT:=zh hlt;have ij:=zh jl;clear hlt jl;have CC:=zh (fun W=>rQ (S.take (aM aJ S)) W (by rw[zc];omega));have C2:=zh (fun W=>jA (S.drop (aM aJ S)) [36] W);have hDl:=rP (S.drop (aM aJ S)) [36];rw[yk]at hDl;have CN:=zh (fun W=>uBX (Lib.trimPrefix (S.drop (aM aJ S)) [36]) W (by omega));have hnp:=fun n=>oW (l:=Lib.trimPrefix (S.drop (aM aJ S)) [36]) (n:=n)
 have HNP:=zh hnp;clear hnp hDl;unfold tO at CC;unfold zA at CN;generalize Lib.hasPrefix (S.drop (aM aJ S)) [36]=fr at *;generalize gV (Lib.trimPrefix (S.drop (aM aJ S)) [36])=pn at *;generalize Lib.trimPrefix (S.drop (aM aJ S)) [36]=D at *;have HT:Hid (bX (S.take (aM aJ S))=bX (S.take (aM aJ S))):=zh rfl;have vy:∀ c,bX (S.take (aM aJ S))=some c->c<=1000000:=by
  intro c hc;unfold bX at hc
  split at hc
  ·cases hc
  rename_i h3
  split at hc
  ·rename_i bk
   have:=mD (S.take (aM aJ S)) (fun c hc=>List.all_eq_true.1 bk c hc) 3 (by omega);rw[List.take_of_length_le (by rcases Nat.lt_or_ge 3 (S.take (aM aJ S)).length with h|h;exact absurd (.inr h) h3;exact h)]at this;injection hc with hc;omega
  cases hc
 have HCB:=zh vy;clear vy HT;have L0:Hid (Lies ((w.alloc (.cells #[.int .i64 0,.int .i64 0,.bool false,.bool false] 150)).alloc (.cells #[.int .i64 0,.int .i64 0,.bool false,.bool fc] 150)) w.heap.size 150 #[.int .i64 0,.int .i64 0,.bool false,.bool false]):=zh ((Lies.new w _ _).alloc _);have M0:Hid (Lies ((w.alloc (.cells #[.int .i64 0,.int .i64 0,.bool false,.bool false] 150)).alloc (.cells #[.int .i64 0,.int .i64 0,.bool false,.bool fc] 150)) (w.heap.size+1) 150 #[.int .i64 0,.int .i64 0,.bool false,.bool fc]):=zh (by have:=Lies.new (w.alloc (.cells #[.int .i64 0,.int .i64 0,.bool false,.bool false] 150)) 150 #[.int .i64 0,.int .i64 0,.bool false,.bool fc];simpa using this)
 have B0:Hid (Below w.heap.size w ((w.alloc (.cells #[.int .i64 0,.int .i64 0,.bool false,.bool false] 150)).alloc (.cells #[.int .i64 0,.int .i64 0,.bool false,.bool fc] 150))):=zh (((Below.refl _ w).alloc zr _).alloc (by simp) _);generalize hk:aM aJ S=K at *;clear hk
 go_enter Tryz.func119,Tryz.ntmps119
 go_wp2_with fail
 refine(C1.out _).mono ?_;rintro e w1 ⟨rfl,rfl⟩
 go_wp2_with fail
 generalize hW:(w.alloc (.cells #[.int .i64 0,.int .i64 0,.bool false,.bool false] 150)).alloc (.cells #[.int .i64 0,.int .i64 0,.bool false,.bool fc] 150)=W at *;clear hW
 go_loop [5] (fun i=>∃ k:Nat,k<=K/\i=.int .i64 k) (fun i=>K-(intOf i).toNat)
 case atStart=>exact⟨0,zm _,rfl⟩
 case round=>
  obtain⟨k,hk,rfl⟩:=hrel;by_cases hka:k<K
  ·have hlt:k<S.length:=by omega
   have hle:=yU _ (HLT.out k hka hlt);rcases hle with⟨q1,q2⟩|⟨q1,q2⟩
   ·go_wp2_with fail
    all_goals
     go_round
     case rel=>exact⟨k+1,by omega,by go_num⟩
     case measure=>simp[intOf];omega
   have q3:¬ (S[k].toNat:Int)<=90:=by omega
   go_wp2_with fail
   all_goals
    go_round
    case rel=>exact⟨k+1,by omega,by go_num⟩
    case measure=>simp[intOf];omega
  obtain rfl:K=k:=by omega
  have gz:(¬ (K:Int)<(S.length:Int))\/(∃ h:K<S.length,((S[K].toNat:Int)<65)\/(90<(S[K].toNat:Int)/\(S[K].toNat:Int)<97)\/122<(S[K].toNat:Int)):=by
   by_cases hlt:K<S.length
   ·refine .inr ⟨hlt,?_⟩;have el:=ij.out hlt;unfold aJ at el;simp at el;omega
   exact .inl (by omega)
  clear ij HLT hka hk;cases rq:bX (S.take K) with
  |none=>
   rw[rq]at CC;have hR:=HMC.out rq;subst hR;clear HMC HMN HMS rq HCB HNP C2 CN;rcases gz with q1|⟨hlt,q1|⟨q1,q2⟩|q1⟩
   all_goals
    go_wp2_with fail
    refine(CC.out _).mono ?_;rintro e w1 ⟨rfl,hb⟩;have L1:=zh (L0.out.below hb);have B1:=zh (B0.out.trans (hb.mono B0.out.size));clear hb L0 B0 M0;obtain⟨d0,d1,d2,d3,g0,g1,g2,g3,hlt3⟩:=Lies.mark L1.out
    go_wp2_with fail
    refine yt (v:=.tuple #[.agg #[.int .i64 0,.int .i64 0,.bool false,.bool false],.bool false]) (by simp[results,Tryz.results119,go_sem,d0,d1,d2,d3]) rfl ?_;exact⟨rfl,(((B1.out.setCell (p:=⟨w.heap.size,0,none⟩) zr _).setCell (p:=⟨w.heap.size,1,none⟩) zr _).setCell (p:=⟨w.heap.size,2,none⟩) zr _).setCell (p:=⟨w.heap.size,3,none⟩) zr _⟩
  |some cc=>
   rw[rq]at CC;have vy:=HCB.out cc rq;have hcbi:(cc:Int)<=1000000:=by omega
   clear HCB vy HMC;cases pn with
   |none=>
    have hR:=HMN.out cc rq rfl;subst hR;clear HMN HMS rq HNP;rcases gz with q1|⟨hlt,q1|⟨q1,q2⟩|q1⟩
    all_goals
     go_wp2_with fail
     refine(CC.out _).mono ?_;rintro e w1 ⟨rfl,hb⟩;have L1:=zh (L0.out.below hb);have M1:=zh (M0.out.below hb);have B1:=zh (B0.out.trans (hb.mono B0.out.size));clear hb L0 B0 M0
     go_wp2_with fail
     refine(C2.out _).mono ?_;rintro e w2 ⟨rfl,rfl⟩;obtain⟨c0,c1,c2,c3,f0,f1,f2,f3,ll⟩:=Lies.mark M1.out;have L2:Hid (Lies (w1.setCell ⟨w.heap.size+1,2,none⟩ (.bool fr)) w.heap.size 150 #[.int .i64 0,.int .i64 0,.bool false,.bool false]):=zh (L1.out.off (by omega) _);have B2:Hid (Below w.heap.size w (w1.setCell ⟨w.heap.size+1,2,none⟩ (.bool fr))):=zh (B1.out.setCell (p:=⟨w.heap.size+1,2,none⟩) (Nat.le_succ _) _);clear L1 M1 B1
     go_wp2_with fail
     refine(CN.out _).mono ?_;rintro e w3 ⟨rfl,hb⟩;have L3:=zh (L2.out.below hb);have B3:=zh (B2.out.trans (hb.mono B2.out.size));clear hb L2 B2 c0 c1 c2 c3 f0 f1 f2 f3 ll;obtain⟨d0,d1,d2,d3,g0,g1,g2,g3,hlt3⟩:=Lies.mark L3.out
     go_wp2_with fail
     refine yt (v:=.tuple #[.agg #[.int .i64 0,.int .i64 0,.bool false,.bool false],.bool false]) (by simp[results,Tryz.results119,go_sem,d0,d1,d2,d3]) rfl ?_;exact⟨rfl,(((B3.out.setCell (p:=⟨w.heap.size,0,none⟩) zr _).setCell (p:=⟨w.heap.size,1,none⟩) zr _).setCell (p:=⟨w.heap.size,2,none⟩) zr _).setCell (p:=⟨w.heap.size,3,none⟩) zr _⟩
   |some n=>
    have hR:=HMS.out cc n rq rfl;obtain⟨av,ep⟩:=HNP.out n rfl;subst hR;clear HMN HMS rq HNP;rcases gz with q1|⟨hlt,q1|⟨q1,q2⟩|q1⟩
    all_goals
     go_wp2_with fail
     refine(CC.out _).mono ?_;rintro e w1 ⟨rfl,hb⟩;have L1:=zh (L0.out.below hb);have M1:=zh (M0.out.below hb);have B1:=zh (B0.out.trans (hb.mono B0.out.size));clear hb L0 B0 M0
     go_wp2_with fail
     refine(C2.out _).mono ?_;rintro e w2 ⟨rfl,rfl⟩;obtain⟨c0,c1,c2,c3,f0,f1,f2,f3,ll⟩:=Lies.mark M1.out;have M2:Hid (Lies (w1.setCell ⟨w.heap.size+1,2,none⟩ (.bool fr)) (w.heap.size+1) 150 #[.int .i64 0,.int .i64 0,.bool fr,.bool fc]):=zh (M1.out.put 2 (.bool fr));have L2:Hid (Lies (w1.setCell ⟨w.heap.size+1,2,none⟩ (.bool fr)) w.heap.size 150 #[.int .i64 0,.int .i64 0,.bool false,.bool false]):=zh (L1.out.off (by omega) _);have B2:Hid (Below w.heap.size w (w1.setCell ⟨w.heap.size+1,2,none⟩ (.bool fr))):=zh (B1.out.setCell (p:=⟨w.heap.size+1,2,none⟩) (Nat.le_succ _) _);clear L1 M1 B1
     go_wp2_with fail
     refine(CN.out _).mono ?_;rintro e w3 ⟨rfl,hb⟩;have L3:=zh (L2.out.below hb);have M3:=zh (M2.out.below hb);have B3:=zh (B2.out.trans (hb.mono B2.out.size));clear hb L2 M2 B2 c0 c1 c2 c3 f0 f1 f2 f3 ll;obtain⟨c0,c1,c2,c3,f0,f1,f2,f3,ll⟩:=Lies.mark M3.out;obtain⟨d0,d1,d2,d3,g0,g1,g2,g3,hlt3⟩:=Lies.mark L3.out
     go_wp2_with fail
     refine yt (v:=.tuple #[.agg #[.int .i64 ((n:Int)-1),.int .i64 (cc:Int),.bool fr,.bool fc],.bool true]) (by simp[results,Tryz.results119,go_sem,d0,d1,d2,d3]) rfl ?_;exact⟨rfl,(((((B3.out.setCell (p:=⟨w.heap.size+1,0,none⟩) (Nat.le_succ _) _).setCell (p:=⟨w.heap.size+1,1,none⟩) (Nat.le_succ _) _).setCell (p:=⟨w.heap.size,0,none⟩) zr _).setCell (p:=⟨w.heap.size,1,none⟩) zr _).setCell (p:=⟨w.heap.size,2,none⟩) zr _).setCell (p:=⟨w.heap.size,3,none⟩) zr _⟩
def Env.isAx(E:Env)(p:Option Nat)(l:List IdR):Prop:=(p=E.pa/\l=E.ax.rows)\/(p=E.pb/\l=E.ax.cols)
theorem InE.axIn{E:Env}{k op nd pl er:Nat}{W:World}(h:InE E k op nd pl er W){p:Option Nat}{l:List IdR}(hp:E.isAx p l):AxIn W p l:=by
 rcases hp with⟨rfl,rfl⟩|⟨rfl,rfl⟩
 ·exact h.ar
 exact h.ac
theorem Env.isAx.mem{E:Env}{p:Option Nat}{l:List IdR}(hp:E.isAx p l):∀ y∈p.toList,y∈E.X:=by
 intro y hy;unfold Env.X;rcases hp with⟨rfl,_⟩|⟨rfl,_⟩
 ·exact zg _ (List.mem_append_left _ hy)
 exact zg _ (List.mem_append_right _ hy)
theorem InE.axed{E:Env}(hE:E.ok){k op nd pl er:Nat}{W W':World}(h:InE E k op nd pl er W){p:Option Nat}{l:List IdR}(hp:E.isAx p l)(hk:Kp p.toList W W')(ha:AxIn W' p l):InE E k op nd pl er W':=by
 have hx:=hp.mem;have hr:E.r∉p.toList:=fun hm=>by
  have e:p=some E.r:=by
   cases p with
   |none=>cases hm
   |some b=>rw[yf.1 (by simpa using hm:E.r∈[b])]
  rcases hp with⟨e2,_⟩|⟨e2,_⟩
  ·exact hE.ra _ (by rw[<- e2,e]) rfl
  exact hE.rb _ (by rw[<- e2,e]) rfl
 have ni:=(h.axIn hp).box;have hoth:∀ (p':Option Nat),(∀ b,p=some b->p'≠some b)->∀ y∈p.toList,some y≠p'/\∃ t cs,Lies W y t cs/\t≠34/\t≠4:=by
  intro p' bp y hy;cases p with
  |none=>cases hy
  |some b=>
   obtain rfl:y=b:=by simpa using hy
   obtain⟨cs,hc⟩:=ni y rfl;exact⟨fun e=>bp y rfl e.symm,_,cs,hc,by decide,by decide⟩
 refine⟨hk.lies h.rd hr,h.tk.kp hk (fun hm=>hE.gx (hx _ hm)),?_,?_,h.sg.kp hk (fun i hi hm=>hE.sx i hi (hx _ hm)),h.tb.below (hk.below (B:=E.lo) (fun y hy=>hE.lo _ (hx _ hy)) h.lo) hE.tb,yv h.lo hk.size⟩
 ·rcases hp with⟨e1,e2⟩|⟨e1,e2⟩
  ·rw[<- e1,<- e2];exact ha
  by_cases hn:E.pa=none
  ·rw[hn];have:=h.ar;rw[hn]at this;exact this
  exact h.ar.kp hk (hoth E.pa (fun b e e3=>hE.ab b e3 (by rw[<- e1,e])))
 rcases hp with⟨e1,e2⟩|⟨e1,e2⟩
 ·by_cases hn:E.pb=none
  ·rw[hn];have:=h.ac;rw[hn]at this;exact this
  exact h.ac.kp hk (hoth E.pb (fun b e e3=>hE.ab b (by rw[<- e1,e]) e3))
 rw[<- e1,<- e2];exact ha
theorem AxOwn.back{Y:List Nat}{W W':World}{p:Option Nat}{z:Nat}(h:AxOwn W' p z)(hk:Kp Y W W')(hb:∀ b,p=some b->b<W.heap.size/\b∉Y):AxOwn W p z:=by
 obtain⟨b,v1,v2,v3,v4,mm,e,hx,ho⟩:=h;obtain⟨h1,h2⟩:=hb b e;exact⟨b,v1,v2,v3,v4,mm,e,(hk.block b h1 h2).symm.trans hx,ho⟩
theorem AxIn.own_lt{W:World}{p:Option Nat}{l:List IdR}(h:AxIn W p l){z:Nat}(ho:AxOwn W p z):z<W.heap.size:=by
 obtain⟨b,v1,v2,v3,v4,mm,e,hx,ho⟩:=ho;subst e;rcases h with⟨base,ids,fl,u1,u2,⟨h1,h2,h3⟩,_⟩|⟨base,⟨u1,u2,u3,u4,m,h1,h2⟩⟩
 ·have he:=Lies.same h1 hx;simp at he;obtain⟨e1,e2,e3,e4,e5⟩:=he;subst e1 e2 e3;rcases ho with⟨_,ho|ho⟩|⟨hm,_⟩
  ·exact(cV h2 z ho).2
  ·exact(cV h3 z ho).2
  exact absurd rfl hm
 have he:=Lies.same h1 hx;simp at he;obtain⟨e1,e2,e3,e4,e5⟩:=he;subst e3 e5;rcases ho with⟨hm,_⟩|⟨_,ho⟩
 ·cases hm
 exact(cV h2 z ho).2
theorem AxIn.off{W W':World}{p:Option Nat}{l:List IdR}{z:Nat}(h:AxIn W p l)(hk:Kp [z] W W')(hb:∀ b,p=some b->b≠z)(hn:¬ AxOwn W p z):AxIn W' p l:=by
 cases p with
 |none=>exact h
 |some b=>
  have hbz:b∉[z]:=fun hm=>hb b rfl (yf.1 hm)
  rcases h with⟨base,ids,fl,v1,v2,⟨h1,h2,h3⟩,h4⟩|⟨base,⟨v1,v2,v3,v4,m,h1,h2⟩⟩
  ·refine .inl ⟨base,ids,fl,v1,v2,⟨hk.lies h1 hbz,kD h2 hk (fun g hg hm=>?_),kD h3 hk (fun g hg hm=>?_)⟩,h4⟩
   ·rw[yf.1 hm]at hg;exact hn ⟨b,_,_,_,_,_,rfl,h1,.inl ⟨rfl,.inl hg⟩⟩
   rw[yf.1 hm]at hg;exact hn ⟨b,_,_,_,_,_,rfl,h1,.inl ⟨rfl,.inr hg⟩⟩
  refine .inr ⟨base,⟨v1,v2,v3,v4,m,hk.lies h1 hbz,kD h2 hk (fun g hg hm=>?_)⟩⟩;rw[yf.1 hm]at hg;exact hn ⟨b,_,_,_,_,_,rfl,h1,.inr ⟨by simp,hg⟩⟩
structure Fr(E:Env)(W:World)(z:Nat):Prop where
 nx:z∉E.X
 ng:E.g≠z
 ns:∀ i,i<=6->E.sg+i≠z
 lo:E.lo<=z
 na:¬ AxOwn W E.pa z
 nb:¬ AxOwn W E.pb z
theorem InE.xlt{E:Env}{k op nd pl er:Nat}{W:World}(h:InE E k op nd pl er W):∀ y∈E.X,y<W.heap.size:=by
 intro y hy;unfold Env.X at hy;rcases ym.1 hy with rfl|hy
 ·exact h.rd.lt
 rcases List.mem_append.1 hy with hy|hy
 ·cases hp:E.pa with
  |none=>rw[hp]at hy;cases hy
  |some b=>
   rw[hp]at hy;obtain rfl:y=b:=by simpa using hy
   obtain⟨cs,hc⟩:=h.ar.box y hp;exact hc.lt
 cases hp:E.pb with
 |none=>rw[hp]at hy;cases hy
 |some b=>
  rw[hp]at hy;obtain rfl:y=b:=by simpa using hy
  obtain⟨cs,hc⟩:=h.ac.box y hp;exact hc.lt
theorem SgIn.lt{W:World}{q:Nat}(h:SgIn W q):∀ i,i<=6->q+i<W.heap.size:=by
 intro i hi;rcases Nat.eq_zero_or_pos i with h0|h0
 ·subst h0;exact(zk.1 h.out).1
 obtain⟨c,hc⟩:=h.ins (i-1) (show i-1<6 by omega);have:=(zk.1 hc).1;omega
theorem InE.fresh{E:Env}{k op nd pl er:Nat}{W:World}(h:InE E k op nd pl er W){z:Nat}(hz:W.heap.size<=z):Fr E W z :=
 ⟨fun hm=>by have:=h.xlt z hm;omega,by have:=h.tk.1;omega,fun i hi=>by have:=h.sg.lt i hi;omega,yv h.lo hz,fun ho=>by have:=h.ar.own_lt ho;omega,fun ho=>by have:=h.ac.own_lt ho;omega⟩
theorem InE.boxes{E:Env}{k op nd pl er:Nat}{W:World}(h:InE E k op nd pl er W):(∀ b,E.pa=some b->b<W.heap.size)/\(∀ b,E.pb=some b->b<W.heap.size) :=
 ⟨fun b e=>by obtain⟨cs,hc⟩:=h.ar.box b e;exact hc.lt,fun b e=>by obtain⟨cs,hc⟩:=h.ac.box b e;exact hc.lt⟩
theorem Fr.next{E:Env}{k op nd pl er:Nat}{W W':World}{z:Nat}(h:Fr E W z)(hI:InE E k op nd pl er W)(hk:Kp [E.r] W W')(hE:E.ok):Fr E W' z :=
 ⟨h.nx,h.ng,h.ns,h.lo,fun ho=>h.na (ho.back hk (fun b e=>⟨hI.boxes.1 b e,fun hm=>hE.ra b e (yf.1 hm)⟩)),fun ho=>h.nb (ho.back hk (fun b e=>⟨hI.boxes.2 b e,fun hm=>hE.rb b e (yf.1 hm)⟩))⟩
theorem Fr.at{E:Env}{k op nd pl er:Nat}{W W':World}{z:Nat}{p:Option Nat}{l:List IdR}(h:Fr E W z)(hE:E.ok)(hI:InE E k op nd pl er W)(hp:E.isAx p l)(hk:Kp p.toList W W')(ho:∀ z,AxOwn W' p z->AxOwn W p z\/W.heap.size<=z)(hz:z<W.heap.size):Fr E W' z:=by
 refine⟨h.nx,h.ng,h.ns,h.lo,fun hw=>?_,fun hw=>?_⟩
 ·rcases hp with⟨e,_⟩|⟨e,_⟩
  ·rw[<- e]at hw;rcases ho z hw with hw|hw
   ·exact h.na (by rw[<- e];exact hw)
   omega
  refine h.na (hw.back hk (fun b e2=>⟨hI.boxes.1 b e2,fun hm=>?_⟩));have:p=some b:=by
   cases p with
   |none=>cases hm
   |some c=>rw[show b=c by simpa using hm]
  exact hE.ab b e2 (by rw[<- e,this])
 rcases hp with⟨e,_⟩|⟨e,_⟩
 ·refine h.nb (hw.back hk (fun b e2=>⟨hI.boxes.2 b e2,fun hm=>?_⟩));have:p=some b:=by
   cases p with
   |none=>cases hm
   |some c=>rw[show b=c by simpa using hm]
  exact hE.ab b (by rw[<- e,this]) e2
 rw[<- e]at hw;rcases ho z hw with hw|hw
 ·exact h.nb (by rw[<- e];exact hw)
 omega
theorem InE.off{E:Env}(hE:E.ok){k op nd pl er:Nat}{W W':World}{z:Nat}(h:InE E k op nd pl er W)(hf:Fr E W z)(hk:Kp [z] W W'):InE E k op nd pl er W':=by
 have hz:∀ {y:Nat},y≠z->y∉[z]:=fun hn hm=>hn (yf.1 hm)
 have hxz:∀ y∈E.X,y≠z:=fun y hy e=>hf.nx (by rw[<- e];exact hy)
 have hpa:∀ b,E.pa=some b->b∈E.X:=fun b e=>by unfold Env.X;rw[e];simp
 have hpb:∀ b,E.pb=some b->b∈E.X:=fun b e=>by unfold Env.X;rw[e];simp
 exact⟨hk.lies h.rd (hz (hxz _ (.head _))),h.tk.kp hk (hz hf.ng),h.ar.off hk (fun b e=>hxz b (hpa b e)) hf.na,h.ac.off hk (fun b e=>hxz b (hpb b e)) hf.nb,h.sg.kp hk (fun i hi=>hz (hf.ns i hi)),h.tb.below (hk.below (B:=E.lo) (fun y hy=>by rw[yf.1 hy];exact hf.lo) h.lo) hE.tb,yv h.lo hk.size⟩
def StepX(E:Env)(w:World)(k op nd pl er:Nat)(v:Value)(e:Ending)(w':World):Prop:=e=.returned v/\InE E k op nd pl er w'/\Kp E.X w w'
theorem Kp.X{E:Env}{w w':World}(h:Kp [E.r] w w'):Kp E.X w w':=h.mono (fun k hk _=>by rw[yf.1 hk];exact .head _)
abbrev id0V:Value:=.agg #[.int .i64 0,.int .i64 0]
set_option maxRecDepth 100000 in
theorem pX(E:Env)(hE:E.ok)(k op nd pl er:Nat)(p:Option Nat)(l:List IdR)(place:Nat)(x:IdR)(w:World)(hI:InE E k op nd pl er w)(hp:E.isAx p l)(hl:place<=100000000)(hx:l[place]?=some x) :
  Calls Tryz.prog 134 #[.pointer (some ⟨E.r,0,none⟩),.pointer (ptr p),.int .i64 (place:Int)] w (StepX E w k op nd pl er (.tuple #[idV x,.bool true])):=by
 have cn:Below w.heap.size w (w.alloc (.cells #[.int .i64 0,.int .i64 0] 34)):=(zp _);have hI0:=hI.next cn;have vz:Fr E (w.alloc (.cells #[.int .i64 0,.int .i64 0] 34)) w.heap.size:=(hI.fresh zr).next hI (Kp.of_below cn) hE;have ke:w.heap.size<(w.alloc (.cells #[.int .i64 0,.int .i64 0] 34)).heap.size:=by simp
 have CA:=zh (zY p l place _ (hI0.axIn hp) hl);rw[hx]at CA;have HX:Hid (∀ W',AxIn W' p l->Kp p.toList (w.alloc (.cells #[.int .i64 0,.int .i64 0] 34)) W'->(∀ z,AxOwn W' p z->AxOwn (w.alloc (.cells #[.int .i64 0,.int .i64 0] 34)) p z\/(w.alloc (.cells #[.int .i64 0,.int .i64 0] 34)).heap.size<=z)->InE E k op nd pl er W'/\Kp E.X (w.alloc (.cells #[.int .i64 0,.int .i64 0] 34)) W'/\Fr E W' w.heap.size):=zh (fun W' h2 h3 h4=>⟨hI0.axed hE hp h3 h2,h3.mono (fun y hy _=>hp.mem y hy),vz.at hE hI0 hp h3 h4 ke⟩);have cf:Hid (Kp E.X w (w.alloc (.cells #[.int .i64 0,.int .i64 0] 34))):=zh ((Kp.refl _ _).alloc _);have tq:Hid (Lies (w.alloc (.cells #[.int .i64 0,.int .i64 0] 34)) w.heap.size 34 #[.int .i64 0,.int .i64 0]):=zh (Lies.new _ _ _)
 have HP:Hid (∀ W W',InE E k op nd pl er W->Fr E W w.heap.size->Kp E.X w W->Kp [w.heap.size] W W'->StepX E w k op nd pl er (.tuple #[idV x,.bool true]) (.returned (.tuple #[idV x,.bool true])) W'):=zh (fun W W' h1 h2 h3 h4=>⟨rfl,h1.off hE h2 h4,h3.andThen h4 (fun g hg=>.inr (by rw[yf.1 hg];exact zr))⟩);clear cn hI0 vz ke hx hI;obtain⟨xa,xn⟩:=x
 go_enter Tryz.func134,Tryz.ntmps134
 go_upto_region 1 with fail
 generalize w.alloc (.cells #[.int .i64 0,.int .i64 0] 34)=W1 at *;generalize w.heap.size=q at *
 go_wp2_with fail
 refine CA.out.mono ?_;rintro e w2 ⟨rfl,ha,hk,ho⟩;obtain⟨h1,h2,h3⟩:=HX.out w2 ha hk ho;have ct:=zh h1;have cq:=zh (cf.out.trans h2);have mj:=zh h3;have ce:Hid (Lies w2 q 34 #[.int .i64 0,.int .i64 0]):=zh (h2.lies tq.out h3.nx);clear ha hk ho h1 h2 h3 HX cf tq CA;have hqlt:=ce.out.lt;have au:Hid (Below w2.heap.size w2 (w2.alloc (.cells #[.int .i64 xa,.int .i64 xn] 34))):=zh (zp _);have HC3:Hid (Lies (w2.alloc (.cells #[.int .i64 xa,.int .i64 xn] 34)) w2.heap.size 34 #[.int .i64 xa,.int .i64 xn]):=zh (Lies.new w2 _ _)
 go_upto_region 2 with fail
 generalize w2.alloc (.cells #[.int .i64 xa,.int .i64 xn] 34)=w3 at *;have fj:=zh (ct.out.next au.out);have HF3:=zh (mj.out.next ct.out (Kp.of_below au.out) hE);have ig:=zh (cq.out.trans (Kp.of_below au.out));have ev:=zh (ce.out.next au.out);have hqn:q≠w2.heap.size:=by omega
 generalize w2.heap.size=q2 at *;clear ct mj cq ce au hqlt;have x0:=ev.out.cell 0;have x1:=ev.out.cell 1;have f0:=ev.out.frozen 0;have f1:=ev.out.frozen 1;have c0:=HC3.out.cell 0;have c1:=HC3.out.cell 1;simp only[za,zb,zf]at x0 x1 c0 c1
 go_wp2_with fail
 refine yt (v:=.tuple #[.agg #[.int .i64 xa,.int .i64 xn],.bool true]) (by simp[results,Tryz.results134,go_sem,x0,x1]) rfl ?_;exact HP.out _ _ fj.out HF3.out ig.out (((Kp.refl _ _).set (.inl (.head _)) 0 _).set (.inl (.head _)) 1 _)
set_option maxRecDepth 100000 in
theorem yZ(E:Env)(hE:E.ok)(k op nd pl er:Nat)(p:Option Nat)(l:List IdR)(place:Nat)(w:World)(hI:InE E k op nd pl er w)(hp:E.isAx p l)(hl:place<=100000000)(hx:l[place]?=none)(hk:k<E.L.length) :
  Calls Tryz.prog 134 #[.pointer (some ⟨E.r,0,none⟩),.pointer (ptr p),.int .i64 (place:Int)] w (StepX E w k op nd (E.at k).place 18 (.tuple #[id0V,.bool false])):=by
 have cn:Below w.heap.size w (w.alloc (.cells #[.int .i64 0,.int .i64 0] 34)):=(zp _);have hI0:=hI.next cn;have vz:Fr E (w.alloc (.cells #[.int .i64 0,.int .i64 0] 34)) w.heap.size:=(hI.fresh zr).next hI (Kp.of_below cn) hE;have ke:w.heap.size<(w.alloc (.cells #[.int .i64 0,.int .i64 0] 34)).heap.size:=by simp
 have CA:=zh (zY p l place _ (hI0.axIn hp) hl);have CW:=zh (fun W h=>fB E hE k op nd pl er 18 W h hk);rw[hx]at CA;have HX:Hid (∀ W',AxIn W' p l->Kp p.toList (w.alloc (.cells #[.int .i64 0,.int .i64 0] 34)) W'->(∀ z,AxOwn W' p z->AxOwn (w.alloc (.cells #[.int .i64 0,.int .i64 0] 34)) p z\/(w.alloc (.cells #[.int .i64 0,.int .i64 0] 34)).heap.size<=z)->InE E k op nd pl er W'/\Kp E.X (w.alloc (.cells #[.int .i64 0,.int .i64 0] 34)) W'/\Fr E W' w.heap.size):=zh (fun W' h2 h3 h4=>⟨hI0.axed hE hp h3 h2,h3.mono (fun y hy _=>hp.mem y hy),vz.at hE hI0 hp h3 h4 ke⟩);have cf:Hid (Kp E.X w (w.alloc (.cells #[.int .i64 0,.int .i64 0] 34))):=zh ((Kp.refl _ _).alloc _);have tq:Hid (Lies (w.alloc (.cells #[.int .i64 0,.int .i64 0] 34)) w.heap.size 34 #[.int .i64 0,.int .i64 0]):=zh (Lies.new _ _ _)
 have HP:Hid (∀ W W',InE E k op nd (E.at k).place 18 W->Fr E W w.heap.size->Kp E.X w W->Kp [w.heap.size] W W'->StepX E w k op nd (E.at k).place 18 (.tuple #[id0V,.bool false]) (.returned (.tuple #[id0V,.bool false])) W'):=zh (fun W W' h1 h2 h3 h4=>⟨rfl,h1.off hE h2 h4,h3.andThen h4 (fun g hg=>.inr (by rw[yf.1 hg];exact zr))⟩);clear cn hI0 vz ke hx hI
 go_enter Tryz.func134,Tryz.ntmps134
 go_upto_region 1 with fail
 generalize w.alloc (.cells #[.int .i64 0,.int .i64 0] 34)=W1 at *;generalize w.heap.size=q at *
 go_wp2_with fail
 refine CA.out.mono ?_;rintro e w2 ⟨rfl,ha,hk,ho⟩;obtain⟨h1,h2,h3⟩:=HX.out w2 ha hk ho;have ct:=zh h1;have cq:=zh (cf.out.trans h2);have mj:=zh h3;have ce:Hid (Lies w2 q 34 #[.int .i64 0,.int .i64 0]):=zh (h2.lies tq.out h3.nx);clear ha hk ho h1 h2 h3 HX cf tq CA;have au:Hid (Below w2.heap.size w2 (w2.alloc (.cells #[.int .i64 0,.int .i64 0] 34))):=zh (zp _)
 go_upto_region 2 with fail
 generalize w2.alloc (.cells #[.int .i64 0,.int .i64 0] 34)=w3 at *;have fj:=zh (ct.out.next au.out);have HF3:=zh (mj.out.next ct.out (Kp.of_below au.out) hE);have ig:=zh (cq.out.trans (Kp.of_below au.out));have ev:=zh (ce.out.next au.out);generalize w2.heap.size=q2 at *;clear ct mj cq ce au
 go_wp2_with fail
 refine(CW.out w3 fj.out).mono ?_;rintro e w4 ⟨rfl,h1,h2⟩;have HF4:=zh (HF3.out.next fj.out h2 hE);have kv:=zh h1;have j9:=zh (ig.out.trans h2.X);have j6:=zh (h2.lies ev.out (fun hm=>HF4.out.nx (by rw[yf.1 hm];exact .head _)));clear fj HF3 ig ev h1 h2;have x0:=j6.out.cell 0;have x1:=j6.out.cell 1;have f0:=j6.out.frozen 0;have f1:=j6.out.frozen 1;simp only[za,zb,zf]at x0 x1
 go_wp2_with fail
 refine yt (v:=.tuple #[.agg #[.int .i64 0,.int .i64 0],.bool false]) (by simp[results,Tryz.results134,go_sem,x0,x1]) rfl ?_;exact HP.out _ _ kv.out HF4.out j9.out (((Kp.refl _ _).set (.inl (.head _)) 0 _).set (.inl (.head _)) 1 _)
theorem Fr.typed{E:Env}{k op nd pl er:Nat}{W0 W:World}{z:Nat}{t:TypeId}{cs:Array Value}(hf:Fr E W0 z)(hI:InE E k op nd pl er W)(hl:Lies W z t cs)(h1:t≠34)(h2:t≠4):Fr E W z:=by
 have m8:∀ (p:Option Nat) (l:List IdR),AxIn W p l->¬ AxOwn W p z:=by
  intro p l ha ⟨b,v1,v2,v3,v4,mm,e,hx,ho⟩;subst e;rcases ha with⟨base,ids,fl,u1,u2,⟨g1,g2,g3⟩,_⟩|⟨base,⟨u1,u2,u3,u4,m,g1,g2⟩⟩
  ·have he:=Lies.same g1 hx;simp at he;obtain⟨e1,e2,e3,e4,e5⟩:=he;subst e1 e2 e3;rcases ho with⟨_,ho|ho⟩|⟨hm,_⟩
   ·exact gT (Ne.symm h1) g2 hl ho.symm
   ·exact gT (Ne.symm h2) g3 hl ho.symm
   exact hm rfl
  have he:=Lies.same g1 hx;simp at he;obtain⟨e1,e2,e3,e4,e5⟩:=he;subst e3 e5;rcases ho with⟨hm,_⟩|⟨_,ho⟩
  ·cases hm
  exact gT (Ne.symm h1) g2 hl ho.symm
 exact⟨hf.nx,hf.ng,hf.ns,hf.lo,m8 _ _ hI.ar,m8 _ _ hI.ac⟩
structure Own1(E:Env)(W0 W:World)(z:Nat)(t:TypeId)(cs:Array Value):Prop where
 fr:Fr E W0 z
 ge:W0.heap.size<=z
 li:Lies W z t cs
theorem Own1.new{E:Env}{k op nd pl er:Nat}{W0 W:World}(hI:InE E k op nd pl er W0)(hk:Kp E.X W0 W)(t:TypeId)(cs:Array Value):Own1 E W0 (W.alloc (.cells cs t)) W.heap.size t cs:=⟨hI.fresh hk.size,hk.size,Lies.new _ _ _⟩
theorem Own1.next{E:Env}{W0 W W':World}{z:Nat}{t:TypeId}{cs:Array Value}(h:Own1 E W0 W z t cs)(hb:Below W.heap.size W W'):Own1 E W0 W' z t cs:=⟨h.fr,h.ge,h.li.next hb⟩
theorem Own1.kp{E:Env}{W0 W W':World}{z:Nat}{t:TypeId}{cs:Array Value}(h:Own1 E W0 W z t cs)(hk:Kp E.X W W'):Own1 E W0 W' z t cs:=⟨h.fr,h.ge,hk.lies h.li h.fr.nx⟩
theorem Own1.put{E:Env}{W0 W:World}{z:Nat}{t:TypeId}{cs:Array Value}(h:Own1 E W0 W z t cs)(i:Nat)(v:Value):Own1 E W0 (W.setCell ⟨z,i,none⟩ v) z t (cs.setIfInBounds i v):=⟨h.fr,h.ge,h.li.put i v⟩
theorem Own1.off{E:Env}{W0 W:World}{z y:Nat}{t:TypeId}{cs:Array Value}(h:Own1 E W0 W z t cs)(bp:z≠y)(i:Nat)(v:Value):Own1 E W0 (W.setCell ⟨y,i,none⟩ v) z t cs:=⟨h.fr,h.ge,aK h.li bp i v⟩
theorem InE.own{E:Env}(hE:E.ok){k op nd pl er:Nat}{W0 W W':World}{z:Nat}{t:TypeId}{cs:Array Value}(h:InE E k op nd pl er W)(ho:Own1 E W0 W z t cs)(h1:t≠34)(h2:t≠4)(hk:Kp [z] W W'):InE E k op nd pl er W':=h.off hE (ho.fr.typed h ho.li h1 h2) hk
theorem Kp.own{E:Env}{W0 W W':World}{z:Nat}{t:TypeId}{cs:Array Value}(h:Kp E.X W0 W)(ho:Own1 E W0 W z t cs)(hk:Kp [z] W W'):Kp E.X W0 W':=h.andThen hk (fun g hg=>.inr (by rw[yf.1 hg];exact ho.ge))
abbrev jC(c:Cor):Value:=.agg #[.int .i64 c.row.a,.int .i64 c.row.n,.int .i64 c.col.a,.int .i64 c.col.n,.bool c.fr,.bool c.fc]
abbrev bW:Array Value:=#[.int .i64 0,.int .i64 0,.int .i64 0,.int .i64 0,.bool false,.bool false]
def uAE(E:Env)(w:World)(k op nd pl er:Nat)(r:Except Nat Cor):Ending->World->Prop:=match r with
 | .error e=>StepX E w k op nd (E.at k).place e (.tuple #[jC aG,.bool false])
 | .ok c=>StepX E w (k+1) op nd pl er (.tuple #[jC c,.bool true])
set_option maxRecDepth 100000 in
theorem cell_ok(E:Env)(hE:E.ok)(k op nd pl er:Nat)(w:World)(hI:InE E k op nd pl er w)(hk:k<E.L.length)(hL:E.L.length<=1000000)(ht:(E.at k).text.length<=100000)(m:Mk)(x y:IdR)
  (h4:(E.at k).kind=4) (hm:bG (E.at k).text=some m) (hx:E.ax.rows[m.row]?=some x) (hy:E.ax.cols[m.col]?=some y) (hmr:m.row<=100000000) (hmc:m.col<=100000000) :
  Calls Tryz.prog 132 #[.pointer (some ⟨E.r,0,none⟩)] w (StepX E w (k+1) op nd pl er (.tuple #[jC ⟨x,y,m.fr,m.fc⟩,.bool true])):=by
 have CT:=zh (fun W h=>cE E k op nd pl er W h hk);have CP:=zh (fun W=>iW (E.at k).text W ht);unfold jK at CP;rw[hm]at CP;have CL1:=zh (fun W h=>pX E hE k op nd pl er E.pa E.ax.rows m.row x W h (.inl ⟨rfl,rfl⟩) hmr hx);have CL2:=zh (fun W h=>pX E hE k op nd pl er E.pb E.ax.cols m.col y W h (.inr ⟨rfl,rfl⟩) hmc hy);generalize E.at k=t at *;obtain⟨tk,tx,tp⟩:=t;obtain⟨mr,mc,mfr,mfc⟩:=m;dsimp only[tkV,kC]at CT CP h4 CL1 CL2 ⊢;subst h4;clear ht hm hx hy hmr hmc;have cj:=zh (hI.next (zp (.cells bW 36)));have cf:Hid (Kp E.X w (w.alloc (.cells bW 36))):=zh ((Kp.refl _ _).alloc _);have cd:=zh (Own1.new hI (Kp.refl E.X w) 36 bW);have HF:=zh hI;clear hI;have hf0:=mN;have oy:=nS;obtain⟨xa,xn⟩:=x;obtain⟨ya,yn⟩:=y
 go_enter Tryz.func132,Tryz.ntmps132
 go_upto_region 1 with fail
 generalize w.alloc (.cells bW 36)=W1 at *;generalize w.heap.size=q at *
 go_wp2_with fail
 refine(CT.out W1 cj.out).mono ?_;rintro e w1 ⟨rfl,hb⟩;have fp:=zh (cj.out.next hb);have ee:=zh (cf.out.trans (Kp.of_below hb));have jh:=zh (cd.out.next hb);clear hb cj cf cd
 go_wp2_with fail
 refine(CP.out w1).mono ?_;rintro e w2 ⟨rfl,hb⟩;have ct:=zh (fp.out.next hb);have cq:=zh (ee.out.trans (Kp.of_below hb));have bq:=zh (jh.out.next hb);clear hb fp ee jh
 go_upto_region 2 with fail
 have fj:=zh (ct.out.next (zp (.cells #[.int .i64 (mr:Int),.int .i64 (mc:Int),.bool mfr,.bool mfc] 150)));have iw:=zh (bq.out.next (zp (.cells #[.int .i64 (mr:Int),.int .i64 (mc:Int),.bool mfr,.bool mfc] 150)));have au:=zh (Own1.new HF.out cq.out 150 #[.int .i64 (mr:Int),.int .i64 (mc:Int),.bool mfr,.bool mfc]);have ig:=zh (cq.out.alloc (.cells #[.int .i64 (mr:Int),.int .i64 (mc:Int),.bool mfr,.bool mfc] 150));have bp:q≠w2.heap.size:=by have:=bq.out.li.lt;omega
 generalize w2.alloc (.cells #[.int .i64 (mr:Int),.int .i64 (mc:Int),.bool mfr,.bool mfc] 150)=w3 at *;generalize w2.heap.size=q1 at *;clear ct bq cq
 go_wp2_with fail
 refine(CT.out w3 fj.out).mono ?_;rintro e w4 ⟨rfl,hb⟩;have kv:=zh (fj.out.next hb);have j9:=zh (ig.out.trans (Kp.of_below hb));have lj:=zh (iw.out.next hb);have cg:=zh (au.out.next hb);clear hb fj ig iw au;have b0:=cg.out.li.cell 0;have b1:=cg.out.li.cell 1;have b2:=cg.out.li.cell 2;have b3:=cg.out.li.cell 3;simp only[za,zb,zf]at b0 b1 b2 b3
 go_upto_region 5 with fail
 have nj:=zh (kv.out.next (zp (.cells #[.int .i64 0,.int .i64 0,.int .i64 0,.int .i64 0,.bool mfr,.bool mfc] 36)));have j2:=zh (lj.out.next (zp (.cells #[.int .i64 0,.int .i64 0,.int .i64 0,.int .i64 0,.bool mfr,.bool mfc] 36)));have di:=zh (cg.out.next (zp (.cells #[.int .i64 0,.int .i64 0,.int .i64 0,.int .i64 0,.bool mfr,.bool mfc] 36)));have HC5:=zh (Own1.new HF.out j9.out 36 #[.int .i64 0,.int .i64 0,.int .i64 0,.int .i64 0,.bool mfr,.bool mfc]);have j3:=zh (j9.out.alloc (.cells #[.int .i64 0,.int .i64 0,.int .i64 0,.int .i64 0,.bool mfr,.bool mfc] 36));have bv:q≠w4.heap.size:=by have:=lj.out.li.lt;omega
 have o8:q1≠w4.heap.size:=by have:=cg.out.li.lt;omega
 generalize w4.alloc (.cells #[.int .i64 0,.int .i64 0,.int .i64 0,.int .i64 0,.bool mfr,.bool mfc] 36)=w5 at *;generalize w4.heap.size=q2 at *;clear kv lj cg j9 b0 b1 b2 b3;have b0:=di.out.li.cell 0;have b1:=di.out.li.cell 1;have r4:=nj.out.rd.cell 4;have r5:=nj.out.rd.cell 5;simp only[za,zb,zf]at b0 b1 r4 r5
 go_cut [5] (fun v wx=>v=.bool true/\Hid (InE E k op nd pl er wx)/\Hid (Kp E.X w wx)/\Hid (Own1 E w wx q 36 bW)/\Hid (Own1 E w wx q1 150 #[.int .i64 (mr:Int),.int .i64 (mc:Int),.bool mfr,.bool mfc])/\Hid (Own1 E w wx q2 36 #[.int .i64 xa,.int .i64 xn,.int .i64 0,.int .i64 0,.bool mfr,.bool mfc]))
 case first=>
  go_region_with ((go_at_call 134;refine(CL1.out w5.drew (nj.out.next (Below.refl _ _).drew)).mono ?_;rintro e w6 ⟨rfl,h1,h2⟩;have ml:=zh h1;have iv:=zh (j3.out.drew.trans h2);have ji:=zh ((j2.out.next (Below.refl _ _).drew).kp h2);have HB6:=zh ((di.out.next (Below.refl _ _).drew).kp h2);have iy:=zh ((HC5.out.next (Below.refl _ _).drew).kp h2);clear h1 h2;have c0:=iy.out.li.cell 0;have c1:=iy.out.li.cell 1;have g0:=iy.out.li.frozen 0;have g1:=iy.out.li.frozen 1;simp only[za,zb,zf]at c0 c1))
  all_goals go_wp2_with fail
  all_goals go_meet
  all_goals exact⟨rfl,zh (ml.out.own hE iy.out (by decide) (by decide) (((Kp.refl _ _).set (.inl (.head _)) 0 _).set (.inl (.head _)) 1 _)),zh (iv.out.own iy.out (((Kp.refl _ _).set (.inl (.head _)) 0 _).set (.inl (.head _)) 1 _)),zh ((ji.out.off bv 0 _).off bv 1 _),zh ((HB6.out.off o8 0 _).off o8 1 _),zh ((iy.out.put 0 _).put 1 _)⟩
 case rest=>
  obtain⟨rfl,gq,nk,dw,HB7,HC7⟩:=hcut;clear nj j3 j2 di HC5 b0 b1 r4 r5;have b1:=HB7.out.li.cell 1;have r5:=gq.out.rd.cell 5;simp only[za,zb,zf]at b1 r5
  go_upto_region 8 with fail
  go_cut [5] (fun v wx=>v=.bool true/\Hid (InE E k op nd pl er wx)/\Hid (Kp E.X w wx)/\Hid (Own1 E w wx q 36 bW)/\Hid (Own1 E w wx q2 36 #[.int .i64 xa,.int .i64 xn,.int .i64 ya,.int .i64 yn,.bool mfr,.bool mfc]))
  case first=>
   go_region_with ((go_at_call 134;refine(CL2.out wc.drew (gq.out.next (Below.refl _ _).drew)).mono ?_;rintro e w6 ⟨rfl,h1,h2⟩;have ml:=zh h1;have iv:=zh (nk.out.drew.trans h2);have ji:=zh ((dw.out.next (Below.refl _ _).drew).kp h2);have iy:=zh ((HC7.out.next (Below.refl _ _).drew).kp h2);clear h1 h2;have c2:=iy.out.li.cell 2;have c3:=iy.out.li.cell 3;have g2:=iy.out.li.frozen 2;have g3:=iy.out.li.frozen 3;simp only[za,zb,zf]at c2 c3))
   all_goals go_wp2_with fail
   all_goals go_meet
   all_goals exact⟨rfl,zh (ml.out.own hE iy.out (by decide) (by decide) (((Kp.refl _ _).set (.inl (.head _)) 2 _).set (.inl (.head _)) 3 _)),zh (iv.out.own iy.out (((Kp.refl _ _).set (.inl (.head _)) 2 _).set (.inl (.head _)) 3 _)),zh ((ji.out.off bv 2 _).off bv 3 _),zh ((iy.out.put 2 _).put 3 _)⟩
  case rest=>
   obtain⟨rfl,v7,ls,o9,HC8⟩:=hcut;clear gq nk dw HB7 HC7 b1 r5 CT CP CL1 CL2;have r1:=v7.out.rd.cell 1;have fr1:=v7.out.rd.frozen 1;simp only[za,zb,zf]at r1;have ol:(k:Int)<=1000000:=by omega
   have mv:Hid (Kp [E.r] wc (wc.setCell ⟨E.r,1,none⟩ (.int .i64 ((k:Int)+1)))):=zh ((Kp.refl _ _).set (.inl (.head _)) 1 _);have HI9:Hid (InE E (k+1) op nd pl er (wc.setCell ⟨E.r,1,none⟩ (.int .i64 ((k:Int)+1)))):=zh (v7.out.wrote hE mv.out (v7.out.rd.put 1 _));have me:=zh (ls.out.trans mv.out.X);have nr:=zh (o9.out.kp mv.out.X);have HC9:=zh (HC8.out.kp mv.out.X)
   go_upto_region 12 with fail
   generalize wc.setCell ⟨E.r,1,none⟩ (.int .i64 ((k:Int)+1))=w9 at *;clear v7 ls o9 HC8 mv r1 fr1;have HP:Hid (∀ W',Kp [q] w9 W'->StepX E w (k+1) op nd pl er (.tuple #[jC ⟨⟨xa,xn⟩,⟨ya,yn⟩,mfr,mfc⟩,.bool true]) (.returned (.tuple #[jC ⟨⟨xa,xn⟩,⟨ya,yn⟩,mfr,mfc⟩,.bool true])) W'):=zh (fun W' h=>⟨rfl,HI9.out.own hE nr.out (by decide) (by decide) h,me.out.own nr.out h⟩);have c0:=HC9.out.li.cell 0;have c1:=HC9.out.li.cell 1;have c2:=HC9.out.li.cell 2;have c3:=HC9.out.li.cell 3;have c4:=HC9.out.li.cell 4;have c5:=HC9.out.li.cell 5;have a0:=nr.out.li.cell 0;have a1:=nr.out.li.cell 1;have a2:=nr.out.li.cell 2;have a3:=nr.out.li.cell 3;have a4:=nr.out.li.cell 4;have a5:=nr.out.li.cell 5;have g0:=nr.out.li.frozen 0;have g1:=nr.out.li.frozen 1;have g2:=nr.out.li.frozen 2;have g3:=nr.out.li.frozen 3;have g4:=nr.out.li.frozen 4;have g5:=nr.out.li.frozen 5
   simp only[bW,za,zb,zf]at c0 c1 c2 c3 c4 c5 a0 a1 a2 a3 a4 a5
   go_wp2_with fail
   refine yt (v:=.tuple #[.agg #[.int .i64 xa,.int .i64 xn,.int .i64 ya,.int .i64 yn,.bool mfr,.bool mfc],.bool true]) (by simp[results,Tryz.results132,go_sem,a0,a1,a2,a3,a4,a5]) rfl ?_;exact HP.out _ ((((((((Kp.refl _ _).set (.inl (.head _)) 0 _).set (.inl (.head _)) 1 _).set (.inl (.head _)) 2 _).set (.inl (.head _)) 3 _).set (.inl (.head _)) 4 _).set (.inl (.head _)) 5 _))
theorem uFH(s:Bs):∃ a b c d,jK s=.tuple #[kC a b c d,.bool (bG s).isSome]:=by
 unfold jK;cases bG s with
 |none=>exact⟨_,_,_,_,rfl⟩
 |some m=>exact⟨_,_,_,_,rfl⟩
set_option maxRecDepth 100000 in
theorem wT(E:Env)(hE:E.ok)(k op nd pl er:Nat)(w:World)(hI:InE E k op nd pl er w)(hk:k<E.L.length)(ht:(E.at k).text.length<=100000)
  (km:(E.at k).kind≠4\/bG (E.at k).text=none) :
  Calls Tryz.prog 132 #[.pointer (some ⟨E.r,0,none⟩)] w (StepX E w k op nd (E.at k).place 6 (.tuple #[jC aG,.bool false])):=by
 have CT:=zh (fun W h=>cE E k op nd pl er W h hk);have CP:=zh (fun W=>iW (E.at k).text W ht);have CW:=zh (fun W h=>fB E hE k op nd pl er 6 W h hk);obtain⟨mr,mc,mfr,mfc,hm⟩:=uFH (E.at k).text;rw[hm]at CP;have hok:(E.at k).kind=4->(bG (E.at k).text).isSome=false:=fun h4=>by
  rcases km with h|h
  ·exact absurd h4 h
  rw[h];rfl
 have rr:=zh hok;generalize (bG (E.at k).text).isSome=ok at *;clear hok km hm;generalize E.at k=t at *;obtain⟨tk,tx,tp⟩:=t;dsimp only[tkV,kC]at CT CP rr CW ⊢;clear ht;have cj:=zh (hI.next (zp (.cells bW 36)));have cf:Hid (Kp E.X w (w.alloc (.cells bW 36))):=zh ((Kp.refl _ _).alloc _);have cd:=zh (Own1.new hI (Kp.refl E.X w) 36 bW);have HF:=zh hI;clear hI;have hf0:=mN;have oy:=nS
 go_enter Tryz.func132,Tryz.ntmps132
 go_upto_region 1 with fail
 generalize w.alloc (.cells bW 36)=W1 at *;generalize w.heap.size=q at *
 go_wp2_with fail
 refine(CT.out W1 cj.out).mono ?_;rintro e w1 ⟨rfl,hb⟩;have fp:=zh (cj.out.next hb);have ee:=zh (cf.out.trans (Kp.of_below hb));have jh:=zh (cd.out.next hb);clear hb cj cf cd
 go_wp2_with fail
 refine(CP.out w1).mono ?_;rintro e w2 ⟨rfl,hb⟩;have ct:=zh (fp.out.next hb);have cq:=zh (ee.out.trans (Kp.of_below hb));have bq:=zh (jh.out.next hb);clear hb fp ee jh;have hib:Hid (∀ o,Below w2.heap.size w2 (w2.alloc o)):=zh (fun o=>zp o)
 go_upto_region 2 with fail
 have fj:=zh (ct.out.next (hib.out (.cells #[.int .i64 mr,.int .i64 mc,.bool mfr,.bool mfc] 150)));have iw:=zh (bq.out.next (hib.out (.cells #[.int .i64 mr,.int .i64 mc,.bool mfr,.bool mfc] 150)));have ig:=zh (cq.out.alloc (.cells #[.int .i64 mr,.int .i64 mc,.bool mfr,.bool mfc] 150));generalize w2.alloc (.cells #[.int .i64 mr,.int .i64 mc,.bool mfr,.bool mfc] 150)=w3 at *;generalize w2.heap.size=q1 at *;clear ct bq cq hib;have gz:Hid (tk≠4\/(tk=4/\ok=false)):=zh (by
  by_cases h:tk=4
  ·exact .inr ⟨h,rr.out h⟩
  exact .inl h)
 go_cut [21] (fun v wx=>v=.bool true/\Hid (InE E k op nd pl er wx)/\Hid (Kp E.X w wx)/\Hid (Own1 E w wx q 36 bW))
 case first=>
  rcases gz.out with h|⟨h,h2⟩
  ·have hb:((tk:Int) != 4)=true:=by simp;omega
   have bf:(!((tk:Int)==4))=true:=by simp;omega
   have bu:((tk:Int)==4)=false:=by simp;omega
   go_wp2_with fail
   refine(CT.out w3 fj.out).mono ?_;rintro e w4 ⟨rfl,hb⟩;have kv:=zh (fj.out.next hb);have j9:=zh (ig.out.trans (Kp.of_below hb));have lj:=zh (iw.out.next hb);clear hb
   go_wp2_with fail
   all_goals go_meet
   all_goals exact⟨rfl,kv,j9,lj⟩
  subst h h2
  go_wp2_with fail
  refine(CT.out w3 fj.out).mono ?_;rintro e w4 ⟨rfl,hb⟩;have kv:=zh (fj.out.next hb);have j9:=zh (ig.out.trans (Kp.of_below hb));have lj:=zh (iw.out.next hb);clear hb
  go_wp2_with fail
  all_goals go_meet
  all_goals exact⟨rfl,kv,j9,lj⟩
 case rest=>
  obtain⟨rfl,kv,j9,lj⟩:=hcut;clear fj ig iw;clear gz rr CT CP
  go_wp2_with fail
  refine(CW.out wc kv.out).mono ?_;rintro e w5 ⟨rfl,h1,h2⟩;have j2:=zh (lj.out.kp h2.X);have nj:=zh h1;have j3:=zh (j9.out.trans h2.X);clear h1 h2 lj kv j9;have HP:Hid (∀ W',Kp [q] w5 W'->StepX E w k op nd tp 6 (.tuple #[jC aG,.bool false]) (.returned (.tuple #[jC aG,.bool false])) W'):=zh (fun W' h=>⟨rfl,nj.out.own hE j2.out (by decide) (by decide) h,j3.out.own j2.out h⟩);have a0:=j2.out.li.cell 0;have a1:=j2.out.li.cell 1;have a2:=j2.out.li.cell 2;have a3:=j2.out.li.cell 3;have a4:=j2.out.li.cell 4;have a5:=j2.out.li.cell 5;have g0:=j2.out.li.frozen 0;have g1:=j2.out.li.frozen 1;have g2:=j2.out.li.frozen 2;have g3:=j2.out.li.frozen 3;have g4:=j2.out.li.frozen 4;have g5:=j2.out.li.frozen 5;simp only[bW,za,zb,zf]at a0 a1 a2 a3 a4 a5
  go_wp2_with fail
  refine yt (v:=.tuple #[jC aG,.bool false]) (by simp[results,Tryz.results132,go_sem,a0,a1,a2,a3,a4,a5]) rfl ?_;exact HP.out _ ((((((((Kp.refl _ _).set (.inl (.head _)) 0 _).set (.inl (.head _)) 1 _).set (.inl (.head _)) 2 _).set (.inl (.head _)) 3 _).set (.inl (.head _)) 4 _).set (.inl (.head _)) 5 _))
end Go.Proofs.YtmgjidnalpgegaaGreatDoor
