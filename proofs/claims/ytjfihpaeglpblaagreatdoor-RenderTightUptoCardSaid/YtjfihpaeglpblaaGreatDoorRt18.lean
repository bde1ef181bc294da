/-
  Lemmas, part 18: RmA RkH PaG RkD RmB RkG PaY PaZ.
-/
import Derived.Test.YtjfihpaeglpblaaGreatDoorRt17
set_option maxHeartbeats 100000000
set_option maxRecDepth 1000000
namespace Go.Proofs.YtjfihpaeglpblaaGreatDoor
open Go.RowKit
theorem yJ{p:UInt8->Bool}:∀ {l:Bs},l.all p=true↔aT p l=l.length
 | []=>by simp[aT]
 |c::l=>by
  have ih:=yJ (p:=p) (l:=l);have hle:=cO p l;rw[List.all_cons,yh,aT,yi,ih];cases hp:p c with
  |true=>simp
  |false=>simp
theorem mark_eq(l:Bs):(decide (aE l+aF (l.drop (aE l))=l.length)&&decide (aE l<=3)&&decide (1<=aF (l.drop (aE l)))&&decide (aF (l.drop (aE l))<=7)&&!bJ l (aE l) 48)=nR l:=by
 have h:=yJ (p:=aB) (l:=l.drop (aE l));rw[yk]at h;have hc:aE l<=l.length:=cO aW l;unfold nR;rw[ze];simp only[yh,decide_eq_true_eq,h];unfold aF;constructor
 ·rintro⟨⟨⟨⟨a1,a2⟩,a3⟩,a4⟩,a5⟩;exact⟨a2,by omega,by omega,a5,by omega⟩
 rintro⟨a2,a3,a4,a5,a6⟩;exact⟨⟨⟨⟨by omega,a2⟩,by omega⟩,by omega⟩,a5⟩
theorem addr_eq(l:Bs):(decide (aE l+aF (l.drop (aE l))=l.length)&&decide (1<=aE l)&&decide (aE l<=3)&&decide (1<=aF (l.drop (aE l))))=(decide (1<=aE l)&&(decide (aE l<=3)&&(decide (aE l<l.length)&&(l.drop (aE l)).all aB))):=by
 have h:=yJ (p:=aB) (l:=l.drop (aE l));rw[yk]at h;have hc:aE l<=l.length:=cO aW l;rw[ze];simp only[yh,decide_eq_true_eq,h];unfold aF;omega
theorem call_eq(l:Bs):bI l=(decide (0<l.length)&&decide (l.length<=32)&&aW (l.headD 0)&&l.all dL&&!nR l):=by
 rw[<- mark_eq];rfl
theorem name_eq(l:Bs):bB l=(decide (0<l.length)&&decide (l.length<=32)&&(aW (l.headD 0)||l.headD 0==95)&&l.all cP&&!(l==lE||l==gS)&&!rE l):=by
 unfold rE;rw[<- addr_eq];have e:bB l=(decide (0<l.length)&&decide (l.length<=32)&&(aW (l.headD 0)||l.headD 0==95)&&l.all cP&&!(l==lE||l==gS||dF l)&&!(decide (aE l+aF (l.drop (aE l))=l.length)&&decide (1<=aE l)&&decide (aE l<=3)&&decide (1<=aF (l.drop (aE l))))):=rfl;rw[e];generalize (decide (0<l.length)&&decide (l.length<=32)&&(aW (l.headD 0)||l.headD 0==95)&&l.all cP)=a;generalize (l==lE||l==gS)=b;generalize dF l=c;generalize (decide (aE l+aF (l.drop (aE l))=l.length)&&decide (1<=aE l)&&decide (aE l<=3)&&decide (1<=aF (l.drop (aE l))))=d;cases a <;> cases b <;> cases c <;> cases d <;> rfl
theorem sT{p:UInt8->Bool}{l:Bs}{k:Nat}(h:k<l.length)(hp:p l[k]=false):l.all p=false:=by
 cases ha:l.all p with
 |false=>rfl
 |true=>rw[List.all_eq_true.1 ha _ (List.getElem_mem h)]at hp;cases hp
theorem wB{l:Bs}(h:0<l.length):l.headD 0=l[0]:=by cases l with|nil=>cases h|cons c t=>rfl
theorem tP(l:Bs)(w:World)(hs:l.length<=100000) :
  Calls Tryz.prog 151 #[vT l] w fun e w'=>e=.returned (.bool (bI l))/\w=w':=by
 have HM:=zh (uER l w hs);rw[call_eq];generalize nR l=m at *;by_cases h0:l.length<1
 ·have h0i:(l.length:Int)<1:=by omega
  clear HM
  go_in
  go_wp2_with fail
  go_ret
  exact⟨aA (by rw[decide_eq_false (by omega:¬ 0<l.length)];rfl),rfl⟩
 have h1i:¬ (l.length:Int)<1:=by omega
 by_cases t9:32<l.length
 ·have od:(32:Int)<(l.length:Int):=by omega
  clear HM
  go_in
  go_wp2_with fail
  go_ret
  exact⟨aA (by rw[decide_eq_false (by omega:¬ l.length<=32)];simp),rfl⟩
 have od:¬ (32:Int)<(l.length:Int):=by omega
 have fz:0<l.length:=by omega
 rw[wB fz,decide_eq_true fz,decide_eq_true (by omega:l.length<=32)];cases iq:aW l[0] with
 |false=>
  clear HM
  go_in
  go_wp2_with (go_at_call 202;refine(bZ _ _).mono ?_;rintro e w' ⟨rfl,rfl⟩)
  go_ret
  exact⟨aA (by simp),rfl⟩
 |true=>
 obtain⟨r,hr⟩:∃ r,(true&&true&&true&&l.all dL&&!m)=r:=⟨_,rfl⟩
 have HR:Hid ((l.all dL&&!m)=r):=zh (by rw[<- hr];simp);rw[hr];have H0:Hid ((l.take 1).all dL=true):=zh (by
  rw[show l.take 1=[l[0]] by cases l with|nil=>cases fz|cons c t=>rfl];simp[dL,iq])
 clear h0 t9 hr hs
 go_in
 go_wp2_with (go_at_call 202;refine(bZ _ _).mono ?_;rintro e w' ⟨rfl,rfl⟩)
 clear iq
 go_loop [3] (fun i=>∃ k:Nat,1<=k/\k<=l.length/\i=vI k/\Hid ((l.take k).all dL=true)) (fun i=>l.length-(intOf i).toNat)
 case atStart=>exact⟨1,zr,fz,rfl,H0⟩
 case round=>
  obtain⟨k,fi,hk,rfl,HK⟩:=hrel;by_cases hlt:k<l.length
  ·have jz:=jJ l[k] 46 46 rfl;have ii:(k:Int)<(l.length:Int):=by omega
   cases d:dL l[k] with
   |false=>
    have HA:=zh (sT hlt d);unfold dL at d;simp only[Bool.or_eq_false_iff]at d;obtain⟨⟨d1,d2⟩,d3⟩:=d;rw[d3]at jz;clear d3
    go_wp2_with (first |(go_at_call 202;refine(bZ _ _).mono ?_;rintro e w' ⟨rfl,rfl⟩) |(go_at_call 203;refine(cJ _ _).mono ?_;rintro e w' ⟨rfl,rfl⟩))
    go_ret
    exact⟨aA (by rw[<- HR.out,HA.out];rfl),rfl⟩
   |true=>
   have HS:=zh (dR HK.out hlt d);unfold dL at d;cases d1:aW l[k] with
   |true=>
    clear d
    go_wp2_with (first |(go_at_call 202;refine(bZ _ _).mono ?_;rintro e w' ⟨rfl,rfl⟩) |(go_at_call 203;refine(cJ _ _).mono ?_;rintro e w' ⟨rfl,rfl⟩))
    go_round
    case rel=>exact⟨k+1,by omega,by omega,by go_num,HS⟩
    case measure=>simp[intOf];omega
   |false=>
    cases d2:aB l[k] with
    |true=>
     clear d
     go_wp2_with (first |(go_at_call 202;refine(bZ _ _).mono ?_;rintro e w' ⟨rfl,rfl⟩) |(go_at_call 203;refine(cJ _ _).mono ?_;rintro e w' ⟨rfl,rfl⟩))
     go_round
     case rel=>exact⟨k+1,by omega,by omega,by go_num,HS⟩
     case measure=>simp[intOf];omega
    |false=>
     have d3:(l[k]==46)=true:=by rw[d1,d2]at d;simpa using d
     rw[d3]at jz;clear d d3
     go_wp2_with (first |(go_at_call 202;refine(bZ _ _).mono ?_;rintro e w' ⟨rfl,rfl⟩) |(go_at_call 203;refine(cJ _ _).mono ?_;rintro e w' ⟨rfl,rfl⟩))
     go_round
     case rel=>exact⟨k+1,by omega,by omega,by go_num,HS⟩
     case measure=>simp[intOf];omega
  have HE:Hid (l.all dL=true):=zh (by have h:=HK.out;rwa [List.take_of_length_le (by omega)]at h);have qy:¬ (k:Int)<(l.length:Int):=by omega
  go_wp2_with fail
  refine HM.out.mono ?_;rintro e w' ⟨rfl,rfl⟩
  go_wp2_with fail
  go_ret
  exact⟨aA (by rw[<- HR.out,HE.out];simp),rfl⟩
theorem uDA(s:Bs)(g cp:Nat)(xs:List Bs)(w:World)(hx:TxtAt w g xs)(hl:xs.length<=100) :
  Calls Tryz.prog 152 #[vT s,.slice (some ⟨g,0,none⟩) xs.length cp] w fun e w'=>e=.returned (.bool (xs.contains s))/\w=w':=by
 have HX:=zh hx;obtain⟨r,hr⟩:=zE (xs.contains s)
 have HR:=zh hr;rw[hr];clear hx hr
 go_in
 go_wp2
 go_loop [5] (fun i=>∃ k:Nat,k<=xs.length/\i=vI k/\Hid (s∉xs.take k)) (fun i=>xs.length-(intOf i).toNat)
 case atStart=>exact⟨0,zm _,rfl,zh (by simp)⟩
 case round=>
  obtain⟨k,hk,rfl,HN⟩:=hrel;by_cases hlt:k<xs.length
  ·have x0:=HX.out k hlt;have ii:(k:Int)<(xs.length:Int):=by omega
   cases hd:(xs[k]==s)
   ·have HQ:Hid (s∉xs.take (k+1)):=zh (by
     rw[yw hlt,List.mem_append,yf];rintro(h|h)
     ·exact HN.out h
     rw[h]at hd;simp at hd)
    go_wp2_with fail
    go_round
    case rel=>exact⟨k+1,by omega,by go_num,HQ⟩
    case measure=>simp[intOf];omega
   have HT:Hid (xs.contains s=true):=zh (by
    rw[List.contains_iff_mem];have:=List.getElem_mem hlt
    rwa [eq_of_beq hd]at this)
   go_wp2_with fail
   go_ret
   exact⟨aA (by rw[<- HR.out,HT.out]),rfl⟩
  have HF:Hid (xs.contains s=false):=zh (by
   cases hc:xs.contains s with
   |false=>rfl
   |true=>exact absurd (List.contains_iff_mem.1 hc) (by have h:=HN.out;rwa [List.take_of_length_le (by omega)]at h))
  have qy:¬ (k:Int)<(xs.length:Int):=by omega
  go_wp2_with fail
  go_ret
  exact⟨aA (by rw[<- HR.out,HF.out]),rfl⟩
theorem uES(l:Bs)(w:World)(hs:l.length<=100000) :
  Calls Tryz.prog 153 #[vT l] w fun e w'=>e=.returned (.bool (bB l))/\w=w':=by
 have HM:=zh (uEP l w hs);rw[name_eq];generalize rE l=m at *;by_cases h0:l.length<1
 ·have h0i:(l.length:Int)<1:=by omega
  clear HM
  go_in
  go_wp2_with fail
  go_ret
  exact⟨aA (by rw[decide_eq_false (by omega:¬ 0<l.length)];rfl),rfl⟩
 have h1i:¬ (l.length:Int)<1:=by omega
 by_cases t9:32<l.length
 ·have od:(32:Int)<(l.length:Int):=by omega
  clear HM
  go_in
  go_wp2_with fail
  go_ret
  exact⟨aA (by rw[decide_eq_false (by omega:¬ l.length<=32)];simp),rfl⟩
 have od:¬ (32:Int)<(l.length:Int):=by omega
 have fz:0<l.length:=by omega
 rw[wB fz,decide_eq_true fz,decide_eq_true (by omega:l.length<=32)];obtain⟨t1,lz⟩:∃ b,(l==([84,82,85,69]:Bs))=b:=⟨_,rfl⟩
 obtain⟨t2,qh⟩:∃ b,(l==([70,65,76,83,69]:Bs))=b:=⟨_,rfl⟩
 have h95:=jJ l[0] 95 95 rfl;obtain⟨c1,dj⟩:∃ b,aW l[0]=b:=⟨_,rfl⟩
 obtain⟨c2,jb⟩:∃ b,(l[0]==95)=b:=⟨_,rfl⟩
 rw[jb]at h95;obtain⟨b0,ei⟩:∃ b,(!(c1||c2)||t1||t2||m)=b:=⟨_,rfl⟩
 have H0:=zh ei;obtain⟨r,hr⟩:∃ r,(true&&true&&(aW l[0]||l[0]==95)&&l.all cP&&!(l==lE||l==gS)&&!m)=r:=⟨_,rfl⟩
 have HR:Hid ((l.all cP&&!b0)=r):=zh (by
  rw[<- hr,<- ei,dj,jb,show (l==lE)=t1 from lz,show (l==gS)=t2 from qh];generalize l.all cP=x;cases c1 <;> cases c2 <;> cases t1 <;> cases t2 <;> cases m <;> cases x <;> rfl)
 rw[hr];have H1:Hid (b0=false->(l.take 1).all cP=true):=zh (fun hb=>by
  rw[show l.take 1=[l[0]] by cases l with|nil=>cases fz|cons c t=>rfl];rw[<- ei]at hb;simp only[Bool.or_eq_false_iff,Bool.not_eq_false',Bool.or_eq_true]at hb;rcases hb.1.1.1 with h|h
  ·rw[h]at dj;simp[cP,dj]
  rw[h]at jb;simp only[cP,List.all_cons,List.all_nil];rw[jb];simp)
 clear h0 t9 hr hs ei jb
 go_in
 go_upto_region 1 with fail
 go_cut [34] (fun v wx=>v=.bool b0/\Hid (wx=w))
 case first=>
  clear HR H1;cases c1 <;> cases c2 <;> cases t1 <;> cases t2
  all_goals go_wp2_with (go_at_call 202;refine(bZ _ _).mono ?_;rintro e w' ⟨rfl,rfl⟩)
  all_goals first |(go_meet;exact⟨by rw[<- H0.out];rfl,zh rfl⟩) |(refine HM.out.mono ?_;rintro e w' ⟨rfl,rfl⟩;go_wp2_with fail;go_meet;exact⟨by rw[<- H0.out];simp,zh rfl⟩)
 case rest=>
 obtain⟨rfl,hcut⟩:=hcut;have mw:=hcut.out;subst mw;clear hcut h95 HM lz qh H0 dj;cases b0 with
 |true=>
  go_wp2_with fail
  go_ret
  exact⟨aA (by rw[<- HR.out];simp),rfl⟩
 |false=>
 have H2:=zh (H1.out rfl);clear H1
 go_wp2_with fail
 go_loop [3] (fun i=>∃ k:Nat,1<=k/\k<=l.length/\i=vI k/\Hid ((l.take k).all cP=true)) (fun i=>l.length-(intOf i).toNat)
 case atStart=>exact⟨1,zr,fz,rfl,H2⟩
 case round=>
  obtain⟨k,fi,hk,rfl,HK⟩:=hrel;by_cases hlt:k<l.length
  ·have jz:=jJ l[k] 46 46 rfl;have pq:=jJ l[k] 95 95 rfl;have ii:(k:Int)<(l.length:Int):=by omega
   cases d:cP l[k] with
   |false=>
    have HA:=zh (sT hlt d);unfold cP at d;simp only[Bool.or_eq_false_iff]at d;obtain⟨⟨⟨d1,d2⟩,d4⟩,d3⟩:=d;rw[d3]at jz;rw[d4]at pq;clear d3 d4
    go_wp2_with (first |(go_at_call 202;refine(bZ _ _).mono ?_;rintro e w' ⟨rfl,rfl⟩) |(go_at_call 203;refine(cJ _ _).mono ?_;rintro e w' ⟨rfl,rfl⟩))
    go_ret
    exact⟨aA (by rw[<- HR.out,HA.out];rfl),rfl⟩
   |true=>
   have HS:=zh (dR HK.out hlt d);unfold cP at d;cases d1:aW l[k] with
   |true=>
    clear d
    go_wp2_with (first |(go_at_call 202;refine(bZ _ _).mono ?_;rintro e w' ⟨rfl,rfl⟩) |(go_at_call 203;refine(cJ _ _).mono ?_;rintro e w' ⟨rfl,rfl⟩))
    go_round
    case rel=>exact⟨k+1,by omega,by omega,by go_num,HS⟩
    case measure=>simp[intOf];omega
   |false=>
    cases d2:aB l[k] with
    |true=>
     clear d
     go_wp2_with (first |(go_at_call 202;refine(bZ _ _).mono ?_;rintro e w' ⟨rfl,rfl⟩) |(go_at_call 203;refine(cJ _ _).mono ?_;rintro e w' ⟨rfl,rfl⟩))
     go_round
     case rel=>exact⟨k+1,by omega,by omega,by go_num,HS⟩
     case measure=>simp[intOf];omega
    |false=>
     rw[d1,d2]at d;cases d3:(l[k]==46) with
     |true=>
      rw[d3]at jz;clear d
      go_wp2_with (first |(go_at_call 202;refine(bZ _ _).mono ?_;rintro e w' ⟨rfl,rfl⟩) |(go_at_call 203;refine(cJ _ _).mono ?_;rintro e w' ⟨rfl,rfl⟩))
      go_round
      case rel=>exact⟨k+1,by omega,by omega,by go_num,HS⟩
      case measure=>simp[intOf];omega
     |false=>
      have d4:(l[k]==95)=true:=by rw[d3]at d;simpa using d
      rw[d3]at jz;rw[d4]at pq;clear d
      go_wp2_with (first |(go_at_call 202;refine(bZ _ _).mono ?_;rintro e w' ⟨rfl,rfl⟩) |(go_at_call 203;refine(cJ _ _).mono ?_;rintro e w' ⟨rfl,rfl⟩))
      go_round
      case rel=>exact⟨k+1,by omega,by omega,by go_num,HS⟩
      case measure=>simp[intOf];omega
  have HE:Hid (l.all cP=true):=zh (by have h:=HK.out;rwa [List.take_of_length_le (by omega)]at h);have qy:¬ (k:Int)<(l.length:Int):=by omega
  go_wp2_with fail
  go_ret
  exact⟨aA (by rw[<- HR.out,HE.out];rfl),rfl⟩
theorem uEW(m e:Int)(w:World)(h1:-9223372036854775808<=m)(h2:m<=9223372036854775807) :
  Calls Tryz.prog 201 #[wM m e] w fun x w'=>x=.returned (.bool (bF m e))/\Below w.heap.size w w':=by
 have HC:=zh (fun W=>uAW m e W h1 h2);have HB:Hid (Below w.heap.size w (w.alloc (.cells #[vI m,vI e] 23))):=zh ((Below.refl _ w).alloc zr _)
 go_in
 go_wp2_with fail
 refine(HC.out _).mono ?_;rintro x w2 ⟨rfl,hb⟩;have bm:=zT HB hb;clear hb HB
 go_wp2_with fail
 go_ret
 exact⟨rfl,bm.out⟩
theorem cK:∀ (n:Nat),n<=1000000->∀ (t t':Tree) (cs lm:Array Value) (w:World),t.size<=n->TreeIn w t cs->TreeIn w t' lm->Calls Tryz.prog 23 #[.agg cs,.agg lm] w fun e w'=>e=.returned (.bool (t.same t'))/\Below w.heap.size w w':=by
 intro n
 induction n with
 |zero=>intro _ t _ _ _ _ hs;cases t;simp[Tree.size]at hs
 |succ n ih=>
 intro ba;rintro⟨h,l⟩ ⟨h',l'⟩ cs lm w hs ⟨A,cp,rfl,hk⟩ ⟨A',j7,rfl,iy⟩;have IH:=zh (fun(i:Nat) (hi:i<l.length) t' cs lm W h1 h2=>ih (by omega) (l[i]'hi) t' cs lm W (by have h9:(l[i]'hi).size<(Tree.mk h l).size:=eK (t:=.mk h l) (i:=i) hi;omega) h1 h2);have er:Hid (l.length<=1000000):=zh (by have h1:=bU l;have h2:aL l+1<=n+1:=hs;omega);clear ih;dsimp only[Tree.h,Tree.l]at hk iy ⊢;have HK:=zh hk;have HK':=zh iy;clear hk iy hs;have hS:Tree.same (.mk h l) (.mk h' l')=(NodeH.same h h'&&eP l l'):=rfl;rw[hS];clear hS;generalize gm:(w.alloc (.cells (aH h A l.length cp) 34))=W1;have gy:Hid (Lies W1 w.heap.size 34 (aH h A l.length cp)):=zh (by rw[<- gm];exact Lies.new _ _ _);have xj:Hid (Below w.heap.size w W1):=zh (by rw[<- gm];exact zp _);have qc:W1.heap.size=w.heap.size+1:=by rw[<- gm];simp
 generalize hL2:(W1.alloc (.cells (aH h' A' l'.length j7) 34))=W2;have ct:Hid (Lies W2 (w.heap.size+1) 34 (aH h' A' l'.length j7)):=zh (by rw[<- hL2,<- qc];exact Lies.new _ _ _);have l7:Hid (Below W1.heap.size W1 W2):=zh (by rw[<- hL2];exact zp _);have ie:=zh (gy.out.next l7.out);have bm:Hid (Below w.heap.size w W2):=zh (zU xj.out l7.out);have HEA:=zh neq_area;have HEV:=zh neq_val;clear gy xj l7;have al:=zh gm;have i5:=zh hL2;have ej:=zh qc;clear gm hL2 qc
 go_in
 go_upto_region 1 with fail
 rw[al.out,i5.out];clear al i5;generalize hQ:w.heap.size=q at *;obtain⟨bb,ou⟩:∃ bb,(NodeH.same h h'&&decide (l.length=l'.length))=bb:=⟨_,rfl⟩
 have ro:=zh ou;clear ou
 go_cut [47] (fun v wx=>v=.bool (!bb)/\Hid (wx=W2))
 case first=>
  have hea:=HEA.out h.a h.b h'.a h'.b;have hev:=HEV.out h.v h'.v;dsimp only[arV]at hea;obtain⟨d0,o8⟩:∃ x,(h.kind != h'.kind)=x:=⟨_,rfl⟩
  obtain⟨d1,hd1⟩:∃ x,(!aX h.v h'.v)=x:=⟨_,rfl⟩
  obtain⟨d2,mo⟩:∃ x,decide (h.name≠h'.name)=x:=⟨_,rfl⟩
  obtain⟨d3,wl⟩:∃ x,(!(decide (h.a=h'.a)&&decide (h.b=h'.b)))=x:=⟨_,rfl⟩
  obtain⟨d4,hd4⟩:∃ x,(h.rows != h'.rows)=x:=⟨_,rfl⟩
  obtain⟨d5,hd5⟩:∃ x,((l.length:Int) != (l'.length:Int))=x:=⟨_,rfl⟩
  rw[hd1]at hev;rw[wl]at hea;have hd2':(h.name==h'.name)=!d2:=by rw[<- mo,ze];simp
  obtain⟨c1,dj⟩:∃ x,x=(d0||d1):=⟨_,rfl⟩
  obtain⟨c2,jb⟩:∃ x,x=(c1||d2):=⟨_,rfl⟩
  obtain⟨c3,sr⟩:∃ x,x=(c2||d3):=⟨_,rfl⟩
  obtain⟨c4,hc4⟩:∃ x,x=(c3||d4):=⟨_,rfl⟩
  obtain⟨c5,hc5⟩:∃ x,x=(c4||d5):=⟨_,rfl⟩
  have HD:Hid (bb=!c5):=zh (by
   rw[hc5,hc4,sr,jb,dj,<- o8,<- hd1,<- mo,<- wl,<- hd4,<- hd5,<- ro.out];unfold NodeH.same;rw[show (h.kind != h'.kind)=!decide (h.kind=h'.kind) from by rw[ze];simp,show decide (h.name≠h'.name)=!(h.name==h'.name) from by rw[ze];simp,show (h.rows != h'.rows)=!decide (h.rows=h'.rows) from by rw[ze];simp,show ((l.length:Int) != (l'.length:Int))=!decide (l.length=l'.length) from by rw[ze];simp;omega];cases decide (h.kind=h'.kind) <;> cases aX h.v h'.v <;> cases (h.name==h'.name) <;> cases decide (h.a=h'.a) <;> cases decide (h.b=h'.b) <;> cases decide (h.rows=h'.rows) <;> cases decide (l.length=l'.length) <;> rfl)
  obtain⟨TT,ae⟩:∃ TT:List (Nat×Nat×Value),TT=((0,6,vP q 0)::(1,7,vI h.kind)::(2,8,vP (q+1) 0)::(3,9,vI h'.kind)::(4,10,.bool d0)::(5,11,.bool d0)::(6,12,(bif d0 then undef else vP q 1))::(7,13,(bif d0 then undef else .agg ([vI h.v.kind,vI h.v.mant,vI h.v.exp,vT h.v.text,.bool h.v.truth,vI h.v.fault]:List Value).toArray))::(8,14,(bif d0 then undef else vP (q+1) 1))::(9,15,(bif d0 then undef else .agg ([vI h'.v.kind,vI h'.v.mant,vI h'.v.exp,vT h'.v.text,.bool h'.v.truth,vI h'.v.fault]:List Value).toArray))::(10,16,(bif d0 then undef else .bool d1))::(11,17,.bool c1)::(12,18,.bool c1)::(13,19,(bif c1 then undef else vP q 7))::(14,20,(bif c1 then undef else vT h.name))::(15,21,(bif c1 then undef else vP (q+1) 7))::(16,22,(bif c1 then undef else vT h'.name))::(17,23,(bif c1 then undef else .bool d2))::(18,24,.bool c2)::(19,25,.bool c2)::(20,26,(bif c2 then undef else vP q 8))::(21,27,(bif c2 then undef else .agg ([vI h.a.row.a,vI h.a.row.n,vI h.a.col.a,vI h.a.col.n,.bool h.a.fr,.bool h.a.fc,vI h.b.row.a,vI h.b.row.n,vI h.b.col.a,vI h.b.col.n,.bool h.b.fr,.bool h.b.fc]:List Value).toArray))::(22,28,(bif c2 then undef else vP (q+1) 8))::(23,29,(bif c2 then undef else .agg ([vI h'.a.row.a,vI h'.a.row.n,vI h'.a.col.a,vI h'.a.col.n,.bool h'.a.fr,.bool h'.a.fc,vI h'.b.row.a,vI h'.b.row.n,vI h'.b.col.a,vI h'.b.col.n,.bool h'.b.fr,.bool h'.b.fc]:List Value).toArray))::(24,30,(bif c2 then undef else .bool d3))::(25,31,.bool c3)::(26,32,.bool c3)::(27,33,(bif c3 then undef else vP q 20))::(28,34,(bif c3 then undef else vI h.rows))::(29,35,(bif c3 then undef else vP (q+1) 20))::(30,36,(bif c3 then undef else vI h'.rows))::(31,37,(bif c3 then undef else .bool d4))::(32,38,.bool c4)::(33,39,.bool c4)::(34,40,(bif c4 then undef else vP q 21))::(35,41,(bif c4 then undef else .slice A l.length cp))::(36,42,(bif c4 then undef else vI (l.length:Nat)))::(37,43,(bif c4 then undef else vP (q+1) 21))::(38,44,(bif c4 then undef else .slice A' l'.length j7))::(39,45,(bif c4 then undef else vI (l'.length:Nat)))::(40,46,(bif c4 then undef else .bool d5))::(41,47,.bool c5)::[]):=⟨_,rfl⟩
  have aq:=zh ae;clear ae;refine aS (fun a0=>67<=a0.tmps.size/\a0.eval (.tmp 2)=vP q 0/\a0.eval (.tmp 3)=vP (q+1) 0) (6::7::8::9::10::11::12::13::14::15::16::17::18::19::20::21::22::23::24::25::26::27::28::29::30::31::32::33::34::35::36::37::38::39::40::41::42::43::44::45::46::47::[]) TT [] (fun w'=>w'=W2) (by kernel_rfl) ⟨by simp,rfl,rfl⟩ rfl ?_ ?_
  ·rintro a0 ⟨hs,qi,jt⟩ zl a1 w1 zj o ap hI ag ho zd;obtain rfl:w1=W2:=hI.st;have ae:=aq.out
   subst ae;have e2x:=hI.off.q qi;have e3x:=hI.off.q jt;have hj:=Up.of_false ag;have hj12:zj<42:=by rw[ap]at hj;exact hj
   have G:RG _ _ _ _ _ _ _ _ _ _ _:=⟨by rfl,hI,hs,ag,ho,zd⟩
   (iterate 41 rcases zq hj12 with hj12|rfl);obtain rfl:=cz hj12;all_goals obtain rfl:=oi ho
   ·exact G.nl 0 rfl (by simp[execOp,go_sem,e2x])
   ·have xq:w1.cell? ⟨q,0,none⟩=some (vI h.kind):=ie.out.cell 0;exact G.nl 1 rfl (by simp[execOp,go_sem,G.t 0,xq])
   ·exact G.nl 2 rfl (by simp[execOp,go_sem,e3x])
   ·have xq:w1.cell? ⟨(q+1),0,none⟩=some (vI h'.kind):=ct.out.cell 0;exact G.nl 3 rfl (by simp[execOp,go_sem,G.t 2,xq])
   ·exact G.nl 4 rfl (by simp[execOp,go_sem,G.t 1,G.t 3,o8])
   ·exact G.nl 5 rfl (by simp[execOp,go_sem,G.t 4])
   ·refine G.gn 5 6 ?_;rintro rfl;simp[execOp,go_sem,e2x]
   ·refine G.gn 5 7 ?_;rintro rfl;have p6:=G.d 6;exact aM 25 (.tmp 12) rfl q 1 p6 _ _ (ie.out.sub 1 [vI h.v.kind,vI h.v.mant,vI h.v.exp,vT h.v.text,.bool h.v.truth,vI h.v.fault] rfl) Tryz.underlying25 rfl gA
   ·refine G.gn 5 8 ?_;rintro rfl;simp[execOp,go_sem,e3x]
   ·refine G.gn 5 9 ?_;rintro rfl;have p8:=G.d 8;exact aM 25 (.tmp 14) rfl (q+1) 1 p8 _ _ (ct.out.sub 1 [vI h'.v.kind,vI h'.v.mant,vI h'.v.exp,vT h'.v.text,.bool h'.v.truth,vI h'.v.fault] rfl) Tryz.underlying25 rfl gA
   ·refine G.gn 5 10 ?_;rintro rfl;simp[execOp,go_sem,G.t 7,G.t 9,hev]
   ·cases d0
    all_goals exact G.nl 11 rfl (by simp[execOp,go_sem,G.t 5,G.t 10,dj])
   ·exact G.nl 12 rfl (by simp[execOp,go_sem,G.t 11])
   ·refine G.gn 12 13 ?_;rintro rfl;simp[execOp,go_sem,e2x]
   ·refine G.gn 12 14 ?_;rintro rfl;have xq:w1.cell? ⟨q,7,none⟩=some (vT h.name):=ie.out.cell 7;simp[execOp,go_sem,G.t 13,xq]
   ·refine G.gn 12 15 ?_;rintro rfl;simp[execOp,go_sem,e3x]
   ·refine G.gn 12 16 ?_;rintro rfl;have xq:w1.cell? ⟨(q+1),7,none⟩=some (vT h'.name):=ct.out.cell 7;simp[execOp,go_sem,G.t 15,xq]
   ·refine G.gn 12 17 ?_;rintro rfl;simp[execOp,go_sem,G.t 14,G.t 16,hd2']
   ·cases c1
    all_goals exact G.nl 18 rfl (by simp[execOp,go_sem,G.t 12,G.t 17,jb])
   ·exact G.nl 19 rfl (by simp[execOp,go_sem,G.t 18])
   ·refine G.gn 19 20 ?_;rintro rfl;simp[execOp,go_sem,e2x]
   ·refine G.gn 19 21 ?_;rintro rfl;have p20:=G.d 20;exact aM 31 (.tmp 26) rfl q 8 p20 _ _ (ie.out.sub 8 [vI h.a.row.a,vI h.a.row.n,vI h.a.col.a,vI h.a.col.n,.bool h.a.fr,.bool h.a.fc,vI h.b.row.a,vI h.b.row.n,vI h.b.col.a,vI h.b.col.n,.bool h.b.fr,.bool h.b.fc] rfl) Tryz.underlying31 rfl fZ
   ·refine G.gn 19 22 ?_;rintro rfl;simp[execOp,go_sem,e3x]
   ·refine G.gn 19 23 ?_;rintro rfl;have p22:=G.d 22;exact aM 31 (.tmp 28) rfl (q+1) 8 p22 _ _ (ct.out.sub 8 [vI h'.a.row.a,vI h'.a.row.n,vI h'.a.col.a,vI h'.a.col.n,.bool h'.a.fr,.bool h'.a.fc,vI h'.b.row.a,vI h'.b.row.n,vI h'.b.col.a,vI h'.b.col.n,.bool h'.b.fr,.bool h'.b.fc] rfl) Tryz.underlying31 rfl fZ
   ·refine G.gn 19 24 ?_;rintro rfl;simp[execOp,go_sem,G.t 21,G.t 23,hea]
   ·cases c2
    all_goals exact G.nl 25 rfl (by simp[execOp,go_sem,G.t 19,G.t 24,sr])
   ·exact G.nl 26 rfl (by simp[execOp,go_sem,G.t 25])
   ·refine G.gn 26 27 ?_;rintro rfl;simp[execOp,go_sem,e2x]
   ·refine G.gn 26 28 ?_;rintro rfl;have xq:w1.cell? ⟨q,20,none⟩=some (vI h.rows):=ie.out.cell 20;simp[execOp,go_sem,G.t 27,xq]
   ·refine G.gn 26 29 ?_;rintro rfl;simp[execOp,go_sem,e3x]
   ·refine G.gn 26 30 ?_;rintro rfl;have xq:w1.cell? ⟨(q+1),20,none⟩=some (vI h'.rows):=ct.out.cell 20;simp[execOp,go_sem,G.t 29,xq]
   ·refine G.gn 26 31 ?_;rintro rfl;simp[execOp,go_sem,G.t 28,G.t 30,hd4]
   ·cases c3
    all_goals exact G.nl 32 rfl (by simp[execOp,go_sem,G.t 26,G.t 31,hc4])
   ·exact G.nl 33 rfl (by simp[execOp,go_sem,G.t 32])
   ·refine G.gn 33 34 ?_;rintro rfl;simp[execOp,go_sem,e2x]
   ·refine G.gn 33 35 ?_;rintro rfl;have xq:w1.cell? ⟨q,21,none⟩=some (.slice A l.length cp):=ie.out.cell 21;simp[execOp,go_sem,G.t 34,xq]
   ·refine G.gn 33 36 ?_;rintro rfl;simp[go_sem,G.t 35]
   ·refine G.gn 33 37 ?_;rintro rfl;simp[execOp,go_sem,e3x]
   ·refine G.gn 33 38 ?_;rintro rfl;have xq:w1.cell? ⟨(q+1),21,none⟩=some (.slice A' l'.length j7):=ct.out.cell 21;simp[execOp,go_sem,G.t 37,xq]
   ·refine G.gn 33 39 ?_;rintro rfl;simp[go_sem,G.t 38]
   ·refine G.gn 33 40 ?_;rintro rfl;simp[execOp,go_sem,G.t 36,G.t 39,hd5]
   cases c4
   all_goals exact G.nl 41 rfl (by simp[execOp,go_sem,G.t 33,G.t 40,hc5])
  intro zl a1 w1 hI az;obtain rfl:w1=W2:=hI.st;have ae:=aq.out;subst ae;have z47:=hI.ptk 41 rfl (az 41 (by decide));obtain⟨ff,rfl,hf⟩:=hI.off.forms;rw[<- hf 47]at z47;clear hI;simp only[List.foldl,Act.put,yz,List.set];rw[z47];simp only[Exit.then]
  go_step
  go_meet
  exact⟨by rw[HD.out,Bool.not_not],zh rfl⟩
 case rest=>
  obtain⟨rfl,hcut⟩:=hcut;have mw:=hcut.out;subst mw;have bj:Hid (Below w.heap.size w wc):=zh (by rw[hQ];exact bm.out);cases bb
  ·have HR:Hid ((NodeH.same h h'&&eP l l')=false):=zh (by have h1:=ro.out;rw[Bool.and_eq_false_iff]at h1;exact h1.elim (fun h1=>by rw[h1];rfl) (fun h1=>by rw[tU (of_decide_eq_false h1),Bool.and_false]))
   go_wp2_with fail
   go_ret
   exact⟨by first|exact aA HR.out.symm|exact aA rfl,bm.out⟩
  have HH:=ro.out;rw[yh]at HH;have HLL:=zh (of_decide_eq_true HH.2);have HR:Hid ((NodeH.same h h'&&eP l l')=eP l l'):=zh (by rw[HH.1,Bool.true_and]);clear HH ro HEA HEV
  go_wp2_with fail
  go_loopw [5] (fun v wr=>∃ i:Nat,i<=l.length/\v=vI (i:Int)/\Hid (Below wc.heap.size wc wr/\∀ j (hj:j<i) (h1:j<l.length) (h2:j<l'.length),l[j].same l'[j]=true)) (fun v _=>l.length-(intOf v).toNat)
  case atStart=>exact⟨0,zm _,rfl,zh ⟨Below.refl _ _,fun j hj=>absurd hj (by omega)⟩⟩
  case round=>
   obtain⟨i,hi,rfl,hrel⟩:=hrel;have jr:=zh hrel.out.1;have HPr:=zh hrel.out.2;clear hrel;have hx:=(ie.out.next jr.out).cell 21;have hy:=(ct.out.next jr.out).cell 21;simp only[za,zb,zf]at hx hy;by_cases hlt:i<l.length
   ·have my:i<l'.length:=by have:=HLL.out;omega
    obtain⟨g,og,ci,rfl,eh,dv⟩:=fR HK.out i hlt;obtain⟨g',og',vn,rfl,hc22',xv⟩:=fR HK'.out i my;have ue:=zh hlt;have qu:Hid (∀ W',Below wc.heap.size wc W'->W'.rangeAt g (og+i*22) ci/\W'.rangeAt g' (og'+i*22) vn/\TreeIn W' l[i] ci.toArray/\TreeIn W' l'[i] vn.toArray):=zh (fun W' hb=>by have i7:Kp [] w W':=(Kp.of_below bj.out).trans (Kp.of_below hb);exact⟨(dv W' i7).1,(xv W' i7).1,(dv W' i7).2,(xv W' i7).2⟩);clear dv xv;have zi:(Tryz.prog.info? 34).map (·.size)=some ci.length:=by rw[eh];exact cM
    have hinf':(Tryz.prog.info? 34).map (·.size)=some vn.length:=by rw[hc22'];exact cM
    have hib:(i:Int)<=1000000:=by have:=er.out;omega
    have qr:(i:Int)<(l.length:Int):=by omega
    have hli':(i:Int)<(l'.length:Int):=by omega
    have CI:=zh (fun W' (hb:Below wc.heap.size wc W')=>IH.out i hlt (l'[i]'my) ci.toArray vn.toArray W' (qu.out W' hb).2.2.1 (qu.out W' hb).2.2.2);obtain⟨b,hb⟩:∃ b,(l[i]'hlt).same (l'[i]'my)=b:=⟨_,rfl⟩
    rw[hb]at CI;have HBv:=zh hb;clear hb
    go_upto_region 6 with fail
    clear hx hy
    go_cut [66] (fun v wx=>v=.bool (!b)/\Hid (Below wc.heap.size wc wx))
    case first=>
     obtain⟨P0,vm⟩:∃ R:World->Prop,∀ w',R w'↔(Below wc.heap.size wc w'):=⟨_,fun _=>Iff.rfl⟩
     have ly:=zh vm;clear vm;obtain⟨P1,hP1⟩:∃ R:World->Prop,∀ w',R w'↔(Below wc.heap.size wc w'):=⟨_,fun _=>Iff.rfl⟩
     have vc:=zh hP1;clear hP1;obtain⟨TT,ae⟩:∃ TT:List (Nat×Nat×Value),TT=[(0,55,vP q 21),(1,56,.slice (some ⟨g,og,none⟩) l.length cp),(2,57,vI (i:Int)),(3,58,vP g (og+i*22)),(4,59,.agg ci.toArray),(5,60,vP (q+1) 21),(6,61,.slice (some ⟨g',og',none⟩) l'.length j7),(7,62,vI (i:Int)),(8,63,vP g' (og'+i*22)),(9,64,.agg vn.toArray),(10,65,.bool b),(11,66,.bool (!b))]:=⟨_,rfl⟩
     have aq:=zh ae;clear ae;refine bM (fun a0=>67<=a0.tmps.size/\a0.eval (.tmp 2)=vP q 0/\a0.eval (.tmp 3)=vP (q+1) 0/\a0.eval (.tmp 5)=vI (i:Int)) [55,56,57,58,59,60,61,62,63,64,65,66] TT [(10,P1)] P0 (by kernel_rfl) (by kernel_rfl) ⟨by simp,rfl,rfl,rfl⟩ ((ly.out _).2 (jr.out.trans (zB.drew.mono jr.out.size))) ?_ ?_
     ·rintro a0 ⟨hs,qi,jt,oe⟩ zl a1 w1 zj o ap hI ag ho zd;have ae:=aq.out;subst ae;have hk:okU (([(0,55,vP q 21),(1,56,.slice (some ⟨g,og,none⟩) l.length cp),(2,57,vI (i:Int)),(3,58,vP g (og+i*22)),(4,59,.agg ci.toArray),(5,60,vP (q+1) 21),(6,61,.slice (some ⟨g',og',none⟩) l'.length j7),(7,62,vI (i:Int)),(8,63,vP g' (og'+i*22)),(9,64,.agg vn.toArray),(10,65,.bool b),(11,66,.bool (!b))]:List (Nat×Nat×Value)).map fun e=>(e.1,e.2.1)) [55,56,57,58,59,60,61,62,63,64,65,66] 67=true:=by rfl
      have hj:=Up.of_false ag;have hj12:zj<12:=by rw[ap]at hj;exact hj
      have e2x:a1.eval (.tmp 2)=vP q 0:=(hI.off.eval (by decide)).trans qi;have e3x:a1.eval (.tmp 3)=vP (q+1) 0:=(hI.off.eval (by decide)).trans jt;have e5x:a1.eval (.tmp 5)=vI (i:Int):=(hI.off.eval (by decide)).trans oe;(iterate 11 rcases zq hj12 with hj12|rfl);obtain rfl:=cz hj12;all_goals obtain rfl:=oi ho
      ·exact eT hk hI hs (.head _) (by simp) ag ho zd (bK rfl) rfl (by simp[execOp,go_sem,bQ e2x])
      ·have d0:=ud zd 0;have p0:=pk hI.pt 0 rfl d0;have hq:w1.cell? ⟨q,21,none⟩=some (.slice (some ⟨g,og,none⟩) l.length cp):=by
        obtain⟨jj,hjj,hP⟩:=hI.low 0 (by simp) (fun m hm=>by obtain rfl:=Option.some.inj hm;kernel_rfl) ag;rcases(by omega:jj=0) with rfl;have hP:P0 w1:=hP;have hW:=(ly.out _).1 hP;exact(ie.out.next hW).cell 21
       exact eT hk hI hs (.tail _ (.head _)) (by simp) ag ho zd (bK rfl) rfl (by simp[execOp,go_sem,bQ p0,hq])
      ·exact eT hk hI hs (mm 2 rfl) (by simp) ag ho zd (bK rfl) rfl (by simp[execOp,go_sem,bQ e5x])
      ·have d1:=ud zd 1;have p1:=pk hI.pt 1 rfl d1;have d2:=ud zd 2;have p2:=pk hI.pt 2 rfl d2;exact eT hk hI hs (mm 3 rfl) (by simp) ag ho zd (bK rfl) rfl (by simp[execOp,go_sem,bQ p1,bQ p2,qr])
      ·have d3:=ud zd 3;have p3:=pk hI.pt 3 rfl d3;have hq:w1.rangeAt g (og+i*22) ci:=by
        obtain⟨jj,hjj,hP⟩:=hI.low 0 (by simp) (fun m hm=>by obtain rfl:=Option.some.inj hm;kernel_rfl) ag;rcases(by omega:jj=0) with rfl;have hP:P0 w1:=hP;exact(qu.out _ ((ly.out _).1 hP)).1
       exact eT hk hI hs (mm 4 rfl) (by simp) ag ho zd (bK rfl) rfl (aM 34 (.tmp 58) rfl _ _ p3 _ _ hq Tryz.underlying34 rfl zi)
      ·exact eT hk hI hs (mm 5 rfl) (by simp) ag ho zd (bK rfl) rfl (by simp[execOp,go_sem,bQ e3x])
      ·have d5:=ud zd 5;have p5:=pk hI.pt 5 rfl d5;have hq:w1.cell? ⟨(q+1),21,none⟩=some (.slice (some ⟨g',og',none⟩) l'.length j7):=by
        obtain⟨jj,hjj,hP⟩:=hI.low 0 (by simp) (fun m hm=>by obtain rfl:=Option.some.inj hm;kernel_rfl) ag;rcases(by omega:jj=0) with rfl;have hP:P0 w1:=hP;have hW:=(ly.out _).1 hP;exact(ct.out.next hW).cell 21
       exact eT hk hI hs (mm 6 rfl) (by simp) ag ho zd (bK rfl) rfl (by simp[execOp,go_sem,bQ p5,hq])
      ·exact eT hk hI hs (mm 7 rfl) (by simp) ag ho zd (bK rfl) rfl (by simp[execOp,go_sem,bQ e5x])
      ·have d6:=ud zd 6;have p6:=pk hI.pt 6 rfl d6;have d7:=ud zd 7;have p7:=pk hI.pt 7 rfl d7;exact eT hk hI hs (mm 8 rfl) (by simp) ag ho zd (bK rfl) rfl (by simp[execOp,go_sem,bQ p6,bQ p7,hli'])
      ·have d8:=ud zd 8;have p8:=pk hI.pt 8 rfl d8;have hq:w1.rangeAt g' (og'+i*22) vn:=by
        obtain⟨jj,hjj,hP⟩:=hI.low 0 (by simp) (fun m hm=>by obtain rfl:=Option.some.inj hm;kernel_rfl) ag;rcases(by omega:jj=0) with rfl;have hP:P0 w1:=hP;exact(qu.out _ ((ly.out _).1 hP)).2.1
       exact eT hk hI hs (mm 9 rfl) (by simp) ag ho zd (bK rfl) rfl (aM 34 (.tmp 63) rfl _ _ p8 _ _ hq Tryz.underlying34 rfl hinf')
      ·have d4:=ud zd 4;have p4:=pk hI.pt 4 rfl d4;have d9:=ud zd 9;have p9:=pk hI.pt 9 rfl d9;refine gu_mark hk hI hs (mm 10 rfl) (by kernel_rfl) [] [] P1 rfl ag ho zd (bK rfl) rfl (fun hP=>?_);have hP:P0 w1:=hP;refine rD (v:=.bool b) 23 #[.agg ci.toArray,.agg vn.toArray] (by simp[go_sem,bQ p4,bQ p9]) ?_;have hW:=(ly.out _).1 hP;refine(CI.out w1 hW).mono ?_;rintro e w2 ⟨rfl,hb⟩;exact⟨rfl,rfl,(vc.out _).2 (zU hW hb)⟩
      have d10:=ud zd 10;have p10:=pk hI.pt 10 rfl d10;exact eT hk hI hs (mm 11 rfl) (by simp) ag ho zd (bK rfl) rfl (by simp[execOp,go_sem,bQ p10])
     intro zl a1 w1 hI az;have ae:=aq.out;subst ae;have hF:P1 w1:=hI.st.last (fun m hm=>az m.1 (by simp only[ym,List.not_mem_nil,or_false]at hm;rcases hm with rfl;all_goals simp));have z66:a1.eval (.tmp 66)=.bool (!b):=hI.pt (11,66,.bool (!b)) (mm 11 rfl) (az 11 (by decide));obtain⟨ff,rfl,hf⟩:=hI.off.forms;rw[<- hf 66]at z66;clear hI;simp only[List.foldl,Act.put,yz,List.set];rw[z66];have hF2:=(vc.out _).1 hF;simp only[Exit.then]
     go_step
     go_meet
     exact⟨rfl,zh hF2⟩
    case rest=>
     obtain⟨rfl,hcut⟩:=hcut;have pu:=zh hcut.out;clear hcut CI qu;cases b
     ·have lr:Hid ((NodeH.same h h'&&eP l l')=false):=zh (by rw[HR.out];cases hs:eP l l' with|false=>rfl|true=>have:=(kK HLL.out).1 hs i hlt my;rw[HBv.out]at this;cases this)
      go_wp2_with fail
      go_ret
      exact⟨by first|exact aA lr.out.symm|exact aA rfl,zU bj.out pu.out⟩
     go_wp2_with fail
     go_roundw
     case rel=>exact⟨i+1,by have:=ue.out;omega,by go_num,zh ⟨pu.out,fun j hj h1 h2=>(Nat.lt_or_ge j i).elim (fun hji=>HPr.out j hji h1 h2) (fun hji=>by have e:j=i:=(by omega);subst e;exact HBv.out)⟩⟩
     case measure=>have:=ue.out;simp[intOf];omega
   have hie:i=l.length:=by omega
   have qy:¬ ((i:Int)<(l.length:Int)):=by omega
   have lr:Hid ((NodeH.same h h'&&eP l l')=true):=zh (by rw[HR.out];exact(kK HLL.out).2 (fun j h1 h2=>HPr.out j (by omega) h1 h2))
   go_wp2_with fail
   go_ret
   exact⟨by first|exact aA lr.out.symm|exact aA rfl,by first|exact zU bj.out jr.out |(rw[<- hQ];exact zU bj.out jr.out)⟩
theorem oK:∀ (l:List Tree) (x:Tree),cG (l++[x])=max (cG l) x.depth
 | [],x=>by simp[cG]
 |t::l,x=>by rw[yp,cG,cG,oK l x];omega
theorem vW(l:List Tree)(k:Nat)(h:k<l.length):cG (l.take (k+1))=max (cG (l.take k)) l[k].depth:=by rw[yw h,oK]
mutual
theorem lL:∀ t:Tree,t.depth<=t.size
 | .mk _ l=>by rw[Tree.depth,Tree.size];have:=jM l;omega
theorem jM:∀ l:List Tree,cG l<=aL l
 | []=>zr
 |t::l=>by rw[cG,aL];have:=lL t;have:=jM l;omega
end
theorem vX(l:List Tree)(k:Nat):cG (l.take k)<=aL l:=by
 have h:∀ (l:List Tree) k,aL (l.take k)<=aL l:=fun l=>by
  induction l with
  |nil=>intro k;simp
  |cons t l ih=>intro k;cases k with
   |zero=>simp[aL]
   |succ k=>rw[List.take_succ_cons,aL,aL];have:=ih k;omega
 exact yv (jM _) (h l k)
theorem uAU:∀ (n:Nat),n<=1000000->∀ (t:Tree) (cs:Array Value) (w:World),t.size<=n->TreeIn w t cs->Calls Tryz.prog 37 #[.agg cs] w fun e w'=>e=.returned (vI (t.depth:Nat))/\Below w.heap.size w w':=by
 intro n
 induction n with
 |zero=>intro _ t _ _ hs;cases t;simp[Tree.size]at hs
 |succ n ih=>
 intro ba;rintro⟨h,l⟩ cs w hs ⟨A,cp,rfl,hk⟩;have IH:=zh (fun(i:Nat) (hi:i<l.length) cs W h1=>ih (by omega) (l[i]'hi) cs W (by have h9:(l[i]'hi).size<(Tree.mk h l).size:=eK (t:=.mk h l) (i:=i) hi;omega) h1);have er:Hid (l.length<=1000000/\aL l<=1000000):=zh (by have h1:=bU l;have h2:aL l+1<=n+1:=hs;omega);clear ih;dsimp only[Tree.h,Tree.l]at hk ⊢;have HK:=zh hk;clear hk hs;have hS:(Tree.mk h l).depth=cG l+1:=by rw[Tree.depth]
 rw[hS];clear hS;generalize gm:(w.alloc (.cells (aH h A l.length cp) 34))=W1;have HL:Hid (Lies W1 w.heap.size 34 (aH h A l.length cp)):=zh (by rw[<- gm];exact Lies.new _ _ _);have HB:Hid (Below w.heap.size w W1):=zh (by rw[<- gm];exact zp _);have al:=zh gm;clear gm
 go_in
 go_upto_region 1 with fail
 rw[al.out];clear al;generalize hQ:w.heap.size=q at *
 go_wp2_with fail
 go_loopw [3,4] (fun d v wr=>∃ i:Nat,i<=l.length/\v=vI (i:Int)/\d=vI (cG (l.take i):Nat)/\Hid (Below W1.heap.size W1 wr)) (fun _ v _=>l.length-(intOf v).toNat)
 case atStart=>exact⟨0,zm _,rfl,rfl,zh zB⟩
 case round=>
  obtain⟨i,hi,rfl,rfl,jr⟩:=hrel;have hx:=(HL.out.next jr.out).cell 21;simp only[za,zb,zf]at hx;by_cases hlt:i<l.length
  ·obtain⟨g,og,ci,rfl,eh,dv⟩:=fR HK.out i hlt;have bj:Hid (Below w.heap.size w wr):=zh (by rw[hQ];exact HB.out.trans (jr.out.mono (by rw[<- hQ];exact HB.out.size)));obtain⟨hra,hti⟩:=dv wr (Kp.of_below bj.out);have HRA:=zh hra;have HC:=zh (IH.out i hlt ci.toArray wr hti);have HDS:=zh (vW l i hlt);have hdb:((l[i]'hlt).depth:Int)<=1000000:=by
    have h1:=lL (l[i]'hlt);have h2:(l[i]'hlt).size<(Tree.mk h l).size:=eK (t:=.mk h l) (i:=i) hlt;have h3:(Tree.mk h l).size=aL l+1:=by rw[Tree.size]
    have:=er.out.2;omega
   generalize (l[i]'hlt).depth=dk at *;have zi:(Tryz.prog.info? 34).map (·.size)=some ci.length:=by rw[eh];exact cM
   clear dv hra hti;have qr:(i:Int)<(l.length:Int):=by omega
   have hib:(i:Int)<=1000000:=by have:=er.out.1;omega
   go_wp2_with (first |(refine yr rfl 34 (.tmp 16) rfl g (og+i*22) rfl ci _ HRA.out Tryz.underlying34 rfl zi ?_))
   refine HC.out.mono ?_;rintro e w2 ⟨rfl,hb⟩;have bq:Hid (Below W1.heap.size W1 w2):=zT jr hb;clear hb HC
   go_wp2_with fail
   go_roundw
   case rel=>exact⟨i+1,by omega,by go_num,by rw[HDS.out];exact congrArg _ (by omega),bq⟩
   case measure=>simp[intOf];omega
  have qy:¬ ((i:Int)<(l.length:Int)):=by omega
  have HDE:Hid (cG (l.take i)=cG l):=zh (by rw[List.take_of_length_le (by omega)]);have hdb:(cG (l.take i):Int)<=1000000:=by have h1:=vX l i;have:=er.out.2;omega
  generalize cG (l.take i)=dd at *
  go_wp2_with fail
  go_ret
  refine⟨?_,?_⟩
  ·rw[<- HDE.out];rfl
  have h2:Below q w wr:=by have h3:=HB.out;exact h3.trans (jr.out.mono (by have:=h3.size;omega))
  first|exact h2 |(rw[hQ];exact h2)
theorem uEQ(a b:Cor)(w:World) :
  Calls Tryz.prog 150 #[corV a,corV b] w fun e w'=>e=.returned (.bool (bV a b))/\Below w.heap.size w w':=by
 have HOA:=zh (fun W=>mO a W);have HOB:=zh (fun W=>mO b W);obtain⟨W1,am⟩:=zD (w.alloc (.cells (kQ a) 29))
 obtain⟨W2,fe⟩:=zD (W1.alloc (.cells (kQ b) 29))
 have gy:=zL am;have qc:W1.heap.size=w.heap.size+1:=by rw[am];simp
 have xj:=zA am;have er:Hid (Lies W2 (w.heap.size+1) 29 (kQ b)):=zh (by rw[fe,<- qc];exact Lies.new _ _ _);have l7:=zA fe;have ji:=zh (gy.out.next l7.out);have bm:Hid (Below w.heap.size w W2):=zh (zU xj.out l7.out);have al:=zh am;have i5:=zh fe;clear am fe qc gy xj l7;obtain⟨rb,ua⟩:=zE (bV a b)
 obtain⟨r1,gw⟩:∃ b,decide (a.row≠id0)=b:=⟨_,rfl⟩
 obtain⟨k1,fi⟩:∃ b,decide (a.col≠id0)=b:=⟨_,rfl⟩
 obtain⟨r2,j4⟩:∃ x,decide (b.row≠id0)=x:=⟨_,rfl⟩
 obtain⟨k2,fv⟩:∃ x,decide (b.col≠id0)=x:=⟨_,rfl⟩
 have flip:∀ (x:IdR) (y:Bool),decide (x≠id0)=y->decide (x=id0)=!y:=fun x y e=>by rw[<- e];by_cases hx:x=id0 <;> simp[hx]
 have N1:∀ w:World,(binOp .neq 27 (idV a.row) (idV id0)).run Tryz.prog w=.ok (.bool r1) w:=fun w=>by rw[eV,gw]
 have N2:∀ w:World,(binOp .neq 27 (idV a.col) (idV id0)).run Tryz.prog w=.ok (.bool k1) w:=fun w=>by rw[eV,fi]
 have N3:∀ w:World,(binOp .neq 27 (idV b.row) (idV id0)).run Tryz.prog w=.ok (.bool r2) w:=fun w=>by rw[eV,j4]
 have N4:∀ w:World,(binOp .neq 27 (idV b.col) (idV id0)).run Tryz.prog w=.ok (.bool k2) w:=fun w=>by rw[eV,fv]
 have E1:∀ w:World,(binOp .eql 27 (idV a.row) (idV id0)).run Tryz.prog w=.ok (.bool (!r1)) w:=fun w=>by rw[cR,flip _ _ gw]
 have E2:∀ w:World,(binOp .eql 27 (idV a.col) (idV id0)).run Tryz.prog w=.ok (.bool (!k1)) w:=fun w=>by rw[cR,flip _ _ fi]
 have E3:∀ w:World,(binOp .eql 27 (idV b.row) (idV id0)).run Tryz.prog w=.ok (.bool (!r2)) w:=fun w=>by rw[cR,flip _ _ j4]
 have E4:∀ w:World,(binOp .eql 27 (idV b.col) (idV id0)).run Tryz.prog w=.ok (.bool (!k2)) w:=fun w=>by rw[cR,flip _ _ fv]
 rw[gw,fi]at HOA;rw[j4,fv]at HOB;have HR:Hid (rb=((r1==r2)&&(k1==k2)&&(r1||k1)&&(r1||(!a.fr&&!b.fr))&&(k1||(!a.fc&&!b.fc)))):=zh (by rw[<- ua];unfold bV;dsimp only;rw[gw,fi,j4,fv]);rw[ua];clear gw fi j4 fv ua flip;obtain⟨ar,ac,afr,afc⟩:=a;obtain⟨br,bc,bfr,bfc⟩:=b;dsimp only at HR N1 N2 N3 N4 E1 E2 E3 E4 HOA HOB ji er ⊢;cases r1 <;> cases k1 <;> cases r2 <;> cases k2
 all_goals first
  |skip
   have x0:=ji.out.cell 0;have x1:=ji.out.cell 1;have x2:=ji.out.cell 2;have x3:=ji.out.cell 3;have x4:=ji.out.cell 4;have x5:=ji.out.cell 5;have y0:=er.out.cell 0;have y1:=er.out.cell 1;have y2:=er.out.cell 2;have y3:=er.out.cell 3;have y4:=er.out.cell 4;have y5:=er.out.cell 5;simp only[za,zb,zf]at x0 x1 x2 x3 x4 x5;simp only[za,zb,zf]at y0 y1 y2 y3 y4 y5
   go_in
   go_upto_region 1 with fail
   rw[<- al.out,<- i5.out];generalize hq:w.heap.size=q at *
   go_wp2_with fail
   refine(HOA.out _).mono ?_;rintro e w3 ⟨rfl,hb⟩;have bj:=zh (bm.out.trans (hb.mono (by have:=bm.out.size;omega)));have da:=zh (ji.out.next hb);have db:=zh (er.out.next hb);clear x0 x1 x2 x3 x4 x5;clear y0 y1 y2 y3 y4 y5;clear hb;have x0:=da.out.cell 0;have x1:=da.out.cell 1;have x2:=da.out.cell 2;have x3:=da.out.cell 3;have x4:=da.out.cell 4;have x5:=da.out.cell 5;have y0:=db.out.cell 0;have y1:=db.out.cell 1;have y2:=db.out.cell 2;have y3:=db.out.cell 3;have y4:=db.out.cell 4;have y5:=db.out.cell 5;simp only[za,zb,zf]at x0 x1 x2 x3 x4 x5;simp only[za,zb,zf]at y0 y1 y2 y3 y4 y5
   go_wp2_with fail
   go_ret
   exact⟨aA (by rw[HR.out];rfl),by first|exact bj.out |(rw[hq];exact bj.out)⟩
  |skip
   cases afr <;> cases bfr
   all_goals (have x0:=ji.out.cell 0;have x1:=ji.out.cell 1;have x2:=ji.out.cell 2;have x3:=ji.out.cell 3;have x4:=ji.out.cell 4;have x5:=ji.out.cell 5;have y0:=er.out.cell 0;have y1:=er.out.cell 1;have y2:=er.out.cell 2;have y3:=er.out.cell 3;have y4:=er.out.cell 4;have y5:=er.out.cell 5;simp only[za,zb,zf]at x0 x1 x2 x3 x4 x5;simp only[za,zb,zf]at y0 y1 y2 y3 y4 y5;go_in;go_upto_region 1 with fail;rw[<- al.out,<- i5.out];generalize hq:w.heap.size=q at *;go_wp2_with fail;refine(HOA.out _).mono ?_;rintro e w3 ⟨rfl,hb⟩;have bj:=zh (bm.out.trans (hb.mono (by have:=bm.out.size;omega)));have da:=zh (ji.out.next hb);have db:=zh (er.out.next hb);clear x0 x1 x2 x3 x4 x5;clear y0 y1 y2 y3 y4 y5;clear hb;have x0:=da.out.cell 0;have x1:=da.out.cell 1;have x2:=da.out.cell 2;have x3:=da.out.cell 3;have x4:=da.out.cell 4;have x5:=da.out.cell 5;have y0:=db.out.cell 0;have y1:=db.out.cell 1;have y2:=db.out.cell 2;have y3:=db.out.cell 3;have y4:=db.out.cell 4;have y5:=db.out.cell 5;simp only[za,zb,zf]at x0 x1 x2 x3 x4 x5;simp only[za,zb,zf]at y0 y1 y2 y3 y4 y5;go_wp2_with fail;go_ret;exact⟨aA (by rw[HR.out];rfl),by first|exact bj.out |(rw[hq];exact bj.out)⟩)
  |skip
   cases afc <;> cases bfc
   all_goals (have x0:=ji.out.cell 0;have x1:=ji.out.cell 1;have x2:=ji.out.cell 2;have x3:=ji.out.cell 3;have x4:=ji.out.cell 4;have x5:=ji.out.cell 5;have y0:=er.out.cell 0;have y1:=er.out.cell 1;have y2:=er.out.cell 2;have y3:=er.out.cell 3;have y4:=er.out.cell 4;have y5:=er.out.cell 5;simp only[za,zb,zf]at x0 x1 x2 x3 x4 x5;simp only[za,zb,zf]at y0 y1 y2 y3 y4 y5;go_in;go_upto_region 1 with fail;rw[<- al.out,<- i5.out];generalize hq:w.heap.size=q at *;go_wp2_with fail;refine(HOA.out _).mono ?_;rintro e w3 ⟨rfl,hb⟩;have bj:=zh (bm.out.trans (hb.mono (by have:=bm.out.size;omega)));have da:=zh (ji.out.next hb);have db:=zh (er.out.next hb);clear x0 x1 x2 x3 x4 x5;clear y0 y1 y2 y3 y4 y5;clear hb;have x0:=da.out.cell 0;have x1:=da.out.cell 1;have x2:=da.out.cell 2;have x3:=da.out.cell 3;have x4:=da.out.cell 4;have x5:=da.out.cell 5;have y0:=db.out.cell 0;have y1:=db.out.cell 1;have y2:=db.out.cell 2;have y3:=db.out.cell 3;have y4:=db.out.cell 4;have y5:=db.out.cell 5;simp only[za,zb,zf]at x0 x1 x2 x3 x4 x5;simp only[za,zb,zf]at y0 y1 y2 y3 y4 y5;go_wp2_with fail;go_ret;exact⟨aA (by rw[HR.out];rfl),by first|exact bj.out |(rw[hq];exact bj.out)⟩)
  |skip
   have x0:=ji.out.cell 0;have x1:=ji.out.cell 1;have x2:=ji.out.cell 2;have x3:=ji.out.cell 3;have x4:=ji.out.cell 4;have x5:=ji.out.cell 5;have y0:=er.out.cell 0;have y1:=er.out.cell 1;have y2:=er.out.cell 2;have y3:=er.out.cell 3;have y4:=er.out.cell 4;have y5:=er.out.cell 5;simp only[za,zb,zf]at x0 x1 x2 x3 x4 x5;simp only[za,zb,zf]at y0 y1 y2 y3 y4 y5
   go_in
   go_upto_region 1 with fail
   rw[<- al.out,<- i5.out];generalize hq:w.heap.size=q at *
   go_wp2_with fail
   refine(HOA.out _).mono ?_;rintro e w3 ⟨rfl,hb⟩;have bj:=zh (bm.out.trans (hb.mono (by have:=bm.out.size;omega)));have da:=zh (ji.out.next hb);have db:=zh (er.out.next hb);clear x0 x1 x2 x3 x4 x5;clear y0 y1 y2 y3 y4 y5;clear hb;have x0:=da.out.cell 0;have x1:=da.out.cell 1;have x2:=da.out.cell 2;have x3:=da.out.cell 3;have x4:=da.out.cell 4;have x5:=da.out.cell 5;have y0:=db.out.cell 0;have y1:=db.out.cell 1;have y2:=db.out.cell 2;have y3:=db.out.cell 3;have y4:=db.out.cell 4;have y5:=db.out.cell 5;simp only[za,zb,zf]at x0 x1 x2 x3 x4 x5;simp only[za,zb,zf]at y0 y1 y2 y3 y4 y5
   go_wp2_with fail
   refine(HOB.out _).mono ?_;rintro e w4 ⟨rfl,hb⟩;have bq:=zh (bj.out.trans (hb.mono (by have:=bj.out.size;omega)));have qd:=zh (da.out.next hb);have qe:=zh (db.out.next hb);clear x0 x1 x2 x3 x4 x5;clear y0 y1 y2 y3 y4 y5;clear hb;have x0:=qd.out.cell 0;have x1:=qd.out.cell 1;have x2:=qd.out.cell 2;have x3:=qd.out.cell 3;have x4:=qd.out.cell 4;have x5:=qd.out.cell 5;have y0:=qe.out.cell 0;have y1:=qe.out.cell 1;have y2:=qe.out.cell 2;have y3:=qe.out.cell 3;have y4:=qe.out.cell 4;have y5:=qe.out.cell 5;simp only[za,zb,zf]at x0 x1 x2 x3 x4 x5;simp only[za,zb,zf]at y0 y1 y2 y3 y4 y5
   go_wp2_with fail
   go_ret
   exact⟨aA (by rw[HR.out];rfl),by first|exact bq.out |(rw[hq];exact bq.out)⟩
theorem rL(h:NodeH)(A:Option Addr)(n c:Nat)(w:World) :
  Calls Tryz.prog 38 #[cH h A n c] w fun e w'=>e=.returned (.bool (decide (h.kind=0)&&decide (h.v.kind=1)&&decide (h.v.mant<0)))/\Below w.heap.size w w':=by
 obtain⟨W1,am⟩:=zD (w.alloc (.cells (aH h A n c) 34))
 have al:=zh am;have HL:=zL am;have HB:=zA am;clear am;have x0:=HL.out.cell 0;have x1:=HL.out.cell 1;have x2:=HL.out.cell 2;simp only[za,zb,zf]at x0 x1 x2;by_cases h0:h.kind=0
 ·by_cases h1:h.v.kind=1
  ·by_cases h2:h.v.mant<0
   all_goals rw[decide_eq_true h0,decide_eq_true h1]
   all_goals rw[h0]at x0
   all_goals rw[h1]at x1
   all_goals go_in
   all_goals go_upto_region 1 with fail
   all_goals rw[<- al.out]
   all_goals generalize hq:w.heap.size=q at *
   all_goals go_wp2_with fail
   all_goals go_ret
   all_goals exact⟨aA (by simp[h2]),by first|exact HB.out |(rw[hq];exact HB.out)⟩
  rw[h0]at x0;have n1:((h.v.kind:Int)==1)=false:=by simpa using h1
  go_in
  go_upto_region 1 with fail
  rw[<- al.out];generalize hq:w.heap.size=q at *
  go_wp2_with fail
  go_ret
  exact⟨aA (by rw[decide_eq_false h1];simp),by first|exact HB.out |(rw[hq];exact HB.out)⟩
 have n0:((h.kind:Int)==0)=false:=by simpa using h0
 go_in
 go_upto_region 1 with fail
 rw[<- al.out];generalize hq:w.heap.size=q at *
 go_wp2_with fail
 go_ret
 exact⟨aA (by rw[decide_eq_false h0];simp),by first|exact HB.out |(rw[hq];exact HB.out)⟩
theorem eH{x:Int}(h:¬ x=0):¬ 0=x:=fun e=>h e.symm
theorem uBN(m e:Int)(t:Bs)(tr:Bool)(f:Int):aR ⟨1,m,e,t,tr,f⟩=(aX ⟨1,m,e,[],false,0⟩ ⟨1,m,e,t,tr,f⟩&&bF m e):=by
 by_cases hf:f=0
 ·subst hf;cases tr <;> cases t <;> simp[aR,aX]
 have h2:=eH hf;cases tr <;> cases t <;> simp_all [aR,aX]
theorem uBO(m e:Int)(t:Bs)(tr:Bool)(f:Int):aR ⟨2,m,e,t,tr,f⟩=(aX ⟨2,0,0,t,false,0⟩ ⟨2,m,e,t,tr,f⟩&&decide (t.length<=255)):=by
 by_cases hf:f=0
 ·subst hf;by_cases hm:m=0
  ·subst hm;by_cases he:e=0
   ·subst he;cases tr <;> simp[aR,aX]
   have h2:=eH he;cases tr <;> simp_all [aR,aX]
  have h2:=eH hm;cases tr <;> simp_all [aR,aX]
 have h2:=eH hf;cases tr <;> simp_all [aR,aX]
theorem vL(m e:Int)(t:Bs)(tr:Bool)(f:Int):aR ⟨3,m,e,t,tr,f⟩=aX ⟨3,0,0,[],tr,0⟩ ⟨3,m,e,t,tr,f⟩:=by
 by_cases hf:f=0
 ·subst hf;by_cases hm:m=0
  ·subst hm;by_cases he:e=0
   ·subst he;cases t <;> simp[aR,aX]
   have h2:=eH he;cases t <;> simp_all [aR,aX]
  have h2:=eH hm;cases t <;> simp_all [aR,aX]
 have h2:=eH hf;cases t <;> (simp_all [aR,aX];try omega)
theorem xT(m e:Int)(t:Bs)(tr:Bool)(f:Int):aR ⟨4,m,e,t,tr,f⟩=(aX ⟨4,0,0,[],false,f⟩ ⟨4,m,e,t,tr,f⟩&&decide (1<=f)&&decide (f<=9)):=by
 by_cases hm:m=0
 ·subst hm;by_cases he:e=0
  ·subst he;cases tr <;> cases t <;> simp[aR,aX]
  have h2:=eH he;cases tr <;> cases t <;> simp_all [aR,aX]
 have h2:=eH hm;cases tr <;> cases t <;> simp_all [aR,aX]
theorem xS(v:Val)(h0:v.kind≠0)(h1:v.kind≠1)(h2:v.kind≠2)(h3:v.kind≠3)(h4:v.kind≠4):aR v=false:=by
 simp[aR,h0,h1,h2,h3,h4]
theorem rLit_any(v:Val)(w:World)(h1:-9223372036854775808<=v.mant)(h2:v.mant<=9223372036854775807)(hl:v.text.length<=1000000) :
  Calls Tryz.prog 148 #[gW v] w fun x w'=>x=.returned (.bool (decide (v.kind≠0)&&aR v))/\Below w.heap.size w w':=by
 obtain⟨k,m,e,t,tr,f⟩:=v;dsimp only at h1 h2 hl;have HC:=zh (fun W=>uEW m e W h1 h2);clear h1 h2;have HB:Hid (∀ W1,W1=w.alloc (.cells (kT ⟨k,m,e,t,tr,f⟩) 25)->∀ cs,Below w.heap.size w (W1.alloc (.cells cs 25))):=zh (fun W1 h cs=>by rw[h];exact((Below.refl _ w).alloc zr _).alloc (by simp) _);have hti:(t.length:Int)<=1000000:=by omega
 clear hl;by_cases k1:k=1
 ·subst k1;have E:=dO 1 m e [] false 0 1 m e t tr f;rw[uBN];obtain⟨c,hc⟩:=zE (aX ⟨1,m,e,[],false,0⟩ ⟨1,m,e,t,tr,f⟩)
  rw[hc]at E ⊢;clear hc
  go_in
  cases c
  ·clear HC
   go_wp2_with fail
   go_ret
   exact⟨aA (by simp),HB.out _ rfl _⟩
  go_wp2_with fail
  refine(HC.out _).mono ?_;rintro x w2 ⟨rfl,hb⟩;have bm:=zh ((HB.out _ rfl _).trans (hb.mono (by simp;omega)));clear hb HB
  go_wp2_with fail
  go_ret
  exact⟨aA (by simp),bm.out⟩
 clear HC;by_cases k2:k=2
 ·subst k2;have E:=dO 2 0 0 t false 0 2 m e t tr f;rw[uBO];obtain⟨c,hc⟩:=zE (aX ⟨2,0,0,t,false,0⟩ ⟨2,m,e,t,tr,f⟩)
  rw[hc]at E ⊢;clear hc;by_cases h255:t.length<=255
  all_goals go_in
  ·have hti2:(t.length:Int)<=255:=by omega
   cases c
   all_goals go_wp2_with fail
   all_goals go_ret
   all_goals exact⟨aA (by simp_all),HB.out _ rfl _⟩
  have hti2:¬ (t.length:Int)<=255:=by omega
  cases c
  all_goals go_wp2_with fail
  all_goals go_ret
  all_goals exact⟨aA (by simp_all),HB.out _ rfl _⟩
 by_cases k3:k=3
 ·subst k3;have E:=dO 3 0 0 [] tr 0 3 m e t tr f;rw[vL];obtain⟨c,hc⟩:=zE (aX ⟨3,0,0,[],tr,0⟩ ⟨3,m,e,t,tr,f⟩)
  rw[hc]at E ⊢;clear hc
  go_in
  go_wp2_with fail
  go_ret
  exact⟨aA (by simp),HB.out _ rfl _⟩
 by_cases k4:k=4
 ·subst k4;have E:=dO 4 0 0 [] false f 4 m e t tr f;rw[xT];obtain⟨c,hc⟩:=zE (aX ⟨4,0,0,[],false,f⟩ ⟨4,m,e,t,tr,f⟩)
  rw[hc]at E ⊢;clear hc
  go_in
  by_cases f1:1<=f
  ·by_cases f9:f<=9
   all_goals cases c
   all_goals go_wp2_with fail
   all_goals go_ret
   all_goals exact⟨aA (by first |(simp_all;done) |(rw[ze];simp;omega)),HB.out _ rfl _⟩
  cases c
  all_goals go_wp2_with fail
  all_goals go_ret
  all_goals exact⟨aA (by first |(simp_all;done) |(rw[ze];simp;omega)),HB.out _ rfl _⟩
 have hr:(decide (k≠0)&&aR ⟨k,m,e,t,tr,f⟩)=false:=by
  by_cases k0:k=0
  ·simp[k0]
  rw[xS _ k0 k1 k2 k3 k4,Bool.and_false]
 dsimp only at hr ⊢;rw[hr];have n1:((k:Int)==1)=false:=by simpa using k1
 have n2:((k:Int)==2)=false:=by simpa using k2
 have n3:((k:Int)==3)=false:=by simpa using k3
 have n4:((k:Int)==4)=false:=by simpa using k4
 clear hr
 go_in
 go_wp2_with fail
 go_ret
 exact⟨rfl,HB.out _ rfl _⟩
mutual
def Tree.pre:Tree->List Tree
 | .mk h l=>.mk h l::kS l
def kS:List Tree->List Tree
 | []=>[]
 |t::r=>t.pre++kS r
end
theorem tM:∀ (l:List Tree) (x:Tree),kS (l++[x])=kS l++x.pre
 | [],x=>by simp[kS]
 |t::l,x=>by rw[yp,kS,kS,tM l x,List.append_assoc]
theorem uBD(l:List Tree)(k:Nat)(h:k<l.length):aL (l.take (k+1))=aL (l.take k)+l[k].size:=by rw[yw h,uBC]
theorem uEO(l:List Tree)(k:Nat)(h:k<l.length):kS (l.take (k+1))=kS (l.take k)++l[k].pre:=by rw[yw h,tM]
theorem uBE(l:List Tree)(k:Nat):aL (l.take k)<=aL l:=by
 have h:∀ (l:List Tree) k,aL (l.take k)<=aL l:=fun l=>by
  induction l with
  |nil=>intro k;simp
  |cons t l ih=>intro k;cases k with
   |zero=>simp[aL]
   |succ k=>rw[List.take_succ_cons,aL,aL];have:=ih k;omega
 exact h l k
def PCells:List Value->List Tree->Prop
 |xs,[]=>xs=[]
 |xs,t::l=>∃ c r,xs=c++r/\c.length=22/\(∃ A cp,c.toArray=aH t.h A t.l.length cp)/\PCells r l
theorem PCells.app:∀ {xs ys:List Value} {l m:List Tree},PCells xs l->PCells ys m->PCells (xs++ys) (l++m)
 |xs,ys,[],m,h,h2=>by
  have h0:xs=[]:=h;subst h0;exact h2
 |xs,ys,t::l,m,⟨c,r,h1,h3,h4,h5⟩,h2=>⟨c,r++ys,by rw[h1,List.append_assoc],h3,h4,PCells.app h5 h2⟩
theorem zY(h:NodeH)(A:Option Addr)(n c:Nat):(aH h A n c).all (·.oneCell')=true:=by simp[aH,Value.oneCell']
theorem PCells.one':∀ {xs:List Value} {l:List Tree},PCells xs l->∀ u∈xs,u.oneCell'=true
 |xs,[],h,u,hu=>by
  have h0:xs=[]:=h;subst h0;cases hu
 |xs,t::l,⟨c,r,h1,h3,⟨A,cp,h4⟩,h5⟩,u,hu=>by
  subst h1;rcases List.mem_append.1 hu with hu|hu
  ·have:=zY t.h A t.l.length cp;rw[<- h4]at this;exact(Array.all_eq_true_iff_forall_mem.1 this) u (by simpa using hu)
  exact PCells.one' h5 u hu
theorem PCells.head{h:NodeH}{A:Option Addr}{n cp:Nat}(l:List Tree)(hl:l.length=n):PCells (aH h A n cp).toList [.mk h l]:=by
 refine⟨(aH h A n cp).toList,[],by simp,rfl,⟨A,cp,?_⟩,rfl⟩;rw[<- hl];rfl
theorem kV{ops:Array Oper}{rest:List Oper}{o:Oper}{a:Act}{w:World}{Q:Exit->Act->World->Prop}(s9:o.guard=none)(s x:Operand)(ho:o.op=.call { callee:=.builtin .append,args:=#[s,x],argTypes:=#[32,32] })
  (base n m:Nat) (v:Value) (xs:List Value) (hs:a.eval s=v) (aw:w.ownsRow base 34 22 v n xs) (hn:n+m<=3000000) (ft:base<=w.heap.size)
  (v2:Value) (b2:Nat) (news:List Value) (hx:a.eval x=v2) (mz:w.ownsRow b2 34 22 v2 m news) (hm:0<m) (h1:∀ u∈news,u.oneCell'=true)
  (h:∀ A' c' w',w'.ownsRow base 34 22 (.slice A' (n+m) c') (n+m) (xs++news)->w.grownBy w' v.ownBlock->wpList Tryz.prog ops Q rest (a.put o.dst (.slice A' (n+m) c')) w'):wpList Tryz.prog ops Q (o::rest) a w:=by
 have hB:=uDX;obtain⟨i,z,hi,ap,hz,hzc⟩:=nJ;rw[hi]at hB;simp at hB;obtain⟨g,cap,hv2,_,_,rx⟩:=fB mz hm;have ry:∀ j u,news[j]?=some u->w.cell? ((⟨g,0,none⟩:Addr).add j)=some u:=fun j u hj=>by
  have e:(⟨g,0,none⟩:Addr).add j=⟨g,j,none⟩:=by cases j <;> simp[Addr.add]
  rw[e];exact rx j u hj
 refine wpList_append_own (P:=Tryz.prog) w s9 s x 32 ho base 34 i z 22 192 uBM hi hz ap hB.2 hzc (by decide) v n xs hs aw ⟨g,0,none⟩ m cap news (by rw[hx,hv2]) mz.1 ry h1 (by unfold maxLen;omega) (by omega) ft (fun v' w' k1 k2 _=>?_);obtain⟨A',c',rfl⟩:=aZ k1;exact h A' c' w' k1 k2
theorem lR:∀ (n:Nat),n<=1000000->∀ (t:Tree) (cs:Array Value) (w:World),t.size<=n->TreeIn w t cs->Calls Tryz.prog 15 #[.agg cs] w fun e w'=>∃ A c xs,e=.returned (.slice A t.size c)/\w'.ownsRow w.heap.size 34 22 (.slice A t.size c) t.size xs/\PCells xs t.pre/\Below w.heap.size w w':=by
 intro n
 induction n with
 |zero=>intro _ t _ _ hs;cases t;simp[Tree.size]at hs
 |succ n ih=>
 intro ba;rintro⟨h,l⟩ cs w hs ⟨A,cp,rfl,hk⟩;have IH:=zh (fun(i:Nat) (hi:i<l.length) cs W h1=>ih (by omega) (l[i]'hi) cs W (by have h9:(l[i]'hi).size<(Tree.mk h l).size:=eK (t:=.mk h l) (i:=i) hi;omega) h1);have er:Hid (l.length<=1000000/\aL l<=1000000):=zh (by have h1:=bU l;have h2:aL l+1<=n+1:=hs;omega);clear ih;dsimp only[Tree.h,Tree.l]at hk ⊢;have HK:=zh hk;clear hk hs;have hS:(Tree.mk h l).size=aL l+1:=by rw[Tree.size]
 have hP:(Tree.mk h l).pre=.mk h l::kS l:=by rw[Tree.pre]
 rw[hS,hP];clear hS hP;generalize gm:(w.alloc (.cells (aH h A l.length cp) 34))=W1;have HL:Hid (Lies W1 w.heap.size 34 (aH h A l.length cp)):=zh (by rw[<- gm];exact Lies.new _ _ _);have HB:Hid (Below w.heap.size w W1):=zh (by rw[<- gm];exact zp _);have al:=zh gm;clear gm;have ej:Hid (W1.heap.size=w.heap.size+1):=zh (by rw[<- al.out];simp);have HHD:=zh (PCells.head (h:=h) (A:=A) (cp:=cp) l rfl);have vd:Hid ((W1.alloc (.cells (aH h A l.length cp) 34)).ownsRow W1.heap.size 34 22 (.slice (some ⟨W1.heap.size,0,none⟩) 1 1) 1 (aH h A l.length cp).toList):=zh ⟨rfl,.inr ⟨_,1,_,rfl,zr,heap_alloc_new _ _,zr,by unfold maxLen;omega,rfl,rfl⟩⟩;have ux:Hid (Below W1.heap.size W1 (W1.alloc (.cells (aH h A l.length cp) 34))):=zh (zp _)
 go_in
 go_upto_region 1 with fail
 rw[al.out];clear al;generalize hQ:w.heap.size=q at *;have jv:=zh (HL.out.range);obtain⟨C,hC⟩:∃ C:List Value,C=(aH h A l.length cp).toList:=⟨_,rfl⟩
 have hCa:aH h A l.length cp=C.toArray:=by rw[hC]
 have qg:C.length=22:=by rw[hC];rfl
 rw[<- hC]at jv vd HHD;rw[hCa]at vd ux;have vo:(Tryz.prog.info? 34).map (·.size)=some C.length:=by rw[qg];exact cM
 generalize fe:W1.alloc (.cells C.toArray 34)=W2 at *
 go_wp2_with (first |(refine yr rfl 34 (.tmp 1) rfl q 0 rfl C _ jv.out Tryz.underlying34 rfl vo ?_) |(refine sE rfl (.tmp 5) rfl C rfl qg W1.heap.size rfl (some 6) rfl ?_;rw[fe]))
 have HBQ:Hid (q+1=W1.heap.size):=zh ej.out.symm;clear hC hCa vo jv
 go_loopw [3,4] (fun d v wr=>∃ (i:Nat) (A':Option Addr) (c':Nat) (xs:List Value),i<=l.length/\v=vI (i:Int)/\d=.slice A' (aL (l.take i)+1) c'/\Hid (wr.ownsRow W1.heap.size 34 22 (.slice A' (aL (l.take i)+1) c') (aL (l.take i)+1) xs)/\Hid (PCells xs (.mk h l::kS (l.take i)))/\Hid (Below W1.heap.size W1 wr)) (fun _ v _=>l.length-(intOf v).toNat)
 case atStart=>exact⟨0,_,_,_,zm _,rfl,rfl,vd,HHD,ux⟩
 case round=>
  obtain⟨i,A',c',xs,hi,rfl,rfl,HO,HP,jr⟩:=hrel;have hx:=(HL.out.next jr.out).cell 21;simp only[za,zb,zf]at hx;by_cases hlt:i<l.length
  ·obtain⟨g,og,ci,rfl,eh,dv⟩:=fR HK.out i hlt;have bj:Hid (Below w.heap.size w wr):=zh (by rw[hQ];exact HB.out.trans (jr.out.mono (by rw[<- hQ];exact HB.out.size)));obtain⟨hra,hti⟩:=dv wr (Kp.of_below bj.out);have HRA:=zh hra;have HC:=zh (IH.out i hlt ci.toArray wr hti);have bp:=zh (uBD l i hlt);have HPS:=zh (uEO l i hlt);have HDB:Hid ((l[i]'hlt).size<=1000000/\0<(l[i]'hlt).size/\aL (l.take i)<=1000000):=zh (by
    have h2:(l[i]'hlt).size<(Tree.mk h l).size:=eK (t:=.mk h l) (i:=i) hlt;have h3:(Tree.mk h l).size=aL l+1:=by rw[Tree.size]
    have h4:=uBE l i;have:=er.out.2;refine⟨by omega,?_,by omega⟩;cases l[i]'hlt;exact Nat.succ_pos _)
   generalize (l[i]'hlt).size=dk at *;generalize (l[i]'hlt).pre=dp at *;generalize aL (l.take i)=sk at *;have zi:(Tryz.prog.info? 34).map (·.size)=some ci.length:=by rw[eh];exact cM
   clear dv hra hti;have qr:(i:Int)<(l.length:Int):=by omega
   have hib:(i:Int)<=1000000:=by have:=er.out.1;omega
   go_wp2_with (first |(refine yr rfl 34 (.tmp 18) rfl g (og+i*22) rfl ci _ HRA.out Tryz.underlying34 rfl zi ?_))
   refine HC.out.mono ?_;rintro e w2 ⟨A2,c2,ys,rfl,ho2,hp2,hb⟩;have rn:=zh ho2;have HP2:=zh hp2;have HOa:=zh (HO.out.kept (kZ hb none) (Classical.em _));have bq:Hid (Below W1.heap.size W1 w2):=zT jr hb;have HON:=zh (HP2.out.one');have HSB:Hid (W1.heap.size<=w2.heap.size):=zh bq.out.size;clear hb HC ho2 hp2
   go_wp2_with (first |(refine kV rfl (.tmp 14) (.tmp 20) rfl W1.heap.size (sk+1) dk _ xs rfl HOa.out (by have:=HDB.out;omega) HSB.out _ _ ys rfl rn.out HDB.out.2.1 HON.out ?_;intro A3 c3 w3 k1 k2;have K1:=zh k1;have K2:=zh k2;clear k1 k2))
   have bg:Hid (Below W1.heap.size W1 w3):=zh (bq.out.grown K2.out HSB.out (fun k hk=>(HOa.out.lt k hk).1))
   go_roundw
   case rel=>exact⟨i+1,A3,c3,xs++ys,by omega,by go_num,by rw[bp.out,show sk+dk+1=sk+1+dk by omega],zh (by rw[bp.out,show sk+dk+1=sk+1+dk by omega];exact K1.out),zh (by rw[HPS.out];exact PCells.app HP.out HP2.out),bg⟩
   case measure=>simp[intOf];omega
  have qy:¬ ((i:Int)<(l.length:Int)):=by omega
  have e:l.take i=l:=List.take_of_length_le (by omega);rw[e]at HO HP ⊢;clear e
  go_wp2_with fail
  go_ret
  have h2:Below q w wr:=by have h3:=HB.out;exact h3.trans (jr.out.mono (by have:=h3.size;omega))
  have h4:=lP HO.out (show q<=W1.heap.size by have:=HBQ.out;omega);exact⟨A',c',rfl,xs,h4,HP.out,h2⟩
theorem uEZ:∀ (t:Tree),t.same t=true:=by
 have key:∀ n (t:Tree),t.size<=n->t.same t=true:=by
  intro n
  induction n with
  |zero=>intro t h;have:=rR t;omega
  |succ n ih=>
   rintro⟨h,l⟩ hs;unfold Tree.same;rw[headSame,Bool.true_and];refine(kK rfl).2 (fun i h1 _=>ih _ ?_);have:=eK (t:=.mk h l) (i:=i) h1;show l[i].size<=n;have h9:(l[i]'h1).size<(Tree.mk h l).size:=this;omega
 exact fun t=>key _ t zr
theorem uEJ(h:NodeH)(A:Option Addr)(n c:Nat):(aH h A n c).all (·.oneCell')=true:=by simp[aH,Value.oneCell']
theorem uEA{W':World}{C:List Value}(hC:C.length=22):World.there (W'.alloc (.cells eR.toArray 34)) W'.heap.size 0 C.toArray.size:=by
 have:=(Lies.new W' 34 eR.toArray).thereA;have h0:C.toArray.size=22:=by rw[yd,hC]
 rw[h0];exact this
theorem dX{w w':World}{A:Option Addr}{ids:List IdR}(h:eA w A ids)(hb:Below w.heap.size w w'):eA w' A ids:=fun h0=>by
 obtain⟨g,o,e,hr⟩:=h h0;exact⟨g,o,e,hr.at hb.size (hb.block g hr.1)⟩
end Go.Proofs.YtjfihpaeglpblaaGreatDoor
