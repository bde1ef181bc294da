/-
  Lemmas, part 26: RkB RkC RkE RkF RkH RkI.
-/
import Derived.Test.YtmgjidnalpgegaaGreatDoorPr25
set_option maxHeartbeats 100000000
namespace Go.Proofs.YtmgjidnalpgegaaGreatDoor
open Go.RowKit
theorem uA{p:UInt8->Bool}{l:Bs}(h:l.all p=true):aN p l=l.length:=by
 induction l with
 |nil=>rfl
 |cons c l ih=>
  rw[List.all_cons,yh]at h;rw[aN,h.1,ih h.2];simp
theorem yM{l:Bs}(h:bN l=true):tK l=false:=by
 cases hm:tK l with
 |false=>rfl
 |true=>
  unfold tK at hm;simp only[yh,decide_eq_true_eq]at hm;obtain⟨h1,h2,h3,h4,h5⟩:=hm;have h6:aS (l.drop (aP l))=l.length-aP l:=by unfold aS;rw[uA h5,yk]
  unfold bN at h;rw[h6,h4,decide_eq_true h1,decide_eq_true (show l.length-aP l<=7 by omega),decide_eq_true (show 1<=l.length-aP l by omega),decide_eq_true (show aP l+(l.length-aP l)=l.length by omega)]at h;simp at h
theorem uCE{l:Bs}(h:bN l=true):∃ h0:0<l.length,l.length<=32/\bW l[0]=true/\l.all kB=true:=by
 cases l with
 |nil=>cases h
 |cons c t=>
  unfold bN at h;simp only[yh,decide_eq_true_eq]at h;exact⟨h.1.1.1.1,h.1.1.1.2,h.1.1.2,h.1.2⟩
set_option maxRecDepth 100000 in
theorem uAY(l:Bs)(w:World)(h:bN l=true) :
  Calls Tryz.prog 61 #[.string ⟨l.toArray⟩] w fun e w'=>e=.returned (.bool true)/\w=w':=by
 obtain⟨h0,ub,eu,bk⟩:=uCE h;have HM:=zh (uIM l w (by omega));rw[yM h]at HM;have sf:=zh bk;have h1i:¬ (l.length:Int)<1:=by omega
 have wo:¬ (32:Int)<(l.length:Int):=by omega
 clear h bk
 go_enter Tryz.func61,Tryz.ntmps61
 go_wp2_with (go_at_call 84;refine(dY _ _).mono ?_;rintro e w' ⟨rfl,rfl⟩)
 clear eu
 go_loop [3] (fun i=>∃ k:Nat,1<=k/\k<=l.length/\i=.int .i64 k) (fun i=>l.length-(intOf i).toNat)
 case atStart=>exact⟨1,zr,h0,rfl⟩
 case round=>
  obtain⟨k,dq,hk,rfl⟩:=hrel;by_cases hlt:k<l.length
  ·have mx:=lT l[k] 46 46 rfl;have hd:kB l[k]=true:=List.all_eq_true.1 sf.out _ (List.getElem_mem hlt);unfold kB at hd;cases d1:bW l[k] with
   |true=>
    clear hd
    go_wp2_with (first |(go_at_call 84;refine(dY _ _).mono ?_;rintro e w' ⟨rfl,rfl⟩) |(go_at_call 85;refine(eL _ _).mono ?_;rintro e w' ⟨rfl,rfl⟩))
    go_round
    case rel=>exact⟨k+1,by omega,by omega,by go_num⟩
    case measure=>simp[intOf];omega
   |false=>
    cases d2:aB l[k] with
    |true=>
     clear hd
     go_wp2_with (first |(go_at_call 84;refine(dY _ _).mono ?_;rintro e w' ⟨rfl,rfl⟩) |(go_at_call 85;refine(eL _ _).mono ?_;rintro e w' ⟨rfl,rfl⟩))
     go_round
     case rel=>exact⟨k+1,by omega,by omega,by go_num⟩
     case measure=>simp[intOf];omega
    |false=>
     have d3:(l[k]==46)=true:=by rw[d1,d2]at hd;simpa using hd
     rw[d3]at mx;clear hd
     go_wp2_with (first |(go_at_call 84;refine(dY _ _).mono ?_;rintro e w' ⟨rfl,rfl⟩) |(go_at_call 85;refine(eL _ _).mono ?_;rintro e w' ⟨rfl,rfl⟩))
     go_round
     case rel=>exact⟨k+1,by omega,by omega,by go_num⟩
     case measure=>simp[intOf];omega
  go_wp2_with fail
  refine HM.out.mono ?_;rintro e w' ⟨rfl,rfl⟩
  go_wp2_with fail
  go_ret
  exact⟨rfl,rfl⟩
def xR(l:Bs):Bool:=(decide (1<=aP l)&&(decide (aP l<=3)&&(decide (aP l<l.length)&&(l.drop (aP l)).all aB)))||fW l
theorem nK{l:Bs}{a k:Nat}(h1:a<=k)(h2:k-a<=aN aB (l.drop a))(hlt:k<l.length)(hd:aB l[k]=true):k+1-a<=aN aB (l.drop a):=by
 have h3:k-a<(l.drop a).length:=by rw[yk];omega
 have h4:(l.drop a)[k-a]=l[k]:=by rw[List.getElem_drop];congr 1;omega
 have:=fM aB (l.drop a) (k-a) h2 h3 (by rw[h4];exact hd);omega
theorem pC{l:Bs}{a k:Nat}(h1:a<=k)(h2:k-a<=aN aB (l.drop a))(hk:k<=l.length)(el:¬ k<l.length\/∃ h:k<l.length,aB l[k]=false):k=a+aN aB (l.drop a):=by
 have h5:=bS aB (l.drop a);rw[yk]at h5;rcases el with h|⟨hlt,hd⟩
 ·omega
 have h3:k-a<(l.drop a).length:=by rw[yk];omega
 have h4:(l.drop a)[k-a]=l[k]:=by rw[List.getElem_drop];congr 1;omega
 have:=jY aB (l.drop a) (k-a) h2 h3 (by rw[h4];exact hd);omega
theorem uAA{l:Bs}(h:bM l=true):xR l=false:=by
 unfold bM at h;simp only[yh,Bool.not_eq_true',decide_eq_true_eq,Bool.or_eq_false_iff]at h;obtain⟨⟨_,h1⟩,h2⟩:=h;unfold xR;rw[h1.2,Bool.or_false];cases hm:(decide (1<=aP l)&&(decide (aP l<=3)&&(decide (aP l<l.length)&&(l.drop (aP l)).all aB))) with
 |false=>rfl
 |true=>
  simp only[yh,decide_eq_true_eq]at hm;obtain⟨g1,g2,g3,g5⟩:=hm;have h6:aS (l.drop (aP l))=l.length-aP l:=by unfold aS;rw[uA g5,yk]
  rw[h6,decide_eq_true g1,decide_eq_true g2,decide_eq_true (show 1<=l.length-aP l by omega),decide_eq_true (show aP l+(l.length-aP l)=l.length by omega)]at h2;simp at h2
theorem uDR{l:Bs}(h:bM l=true):∃ h0:0<l.length,l.length<=32/\(bW l[0]||l[0]==95)=true/\l.all kC=true/\(l==jN)=false/\(l==gQ)=false:=by
 cases l with
 |nil=>cases h
 |cons c t=>
  unfold bM at h;simp only[yh,Bool.not_eq_true',decide_eq_true_eq,Bool.or_eq_false_iff]at h;exact⟨h.1.1.1.1.1,h.1.1.1.1.2,h.1.1.1.2,h.1.1.2,h.1.2.1.1,h.1.2.1.2⟩
set_option maxRecDepth 100000 in
theorem uIK(l:Bs)(w:World)(hs:l.length<=100000) :
  Calls Tryz.prog 87 #[.string ⟨l.toArray⟩] w fun e w'=>e=.returned (.bool (xR l))/\w=w':=by
 have HD:=zh (fun k W=>qU (l.drop k) W (by rw[yk];unfold maxLen;omega));obtain⟨R,hR⟩:∃ R,xR l=R:=⟨_,rfl⟩
 have HR:=zh hR;rw[hR];clear hR
 go_enter Tryz.func87,Tryz.ntmps87
 go_upto_block 0 with fail
 go_cut [3] (fun v wx=>v=.int .i64 (aP l:Nat)/\Hid (wx=w))
 case first=>
  go_wp2_with fail
  go_loop [3] (fun i=>∃ k:Nat,k<=l.length/\i=.int .i64 k/\k<=aN bW l) (fun i=>l.length-(intOf i).toNat)
  case atStart=>exact⟨0,zm _,rfl,zm _⟩
  case round=>
   obtain⟨k,hk,rfl,hr⟩:=hrel;have HK:=zh hr;clear hr;by_cases j9:∃ h:k<l.length,bW l[k]=true
   ·obtain⟨hlt,hd⟩:=j9;have HQ:=zh (fM _ _ _ HK.out hlt hd)
    go_wp2_with (go_at_call 84;refine(dY _ _).mono ?_;rintro e w' ⟨rfl,rfl⟩)
    go_round
    case rel=>exact⟨k+1,by omega,by go_num,HQ.out⟩
    case measure=>simp[intOf];omega
   have el:¬ k<l.length\/∃ h:k<l.length,bW l[k]=false:=by
    by_cases hlt:k<l.length
    ·exact .inr ⟨hlt,by cases h:bW l[k];rfl;exact absurd ⟨hlt,h⟩ j9⟩
    exact .inl hlt
   have HQ:Hid (aN bW l=k):=zh (by
    rcases el with h|⟨h,hd⟩
    ·have:=bS bW l;have:=HK.out;omega
    exact jY _ _ _ HK.out h hd)
   clear j9;rcases el with hlt|⟨hlt,hd⟩
   all_goals go_wp2_with (go_at_call 84;refine(dY _ _).mono ?_;rintro e w' ⟨rfl,rfl⟩)
   all_goals go_meet
   all_goals exact⟨by unfold aP;rw[HQ.out],zh rfl⟩
 case rest=>
 obtain⟨rfl,hcut⟩:=hcut;have ql:=hcut.out;subst ql;clear hcut;have hkl:aP l<=l.length:=bS bW l;have c6:Hid (((decide (1<=aP l)&&(decide (aP l<=3)&&(decide (aP l<l.length)&&(l.drop (aP l)).all aB)))||fW l)=R):=zh HR.out;have oq:=zh (HD.out (aP l) wc);clear HR HD;generalize (l.drop (aP l)).all aB=ad at *;generalize aP l=k at *
 go_upto_region 4 with fail
 go_cut [34] (fun v wx=>v=.bool (decide (1<=k)&&(decide (k<=3)&&(decide (k<l.length)&&ad)))/\Hid (wx=wc))
 case first=>
  by_cases e1:1<=k
  ·by_cases e2:k<=3
   ·by_cases e3:k<l.length
    ·go_wp2_with fail
     refine oq.out.mono ?_;rintro e w' ⟨rfl,rfl⟩
     go_wp2_with fail
     go_meet
     exact⟨by simp[e1,e2,e3],zh rfl⟩
    go_wp2_with fail
    go_meet
    exact⟨by simp[e3],zh rfl⟩
   go_wp2_with fail
   go_meet
   exact⟨by simp[e2],zh rfl⟩
  go_wp2_with fail
  go_meet
  exact⟨by simp[e1],zh rfl⟩
 case rest=>
 obtain⟨rfl,hcut⟩:=hcut;have ql:=hcut.out;subst ql;clear hcut oq;generalize (decide (1<=k)&&(decide (k<=3)&&(decide (k<l.length)&&ad)))=c at *;cases c with
 |true=>
  have fh:Hid (true=R):=zh c6.out
  go_wp2_with fail
  go_ret
  exact⟨aI fh.out,rfl⟩
 |false=>
 have fh:Hid (fW l=R):=zh c6.out;clear c6
 go_upto_region 7 with fail
 go_cut [44] (fun v wx=>v=.bool (aX l 0 82)/\Hid (wx=wc))
 case first=>
  by_cases h0:0<l.length
  ·have hq:=gP l 0 82 82 rfl h0
   go_wp2_with fail
   go_meet
   exact⟨rfl,zh rfl⟩
  have hq:=iI l 0 82 (by omega)
  go_wp2_with fail
  go_meet
  exact⟨by rw[hq],zh rfl⟩
 case rest=>
 obtain⟨rfl,hcut⟩:=hcut;have ql:=hcut.out;subst ql;clear hcut;unfold fW at fh;have HAL:Hid ((if aX l 0 82=true then 1+aS (l.drop 1) else 0)<=l.length):=zh (by
  split
  ·rename_i h
   have h1:=at_lt _ _ _ h;have h2:=bS aB (l.drop 1);rw[yk]at h2;unfold aS;omega
  exact zm _)
 go_upto_if 44 with fail
 go_cut [4] (fun v wx=>v=.int .i64 ((if aX l 0 82=true then 1+aS (l.drop 1) else 0:Nat):Int)/\Hid (wx=wc))
 case first=>
  cases h82:aX l 0 82 with
  |true=>
   have hlt0:=at_lt _ _ _ h82
   go_wp2_with fail
   go_loop [4] (fun i=>∃ k:Nat,1<=k/\k<=l.length/\i=.int .i64 k/\k-1<=aN aB (l.drop 1)) (fun i=>l.length-(intOf i).toNat)
   case atStart=>exact⟨1,zr,by omega,by go_num,by omega⟩
   case round=>
    obtain⟨k2,dq,hk,rfl,hr⟩:=hrel;have HK:=zh hr;clear hr;by_cases j9:∃ h:k2<l.length,aB l[k2]=true
    ·obtain⟨hlt,hd⟩:=j9;have HQ:=zh (nK dq HK.out hlt hd)
     go_wp2_with (go_at_call 85;refine(eL _ _).mono ?_;rintro e w' ⟨rfl,rfl⟩)
     go_round
     case rel=>exact⟨k2+1,by omega,by omega,by go_num,HQ.out⟩
     case measure=>simp[intOf];omega
    have el:¬ k2<l.length\/∃ h:k2<l.length,aB l[k2]=false:=by
     by_cases hlt:k2<l.length
     ·exact .inr ⟨hlt,by cases h:aB l[k2];rfl;exact absurd ⟨hlt,h⟩ j9⟩
     exact .inl hlt
    have HQ:=zh (pC dq HK.out hk el);clear j9;rcases el with hlt|⟨hlt,hd⟩
    all_goals go_wp2_with (go_at_call 85;refine(eL _ _).mono ?_;rintro e w' ⟨rfl,rfl⟩)
    all_goals go_meet
    all_goals exact⟨by rw[if_pos h82,HQ.out];rfl,zh rfl⟩
  |false=>
   go_wp2_with fail
   go_meet
   exact⟨by rw[if_neg (by rw[h82];decide)];rfl,zh rfl⟩
 case rest=>
 obtain⟨rfl,hcut⟩:=hcut;have ql:=hcut.out;subst ql;clear hcut;generalize (if aX l 0 82=true then 1+aS (l.drop 1) else 0)=a at *;have hal:=HAL.out;clear HAL
 go_upto_region 11 with fail
 go_cut [68] (fun v wx=>v=.bool (aX l a 67)/\Hid (wx=wc))
 case first=>
  by_cases h0:a<l.length
  ·have hq:=gP l a 67 67 rfl h0
   go_wp2_with fail
   go_meet
   exact⟨rfl,zh rfl⟩
  have hq:=iI l a 67 (by omega)
  go_wp2_with fail
  go_meet
  exact⟨by rw[hq],zh rfl⟩
 case rest=>
 obtain⟨rfl,hcut⟩:=hcut;have ql:=hcut.out;subst ql;clear hcut
 go_upto_if 68 with fail
 go_cut [4] (fun v wx=>v=.int .i64 ((if aX l a 67=true then a+1+aS (l.drop (a+1)) else a:Nat):Int)/\Hid (wx=wc))
 case first=>
  cases h67:aX l a 67 with
  |true=>
   have hlt0:=at_lt _ _ _ h67
   go_wp2_with fail
   go_loop [4] (fun i=>∃ k:Nat,(a+1)<=k/\k<=l.length/\i=.int .i64 k/\k-(a+1)<=aN aB (l.drop (a+1))) (fun i=>l.length-(intOf i).toNat)
   case atStart=>exact⟨(a+1),zr,by omega,by go_num,by omega⟩
   case round=>
    obtain⟨k2,dq,hk,rfl,hr⟩:=hrel;have HK:=zh hr;clear hr;by_cases j9:∃ h:k2<l.length,aB l[k2]=true
    ·obtain⟨hlt,hd⟩:=j9;have HQ:=zh (nK dq HK.out hlt hd)
     go_wp2_with (go_at_call 85;refine(eL _ _).mono ?_;rintro e w' ⟨rfl,rfl⟩)
     go_round
     case rel=>exact⟨k2+1,by omega,by omega,by go_num,HQ.out⟩
     case measure=>simp[intOf];omega
    have el:¬ k2<l.length\/∃ h:k2<l.length,aB l[k2]=false:=by
     by_cases hlt:k2<l.length
     ·exact .inr ⟨hlt,by cases h:aB l[k2];rfl;exact absurd ⟨hlt,h⟩ j9⟩
     exact .inl hlt
    have HQ:=zh (pC dq HK.out hk el);clear j9;rcases el with hlt|⟨hlt,hd⟩
    all_goals go_wp2_with (go_at_call 85;refine(eL _ _).mono ?_;rintro e w' ⟨rfl,rfl⟩)
    all_goals go_meet
    all_goals exact⟨by rw[if_pos h67,HQ.out];rfl,zh rfl⟩
  |false=>
   go_wp2_with fail
   go_meet
   exact⟨by rw[if_neg (by rw[h67];decide)],zh rfl⟩
 case rest=>
 obtain⟨rfl,hcut⟩:=hcut;have ql:=hcut.out;subst ql;clear hcut;dsimp only at fh;generalize (if aX l a 67=true then a+1+aS (l.drop (a+1)) else a)=b at *
 go_wp2_with fail
 go_ret
 exact⟨aI (by rw[<- fh.out,ze];simp;try omega),rfl⟩
set_option maxRecDepth 100000 in
theorem rName_ok(l:Bs)(w:World)(h:bM l=true) :
  Calls Tryz.prog 63 #[.string ⟨l.toArray⟩] w fun e w'=>e=.returned (.bool true)/\w=w':=by
 obtain⟨h0,ub,eu,bk,hT,hF⟩:=uDR h;have HM:=zh (uIK l w (by omega));rw[uAA h]at HM;have sf:=zh bk;have h1i:¬ (l.length:Int)<1:=by omega
 have wo:¬ (32:Int)<(l.length:Int):=by omega
 have e1:(l==([84,82,85,69]:Bs))=false:=hT;have e2:(l==([70,65,76,83,69]:Bs))=false:=hF;have h95:=lT l[0] 95 95 rfl;clear h bk hT hF
 go_enter Tryz.func63,Tryz.ntmps63
 go_upto_region 1 with fail
 go_cut [34] (fun v wx=>v=.bool false/\Hid (wx=w))
 case first=>
  cases fg:bW l[0] with
  |true=>
   clear eu h95
   go_wp2_with (go_at_call 84;refine(dY _ _).mono ?_;rintro e w' ⟨rfl,rfl⟩)
   refine HM.out.mono ?_;rintro e w' ⟨rfl,rfl⟩
   go_wp2_with fail
   go_meet
   exact⟨rfl,zh rfl⟩
  |false=>
   have h2:(l[0]==95)=true:=by rw[fg]at eu;simpa using eu
   rw[h2]at h95;clear eu h2
   go_wp2_with (go_at_call 84;refine(dY _ _).mono ?_;rintro e w' ⟨rfl,rfl⟩)
   refine HM.out.mono ?_;rintro e w' ⟨rfl,rfl⟩
   go_wp2_with fail
   go_meet
   exact⟨rfl,zh rfl⟩
 case rest=>
 obtain⟨rfl,hcut⟩:=hcut;have ql:=hcut.out;subst ql;clear hcut eu h95 HM e1 e2
 go_wp2_with fail
 go_loop [3] (fun i=>∃ k:Nat,1<=k/\k<=l.length/\i=.int .i64 k) (fun i=>l.length-(intOf i).toNat)
 case atStart=>exact⟨1,zr,h0,rfl⟩
 case round=>
  obtain⟨k,dq,hk,rfl⟩:=hrel;by_cases hlt:k<l.length
  ·have mx:=lT l[k] 46 46 rfl;have wt:=lT l[k] 95 95 rfl;have hd:kC l[k]=true:=List.all_eq_true.1 sf.out _ (List.getElem_mem hlt);unfold kC at hd;cases d1:bW l[k] with
   |true=>
    clear hd
    go_wp2_with (first |(go_at_call 84;refine(dY _ _).mono ?_;rintro e w' ⟨rfl,rfl⟩) |(go_at_call 85;refine(eL _ _).mono ?_;rintro e w' ⟨rfl,rfl⟩))
    go_round
    case rel=>exact⟨k+1,by omega,by omega,by go_num⟩
    case measure=>simp[intOf];omega
   |false=>
    cases d2:aB l[k] with
    |true=>
     clear hd
     go_wp2_with (first |(go_at_call 84;refine(dY _ _).mono ?_;rintro e w' ⟨rfl,rfl⟩) |(go_at_call 85;refine(eL _ _).mono ?_;rintro e w' ⟨rfl,rfl⟩))
     go_round
     case rel=>exact⟨k+1,by omega,by omega,by go_num⟩
     case measure=>simp[intOf];omega
    |false=>
     rw[d1,d2]at hd;cases d3:(l[k]==46) with
     |true=>
      rw[d3]at mx;clear hd
      go_wp2_with (first |(go_at_call 84;refine(dY _ _).mono ?_;rintro e w' ⟨rfl,rfl⟩) |(go_at_call 85;refine(eL _ _).mono ?_;rintro e w' ⟨rfl,rfl⟩))
      go_round
      case rel=>exact⟨k+1,by omega,by omega,by go_num⟩
      case measure=>simp[intOf];omega
     |false=>
      have d4:(l[k]==95)=true:=by rw[d3]at hd;simpa using hd
      rw[d3]at mx;rw[d4]at wt;clear hd
      go_wp2_with (first |(go_at_call 84;refine(dY _ _).mono ?_;rintro e w' ⟨rfl,rfl⟩) |(go_at_call 85;refine(eL _ _).mono ?_;rintro e w' ⟨rfl,rfl⟩))
      go_round
      case rel=>exact⟨k+1,by omega,by omega,by go_num⟩
      case measure=>simp[intOf];omega
  go_wp2_with fail
  go_ret
  exact⟨rfl,rfl⟩
def TxtAt(w:World)(g:Nat)(xs:List Bs):Prop:=∀ j (h:j<xs.length),w.cell? ⟨g,j,none⟩=some (.string ⟨xs[j].toArray⟩)
theorem rIn_ok(s:Bs)(g cp:Nat)(xs:List Bs)(w:World)(hx:TxtAt w g xs)(hs:s∈xs)(hl:xs.length<=100) :
  Calls Tryz.prog 62 #[.string ⟨s.toArray⟩,.slice (some ⟨g,0,none⟩) xs.length cp] w fun e w'=>e=.returned (.bool true)/\w=w':=by
 have HX:=zh hx;have HS:=zh hs;clear hx hs
 go_enter Tryz.func62,Tryz.ntmps62
 go_wp2
 go_loop [5] (fun i=>∃ k:Nat,k<=xs.length/\i=.int .i64 k/\Hid (s∉xs.take k)) (fun i=>xs.length-(intOf i).toNat)
 case atStart=>exact⟨0,zm _,rfl,zh (by simp)⟩
 case round=>
  obtain⟨k,hk,rfl,HN⟩:=hrel;by_cases hlt:k<xs.length
  ·have x0:=HX.out k hlt;have ja:(k:Int)<(xs.length:Int):=by omega
   cases hd:(xs[k]==s)
   ·have HQ:Hid (s∉xs.take (k+1)):=zh (by
     rw[yw hlt,List.mem_append,yf];rintro(h|h)
     ·exact HN.out h
     rw[h]at hd;simp at hd)
    go_wp2_with fail
    go_round
    case rel=>exact⟨k+1,by omega,by go_num,HQ⟩
    case measure=>simp[intOf];omega
   go_wp2_with fail
   go_ret
   exact⟨rfl,rfl⟩
  exfalso
  exact HN.out (by rw[List.take_of_length_le (by omega)];exact HS.out)
theorem pB(c:Cor)(w:World) :
  Calls Tryz.prog 59 #[iC c] w fun e w'=>e=.returned (.bool (decide (c.row≠id0)&&decide (c.col≠id0)))/\Below w.heap.size w w':=by
 obtain⟨W1,bt⟩:∃ W1,W1=w.alloc (.cells (cL c) 36):=⟨_,rfl⟩
 have bu:=zh bt;have HL:Hid (Lies W1 w.heap.size 36 (cL c)):=zh (by rw[bt];exact Lies.new _ _ _);have HB:Hid (Below w.heap.size w W1):=zh (by rw[bt];exact zp _);clear bt;have x0:=HL.out.cell 0;have x1:=HL.out.cell 1;have x2:=HL.out.cell 2;have x3:=HL.out.cell 3;simp only[za,zb,zf]at x0 x1 x2 x3;have hlt:=HL.out.lt;obtain⟨r1,i7⟩:∃ b,decide (c.row≠id0)=b:=⟨_,rfl⟩
 obtain⟨r2,lh⟩:∃ b,decide (c.col≠id0)=b:=⟨_,rfl⟩
 have N1:∀ w:World,(binOp .neq 34 (idV c.row) (idV id0)).run Tryz.prog w=.ok (.bool r1) w:=fun w=>by rw[fU,i7]
 have N2:∀ w:World,(binOp .neq 34 (idV c.col) (idV id0)).run Tryz.prog w=.ok (.bool r2) w:=fun w=>by rw[fU,lh]
 rw[i7,lh];clear i7 lh
 go_enter Tryz.func59,Tryz.ntmps59
 go_upto_region 1 with fail
 rw[<- bu.out];generalize hq:w.heap.size=q at *;cases r1 <;> cases r2
 all_goals go_wp2_with fail
 all_goals go_ret
 all_goals exact⟨rfl,by first|exact HB.out |(rw[hq];exact HB.out)⟩
set_option maxRecDepth 100000 in
theorem rArea_ok(a b:Cor)(w:World)(h:cY a b=true) :
  Calls Tryz.prog 60 #[iC a,iC b] w fun e w'=>e=.returned (.bool true)/\Below w.heap.size w w':=by
 have HOA:=zh (fun W=>pB a W);have HOB:=zh (fun W=>pB b W);obtain⟨W1,bt⟩:∃ W1,W1=w.alloc (.cells (cL a) 36):=⟨_,rfl⟩
 obtain⟨W2,jp⟩:∃ W2,W2=W1.alloc (.cells (cL b) 36):=⟨_,rfl⟩
 have HLa:Hid (Lies W1 w.heap.size 36 (cL a)):=zh (by rw[bt];exact Lies.new _ _ _);have t8:W1.heap.size=w.heap.size+1:=by rw[bt];simp
 have HBa:Hid (Below w.heap.size w W1):=zh (by rw[bt];exact zp _);have iq:Hid (Lies W2 (w.heap.size+1) 36 (cL b)):=zh (by rw[jp,<- t8];exact Lies.new _ _ _);have mn:Hid (Below W1.heap.size W1 W2):=zh (by rw[jp];exact zp _);have mo:=zh (HLa.out.next mn.out);have cq:Hid (Below w.heap.size w W2):=zh (HBa.out.trans (mn.out.mono HBa.out.size));have bu:=zh bt;have HW2:=zh jp;clear bt jp t8 HLa HBa mn;unfold cY at h;obtain⟨r1,i7⟩:∃ b,decide (a.row≠id0)=b:=⟨_,rfl⟩
 obtain⟨k1,dq⟩:∃ b,decide (a.col≠id0)=b:=⟨_,rfl⟩
 obtain⟨r2,lh⟩:∃ x,decide (b.row≠id0)=x:=⟨_,rfl⟩
 obtain⟨k2,fm⟩:∃ x,decide (b.col≠id0)=x:=⟨_,rfl⟩
 have flip:∀ (x:IdR) (y:Bool),decide (x≠id0)=y->decide (x=id0)=!y:=fun x y e=>by rw[<- e];by_cases hx:x=id0 <;> simp[hx]
 have N1:∀ w:World,(binOp .neq 34 (idV a.row) (idV id0)).run Tryz.prog w=.ok (.bool r1) w:=fun w=>by rw[fU,i7]
 have N2:∀ w:World,(binOp .neq 34 (idV a.col) (idV id0)).run Tryz.prog w=.ok (.bool k1) w:=fun w=>by rw[fU,dq]
 have N3:∀ w:World,(binOp .neq 34 (idV b.row) (idV id0)).run Tryz.prog w=.ok (.bool r2) w:=fun w=>by rw[fU,lh]
 have N4:∀ w:World,(binOp .neq 34 (idV b.col) (idV id0)).run Tryz.prog w=.ok (.bool k2) w:=fun w=>by rw[fU,fm]
 have E1:∀ w:World,(binOp .eql 34 (idV a.row) (idV id0)).run Tryz.prog w=.ok (.bool (!r1)) w:=fun w=>by rw[xE,flip _ _ i7]
 have E2:∀ w:World,(binOp .eql 34 (idV a.col) (idV id0)).run Tryz.prog w=.ok (.bool (!k1)) w:=fun w=>by rw[xE,flip _ _ dq]
 have E3:∀ w:World,(binOp .eql 34 (idV b.row) (idV id0)).run Tryz.prog w=.ok (.bool (!r2)) w:=fun w=>by rw[xE,flip _ _ lh]
 have E4:∀ w:World,(binOp .eql 34 (idV b.col) (idV id0)).run Tryz.prog w=.ok (.bool (!k2)) w:=fun w=>by rw[xE,flip _ _ fm]
 rw[i7,dq]at HOA;rw[lh,fm]at HOB;dsimp only at h;rw[i7,dq,lh,fm]at h;clear i7 dq lh fm flip;obtain⟨ar,ac,afr,afc⟩:=a;obtain⟨br,bc,bfr,bfc⟩:=b;dsimp only at h N1 N2 N3 N4 E1 E2 E3 E4 HOA HOB mo iq ⊢;cases r1 <;> cases k1 <;> cases r2 <;> cases k2 <;> simp at h
 ·obtain⟨rfl,rfl⟩:=h;have x0:=mo.out.cell 0;have x1:=mo.out.cell 1;have x2:=mo.out.cell 2;have x3:=mo.out.cell 3;have x4:=mo.out.cell 4;have x5:=mo.out.cell 5;have y0:=iq.out.cell 0;have y1:=iq.out.cell 1;have y2:=iq.out.cell 2;have y3:=iq.out.cell 3;have y4:=iq.out.cell 4;have y5:=iq.out.cell 5;simp only[za,zb,zf]at x0 x1 x2 x3 x4 x5;simp only[za,zb,zf]at y0 y1 y2 y3 y4 y5
  go_enter Tryz.func60,Tryz.ntmps60
  go_upto_region 1 with fail
  rw[<- bu.out,<- HW2.out];generalize hq:w.heap.size=q at *
  go_wp2_with fail
  refine(HOA.out _).mono ?_;rintro e w3 ⟨rfl,hb⟩;have aq:=zh (cq.out.trans (hb.mono (by have:=cq.out.size;omega)));have gh:=zh (mo.out.next hb);have gj:=zh (iq.out.next hb);clear x0 x1 x2 x3 x4 x5;clear y0 y1 y2 y3 y4 y5;clear hb;have x0:=gh.out.cell 0;have x1:=gh.out.cell 1;have x2:=gh.out.cell 2;have x3:=gh.out.cell 3;have x4:=gh.out.cell 4;have x5:=gh.out.cell 5;have y0:=gj.out.cell 0;have y1:=gj.out.cell 1;have y2:=gj.out.cell 2;have y3:=gj.out.cell 3;have y4:=gj.out.cell 4;have y5:=gj.out.cell 5;simp only[za,zb,zf]at x0 x1 x2 x3 x4 x5;simp only[za,zb,zf]at y0 y1 y2 y3 y4 y5
  go_wp2_with fail
  go_ret
  exact⟨rfl,by first|exact aq.out |(rw[hq];exact aq.out)⟩
 ·obtain⟨rfl,rfl⟩:=h;have x0:=mo.out.cell 0;have x1:=mo.out.cell 1;have x2:=mo.out.cell 2;have x3:=mo.out.cell 3;have x4:=mo.out.cell 4;have x5:=mo.out.cell 5;have y0:=iq.out.cell 0;have y1:=iq.out.cell 1;have y2:=iq.out.cell 2;have y3:=iq.out.cell 3;have y4:=iq.out.cell 4;have y5:=iq.out.cell 5;simp only[za,zb,zf]at x0 x1 x2 x3 x4 x5;simp only[za,zb,zf]at y0 y1 y2 y3 y4 y5
  go_enter Tryz.func60,Tryz.ntmps60
  go_upto_region 1 with fail
  rw[<- bu.out,<- HW2.out];generalize hq:w.heap.size=q at *
  go_wp2_with fail
  refine(HOA.out _).mono ?_;rintro e w3 ⟨rfl,hb⟩;have aq:=zh (cq.out.trans (hb.mono (by have:=cq.out.size;omega)));have gh:=zh (mo.out.next hb);have gj:=zh (iq.out.next hb);clear x0 x1 x2 x3 x4 x5;clear y0 y1 y2 y3 y4 y5;clear hb;have x0:=gh.out.cell 0;have x1:=gh.out.cell 1;have x2:=gh.out.cell 2;have x3:=gh.out.cell 3;have x4:=gh.out.cell 4;have x5:=gh.out.cell 5;have y0:=gj.out.cell 0;have y1:=gj.out.cell 1;have y2:=gj.out.cell 2;have y3:=gj.out.cell 3;have y4:=gj.out.cell 4;have y5:=gj.out.cell 5;simp only[za,zb,zf]at x0 x1 x2 x3 x4 x5;simp only[za,zb,zf]at y0 y1 y2 y3 y4 y5
  go_wp2_with fail
  go_ret
  exact⟨rfl,by first|exact aq.out |(rw[hq];exact aq.out)⟩
 have x0:=mo.out.cell 0;have x1:=mo.out.cell 1;have x2:=mo.out.cell 2;have x3:=mo.out.cell 3;have x4:=mo.out.cell 4;have x5:=mo.out.cell 5;have y0:=iq.out.cell 0;have y1:=iq.out.cell 1;have y2:=iq.out.cell 2;have y3:=iq.out.cell 3;have y4:=iq.out.cell 4;have y5:=iq.out.cell 5;simp only[za,zb,zf]at x0 x1 x2 x3 x4 x5;simp only[za,zb,zf]at y0 y1 y2 y3 y4 y5
 go_enter Tryz.func60,Tryz.ntmps60
 go_upto_region 1 with fail
 rw[<- bu.out,<- HW2.out];generalize hq:w.heap.size=q at *
 go_wp2_with fail
 refine(HOA.out _).mono ?_;rintro e w3 ⟨rfl,hb⟩;have aq:=zh (cq.out.trans (hb.mono (by have:=cq.out.size;omega)));have gh:=zh (mo.out.next hb);have gj:=zh (iq.out.next hb);clear x0 x1 x2 x3 x4 x5;clear y0 y1 y2 y3 y4 y5;clear hb;have x0:=gh.out.cell 0;have x1:=gh.out.cell 1;have x2:=gh.out.cell 2;have x3:=gh.out.cell 3;have x4:=gh.out.cell 4;have x5:=gh.out.cell 5;have y0:=gj.out.cell 0;have y1:=gj.out.cell 1;have y2:=gj.out.cell 2;have y3:=gj.out.cell 3;have y4:=gj.out.cell 4;have y5:=gj.out.cell 5;simp only[za,zb,zf]at x0 x1 x2 x3 x4 x5;simp only[za,zb,zf]at y0 y1 y2 y3 y4 y5
 go_wp2_with fail
 refine(HOB.out _).mono ?_;rintro e w4 ⟨rfl,hb⟩;have cn:=zh (aq.out.trans (hb.mono (by have:=aq.out.size;omega)));clear hb
 go_wp2_with fail
 go_ret
 exact⟨rfl,by first|exact cn.out |(rw[hq];exact cn.out)⟩
theorem rNum_any(m e:Int)(w:World)(h1:-9223372036854775808<=m)(h2:m<=9223372036854775807) :
  Calls Tryz.prog 83 #[rI m e] w fun x w'=>x=.returned (.bool (cC m e))/\Below w.heap.size w w':=by
 have HC:=zh (fun W=>uEH m e W h1 h2);have HB:Hid (Below w.heap.size w (w.alloc (.cells #[.int .i64 m,.int .i64 e] 30))):=zh ((Below.refl _ w).alloc zr _)
 go_enter Tryz.func83,Tryz.ntmps83
 go_wp2_with fail
 refine(HC.out _).mono ?_;rintro x w2 ⟨rfl,hb⟩;have cq:=zh (HB.out.trans (hb.mono HB.out.size));clear hb HB
 go_wp2_with fail
 go_ret
 exact⟨rfl,cq.out⟩
set_option maxRecDepth 100000 in
theorem rLit_ok1(m e:Int)(w:World)(h1:-9223372036854775808<=m)(h2:m<=9223372036854775807)(hr:cC m e=true) :
  Calls Tryz.prog 58 #[mM ⟨1,m,e,[],false,0⟩] w fun x w'=>x=.returned (.bool true)/\Below w.heap.size w w':=by
 have HC:=zh (fun W=>rNum_any m e W h1 h2);rw[hr]at HC;clear h1 h2 hr;have HB:Hid (∀ W1,W1=w.alloc (.cells (jS ⟨1,m,e,[],false,0⟩) 32)->∀ cs,Below w.heap.size w (W1.alloc (.cells cs 32))):=zh (fun W1 h cs=>by rw[h];exact((Below.refl _ w).alloc zr _).alloc (by simp) _);have E:=fN 1 m e [] false 0 1 m e [] false 0;rw[show cG ⟨1,m,e,[],false,0⟩ ⟨1,m,e,[],false,0⟩=true from gZ _]at E
 go_enter Tryz.func58,Tryz.ntmps58
 go_wp2_with fail
 refine(HC.out _).mono ?_;rintro x w2 ⟨rfl,hb⟩;have cq:=zh ((HB.out _ rfl _).trans (hb.mono (by simp;omega)));clear hb HB
 go_wp2_with fail
 go_ret
 exact⟨rfl,cq.out⟩
set_option maxRecDepth 100000 in
theorem rLit_ok2(t:Bs)(w:World)(ht:t.length<=255) :
  Calls Tryz.prog 58 #[mM ⟨2,0,0,t,false,0⟩] w fun x w'=>x=.returned (.bool true)/\Below w.heap.size w w':=by
 have zt:(t.length:Int)<=255:=by omega
 have HB:Hid (∀ W1,W1=w.alloc (.cells (jS ⟨2,0,0,t,false,0⟩) 32)->∀ cs,Below w.heap.size w (W1.alloc (.cells cs 32))):=zh (fun W1 h cs=>by rw[h];exact((Below.refl _ w).alloc zr _).alloc (by simp) _);have E:=fN 2 0 0 t false 0 2 0 0 t false 0;rw[show cG ⟨2,0,0,t,false,0⟩ ⟨2,0,0,t,false,0⟩=true from gZ _]at E
 go_enter Tryz.func58,Tryz.ntmps58
 go_wp2_with fail
 go_ret
 exact⟨rfl,HB.out _ rfl _⟩
set_option maxRecDepth 100000 in
theorem rLit_ok3(b:Bool)(w:World) :
  Calls Tryz.prog 58 #[mM ⟨3,0,0,[],b,0⟩] w fun x w'=>x=.returned (.bool true)/\Below w.heap.size w w':=by
 have HB:Hid (∀ W1,W1=w.alloc (.cells (jS ⟨3,0,0,[],b,0⟩) 32)->∀ cs,Below w.heap.size w (W1.alloc (.cells cs 32))):=zh (fun W1 h cs=>by rw[h];exact((Below.refl _ w).alloc zr _).alloc (by simp) _);have E:=fN 3 0 0 [] b 0 3 0 0 [] b 0;rw[show cG ⟨3,0,0,[],b,0⟩ ⟨3,0,0,[],b,0⟩=true from gZ _]at E
 go_enter Tryz.func58,Tryz.ntmps58
 go_wp2_with fail
 go_ret
 exact⟨rfl,HB.out _ rfl _⟩
set_option maxRecDepth 100000 in
theorem rLit_ok4(f:Int)(w:World)(h1:1<=f)(h2:f<=9) :
  Calls Tryz.prog 58 #[mM ⟨4,0,0,[],false,f⟩] w fun x w'=>x=.returned (.bool true)/\Below w.heap.size w w':=by
 have HB:Hid (∀ W1,W1=w.alloc (.cells (jS ⟨4,0,0,[],false,f⟩) 32)->∀ cs,Below w.heap.size w (W1.alloc (.cells cs 32))):=zh (fun W1 h cs=>by rw[h];exact((Below.refl _ w).alloc zr _).alloc (by simp) _);have E:=fN 4 0 0 [] false f 4 0 0 [] false f;rw[show cG ⟨4,0,0,[],false,f⟩ ⟨4,0,0,[],false,f⟩=true from gZ _]at E
 go_enter Tryz.func58,Tryz.ntmps58
 go_wp2_with fail
 go_ret
 exact⟨rfl,HB.out _ rfl _⟩
theorem rLit_ok(v:Val)(w:World)(h0:v.kind≠0)(hr:bV v=true) :
  Calls Tryz.prog 58 #[mM v] w fun x w'=>x=.returned (.bool true)/\Below w.heap.size w w':=by
 have hf:=rD hr;obtain⟨k,m,e,t,tr,f⟩:=v;unfold bV at hr;simp only[yh,Bool.not_eq_true',Bool.or_eq_false_iff,Bool.and_eq_false_iff,decide_eq_false_iff_not,decide_eq_true_eq,Bool.not_eq_false']at hr;dsimp only at h0 hr hf;obtain⟨⟨⟨⟨a1,a2⟩,a3⟩,a4⟩,hr⟩:=hr;by_cases k1:k=1
 ·subst k1;obtain rfl:t=[]:=Classical.byContradiction fun h=>(a2.elim (fun g=>g (by decide)) (fun g=>g h))
  obtain rfl:tr=false:=a3.elim (fun g=>absurd (by decide) g) id;obtain rfl:f=0:=Classical.byContradiction fun h=>(a4.elim (fun g=>g (by decide)) (fun g=>g h))
  exact rLit_ok1 m e w hf.1 hf.2.1 (by simpa using hr)
 obtain⟨rfl,rfl⟩:m=0/\e=0:=a1.elim (fun g=>absurd k1 g) id;by_cases k2:k=2
 ·subst k2;obtain rfl:tr=false:=a3.elim (fun g=>absurd (by decide) g) id;obtain rfl:f=0:=Classical.byContradiction fun h=>(a4.elim (fun g=>g (by decide)) (fun g=>g h))
  exact rLit_ok2 t w (by simpa using hr)
 obtain rfl:t=[]:=Classical.byContradiction fun h=>(a2.elim (fun g=>g k2) (fun g=>g h))
 rw[if_neg k1,if_neg k2]at hr;by_cases k3:k=3
 ·subst k3;obtain rfl:f=0:=Classical.byContradiction fun h=>(a4.elim (fun g=>g (by decide)) (fun g=>g h))
  exact rLit_ok3 tr w
 obtain rfl:tr=false:=a3.elim (fun g=>absurd k3 g) id;simp[h0,k3]at hr;obtain⟨⟨rfl,h1⟩,h2⟩:=hr;exact rLit_ok4 f w h1 h2
theorem uGI(w:World)(t:TypeId)(xs:List Bs):TxtAt (w.alloc (.cells (xs.map fun s=>Value.string ⟨s.toArray⟩).toArray t)) w.heap.size xs:=fun j hj=>by
 rw[(Lies.new w t _).cell j];simp[hj]
theorem aR{P:Program}{ops:Array Oper}{rest:List Oper}{op:Oper}{a:Act}{w:World}{Q:Exit->Act->World->Prop}(hw:Region.wanted op (yielded ops a.tmps)=true)(ty:TypeId)(x:Operand)(ho:op.op=.load ty x)
  (b o:Nat) (hx:a.eval x=.pointer (some ⟨b,o,none⟩)) (cs:List Value) (d:TypeDesc) (hc:w.rangeAt b o cs)
  (hu:P.underlying ty=some d) (hd:d.isRow=true) (hi:(P.info? ty).map (·.size)=some cs.length)
  (h:wpList P ops Q rest (a.put op.dst (.agg cs.toArray)) w):wpList P ops Q (op::rest) a w :=
 BigFrame.wpList_want hw fun _ hK=>wp_load_mid ty x ho b o hx cs d hc hu hd hi (hK _ _ h)
theorem Lies.putMid{b:Nat}{t:TypeId}:∀ (vs:List Value) (i:Nat) (W:World) (cs:List Value),Lies W b t cs.toArray->i+vs.length<=cs.length->Lies (W.setCells b i vs) b t (cs.take i++vs++cs.drop (i+vs.length)).toArray
 | [],i,_,cs,h,_=>by
  have:cs.take i++[]++cs.drop (i+([]:List Value).length)=cs:=by simp
  rw[this];exact h
 |v::r,i,W,cs,h,hl=>by
  have hi:i<cs.length:=by simp at hl;omega
  have h0:Lies (W.setCell ⟨b,i,none⟩ v) b t (cs.set i v).toArray:=by
   have:=h.put i v
   rwa [yz]at this
  have h1:=Lies.putMid r (i+1) _ _ h0 (by simp at hl ⊢;omega);have e:(cs.set i v).take (i+1)++r++(cs.set i v).drop (i+1+r.length)=cs.take i++(v::r)++cs.drop (i+(v::r).length):=by
   rw[yw (by simpa using hi),List.getElem_set_self,List.take_set_of_le zr,List.drop_set_of_lt (by omega)];simp[Nat.add_assoc,Nat.add_comm 1]
  rw[<- e];exact h1
theorem Lies.rangeL{w:World}{b:Nat}{t:TypeId}{C:List Value}(h:Lies w b t C.toArray):w.rangeAt b 0 C:=by
 have:=h.range
 rwa [List.toList_toArray]at this
theorem gR{C:List Value}{h:NodeH}{A:Option Addr}{n cp:Nat}(e:C.toArray=aY h A n cp):(Tryz.prog.info? 41).map (·.size)=some C.length:=by
 have h2:C.length=22:=by rw[<- yd,e];rfl
 rw[h2];exact aF
set_option maxRecDepth 1000000 in
theorem rOwn9(l:List Tree)(A:Option Addr)(cp:Nat)(Cn:List Value)(w:World)(hk:KidsOk w [] A l)(hs:(Tree.mk ⟨9,aD,[],aG,aG,0⟩ l).size<=1000000)(be:Hid (Cn.toArray=aY ⟨9,aD,[],aG,aG,0⟩ A l.length cp))(hl:l.length=0) :
  Calls Tryz.prog 39 #[.agg Cn.toArray] w fun e w'=>e=.returned (.bool true)/\Below w.heap.size w w':=by
 have qu:((l.length:Int)==0)=true:=by rw[hl];rfl
 clear hl;have dv:=zh hs;clear hs;have HK:=zh hk;clear hk;have ui:l.length<=1000000:=by have h1:=cV l;have h2:bB l+1<=1000000:=dv.out;omega
 generalize cf:(w.alloc (.cells Cn.toArray 41))=W1;have HL:Hid (Lies W1 w.heap.size 41 Cn.toArray):=zh (by rw[<- cf];exact Lies.new _ _ _);have HB:Hid (Below w.heap.size w W1):=zh (by rw[<- cf];exact zp _);have c8:Hid (W1.heap.size=w.heap.size+1):=zh (by rw[<- cf];simp);have bu:=zh cf;clear cf;obtain⟨Cm,eo⟩:∃ C:List Value,#[.int .i64 9,.int .i64 0,.int .i64 0,.int .i64 0,.string ⟨#[]⟩,.bool false,.int .i64 0,.string ⟨#[]⟩,.int .i64 0,.int .i64 0,.int .i64 0,.int .i64 0,.bool false,.bool false,.int .i64 0,.int .i64 0,.int .i64 0,.int .i64 0,.bool false,.bool false,.int .i64 0,.slice (A) l.length cp]=C.toArray:=⟨_,rfl⟩
 have fw:Hid (Cm.toArray=aY ⟨9,aD,[],aG,aG,0⟩ (A) l.length cp):=zh eo.symm;have ah:Cm.length=22:=by rw[<- yd,<- eo];rfl
 have HT:=zh (dR (W':=W1) ah);have yo:Hid (Cm.toArray.all (·.oneCell')=true):=zh (by rw[fw.out];exact cZ _ _ _ _);have dw:Hid ((Tryz.prog.info? 41).map (·.size)=some Cm.toArray.size):=zh (by rw[yd,ah];exact aF);have ce:Hid (Lies (World.setCells (W1.alloc (.cells aA.toArray 41)) W1.heap.size 0 Cm) W1.heap.size 41 Cm.toArray):=zh ((Lies.new W1 41 aA.toArray).putAll (by rw[ah];rfl));have b9:Below W1.heap.size W1 (World.setCells (W1.alloc (.cells aA.toArray 41)) W1.heap.size 0 Cm):=dI (aT (.inr zr) Cm 0 ((Kp.refl _ _).alloc _));have b6:=zh (HL.out.next b9);have aq:=zh (HB.out.trans (b9.mono HB.out.size));clear b9;have fi:=zh eo;clear eo;have x0:=HL.out.cell 0;have x21:=HL.out.cell 21;rw[be.out]at x0 x21;simp only[za,zb,zf]at x0 x21
 go_enter Tryz.func39,Tryz.ntmps39
 go_upto_region 1 with fail
 rw[bu.out];clear bu;generalize hQ:w.heap.size=q at *
 go_upto_region 2 with(first |(refine yq rfl 41 (.tmp 3) (.tmp 9) rfl W1.heap.size 0 Cm.toArray rfl (congrArg Value.agg fi.out) HT.out dw.out yo.out ?_;change wpList _ _ _ _ _ (World.setCells _ W1.heap.size 0 Cm)))
 generalize World.setCells _ _ _ _=W3 at ce b6 aq ⊢;rw[fi.out];clear x0 x21;have dt:=c8.out;generalize W1.heap.size=q1 at *;subst dt;clear HL HB c8 fi HT yo dw ah;rw[fw.out,<- be.out]at ce;have x0:=b6.out.cell 0;have x21:=b6.out.cell 21;rw[be.out]at x0 x21;simp only[za,zb,zf]at x0 x21;have my:=zh (ce.out.rangeL);have je:=zh (b6.out.rangeL);have HI:=zh (gR be.out);have bo:=zh (dF 1000000 zr (.mk ⟨9,aD,[],aG,aG,0⟩ l) (.mk ⟨9,aD,[],aG,aG,0⟩ l) _ _ W3 dv.out ⟨A,cp,be.out,HK.out.kp (Kp.of_below (by rw[hQ];exact aq.out))⟩ ⟨A,cp,be.out,HK.out.kp (Kp.of_below (by rw[hQ];exact aq.out))⟩);rw[dS]at bo
 go_wp2_with (first |(refine aR (Eq.trans (aH rfl rfl rfl rfl) rfl) 41 (.tmp 3) rfl (q+1) 0 rfl Cn _ my.out Tryz.underlying41 rfl HI.out ?_) |(refine aR (Eq.trans (aH rfl rfl rfl rfl) rfl) 41 (.tmp 1) rfl q 0 rfl Cn _ je.out Tryz.underlying41 rfl HI.out ?_))
 refine bo.out.mono ?_;rintro e w9 ⟨rfl,fs⟩;have fv:=zh (aq.out.trans (fs.mono (by have:=aq.out.size;omega)));clear fs
 go_wp2_with fail
 go_ret
 exact⟨rfl,by first|exact fv.out |(rw[hQ];exact fv.out)⟩
set_option maxRecDepth 1000000 in
theorem rOwn5(s:Bs)(l:List Tree)(A:Option Addr)(cp:Nat)(Cn:List Value)(w:World)(hk:KidsOk w [] A l)(hs:(Tree.mk ⟨5,aD,s,aG,aG,0⟩ l).size<=1000000)(be:Hid (Cn.toArray=aY ⟨5,aD,s,aG,aG,0⟩ A l.length cp))(hb:s∈([[45],[43],[37]]:List Bs))(hl:l.length=1) :
  Calls Tryz.prog 39 #[.agg Cn.toArray] w fun e w'=>e=.returned (.bool true)/\Below w.heap.size w w':=by
 have HMEM:=zh hb;clear hb;have qu:((l.length:Int)==1)=true:=by rw[hl];rfl
 clear hl;have dv:=zh hs;clear hs;have HK:=zh hk;clear hk;have ui:l.length<=1000000:=by have h1:=cV l;have h2:bB l+1<=1000000:=dv.out;omega
 generalize cf:(w.alloc (.cells Cn.toArray 41))=W1;have HL:Hid (Lies W1 w.heap.size 41 Cn.toArray):=zh (by rw[<- cf];exact Lies.new _ _ _);have HB:Hid (Below w.heap.size w W1):=zh (by rw[<- cf];exact zp _);have c8:Hid (W1.heap.size=w.heap.size+1):=zh (by rw[<- cf];simp);have bu:=zh cf;clear cf;obtain⟨Cm,eo⟩:∃ C:List Value,#[.int .i64 5,.int .i64 0,.int .i64 0,.int .i64 0,.string ⟨#[]⟩,.bool false,.int .i64 0,.string ⟨#[]⟩,.int .i64 0,.int .i64 0,.int .i64 0,.int .i64 0,.bool false,.bool false,.int .i64 0,.int .i64 0,.int .i64 0,.int .i64 0,.bool false,.bool false,.int .i64 0,.slice (A) l.length cp]=C.toArray:=⟨_,rfl⟩
 have fw:Hid (Cm.toArray=aY ⟨5,aD,[],aG,aG,0⟩ (A) l.length cp):=zh eo.symm;have ah:Cm.length=22:=by rw[<- yd,<- eo];rfl
 have HT:=zh (dR (W':=W1) ah);have yo:Hid (Cm.toArray.all (·.oneCell')=true):=zh (by rw[fw.out];exact cZ _ _ _ _);have dw:Hid ((Tryz.prog.info? 41).map (·.size)=some Cm.toArray.size):=zh (by rw[yd,ah];exact aF);have ce:Hid (Lies (World.setCells (W1.alloc (.cells aA.toArray 41)) W1.heap.size 0 Cm) W1.heap.size 41 Cm.toArray):=zh ((Lies.new W1 41 aA.toArray).putAll (by rw[ah];rfl));have b9:Below W1.heap.size W1 (World.setCells (W1.alloc (.cells aA.toArray 41)) W1.heap.size 0 Cm):=dI (aT (.inr zr) Cm 0 ((Kp.refl _ _).alloc _));have b6:=zh (HL.out.next b9);have aq:=zh (HB.out.trans (b9.mono HB.out.size));clear b9;have fi:=zh eo;clear eo;have x0:=HL.out.cell 0;have x21:=HL.out.cell 21;rw[be.out]at x0 x21;simp only[za,zb,zf]at x0 x21
 go_enter Tryz.func39,Tryz.ntmps39
 go_upto_region 1 with fail
 rw[bu.out];clear bu;generalize hQ:w.heap.size=q at *
 go_upto_region 2 with(first |(refine yq rfl 41 (.tmp 3) (.tmp 9) rfl W1.heap.size 0 Cm.toArray rfl (congrArg Value.agg fi.out) HT.out dw.out yo.out ?_;change wpList _ _ _ _ _ (World.setCells _ W1.heap.size 0 Cm)))
 generalize World.setCells _ _ _ _=W3 at ce b6 aq ⊢;rw[fi.out];clear x0 x21;have dt:=c8.out;generalize W1.heap.size=q1 at *;subst dt;clear HL HB c8 fi HT yo dw ah;have x0:=b6.out.cell 0;have x7:=b6.out.cell 7;rw[be.out]at x0 x7;simp only[za,zb,zf]at x0 x7;have y7:=ce.out.cell 7;have yf7:=ce.out.frozen 7;rw[fw.out]at y7;simp only[za,zb,zf]at y7
 go_upto_region 19 with fail
 clear x0 x7;clear y7 yf7;have ft:=ce.out;rw[fw.out]at ft;have ei:Hid (Lies _ (q+1) 41 Cn.toArray):=zh (by rw[be.out];exact(ft.put 7 (.string ⟨s.toArray⟩)));have an:=zh (aK b6.out (b:=q+1) (by omega) 7 (.string ⟨s.toArray⟩));have cn:=zh (aq.out.setCell (p:=⟨q+1,7,none⟩) (Nat.le_succ q) (.string ⟨s.toArray⟩));generalize World.setCell _ _ _=W4 at ei an cn ⊢;clear ce b6 aq ft;have x7:=an.out.cell 7;have x21:=an.out.cell 21;rw[be.out]at x7 x21;simp only[za,zb,zf]at x7 x21
 go_wp2_with fail
 have ij:Below W4.heap.size W4 _:=zp (.cells (([[45],[43],[37]]:List Bs).map fun s=>Value.string ⟨s.toArray⟩).toArray 9);have HTX:=zh (uGI W4 9 [[45],[43],[37]]);change Calls _ _ _ (World.alloc W4 (.cells (([[45],[43],[37]]:List Bs).map fun s=>Value.string ⟨s.toArray⟩).toArray 9)) _;generalize World.alloc _ _=w5 at ij HTX ⊢;refine(rIn_ok s _ _ [[45],[43],[37]] w5 HTX.out HMEM.out (by decide)).mono ?_;rintro e w6 ⟨rfl,rfl⟩;clear x7 x21;have de:=zh (cn.out.trans (ij.mono (by have:=cn.out.size;omega)));have me:=zh (ei.out.next ij);have jf:=zh (an.out.next ij);clear ij;have z21:=jf.out.cell 21;rw[be.out]at z21;simp only[za,zb,zf]at z21;have my:=zh (me.out.rangeL);have je:=zh (jf.out.rangeL);have HI:=zh (gR be.out)
 have bo:=zh (dF 1000000 zr (.mk ⟨5,aD,s,aG,aG,0⟩ l) (.mk ⟨5,aD,s,aG,aG,0⟩ l) _ _ w5 dv.out ⟨A,cp,be.out,HK.out.kp (Kp.of_below (by rw[hQ];exact de.out))⟩ ⟨A,cp,be.out,HK.out.kp (Kp.of_below (by rw[hQ];exact de.out))⟩);rw[dS]at bo
 go_wp2_with (first |(refine aR (Eq.trans (aH rfl rfl rfl rfl) rfl) 41 (.tmp 3) rfl (q+1) 0 rfl Cn _ my.out Tryz.underlying41 rfl HI.out ?_) |(refine aR (Eq.trans (aH rfl rfl rfl rfl) rfl) 41 (.tmp 1) rfl q 0 rfl Cn _ je.out Tryz.underlying41 rfl HI.out ?_))
 refine bo.out.mono ?_;rintro e w9 ⟨rfl,fs⟩;have fv:=zh (de.out.trans (fs.mono (by have:=de.out.size;omega)));clear fs
 go_wp2_with fail
 go_ret
 exact⟨rfl,by first|exact fv.out |(rw[hQ];exact fv.out)⟩
set_option maxRecDepth 1000000 in
theorem rOwn6(s:Bs)(l:List Tree)(A:Option Addr)(cp:Nat)(Cn:List Value)(w:World)(hk:KidsOk w [] A l)(hs:(Tree.mk ⟨6,aD,s,aG,aG,0⟩ l).size<=1000000)(be:Hid (Cn.toArray=aY ⟨6,aD,s,aG,aG,0⟩ A l.length cp))(hb:s∈([[43],[45],[42],[47],[94],[38],[61],[60,62],[60],[60,61],[62],[62,61]]:List Bs))(hl:l.length=2) :
  Calls Tryz.prog 39 #[.agg Cn.toArray] w fun e w'=>e=.returned (.bool true)/\Below w.heap.size w w':=by
 have HMEM:=zh hb;clear hb;have qu:((l.length:Int)==2)=true:=by rw[hl];rfl
 clear hl;have dv:=zh hs;clear hs;have HK:=zh hk;clear hk;have ui:l.length<=1000000:=by have h1:=cV l;have h2:bB l+1<=1000000:=dv.out;omega
 generalize cf:(w.alloc (.cells Cn.toArray 41))=W1;have HL:Hid (Lies W1 w.heap.size 41 Cn.toArray):=zh (by rw[<- cf];exact Lies.new _ _ _);have HB:Hid (Below w.heap.size w W1):=zh (by rw[<- cf];exact zp _);have c8:Hid (W1.heap.size=w.heap.size+1):=zh (by rw[<- cf];simp);have bu:=zh cf;clear cf;obtain⟨Cm,eo⟩:∃ C:List Value,#[.int .i64 6,.int .i64 0,.int .i64 0,.int .i64 0,.string ⟨#[]⟩,.bool false,.int .i64 0,.string ⟨#[]⟩,.int .i64 0,.int .i64 0,.int .i64 0,.int .i64 0,.bool false,.bool false,.int .i64 0,.int .i64 0,.int .i64 0,.int .i64 0,.bool false,.bool false,.int .i64 0,.slice (A) l.length cp]=C.toArray:=⟨_,rfl⟩
 have fw:Hid (Cm.toArray=aY ⟨6,aD,[],aG,aG,0⟩ (A) l.length cp):=zh eo.symm;have ah:Cm.length=22:=by rw[<- yd,<- eo];rfl
 have HT:=zh (dR (W':=W1) ah);have yo:Hid (Cm.toArray.all (·.oneCell')=true):=zh (by rw[fw.out];exact cZ _ _ _ _);have dw:Hid ((Tryz.prog.info? 41).map (·.size)=some Cm.toArray.size):=zh (by rw[yd,ah];exact aF);have ce:Hid (Lies (World.setCells (W1.alloc (.cells aA.toArray 41)) W1.heap.size 0 Cm) W1.heap.size 41 Cm.toArray):=zh ((Lies.new W1 41 aA.toArray).putAll (by rw[ah];rfl));have b9:Below W1.heap.size W1 (World.setCells (W1.alloc (.cells aA.toArray 41)) W1.heap.size 0 Cm):=dI (aT (.inr zr) Cm 0 ((Kp.refl _ _).alloc _));have b6:=zh (HL.out.next b9);have aq:=zh (HB.out.trans (b9.mono HB.out.size));clear b9;have fi:=zh eo;clear eo;have x0:=HL.out.cell 0;have x21:=HL.out.cell 21;rw[be.out]at x0 x21;simp only[za,zb,zf]at x0 x21
 go_enter Tryz.func39,Tryz.ntmps39
 go_upto_region 1 with fail
 rw[bu.out];clear bu;generalize hQ:w.heap.size=q at *
 go_upto_region 2 with(first |(refine yq rfl 41 (.tmp 3) (.tmp 9) rfl W1.heap.size 0 Cm.toArray rfl (congrArg Value.agg fi.out) HT.out dw.out yo.out ?_;change wpList _ _ _ _ _ (World.setCells _ W1.heap.size 0 Cm)))
 generalize World.setCells _ _ _ _=W3 at ce b6 aq ⊢;rw[fi.out];clear x0 x21;have dt:=c8.out;generalize W1.heap.size=q1 at *;subst dt;clear HL HB c8 fi HT yo dw ah;have x0:=b6.out.cell 0;have x7:=b6.out.cell 7;rw[be.out]at x0 x7;simp only[za,zb,zf]at x0 x7;have y7:=ce.out.cell 7;have yf7:=ce.out.frozen 7;rw[fw.out]at y7;simp only[za,zb,zf]at y7
 go_upto_region 22 with fail
 clear x0 x7;clear y7 yf7;have ft:=ce.out;rw[fw.out]at ft;have ei:Hid (Lies _ (q+1) 41 Cn.toArray):=zh (by rw[be.out];exact(ft.put 7 (.string ⟨s.toArray⟩)));have an:=zh (aK b6.out (b:=q+1) (by omega) 7 (.string ⟨s.toArray⟩));have cn:=zh (aq.out.setCell (p:=⟨q+1,7,none⟩) (Nat.le_succ q) (.string ⟨s.toArray⟩));generalize World.setCell _ _ _=W4 at ei an cn ⊢;clear ce b6 aq ft;have x7:=an.out.cell 7;have x21:=an.out.cell 21;rw[be.out]at x7 x21;simp only[za,zb,zf]at x7 x21
 go_wp2_with fail
 have ij:Below W4.heap.size W4 _:=zp (.cells (([[43],[45],[42],[47],[94],[38],[61],[60,62],[60],[60,61],[62],[62,61]]:List Bs).map fun s=>Value.string ⟨s.toArray⟩).toArray 9);have HTX:=zh (uGI W4 9 [[43],[45],[42],[47],[94],[38],[61],[60,62],[60],[60,61],[62],[62,61]]);change Calls _ _ _ (World.alloc W4 (.cells (([[43],[45],[42],[47],[94],[38],[61],[60,62],[60],[60,61],[62],[62,61]]:List Bs).map fun s=>Value.string ⟨s.toArray⟩).toArray 9)) _;generalize World.alloc _ _=w5 at ij HTX ⊢;refine(rIn_ok s _ _ [[43],[45],[42],[47],[94],[38],[61],[60,62],[60],[60,61],[62],[62,61]] w5 HTX.out HMEM.out (by decide)).mono ?_;rintro e w6 ⟨rfl,rfl⟩;clear x7 x21;have de:=zh (cn.out.trans (ij.mono (by have:=cn.out.size;omega)));have me:=zh (ei.out.next ij);have jf:=zh (an.out.next ij);clear ij;have z21:=jf.out.cell 21;rw[be.out]at z21
 simp only[za,zb,zf]at z21;have my:=zh (me.out.rangeL);have je:=zh (jf.out.rangeL);have HI:=zh (gR be.out);have bo:=zh (dF 1000000 zr (.mk ⟨6,aD,s,aG,aG,0⟩ l) (.mk ⟨6,aD,s,aG,aG,0⟩ l) _ _ w5 dv.out ⟨A,cp,be.out,HK.out.kp (Kp.of_below (by rw[hQ];exact de.out))⟩ ⟨A,cp,be.out,HK.out.kp (Kp.of_below (by rw[hQ];exact de.out))⟩);rw[dS]at bo
 go_wp2_with (first |(refine aR (Eq.trans (aH rfl rfl rfl rfl) rfl) 41 (.tmp 3) rfl (q+1) 0 rfl Cn _ my.out Tryz.underlying41 rfl HI.out ?_) |(refine aR (Eq.trans (aH rfl rfl rfl rfl) rfl) 41 (.tmp 1) rfl q 0 rfl Cn _ je.out Tryz.underlying41 rfl HI.out ?_))
 refine bo.out.mono ?_;rintro e w9 ⟨rfl,fs⟩;have fv:=zh (de.out.trans (fs.mono (by have:=de.out.size;omega)));clear fs
 go_wp2_with fail
 go_ret
 exact⟨rfl,by first|exact fv.out |(rw[hQ];exact fv.out)⟩
set_option maxRecDepth 1000000 in
theorem rOwn7(s:Bs)(l:List Tree)(A:Option Addr)(cp:Nat)(Cn:List Value)(w:World)(hk:KidsOk w [] A l)(hs:(Tree.mk ⟨7,aD,s,aG,aG,0⟩ l).size<=1000000)(be:Hid (Cn.toArray=aY ⟨7,aD,s,aG,aG,0⟩ A l.length cp))(hb:bM s=true)(hl:l.length=0) :
  Calls Tryz.prog 39 #[.agg Cn.toArray] w fun e w'=>e=.returned (.bool true)/\Below w.heap.size w w':=by
 have HNM:=zh hb;clear hb;have qu:((l.length:Int)==0)=true:=by rw[hl];rfl
 clear hl;have dv:=zh hs;clear hs;have HK:=zh hk;clear hk;have ui:l.length<=1000000:=by have h1:=cV l;have h2:bB l+1<=1000000:=dv.out;omega
 generalize cf:(w.alloc (.cells Cn.toArray 41))=W1;have HL:Hid (Lies W1 w.heap.size 41 Cn.toArray):=zh (by rw[<- cf];exact Lies.new _ _ _);have HB:Hid (Below w.heap.size w W1):=zh (by rw[<- cf];exact zp _);have c8:Hid (W1.heap.size=w.heap.size+1):=zh (by rw[<- cf];simp);have bu:=zh cf;clear cf;obtain⟨Cm,eo⟩:∃ C:List Value,#[.int .i64 7,.int .i64 0,.int .i64 0,.int .i64 0,.string ⟨#[]⟩,.bool false,.int .i64 0,.string ⟨#[]⟩,.int .i64 0,.int .i64 0,.int .i64 0,.int .i64 0,.bool false,.bool false,.int .i64 0,.int .i64 0,.int .i64 0,.int .i64 0,.bool false,.bool false,.int .i64 0,.slice (A) l.length cp]=C.toArray:=⟨_,rfl⟩
 have fw:Hid (Cm.toArray=aY ⟨7,aD,[],aG,aG,0⟩ (A) l.length cp):=zh eo.symm;have ah:Cm.length=22:=by rw[<- yd,<- eo];rfl
 have HT:=zh (dR (W':=W1) ah);have yo:Hid (Cm.toArray.all (·.oneCell')=true):=zh (by rw[fw.out];exact cZ _ _ _ _);have dw:Hid ((Tryz.prog.info? 41).map (·.size)=some Cm.toArray.size):=zh (by rw[yd,ah];exact aF);have ce:Hid (Lies (World.setCells (W1.alloc (.cells aA.toArray 41)) W1.heap.size 0 Cm) W1.heap.size 41 Cm.toArray):=zh ((Lies.new W1 41 aA.toArray).putAll (by rw[ah];rfl));have b9:Below W1.heap.size W1 (World.setCells (W1.alloc (.cells aA.toArray 41)) W1.heap.size 0 Cm):=dI (aT (.inr zr) Cm 0 ((Kp.refl _ _).alloc _));have b6:=zh (HL.out.next b9);have aq:=zh (HB.out.trans (b9.mono HB.out.size));clear b9;have fi:=zh eo;clear eo;have x0:=HL.out.cell 0;have x21:=HL.out.cell 21;rw[be.out]at x0 x21;simp only[za,zb,zf]at x0 x21
 go_enter Tryz.func39,Tryz.ntmps39
 go_upto_region 1 with fail
 rw[bu.out];clear bu;generalize hQ:w.heap.size=q at *
 go_upto_region 2 with(first |(refine yq rfl 41 (.tmp 3) (.tmp 9) rfl W1.heap.size 0 Cm.toArray rfl (congrArg Value.agg fi.out) HT.out dw.out yo.out ?_;change wpList _ _ _ _ _ (World.setCells _ W1.heap.size 0 Cm)))
 generalize World.setCells _ _ _ _=W3 at ce b6 aq ⊢;rw[fi.out];clear x0 x21;have dt:=c8.out;generalize W1.heap.size=q1 at *;subst dt;clear HL HB c8 fi HT yo dw ah;have x0:=b6.out.cell 0;have x7:=b6.out.cell 7;rw[be.out]at x0 x7;simp only[za,zb,zf]at x0 x7;have y7:=ce.out.cell 7;have yf7:=ce.out.frozen 7;rw[fw.out]at y7;simp only[za,zb,zf]at y7
 go_upto_region 25 with fail
 clear x0 x7;clear y7 yf7;have ft:=ce.out;rw[fw.out]at ft;have ei:Hid (Lies _ (q+1) 41 Cn.toArray):=zh (by rw[be.out];exact(ft.put 7 (.string ⟨s.toArray⟩)));have an:=zh (aK b6.out (b:=q+1) (by omega) 7 (.string ⟨s.toArray⟩));have cn:=zh (aq.out.setCell (p:=⟨q+1,7,none⟩) (Nat.le_succ q) (.string ⟨s.toArray⟩));generalize World.setCell _ _ _=W4 at ei an cn ⊢;clear ce b6 aq ft;have x7:=an.out.cell 7;have x21:=an.out.cell 21;rw[be.out]at x7 x21;simp only[za,zb,zf]at x7 x21
 go_wp2_with fail
 refine(rName_ok s _ HNM.out).mono ?_;rintro e w5 ⟨rfl,rfl⟩;have my:=zh (ei.out.rangeL);have je:=zh (an.out.rangeL);have HI:=zh (gR be.out);have bo:=zh (dF 1000000 zr (.mk ⟨7,aD,s,aG,aG,0⟩ l) (.mk ⟨7,aD,s,aG,aG,0⟩ l) _ _ W4 dv.out ⟨A,cp,be.out,HK.out.kp (Kp.of_below (by rw[hQ];exact cn.out))⟩ ⟨A,cp,be.out,HK.out.kp (Kp.of_below (by rw[hQ];exact cn.out))⟩);rw[dS]at bo
 go_wp2_with (first |(refine aR (Eq.trans (aH rfl rfl rfl rfl) rfl) 41 (.tmp 3) rfl (q+1) 0 rfl Cn _ my.out Tryz.underlying41 rfl HI.out ?_) |(refine aR (Eq.trans (aH rfl rfl rfl rfl) rfl) 41 (.tmp 1) rfl q 0 rfl Cn _ je.out Tryz.underlying41 rfl HI.out ?_))
 refine bo.out.mono ?_;rintro e w9 ⟨rfl,fs⟩;have fv:=zh (cn.out.trans (fs.mono (by have:=cn.out.size;omega)));clear fs
 go_wp2_with fail
 go_ret
 exact⟨rfl,by first|exact fv.out |(rw[hQ];exact fv.out)⟩
end Go.Proofs.YtmgjidnalpgegaaGreatDoor
