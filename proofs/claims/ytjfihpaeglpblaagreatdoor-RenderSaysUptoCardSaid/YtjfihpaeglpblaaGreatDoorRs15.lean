/-
  Lemmas, part 15: Join4 Join7 Rr7 Rr8 Rr9 TokL WrC.
-/
import Derived.Test.YtjfihpaeglpblaaGreatDoorRs14
set_option maxHeartbeats 100000000
set_option maxRecDepth 1000000
namespace Go.Proofs.YtjfihpaeglpblaaGreatDoor
open Go.RowKit
def TwoRef(w:World)(a b:RTok)(w':World):Prop:=Lies w' w.heap.size 85 a.cells/\Lies w' (w.heap.size+1) 85 b.cells/\Below w.heap.size w w'
theorem TwoRef.start(w:World)(a b:RTok):TwoRef w a b ((w.alloc (.cells a.cells 85)).alloc (.cells b.cells 85)) :=
 ⟨(Lies.new w _ _).alloc _,by have:=Lies.new (w.alloc (.cells a.cells 85)) 85 b.cells;simpa using this,((Below.refl _ w).alloc zr _).alloc (by simp) _⟩
theorem TwoRef.seen{w w':World}{a b:RTok}(h:TwoRef w a b w'):w'.cell? ⟨w.heap.size,0,none⟩=some (vI a.kind)/\w'.cell? ⟨w.heap.size,1,none⟩=some (vT a.text)/\w'.cell? ⟨w.heap.size,2,none⟩=some (vI a.place) /\
  w'.cell? ⟨w.heap.size+1,0,none⟩=some (vI b.kind)/\w'.cell? ⟨w.heap.size+1,1,none⟩=some (vT b.text)/\w'.cell? ⟨w.heap.size+1,2,none⟩=some (vI b.place)/\w.heap.size+1<w'.heap.size :=
 ⟨h.1.cell 0,h.1.cell 1,h.1.cell 2,h.2.1.cell 0,h.2.1.cell 1,h.2.1.cell 2,h.2.1.lt⟩
theorem uHD(k:Int)(h:gD k=true):(k==2)=false/\(k != 5)=true:=by
 unfold gD at h;simp only[Bool.or_eq_true,beq_iff_eq]at h;constructor
 ·rw[beq_eq_false_iff_ne];omega
 rw[bne_iff_ne];omega
theorem uBZ(a b:RTok)(w:World)(ft:b.kind=5->b.text≠[]) :
  Calls Tryz.prog 78 #[.agg a.cells,.agg b.cells] w fun e w'=>e=.returned (.bool (gR a b))/\Below w.heap.size w w':=by
 have T0:=zh (TwoRef.start w a b);obtain⟨ka,ta,pa⟩:=a;obtain⟨kb,tb,pb⟩:=b;simp only[RTok.cells]at *;obtain⟨r,hr⟩:=zE (gR ⟨ka,ta,pa⟩ ⟨kb,tb,pb⟩)
 rw[hr];unfold gR at hr;simp only at hr;have HR:=zh hr;have bk:=zh ft;clear hr ft;obtain⟨g0,g1,g2,g3,g4,g5,g6⟩:=TwoRef.seen T0.out;simp only at g0 g1 g2 g3 g4 g5;have mj:=zh T0.out.2.2;clear T0
 go_in
 generalize hW:(w.alloc (.cells #[vI ka,vT ta,vI pa] 85)).alloc (.cells #[vI kb,vT tb,vI pb] 85)=W at *;have HWW:=zh hW;clear hW
 go_upto_region 1 with fail
 rw[HWW.out]
 go_cut [5] (fun v wx=>v=.bool (gD ka)/\W=wx)
 case first=>
  have HZ:Hid (gD ka=(ka==1||ka==3||ka==4)):=zh rfl;cases h1:(ka==1) <;> cases h3:(ka==3) <;> cases h4:(ka==4)
  all_goals
   rw[h1,h3,h4]at HZ
   go_wp2_with fail
   go_meet
   exact⟨congrArg Value.bool (by rw[HZ.out];rfl),rfl⟩
 case rest=>
  obtain⟨rfl,rfl⟩:=hcut
  go_upto_region 2 with fail
  go_cut [6] (fun v wx=>v=.bool (gD kb)/\W=wx)
  case first=>
   have HZ:Hid (gD kb=(kb==1||kb==3||kb==4)):=zh rfl;cases h1:(kb==1) <;> cases h3:(kb==3) <;> cases h4:(kb==4)
   all_goals
    rw[h1,h3,h4]at HZ
    go_wp2_with fail
    go_meet
    exact⟨congrArg Value.bool (by rw[HZ.out];rfl),rfl⟩
  case rest=>
   obtain⟨rfl,rfl⟩:=hcut;cases hwa:gD ka
   ·rw[hwa,if_neg (by decide)]at HR;cases h2:(ka==2)
    ·rw[h2,if_neg (by decide)]at HR;cases h5:(ka != 5)
     ·rw[h5,if_neg (by decide)]at HR;cases b5:(kb==5)
      ·have hz:∀ set,mQ kb tb set=false:=fun set=>by unfold mQ;rw[b5];rfl
       rw[hz,hz]at HR;clear hz bk;by_cases e60:ta=[60]
       ·subst e60;have i7:Hid (false=r):=zh HR.out;cases b3:(kb==3)
        all_goals
         go_wp2_with fail
         go_ret
         exact⟨aA i7.out,mj.out⟩
       by_cases e62:ta=[62]
       ·subst e62;have i7:Hid (false=r):=zh HR.out;cases b3:(kb==3)
        all_goals
         go_wp2_with fail
         go_ret
         exact⟨aA i7.out,mj.out⟩
       have f60:(ta==[60])=false:=by simpa using e60
       have f62:(ta==[62])=false:=by simpa using e62
       rw[f60,f62]at HR;clear e60 e62;cases f35:(ta==[35]) <;> cases b3:(kb==3)
       all_goals
        rw[f35,b3]at HR
        go_wp2_with fail
        go_ret
        exact⟨aA HR.out,mj.out⟩
      have rz:kb=5:=by simpa using b5
      obtain⟨c,t,rfl⟩:∃ c t,tb=c::t:=by
       cases tb with
       |nil=>exact absurd rfl (bk.out rz)
       |cons c t=>exact⟨c,t,rfl⟩
      have b3:(kb==3)=false:=by rw[rz];rfl
      have hz:∀ set,mQ kb (c::t) set=set.contains c:=fun set=>by unfold mQ;rw[b5];simp
      rw[hz,hz,b3]at HR;clear hz bk rz;have u61:=u8_beq c 61 61 rfl;have u62:=u8_beq c 62 62 rfl;have e61:([61,62]:Bs).contains c=(c==61||c==62):=by rw[ze];simp
      have e62:([61]:Bs).contains c=(c==61):=by rw[ze];simp
      rw[e61,e62]at HR;clear e61 e62;by_cases c61:c=61
      ·subst c61;have ld:Hid ((if ta==[60] then true else if ta==[62] then true else if ta==[35] then false else false)=r):=zh (by rw[<- HR.out];rfl);clear HR u61 u62;cases f60:(ta==[60]) <;> cases f62:(ta==[62]) <;> cases f35:(ta==[35])
       all_goals
        rw[f60,f62,f35]at ld
        go_wp2_with fail
        go_ret
        exact⟨aA ld.out,mj.out⟩
      have n61:(c==61)=false:=by simpa using c61
      rw[n61]at u61 HR;cases n62:(c==62)
      all_goals
       rw[n62]at u62 HR;clear c61;cases f60:(ta==[60]) <;> cases f62:(ta==[62]) <;> cases f35:(ta==[35])
       all_goals
        rw[f60,f62,f35]at HR
        go_wp2_with fail
        go_ret
        exact⟨aA HR.out,mj.out⟩
     rw[h5,if_pos rfl]at HR;cases hwb:gD kb
     all_goals
      go_wp2_with fail
      go_ret
      exact⟨aA HR.out,mj.out⟩
    rw[h2,if_pos rfl]at HR;have h5:(ka != 5)=true:=by rw[beq_iff_eq]at h2;rw[h2];rfl
    cases aw:(kb==2) <;> cases hwb:gD kb
    all_goals
     rw[aw]at HR
     go_wp2_with fail
     go_ret
     exact⟨aA HR.out,mj.out⟩
   rw[hwa,if_pos rfl]at HR;obtain⟨h2,h5⟩:=uHD ka hwa;cases hwb:gD kb
   all_goals
    rw[hwb]at HR
    go_wp2_with fail
    go_ret
    exact⟨aA HR.out,mj.out⟩
theorem yH(b:Bs)(k:Nat)(hlt:k<b.length):bO (b.take (k+1))=bO (b.take k)++if b[k]=34 then [34,34] else [b[k]]:=by
 rw[yw hlt,sU];simp only[bO]
theorem uFT(A:Option Addr)(cap:Nat)(ts:List RTok)(w:World)(hn:ts.length<=2000)(po:∀ t∈ts,t.text.length<=1000)(h5:∀ t∈ts,t.kind=5->t.text≠[])(rg:RIn w A ts) :
  Calls Tryz.prog 35 #[.slice A ts.length cap] w fun e w'=>e=.returned (vT (cO none ts))/\Below w.heap.size w w':=by
 have HIN:=zh rg;have xf:=zh po;have H5:=zh h5;clear rg po h5
 go_in
 go_wp2_with fail
 go_loopg [3,4] (ts.length) (fun gk s i wr=>∃ k:Nat,k<=ts.length/\gk=ts.length-k/\i=vI k/\s=vT (cO none (ts.take k))/\Hid (Below w.heap.size w wr))
 case atStart=>exact⟨0,zm _,rfl,rfl,rfl,zh zB⟩
 case round=>
  obtain⟨k,hk,hgk,rfl,rfl,mg⟩:=hrel;have HGK:=zh hgk;clear hgk;have hjl:=oU (ts.take k) none (fun t ht=>xf.out t (List.mem_of_mem_take ht));rw[zc,Nat.min_eq_left hk]at hjl;by_cases hlt:k<ts.length
  ·obtain⟨g,o,rfl,hg,hc⟩:=HIN.out (by omega);obtain⟨c0,c1,c2⟩:=hc k hlt;have d0:wr.cell? ⟨g,o+k*3,none⟩=some (vI ts[k].kind):=(mg.out.cell (p:=⟨g,_,none⟩) hg).trans c0;have d1:wr.cell? ⟨g,o+k*3+1,none⟩=some (vS (ts[k].text.toArray)):=(mg.out.cell (p:=⟨g,_,none⟩) hg).trans c1;have d2:wr.cell? ⟨g,o+k*3+2,none⟩=some (vI ts[k].place):=(mg.out.cell (p:=⟨g,_,none⟩) hg).trans c2;clear c0 c1 c2;have HC:=zh hc;clear hc;have gu:(0:Int)<=(k:Int):=Int.natCast_nonneg _;have ec:(k:Int)<(ts.length:Int):=by omega
   have vr:Hid (cO none (ts.take (k+1))=(cO none (ts.take k)++kA (cC none (ts.take k)) ts[k])++sL ts[k]):=zh (by rw[yw hlt,mV];simp)
   go_wp2_with fail
   go_cut [25] (fun v wx=>v=.bool (sH (cC none (ts.take k)) ts[k])/\Hid (Below wr.heap.size wr wx))
   case first=>
    cases k with
    |zero=>
     have hd:decide ((0:Int)<((0:Nat):Int))=false:=by decide
     go_quiet (fail)
     go_wp2_with fail
     go_meet
     exact⟨rfl,zh (zNq zB _)⟩
    |succ j=>
     have hjl2:j<ts.length:=by omega
     obtain⟨c0,c1,c2⟩:=HC.out j hjl2;have z0:wr.cell? ⟨g,o+j*3,none⟩=some (vI ts[j].kind):=(mg.out.cell (p:=⟨g,_,none⟩) hg).trans c0;have z1:wr.cell? ⟨g,o+j*3+1,none⟩=some (vS (ts[j].text.toArray)):=(mg.out.cell (p:=⟨g,_,none⟩) hg).trans c1;have z2:wr.cell? ⟨g,o+j*3+2,none⟩=some (vI ts[j].place):=(mg.out.cell (p:=⟨g,_,none⟩) hg).trans c2;clear c0 c1 c2;have CAP:=zh (fun W=>uBZ ts[j] ts[j+1] W (H5.out _ (List.getElem_mem hlt)));simp only[RTok.cells]at CAP;have HN:Hid (sH (cC none (ts.take (j+1))) ts[j+1]=gR ts[j] ts[j+1]):=zh (by rw[pX ts j hjl2];rfl);have aq:=mg.out.size;have u3q:g<wr.heap.size:=by omega
     clear HC xf vr H5;generalize ts[j]=a at *;generalize ts[j+1]=b at *;obtain⟨ka,ta,pa⟩:=a;obtain⟨kb,tb,pb⟩:=b;simp only at z0 z1 z2 d0 d1 d2 CAP;have hd:decide ((0:Int)<((j+1:Nat):Int))=true:=by simp
     have hwj:IntKind.i64.wrap (((j+1:Nat):Int)-1)=(j:Int):=by rw[IntWalk.i64_in _ (by omega)];omega
     have hwj2:IntKind.i64.wrap (j:Int)=(j:Int):=IntWalk.i64_in _ (by omega);have hwj3:IntKind.i64.wrap ((j:Int)+1-1)=(j:Int):=by rw[IntWalk.i64_in _ (by omega)];omega
     have hj0:(0:Int)<=(j:Int):=Int.natCast_nonneg _;have hj1:(j:Int)<(ts.length:Int):=by omega
     have hj2:(0:Int)<=(j:Int)+1:=by omega
     have hj3:(j:Int)+1<(ts.length:Int):=by omega
     go_region_held3 (fun w'=>w'.cell? ⟨g,o+j*3,none⟩=some (vI ka)/\w'.cell? ⟨g,o+j*3+1,none⟩=some (vT ta)/\w'.cell? ⟨g,o+j*3+2,none⟩=some (vI pa)/\w'.cell? ⟨g,o+(j+1)*3,none⟩=some (vI kb)/\w'.cell? ⟨g,o+(j+1)*3+1,none⟩=some (vT tb)/\w'.cell? ⟨g,o+(j+1)*3+2,none⟩=some (vI pb))
      (first|go_keep |(go_split_ands;exact⟨(hb.cell (p:=⟨g,_,none⟩) u3q).trans (by assumption),(hb.cell (p:=⟨g,_,none⟩) u3q).trans (by assumption),(hb.cell (p:=⟨g,_,none⟩) u3q).trans (by assumption),(hb.cell (p:=⟨g,_,none⟩) u3q).trans (by assumption),(hb.cell (p:=⟨g,_,none⟩) u3q).trans (by assumption),(hb.cell (p:=⟨g,_,none⟩) u3q).trans (by assumption)⟩))
      (first
       |(go_at_call 78;(with_reducible refine(CAP.out _).mono ?_);rintro e wx ⟨rfl,hb⟩))
     all_goals go_wp2_with fail
     all_goals go_meet
     all_goals exact⟨congrArg Value.bool HN.out.symm,zh ((Below.refl _ wr).drew.trans hb)⟩
   case rest=>
    obtain⟨rfl,bk⟩:=hcut;obtain⟨w5,hw5⟩:∃ w5:World,w5=wc:=⟨_,rfl⟩
    subst hw5;have ni:Hid (Below w.heap.size w w5):=zh (zU mg.out bk.out);clear d0 d1 d2 mg bk;obtain⟨c0,c1,c2⟩:=HC.out k hlt;have d0:w5.cell? ⟨g,o+k*3,none⟩=some (vI ts[k].kind):=(ni.out.cell (p:=⟨g,_,none⟩) hg).trans c0;have d1:w5.cell? ⟨g,o+k*3+1,none⟩=some (vS (ts[k].text.toArray)):=(ni.out.cell (p:=⟨g,_,none⟩) hg).trans c1;clear c0 c1 c2 HC HIN
    go_upto_if 25 with fail
    go_cut [3] (fun v wx=>v=vT (cO none (ts.take k)++kA (cC none (ts.take k)) ts[k])/\w5=wx)
    case first=>
     cases hnd:sH (cC none (ts.take k)) ts[k]
     ·have HSP:Hid (kA (cC none (ts.take k)) ts[k]=[]):=zh (by rw[gP,hnd];rfl)
      go_wp2_with fail
      go_meet
      exact⟨nE (by rw[HSP.out,List.append_nil]),rfl⟩
     have HSP:Hid (kA (cC none (ts.take k)) ts[k]=[32]):=zh (by rw[gP,hnd];rfl)
     go_wp2_with fail
     go_meet
     exact⟨nE (by rw[HSP.out]),rfl⟩
    case rest=>
     obtain⟨rfl,rfl⟩:=hcut;have htl:=xf.out ts[k] (List.getElem_mem hlt);have hql:=jW ts[k].text;have HZ:Hid (sL ts[k]=if ts[k].kind==2 then 34::(bO ts[k].text++[34]) else ts[k].text):=zh rfl;have jd:(cO none (ts.take k)++kA (cC none (ts.take k)) ts[k]).length<=5000000:=by
      have:(kA (cC none (ts.take k)) ts[k]).length<=1:=by
       rw[gP]
       split <;> decide
      rw[yl];omega
     generalize cO none (ts.take k)++kA (cC none (ts.take k)) ts[k]=acc at *;clear xf H5;generalize ts[k]=t at *;obtain⟨kd,tx,pl⟩:=t;simp only at *;cases h2:(kd==2)
     ·rw[h2]at HZ;have i9:Hid (cO none (ts.take (k+1))=acc++tx):=zh (by rw[vr.out,HZ.out];rfl);have u5q:(kd != 2)=true:=by rw[bne,h2];rfl
      clear HZ vr
      go_wp2_with fail
      go_roundg (ts.length-(k+1))
      case rel=>exact⟨k+1,by omega,rfl,by go_num,nE (by rw[i9.out]),ni⟩
      case measure=>rw[HGK.out];omega
     rw[h2]at HZ;have i9:Hid (cO none (ts.take (k+1))=acc++(34::(bO tx++[34]))):=zh (by rw[vr.out,HZ.out];rfl);have u5q:(kd != 2)=false:=by rw[bne,h2];rfl
     clear HZ vr
     go_wp2_with fail
     go_loopg [3,5] (tx.length) (fun gq s i wq=>∃ m:Nat,m<=tx.length/\gq=tx.length-m/\i=vI m/\s=vT (acc++(34::bO (tx.take m)))/\w5=wq)
     case atStart=>exact⟨0,zm _,rfl,rfl,nE (by simp[bO]),rfl⟩
     case round=>
      obtain⟨m,hm,hgm,rfl,rfl,rfl⟩:=hrel;have HGM:=zh hgm;clear hgm;have hqm:=jW (tx.take m);rw[zc,Nat.min_eq_left hm]at hqm;by_cases hml:m<tx.length
      ·have HNX:=zh (yH tx m hml);have HT1:Hid (List.take 1 (List.drop m tx)=[tx[m]]):=zh (by rw[yx hml];rfl);have e34:=oL tx m 34 34 rfl hml;cases h34:bM tx m 34
       ·have dg:tx[m]≠34:=ne_of_at hml h34;have HN2:Hid (bO (tx.take (m+1))=bO (tx.take m)++[tx[m]]):=zh (by rw[HNX.out,if_neg dg]);rw[h34]at e34;clear HNX dg
        go_wp2_with fail
        go_roundg (tx.length-(m+1))
        case rel=>exact⟨m+1,by omega,rfl,by go_num,nE (by rw[HN2.out,HT1.out]),rfl⟩
        case measure=>rw[HGM.out];omega
       have heq:Hid (tx[m]=34):=zh (at_get hml h34);have HN2:Hid (bO (tx.take (m+1))=bO (tx.take m)++[34,34]):=zh (by rw[HNX.out,if_pos heq.out]);rw[h34]at e34;clear HNX
       go_wp2_with fail
       go_roundg (tx.length-(m+1))
       case rel=>exact⟨m+1,by omega,rfl,by go_num,nE (by rw[HN2.out,HT1.out,heq.out];simp),rfl⟩
       case measure=>rw[HGM.out];omega
      have e:m=tx.length:=by omega
      have HE:Hid (tx.take m=tx):=zh (by rw[e,List.take_length]);clear e
      go_wp2_with fail
      go_roundg (ts.length-(k+1))
      case rel=>exact⟨k+1,by omega,rfl,by go_num,nE (by rw[i9.out,HE.out]),ni⟩
      case measure=>rw[HGK.out];omega
  have e:k=ts.length:=by omega
  have HE:Hid (ts.take k=ts):=zh (by rw[e,List.take_length]);clear e
  go_wp2_with fail
  go_ret
  exact⟨congrArg (fun l:List RTok=>Ending.returned (vT (cO none l))) HE.out,mg.out⟩
theorem vQ(n m:Nat):cA n m true=Lib.decDigits (n+1):=rfl
theorem jZ(n:Nat):cA n n false=[]:=by unfold cA;rw[if_neg (by decide),if_pos rfl]
theorem tD(n m:Nat)(h:n<m):cA n m false=[91,45]++(Lib.decDigits (m-n)++[93]):=by
 unfold cA;rw[if_neg (by decide),if_neg (by omega)];have e:(n:Int)-(m:Int)=-((m-n:Nat):Int):=by omega
 rw[e,Lib.itoa_neg _ (by omega)];rfl
theorem tE(n m:Nat)(h:m<n):cA n m false=[91]++(Lib.decDigits (n-m)++[93]):=by
 unfold cA;rw[if_neg (by decide),if_neg (by omega)];have e:(n:Int)-(m:Int)=((n-m:Nat):Int):=by omega
 rw[e,Lib.itoa_nonneg];rfl
theorem lV(n m:Nat)(b:Bool)(hn:n<=400)(hm:m<=400):(cA n m b).length<=20:=by
 cases b
 ·rcases Nat.lt_trichotomy n m with h|h|h
  ·rw[tD n m h];have:=bW (m-n) 6 (by omega);simp;omega
  ·subst h;rw[jZ];simp
  rw[tE n m h];have:=bW (n-m) 6 (by omega);simp;omega
 rw[vQ];exact yv (bW (n+1) 6 (by omega)) (by omega)
theorem vF(n m:Nat)(b:Bool)(w:World)(hn:n<=400)(hm:m<=400) :
  Calls Tryz.prog 199 #[vI (n:Int),.bool b,vI (m:Int)] w fun e w'=>e=.returned (vT (cA n m b))/\w'=w:=by
 cases b
 ·rcases Nat.lt_trichotomy n m with h|h|h
  ·have CN:Hid (∀ W,Calls Tryz.prog 198 #[vI ((m-n:Nat):Int)] W fun e w'=>e=.returned (vT (Lib.decDigits (m-n)))/\w'=W):=zh (fun W=>lC _ (m-n) zr (by omega) W);have hw:IntKind.i64.wrap ((m:Int)-(n:Int))=((m-n:Nat):Int):=by rw[IntWalk.i64_in _ (by omega)];omega
   have hl:=bW (m-n) 6 (by omega);have HE:=zh (tD n m h);have dg:¬ (n:Int)=(m:Int):=by omega
   have hlt:(n:Int)<(m:Int):=by omega
   have hnb:((n:Int)==(m:Int))=false:=by simp;omega
   generalize cA n m false=R at *;generalize m-n=d at *;generalize Lib.decDigits d=D at *;have k1:¬ 9223372036854775807<D.length+1+1:=by omega
   have k2:¬ 9223372036854775807<D.length+1+1+1:=by omega
   clear h
   go_in
   go_wp2_with (with_reducible refine(CN.out _).mono ?_;rintro e wx ⟨rfl,rfl⟩)
   go_ret
   refine⟨?_,rfl⟩;rw[HE.out];simp
  ·subst h;have HE:=zh (jZ n);generalize cA n n false=R at *
   go_in
   go_wp2_with fail
   go_ret
   exact⟨by(rw[HE.out]) <;> rfl,rfl⟩
  have CN:Hid (∀ W,Calls Tryz.prog 198 #[vI ((n-m:Nat):Int)] W fun e w'=>e=.returned (vT (Lib.decDigits (n-m)))/\w'=W):=zh (fun W=>lC _ (n-m) zr (by omega) W);have hw:IntKind.i64.wrap ((n:Int)-(m:Int))=((n-m:Nat):Int):=by rw[IntWalk.i64_in _ (by omega)];omega
  have hl:=bW (n-m) 6 (by omega);have HE:=zh (tE n m h);have dg:¬ (n:Int)=(m:Int):=by omega
  have hlt:(m:Int)<=(n:Int):=by omega
  have hnb:((n:Int)==(m:Int))=false:=by simp;omega
  generalize cA n m false=R at *;generalize n-m=d at *;generalize Lib.decDigits d=D at *;have k1:¬ 9223372036854775807<D.length+1:=by omega
  have k2:¬ 9223372036854775807<D.length+1+1:=by omega
  clear h
  go_in
  go_wp2_with (with_reducible refine(CN.out _).mono ?_;rintro e wx ⟨rfl,rfl⟩)
  go_ret
  refine⟨?_,rfl⟩;rw[HE.out];simp
 have CN:Hid (∀ W,Calls Tryz.prog 198 #[vI ((n:Int)+1)] W fun e w'=>e=.returned (vT (Lib.decDigits (n+1)))/\w'=W):=zh (fun W=>lC _ (n+1) zr (by omega) W);have hw:IntKind.i64.wrap ((n:Int)+1)=(n:Int)+1:=IntWalk.i64_in _ (by omega);have HE:=zh (vQ n m);generalize cA n m true=R at *
 go_in
 go_wp2_with (with_reducible refine(CN.out _).mono ?_;rintro e wx ⟨rfl,rfl⟩)
 go_ret
 exact⟨by(rw[HE.out]) <;> rfl,rfl⟩
theorem iR(row col r c:Nat)(fr fc:Bool)(w:World)(hr:row<=400)(hc:col<=400)(hr':r<=400)(hc':c<=400) :
  Calls Tryz.prog 144 #[.agg #[vI (row:Int),vI (col:Int),.bool fr,.bool fc],vI (r:Int),vI (c:Int)] w fun e w'=>e=.returned (vT (82::(cA row r fr++67::cA col c fc)))/\Below w.heap.size w w':=by
 have T0:=zh (MkR.start w row col fr fc);have CR:=zh (fun W=>lE row col fr fc W (by omega) (by omega));have CR2:=zh (fun W=>lE r c false false W (by omega) (by omega));have C1:=zh (fun W=>vF row r fr W hr hr');have C2:=zh (fun W=>vF col c fc W hc hc');have l1:=lV row r fr hr hr';have l2:=lV col c fc hc hc';generalize cA row r fr=X at *;generalize cA col c fc=Y at *;have k1:¬ 9223372036854775807<X.length+1:=by omega
 have k2:¬ 9223372036854775807<X.length+1+1:=by omega
 have k3:¬ 9223372036854775807<X.length+1+1+Y.length:=by omega
 have k4:¬ 9223372036854775807<1+X.length:=by omega
 have k5:¬ 9223372036854775807<1+X.length+1:=by omega
 have k6:¬ 9223372036854775807<1+X.length+1+Y.length:=by omega
 have k7:¬ 9223372036854775807<X.length+1+(Y.length+1):=by omega
 have k8:¬ 9223372036854775807<X.length+1+1+(Y.length+1):=by omega
 clear hr hc hr' hc';obtain⟨g0,g1,g2,g3,g4,g5⟩:=T0.out
 go_in
 go_upto_region 1 with fail
 generalize w.alloc (.cells #[vI (row:Int),vI (col:Int),.bool fr,.bool fc] 143)=W at *
 go_wp2_with fail
 refine(CR.out _).mono ?_;rintro e W2 ⟨rfl,hb⟩;have T2:=zh (T0.out.next hb);clear g0 g1 g2 g3 g4 g5 T0 hb
 go_wp2_with fail
 refine(CR2.out _).mono ?_;rintro e W3 ⟨rfl,hb⟩;have T3:=zh (T2.out.next hb);clear T2 hb;obtain⟨g0,g1,g2,g3,g4,g5⟩:=T3.out
 go_upto_region 3 with fail
 go_cut [6] (fun va wx=>va=vT (82::(X++67::Y))/\Hid (Below w.heap.size w wx))
 case first=>
  go_region_held3 (fun w'=>w.heap.size<w'.heap.size/\w'.cell? ⟨w.heap.size,0,none⟩=some (vI (row:Int))/\w'.cell? ⟨w.heap.size,1,none⟩=some (vI (col:Int))/\w'.cell? ⟨w.heap.size,2,none⟩=some (.bool fr)/\w'.cell? ⟨w.heap.size,3,none⟩=some (.bool fc)/\Below w.heap.size w w')
   (first|exact T3.out|exact(MkR.next T3.out zB.drew)|assumption)
   (first
    |(go_at_call 199;(with_reducible refine(C1.out _).mono ?_);rintro e wx ⟨rfl,rfl⟩)
    |(go_at_call 199;(with_reducible refine(C2.out _).mono ?_);rintro e wx ⟨rfl,rfl⟩))
  all_goals go_wp2_with fail
  all_goals go_meet
  all_goals refine⟨by simp,zh ?_⟩
  all_goals first|assumption |(go_split_ands;assumption)
 case rest=>
 obtain⟨rfl,hb⟩:=hcut;clear g0 g1 g2 g3 g4 g5
 go_wp2_with fail
 go_ret
 exact⟨rfl,hb.out⟩
def TkO(w w':World)(e:Ending)(ts:List RTok):Prop:=∃ A c,e=.returned (.slice A ts.length c)/\w'.ownsRow w.heap.size 85 3 (.slice A ts.length c) ts.length (cL ts)/\Below w.heap.size w w'
def Say.r:Say->Int
 | .plain=>-1
 | .seen r _=>(r:Int)
def Say.c:Say->Int
 | .plain=>0
 | .seen _ c=>(c:Int)
def Say.ok:Say->Prop
 | .plain=>True
 | .seen r c=>r<=400/\c<=400
def tN(p q:Option Nat)(v:Say):Value:=.agg #[.pointer (ptr p),.pointer (ptr q),vI v.r,vI v.c]
theorem aR(k:Int)(s:Bs)(w:World) :
  Calls Tryz.prog 82 #[vI k,vT s] w fun e w'=>TkO w w' e [tk k s]:=by
 have HO:Hid ((w.alloc (.cells #[vI k,vT s,vI 0] 85)).ownsRow w.heap.size 85 3 (.slice (some ⟨w.heap.size,0,none⟩) 1 1) 1 (cL [tk k s])):=zh ⟨rfl,.inr ⟨_,1,#[vI k,vT s,vI 0],rfl,zr,heap_alloc_new _ _,zr,by unfold maxLen;omega,rfl,rfl⟩⟩;have HB:Hid (Below w.heap.size w (w.alloc (.cells #[vI k,vT s,vI 0] 85))):=zh ((Below.refl _ w).alloc zr _)
 go_in
 go_wp2_with fail
 go_ret
 exact⟨_,_,rfl,HO.out,HB.out⟩
theorem gA(w:World) :
  Calls Tryz.prog 80 #[] w fun e w'=>TkO w w' e dB:=by
 have CK:Hid (∀ W,Calls Tryz.prog 82 #[vI 6,vS #[35,82,69,70,33]] W fun e w'=>TkO W w' e dB):=zh (fun W=>aR 6 [35,82,69,70,33] W);generalize dB=g at *
 go_in
 go_wp2_with fail
 refine(CK.out _).mono ?_;rintro e W2 ⟨A,c,rfl,ho,hb⟩;have HO:=zh ho;have HB:=zh hb;clear ho hb
 go_wp2_with fail
 go_ret
 exact⟨A,c,rfl,HO.out,HB.out⟩
theorem pG(p q:Option Nat)(v:Say)(row col:Nat)(fr fc:Bool)(w:World)(hr:row<=400)(hc:col<=400)(hv:v.ok) :
  Calls Tryz.prog 81 #[tN p q v,.agg #[vI (row:Int),vI (col:Int),.bool fr,.bool fc]] w fun e w'=>TkO w w' e [cY v row col fr fc]:=by
 have ag:Hid (Below w.heap.size w ((w.alloc (.cells #[.pointer (ptr p),.pointer (ptr q),vI v.r,vI v.c] 84)).alloc (.cells #[vI (row:Int),vI (col:Int),.bool fr,.bool fc] 143))):=zh (((Below.refl _ w).alloc zr _).alloc (by rw[World.size_alloc];omega) _);unfold tN;generalize ptr p=P at *;generalize ptr q=Q at *;cases v with
 |plain=>
  have CT:=zh (fun W=>uBY row col fr fc W hr hc);have CK:Hid (∀ W,Calls Tryz.prog 82 #[vI 4,vT (iY row col fr fc)] W fun e w'=>TkO W w' e [cY .plain row col fr fc]):=zh (fun W=>aR 4 _ W);generalize [cY .plain row col fr fc]=g at *;generalize iY row col fr fc=M at *;clear hr hc hv;dsimp only[Say.r,Say.c]at ag ⊢
  go_in
  go_wp2_with fail
  refine(CT.out _).mono ?_;rintro e W2 ⟨rfl,aw⟩;have au:=zT ag aw;clear aw
  go_wp2_with fail
  refine(CK.out _).mono ?_;rintro e W3 ⟨A,c,rfl,ho,bv⟩;have HO:=zh (aL ho au.out.size);have bf:=zT au bv;clear ho bv
  go_wp2_with fail
  go_ret
  exact⟨A,c,rfl,HO.out,bf.out⟩
 |seen r c=>
  have CT:=zh (fun W=>iR row col r c fr fc W hr hc hv.1 hv.2);have CK:Hid (∀ W,Calls Tryz.prog 82 #[vI 3,vT (82::(cA row r fr++67::cA col c fc))] W fun e w'=>TkO W w' e [cY (.seen r c) row col fr fc]):=zh (fun W=>aR 3 _ W);generalize [cY (.seen r c) row col fr fc]=g at *;generalize (82::(cA row r fr++67::cA col c fc))=M at *;have jw:¬ (r:Int)<0:=by omega
  clear hr hc hv;dsimp only[Say.r,Say.c]at ag ⊢
  go_in
  go_wp2_with fail
  refine(CT.out _).mono ?_;rintro e W2 ⟨rfl,aw⟩;have au:=zT ag aw;clear aw
  go_wp2_with fail
  refine(CK.out _).mono ?_;rintro e W3 ⟨A,c,rfl,ho,bv⟩;have HO:=zh (aL ho au.out.size);have bf:=zT au bv;clear ho bv
  go_wp2_with fail
  go_ret
  exact⟨A,c,rfl,HO.out,bf.out⟩
theorem yV(p q:Option Nat)(v:Say)(row:Nat)(fx:Bool)(w:World)(hr:row<=400)(hv:v.ok) :
  Calls Tryz.prog 147 #[tN p q v,vI (row:Int),.bool fx] w fun e w'=>TkO w w' e [dW v row fx]:=by
 have ag:Hid (Below w.heap.size w (w.alloc (.cells #[.pointer (ptr p),.pointer (ptr q),vI v.r,vI v.c] 84))):=zh ((Below.refl _ w).alloc zr _);unfold tN;generalize ptr p=P at *;generalize ptr q=Q at *;cases v with
 |plain=>
  have CN:Hid (∀ W,Calls Tryz.prog 198 #[vI ((row:Int)+1)] W fun e w'=>e=.returned (vT (Lib.decDigits (row+1)))/\w'=W):=zh (fun W=>lC _ (row+1) zr (by omega) W);have hw:IntKind.i64.wrap ((row:Int)+1)=(row:Int)+1:=IntWalk.i64_in _ (by omega);have hl:=bW (row+1) 6 (by omega);cases fx
  ·have CK:Hid (∀ W,Calls Tryz.prog 82 #[vI 1,vT (Lib.decDigits (row+1))] W fun e w'=>TkO W w' e [dW .plain row false]):=zh (fun W=>aR 1 _ W);generalize [dW .plain row false]=g at *;generalize Lib.decDigits (row+1)=M at *;clear hr hv;dsimp only[Say.r,Say.c]at ag ⊢
   go_in
   go_wp2_with (with_reducible refine(CN.out _).mono ?_;rintro e wx ⟨rfl,rfl⟩)
   refine(CK.out _).mono ?_;rintro e W3 ⟨A,c,rfl,ho,bv⟩;have HO:=zh (aL ho ag.out.size);have bf:=zT ag bv;clear ho bv
   go_wp2_with fail
   go_ret
   exact⟨A,c,rfl,HO.out,bf.out⟩
  have CK:Hid (∀ W,Calls Tryz.prog 82 #[vI 4,vT (36::Lib.decDigits (row+1))] W fun e w'=>TkO W w' e [dW .plain row true]):=zh (fun W=>aR 4 _ W);generalize [dW .plain row true]=g at *;generalize Lib.decDigits (row+1)=M at *;have k1:¬ 9223372036854775807<M.length+1:=by omega
  have k2:¬ 9223372036854775807<1+M.length:=by omega
  clear hr hv;dsimp only[Say.r,Say.c]at ag ⊢
  go_in
  go_wp2_with (with_reducible refine(CN.out _).mono ?_;rintro e wx ⟨rfl,rfl⟩)
  refine(CK.out _).mono ?_;rintro e W3 ⟨A,c,rfl,ho,bv⟩;have HO:=zh (aL ho ag.out.size);have bf:=zT ag bv;clear ho bv
  go_wp2_with fail
  go_ret
  exact⟨A,c,rfl,HO.out,bf.out⟩
 |seen r c=>
  have CT:Hid (∀ W,Calls Tryz.prog 144 #[.agg #[vI (row:Int),vI (c:Int),.bool fx,.bool false],vI (r:Int),vI (c:Int)] W fun e w'=>e=.returned (vT ((82::cA row r fx)++[67]))/\Below W.heap.size W w'):=zh (fun W=>by
   have h:=iR row c r c fx false W hr hv.2 hv.1 hv.2;rw[jZ]at h;exact h)
  have CK:Hid (∀ W,Calls Tryz.prog 82 #[vI 3,vT (82::cA row r fx)] W fun e w'=>TkO W w' e [dW (.seen r c) row fx]):=zh (fun W=>aR 3 _ W);have hl:=lV row r fx hr hv.1;generalize [dW (.seen r c) row fx]=g at *;have ru:(82::cA row r fx).length<=21:=by simp;omega
  clear hl;generalize (82::cA row r fx)=M at *;have jw:(0:Int)<=(r:Int):=by omega
  have hw:IntKind.i64.wrap ((M.length:Int)+1-1)=(M.length:Int):=by rw[IntWalk.i64_in _ (by omega)];omega
  clear hr hv;dsimp only[Say.r,Say.c]at ag ⊢
  go_in
  go_wp2_with fail
  refine(CT.out _).mono ?_;rintro e W2 ⟨rfl,aw⟩;have au:=zT ag aw;clear aw
  go_wp2_with fail
  refine(CK.out _).mono ?_;rintro e W3 ⟨A,c,rfl,ho,bv⟩;have HO:=zh (aL ho au.out.size);have bf:=zT au bv;clear ho bv
  go_wp2_with fail
  go_ret
  exact⟨A,c,rfl,HO.out,bf.out⟩
theorem qH(p q:Option Nat)(v:Say)(col:Nat)(fx:Bool)(w:World)(hr:col<=400)(hv:v.ok) :
  Calls Tryz.prog 146 #[tN p q v,vI (col:Int),.bool fx] w fun e w'=>TkO w w' e [dV v col fx]:=by
 have ag:Hid (Below w.heap.size w (w.alloc (.cells #[.pointer (ptr p),.pointer (ptr q),vI v.r,vI v.c] 84))):=zh ((Below.refl _ w).alloc zr _);unfold tN;generalize ptr p=P at *;generalize ptr q=Q at *;cases v with
 |plain=>
  have CN:Hid (∀ W,Calls Tryz.prog 197 #[vI (col:Int)] W fun e w'=>e=.returned (vT (dS (col+1)))/\w'=W):=zh (fun W=>nX col W (by omega));have hl:=fY (col+1) (by omega);cases fx
  ·have CK:Hid (∀ W,Calls Tryz.prog 82 #[vI 3,vT (dS (col+1))] W fun e w'=>TkO W w' e [dV .plain col false]):=zh (fun W=>aR 3 _ W);generalize [dV .plain col false]=g at *;generalize dS (col+1)=M at *;clear hr hv;dsimp only[Say.r,Say.c]at ag ⊢
   go_in
   go_wp2_with (with_reducible refine(CN.out _).mono ?_;rintro e wx ⟨rfl,rfl⟩)
   refine(CK.out _).mono ?_;rintro e W3 ⟨A,c,rfl,ho,bv⟩;have HO:=zh (aL ho ag.out.size);have bf:=zT ag bv;clear ho bv
   go_wp2_with fail
   go_ret
   exact⟨A,c,rfl,HO.out,bf.out⟩
  have CK:Hid (∀ W,Calls Tryz.prog 82 #[vI 4,vT (36::dS (col+1))] W fun e w'=>TkO W w' e [dV .plain col true]):=zh (fun W=>aR 4 _ W);generalize [dV .plain col true]=g at *;generalize dS (col+1)=M at *;have k1:¬ 9223372036854775807<M.length+1:=by omega
  have k2:¬ 9223372036854775807<1+M.length:=by omega
  clear hr hv;dsimp only[Say.r,Say.c]at ag ⊢
  go_in
  go_wp2_with (with_reducible refine(CN.out _).mono ?_;rintro e wx ⟨rfl,rfl⟩)
  refine(CK.out _).mono ?_;rintro e W3 ⟨A,c,rfl,ho,bv⟩;have HO:=zh (aL ho ag.out.size);have bf:=zT ag bv;clear ho bv
  go_wp2_with fail
  go_ret
  exact⟨A,c,rfl,HO.out,bf.out⟩
 |seen r c=>
  have CT:Hid (∀ W,Calls Tryz.prog 144 #[.agg #[vI (r:Int),vI (col:Int),.bool false,.bool fx],vI (r:Int),vI (c:Int)] W fun e w'=>e=.returned (vT (82::(67::cA col c fx)))/\Below W.heap.size W w'):=zh (fun W=>by
   have h:=iR r col r c false fx W hv.1 hr hv.1 hv.2;rw[jZ]at h;exact h)
  have CK:Hid (∀ W,Calls Tryz.prog 82 #[vI 3,vT (67::cA col c fx)] W fun e w'=>TkO W w' e [dV (.seen r c) col fx]):=zh (fun W=>aR 3 _ W);have hl:=lV col c fx hr hv.2;generalize [dV (.seen r c) col fx]=g at *;have ru:(67::cA col c fx).length<=21:=by simp;omega
  clear hl;generalize (67::cA col c fx)=M at *;have jw:(0:Int)<=(r:Int):=by omega
  clear hr hv;dsimp only[Say.r,Say.c]at ag ⊢
  go_in
  go_wp2_with fail
  refine(CT.out _).mono ?_;rintro e W2 ⟨rfl,aw⟩;have au:=zT ag aw;clear aw
  go_wp2_with fail
  refine(CK.out _).mono ?_;rintro e W3 ⟨A,c,rfl,ho,bv⟩;have HO:=zh (aL ho au.out.size);have bf:=zT au bv;clear ho bv
  go_wp2_with fail
  go_ret
  exact⟨A,c,rfl,HO.out,bf.out⟩
theorem oY{w w':World}{b n sz:Nat}{te:TypeId}{v v2:Value}{xs:List Value}(h:w.ownsRow b te sz v2 n xs)(hg:w.grownBy w' v.ownBlock)(hn:∀ g,v2.ownBlock=some g->v.ownBlock≠some g):w'.ownsRow b te sz v2 n xs :=
 bT h ((Kp.refl v.ownBlock.toList w).grown hg (fun y hy=>.inl (by rw[hy];exact .head _))) (fun g kh hm=>hn g kh (by simpa using hm))
def mN:AxV->Prop
 |none=>True
 |some (ids,fl)=>ids.length=fl.length/\ids.length<=300/\(∀ y∈ids,y.fits)/\ids.Nodup
theorem AxQ.av{W:World}{p:Option Nat}{A:AxV}(h:AxQ W p A):mN A:=by
 match p,A,h with
 |none,none,_=>trivial
 |some b,some (ids,fl),⟨h1,h2,h3,h4,_⟩=>exact⟨h1,h2,h3,h4⟩
theorem AxF.av{W:World}{p:Option Nat}{A:AxV}(h:AxF W p A):mN A:=by
 match p,A,h with
 |none,none,_=>trivial
 |some b,some (ids,fl),⟨h1,h2,h3,h4,_⟩=>exact⟨h1,h2,h3,h4⟩
theorem uV{ids:List IdR}{fl:List Bool}(he:ids.length=fl.length)(x k:Nat):∀ y∈aG ((ids.drop x).take k) ((fl.drop x).take k),y∈aG ids fl:=by
 intro y hy;have h1:y∈aG (ids.drop x) (fl.drop x):=by
  rw[cV (ids.drop x) (fl.drop x) k (by simp[he])];exact List.mem_append_left _ hy
 rw[cV ids fl x he];exact List.mem_append_right _ h1
theorem uZ{A:AxV}(hA:mN A)(a b:IdR):∀ z∈aO A a b,∃ n:Nat,n<=300/\aU A z=(n:Int):=by
 match A,hA with
 |none,_=>intro z hz;cases hz
 |some (ids,fl),⟨h1,h2,h3,h4⟩=>
  intro z hz;have hl:z∈aG ids fl:=by
   unfold aO at hz;dsimp only at hz
   split at hz
   ·cases hz
   exact uV h1 _ _ z hz
  obtain⟨k,hk,rfl⟩:=List.getElem_of_mem hl;have hd:(aG ids fl).Nodup:=by
   have hs:∀ (r:List IdR) (s:List Bool),r.Nodup->(aG r s).Nodup:=by
    intro r
    induction r with
    |nil=>intro s _;cases s <;> simp[aG]
    |cons u r ih=>
     intro s hn;cases s with
     |nil=>simp[aG]
     |cons c s=>
      rw[List.nodup_cons]at hn;unfold aG
      split
      ·rw[List.nodup_cons];exact⟨fun hm=>hn.1 (dL _ _ _ hm),ih s hn.2⟩
      exact ih s hn.2
   exact hs ids fl h4
  refine⟨k,?_,?_⟩
  ·have:=cZ ids fl;omega
  show bB (aG ids fl) _=_;exact lS hd hk
theorem cH{A:AxV}(hA:mN A)(a b:IdR):cM A a b=none\/∃ n m:Nat,n<=300/\m<=300/\cM A a b=some ((n:Int),(m:Int)):=by
 rcases Nat.eq_zero_or_pos (aO A a b).length with h0|h0
 ·exact .inl (mP (List.eq_nil_of_length_eq_zero h0))
 obtain⟨m,hm⟩:∃ m,(aO A a b).length=m+1:=⟨(aO A a b).length-1,by omega⟩
 have hp:=uZ hA a b;have e:=kK m ((aO A a b)[0]'(by omega)) ((aO A a b)[m]'(by omega)) hm (List.getElem?_eq_getElem _) (List.getElem?_eq_getElem _);obtain⟨n1,k1,e1⟩:=hp _ (List.getElem_mem (by omega:0<(aO A a b).length));obtain⟨n2,k2,e2⟩:=hp _ (List.getElem_mem (by omega:m<(aO A a b).length));rw[e1,e2]at e
 right
 rw[e]
 split
 ·exact⟨n2,n1,k2,k1,rfl⟩
 exact⟨n1,n2,k1,k2,rfl⟩
def endsV:Option (Int×Int)->Value
 |none=>.tuple #[vI 0,vI 0,.bool false]
 |some (a,b)=>.tuple #[vI a,vI b,.bool true]
theorem jJ{ids:List IdR}{fl:List Bool}(he:ids.length=fl.length){x y z:IdR}(hz:z∈aO (some (ids,fl)) x y):z∈ids/\x∈ids/\y∈ids:=by
 have hx:x∈ids:=Classical.byContradiction (fun h=>by rw[jK (.inl h)]at hz;cases hz);have hy:y∈ids:=Classical.byContradiction (fun h=>by rw[jK (.inr h)]at hz;cases hz);refine⟨?_,hx,hy⟩;unfold aO at hz;dsimp only at hz
 split at hz
 ·cases hz
 exact dL _ _ _ (uV he _ _ z hz)
theorem uGV(p:Option Nat)(A:AxV)(x y:IdR)(w:World)(hA:AxF w p A)(hx:x.fits)(hy:y.fits)(hz:(aO A x y).length=0) :
  Calls Tryz.prog 194 #[.pointer (ptr p),idV x,idV y] w fun e w'=>e=.returned (.tuple #[vI 0,vI 0,.bool false])/\AxF w' p A/\Kp p.toList w w':=by
 obtain⟨W0,ak⟩:∃ W0,W0=(w.alloc (.cells #[vI x.a,vI x.n] 27)).alloc (.cells #[vI y.a,vI y.n] 27):=⟨_,rfl⟩
 have ai:=zh ak;have ag:Hid (Below w.heap.size w W0):=zh (by rw[ak];exact((Below.refl _ w).alloc zr _).alloc (by rw[World.size_alloc];omega) _);have L0:Hid (Lies W0 w.heap.size 27 #[vI x.a,vI x.n]):=zh (by rw[ak];exact(Lies.new w _ _).alloc _);have L1:Hid (Lies W0 (w.heap.size+1) 27 #[vI y.a,vI y.n]):=zh (by
  rw[ak];have h:=Lies.new (w.alloc (.cells #[vI x.a,vI x.n] 27)) 27 #[vI y.a,vI y.n];rw[World.size_alloc]at h;exact h)
 have CB:=zh (kL p A x y W0 (hA.next ag.out) hx hy);clear ak hA hx hy;obtain⟨x0,x1⟩:W0.cell? ⟨w.heap.size,0,none⟩=some (vI x.a)/\W0.cell? ⟨w.heap.size,1,none⟩=some (vI x.n):=⟨L0.out.cell 0,L0.out.cell 1⟩
 obtain⟨y0,y1⟩:W0.cell? ⟨w.heap.size+1,0,none⟩=some (vI y.a)/\W0.cell? ⟨w.heap.size+1,1,none⟩=some (vI y.n):=⟨L1.out.cell 0,L1.out.cell 1⟩
 go_in
 go_upto_region 1 with fail
 rw[<- ai.out];clear ai
 go_wp2_with fail
 refine CB.out.mono ?_;rintro e W2 ⟨B,c,rfl,-,hF,hk⟩;clear CB x0 x1 y0 y1;have m9:=zh hF;have fp:Hid (Kp p.toList w W2):=zh ((Kp.of_below ag.out).trans hk);rw[hz];clear hF hk hz
 go_wp2_with fail
 go_ret3
 exact⟨rfl,m9.out,fp.out⟩
theorem uCV(b:Nat)(ids:List IdR)(fl:List Bool)(x y z u:IdR)(m n1 n2:Nat)(w:World)(hA:AxF w (some b) (some (ids,fl)))(hx:x.fits)(hy:y.fits)(hm:(aO (some (ids,fl)) x y).length=m+1)
  (hz:(aO (some (ids,fl)) x y)[0]?=some z) (hu:(aO (some (ids,fl)) x y)[m]?=some u) (h1:aU (some (ids,fl)) z=(n1:Int)) (h2:aU (some (ids,fl)) u=(n2:Int)) (bh:Bool) (hb:eV (some (ids,fl)) x y=bh) :
  Calls Tryz.prog 194 #[.pointer (ptr (some b)),idV x,idV y] w fun e w'=>e=.returned (.tuple #[vI (if bh then (n2:Int) else n1),vI (if bh then (n1:Int) else n2),.bool true])/\AxF w' (some b) (some (ids,fl))/\Kp [b] w w':=by
 obtain⟨W0,ak⟩:∃ W0,W0=(w.alloc (.cells #[vI x.a,vI x.n] 27)).alloc (.cells #[vI y.a,vI y.n] 27):=⟨_,rfl⟩
 have ai:=zh ak;have ag:Hid (Below w.heap.size w W0):=zh (by rw[ak];exact((Below.refl _ w).alloc zr _).alloc (by rw[World.size_alloc];omega) _);have L0:Hid (Lies W0 w.heap.size 27 #[vI x.a,vI x.n]):=zh (by rw[ak];exact(Lies.new w _ _).alloc _);have L1:Hid (Lies W0 (w.heap.size+1) 27 #[vI y.a,vI y.n]):=zh (by
  rw[ak];have h:=Lies.new (w.alloc (.cells #[vI x.a,vI x.n] 27)) 27 #[vI y.a,vI y.n];rw[World.size_alloc]at h;exact h)
 have hbw:b<w.heap.size:=by
  obtain⟨_,_,_,_,_,_,_,_,h⟩:=hA.lists;exact h
 have hmz:=List.mem_of_getElem? hz;have hmu:=List.mem_of_getElem? hu;have hfz:z.fits:=hA.2.2.1 z (jJ hA.1 hmz).1;have hfu:u.fits:=hA.2.2.1 u (jJ hA.1 hmu).1;have hm300:m+1<=300:=by
  have e:(aO (some (ids,fl)) x y).length<=ids.length:=by
   unfold aO;dsimp only
   split
   ·simp
   refine yv (cZ _ _) ?_;rw[zc,yk];omega
  have:=hA.2.1;omega
 have CB:=zh (kL (some b) (some (ids,fl)) x y W0 (hA.next ag.out) hx hy);have CZ:Hid (∀ W,AxF W (some b) (some (ids,fl))->Calls Tryz.prog 40 #[.pointer (ptr (some b)),.agg #[vI z.a,vI z.n]] W fun e w'=>e=.returned (.tuple #[vI (n1:Int),.bool true])/\AxF w' (some b) (some (ids,fl))/\Kp [b] W w'):=zh (fun W h=>(gE (some b) (some (ids,fl)) z W h hfz).mono (by
  rintro e w' ⟨rfl,k1,k2⟩;refine⟨?_,k1,k2⟩;unfold sQ;rw[h1,if_neg (by omega),decide_eq_true (by omega)]))
 have CU:Hid (∀ W,AxF W (some b) (some (ids,fl))->Calls Tryz.prog 40 #[.pointer (ptr (some b)),.agg #[vI u.a,vI u.n]] W fun e w'=>e=.returned (.tuple #[vI (n2:Int),.bool true])/\AxF w' (some b) (some (ids,fl))/\Kp [b] W w'):=zh (fun W h=>(gE (some b) (some (ids,fl)) u W h hfu).mono (by
  rintro e w' ⟨rfl,k1,k2⟩;refine⟨?_,k1,k2⟩;unfold sQ;rw[h2,if_neg (by omega),decide_eq_true (by omega)]))
 have CH:Hid (∀ W,AxF W (some b) (some (ids,fl))->Calls Tryz.prog 228 #[.pointer (ptr (some b)),.agg #[vI x.a,vI x.n],.agg #[vI y.a,vI y.n]] W fun e w'=>e=.returned (.bool bh)/\Below W.heap.size W w'):=zh (fun W h=>by
  rw[<- hb];exact wL b ids fl x y W h (jJ hA.1 hmz).2.1 (jJ hA.1 hmz).2.2)
 have HNb:Hid (∀ k,w.heap.size<=k->k∉[b]):=zh (fun k hk hm=>by rw[yf.1 hm]at hk;omega);obtain⟨L,hL⟩:=zD (aO (some (ids,fl)) x y)
 rw[<- hL]at CB hm hz hu;have HLm:=zh (And.intro hm (And.intro hz hu));have hmi:(m:Int)+1<=300:=by omega
 clear ak hA hx hy hmz hmu hfz hfu hm300 hm hz hu h1 h2 hb hL hbw;obtain⟨x0,x1⟩:W0.cell? ⟨w.heap.size,0,none⟩=some (vI x.a)/\W0.cell? ⟨w.heap.size,1,none⟩=some (vI x.n):=⟨L0.out.cell 0,L0.out.cell 1⟩
 obtain⟨y0,y1⟩:W0.cell? ⟨w.heap.size+1,0,none⟩=some (vI y.a)/\W0.cell? ⟨w.heap.size+1,1,none⟩=some (vI y.n):=⟨L1.out.cell 0,L1.out.cell 1⟩
 go_in
 go_upto_region 1 with fail
 rw[<- ai.out];clear ai
 go_wp2_with fail
 refine CB.out.mono ?_;rintro e W2 ⟨B,c,rfl,ho,hF,hk⟩;clear CB x0 x1 y0 y1;have m9:=zh hF;have fp:Hid (Kp [b] w W2):=zh ((Kp.of_below ag.out).trans hk);have sw:Hid (Lies W2 w.heap.size 27 #[vI x.a,vI x.n]):=zh (hk.lies L0.out (HNb.out _ zr));have HY2:Hid (Lies W2 (w.heap.size+1) 27 #[vI y.a,vI y.n]):=zh (hk.lies L1.out (HNb.out _ (Nat.le_succ _)));obtain⟨hm,hz,hu⟩:=HLm.out;rw[hm]at ho ⊢;obtain⟨g,cp,q1,ix,lq,bp⟩:=fT ho (by omega);injection q1 with q1 _ q2;subst q1 q2;obtain⟨my,i5⟩:=List.getElem?_eq_some_iff.1 hz;obtain⟨hu0,hu1⟩:=List.getElem?_eq_some_iff.1 hu;have k0:=gF L 0 my;have km:=gF L m hu0;rw[i5]at k0;rw[hu1]at km
 have HRw:Hid (∀ W,Kp [b] W2 W->W.cell? ⟨g,0,none⟩=some (vI z.a)/\W.cell? ⟨g,1,none⟩=some (vI z.n)/\W.cell? ⟨g,m*2,none⟩=some (vI u.a)/\W.cell? ⟨g,m*2+1,none⟩=some (vI u.n)):=zh (fun W fs=>by
  have mq:=HNb.out g (yv ag.out.size ix);refine⟨(fs.cell lq mq).trans (bp _ _ k0.1),(fs.cell lq mq).trans (bp _ _ k0.2),(fs.cell lq mq).trans (bp _ _ km.1),(fs.cell lq mq).trans (bp _ _ km.2)⟩)
 obtain⟨c0,c1,-,-⟩:=HRw.out W2 (Kp.refl _ _);clear ho hF hk hm hz hu ix lq bp my i5 hu0 hu1 k0 km L0 L1;have hmn:(0:Int)<(m:Int)+1:=by omega
 have rq:Hid (∀ W,Kp [b] W2 W->W.cell? ⟨w.heap.size,0,none⟩=some (vI x.a)/\W.cell? ⟨w.heap.size,1,none⟩=some (vI x.n)/\W.cell? ⟨w.heap.size+1,0,none⟩=some (vI y.a)/\W.cell? ⟨w.heap.size+1,1,none⟩=some (vI y.n)):=zh (fun W hk=>by
  have e1:=hk.lies sw.out (HNb.out _ zr);have e2:=hk.lies HY2.out (HNb.out _ (Nat.le_succ _));exact⟨e1.cell 0,e1.cell 1,e2.cell 0,e2.cell 1⟩)
 clear sw HY2;cases bh
 all_goals
  go_wp2_with (first
   |((with_reducible refine(CZ.out _ m9.out).mono ?_);rintro e W3 ⟨rfl,hF,hk⟩;have HF3:=zh hF;have qi:=zh hk;clear hF hk c0 c1 m9;obtain⟨-,-,c2,c3⟩:=HRw.out W3 qi.out)
   |((with_reducible refine(CU.out _ HF3.out).mono ?_);rintro e W4 ⟨rfl,hF,hk⟩;have HF4:=zh hF;have f8:=zh (qi.out.trans hk);clear hF hk c2 c3 HF3;obtain⟨x0,x1,y0,y1⟩:=rq.out W4 f8.out)
   |((with_reducible refine(CH.out _ HF4.out).mono ?_);rintro e W5 ⟨rfl,hb⟩;have HF5:=zh (HF4.out.next hb);have ln:=zh (f8.out.trans (Kp.of_below hb));clear hb))
  go_ret3
  exact⟨rfl,HF5.out,fp.out.trans ln.out⟩
theorem vV(p:Option Nat)(A:AxV)(x y:IdR)(w:World)(hA:AxF w p A)(hx:x.fits)(hy:y.fits) :
  Calls Tryz.prog 194 #[.pointer (ptr p),idV x,idV y] w fun e w'=>e=.returned (endsV (cM A x y))/\AxF w' p A/\Kp p.toList w w':=by
 rcases Nat.eq_zero_or_pos (aO A x y).length with hz|hz
 ·rw[mP (List.eq_nil_of_length_eq_zero hz)];exact uGV p A x y w hA hx hy hz
 match p,A,hA,hz with
 |none,none,_,hz=>exact absurd hz (by show ¬ 0<([]:List IdR).length;simp)
 |some b,some (ids,fl),hA,hz=>
  obtain⟨m,hm⟩:∃ m,(aO (some (ids,fl)) x y).length=m+1:=⟨(aO (some (ids,fl)) x y).length-1,by omega⟩
  have hp:=uZ hA.av x y;obtain⟨n1,k1,e1⟩:=hp _ (List.getElem_mem (by omega:0<(aO (some (ids,fl)) x y).length));obtain⟨n2,k2,e2⟩:=hp _ (List.getElem_mem (by omega:m<(aO (some (ids,fl)) x y).length));have hav:=kK m _ _ hm (List.getElem?_eq_getElem (by omega)) (List.getElem?_eq_getElem (by omega));rw[e1,e2]at hav;refine(uCV b ids fl x y _ _ m n1 n2 w hA hx hy hm (List.getElem?_eq_getElem (by omega)) (List.getElem?_eq_getElem (by omega)) e1 e2 _ rfl).mono ?_;rintro e w' ⟨rfl,h2,h3⟩;refine⟨?_,h2,h3⟩;rw[hav];cases eV (some (ids,fl)) x y <;> rfl
end Go.Proofs.YtjfihpaeglpblaaGreatDoor
