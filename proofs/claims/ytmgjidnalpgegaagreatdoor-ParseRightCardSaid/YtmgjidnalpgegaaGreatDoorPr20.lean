/-
  Lemmas, part 20: RlE PaW PaO PaP.
-/
import Derived.Test.YtmgjidnalpgegaaGreatDoorPr19
set_option maxHeartbeats 100000000
namespace Go.Proofs.YtmgjidnalpgegaaGreatDoor
open Go.RowKit
theorem RfMk.kp{q base:Nat}{acc:List IdR}{fl:List Bool}{v1 v2:Value}{Y:List Nat}{W W':World}(h:RfMk q base acc fl v1 v2 W)(hk:Kp Y W W')(hb:q∉Y)(h1:∀ g,v1.ownBlock=some g->g∉Y)(h2:∀ g,v2.ownBlock=some g->g∉Y):RfMk q base acc fl v1 v2 W' :=
 ⟨hk.lies h.ax hb,dQ h.r1 hk h1,dQ h.r2 hk h2⟩
theorem RfMk.nb{q base:Nat}{acc:List IdR}{fl:List Bool}{v1 v2:Value}{W:World}(h:RfMk q base acc fl v1 v2 W):(∀ g,v1.ownBlock=some g->g≠q/\v2.ownBlock≠some g)/\(∀ g,v2.ownBlock=some g->g≠q) :=
 ⟨fun g hg=>⟨fun e=>eE (by decide) h.r1 h.ax (by rw[hg,e]),fun e=>jG (by decide) h.r1 h.r2 g hg e⟩,fun g hg e=>eE (by decide) h.r2 h.ax (by rw[hg,e])⟩
theorem mZ{ops:Array Oper}{rest:List Oper}{o:Oper}{a:Act}{w:World}{Q:Exit->Act->World->Prop}(s5:o.guard=none)(s x:Operand)(ho:o.op=.call { callee:=.builtin .append,args:=#[s,x],argTypes:=#[78,78] })
  (base n m:Nat) (v:Value) (xs:List Value) (hs:a.eval s=v) (aj:w.ownsRow base 4 1 v n xs) (hn:n+m<=1000000) (cv:base<=w.heap.size)
  (v2:Value) (b2:Nat) (fl:List Bool) (hx:a.eval x=v2) (qp:w.ownsRow b2 4 1 v2 m (fl.map Value.bool)) (hm:0<m)
  (h:∀ A' c' w',w'.ownsRow base 4 1 (.slice A' (n+m) c') (n+m) (xs++fl.map Value.bool)->w.grownBy w' v.ownBlock->wpList Tryz.prog ops Q rest (a.put o.dst (.slice A' (n+m) c')) w'):wpList Tryz.prog ops Q (o::rest) a w:=by
 obtain⟨i1,gi,gz0,gz1,gz2⟩:=info_parts sS;obtain⟨g,cap,hv2,_,_,pr⟩:=rN qp hm;have jn:∀ j u,(fl.map Value.bool)[j]?=some u->w.cell? ((⟨g,0,none⟩:Addr).add j)=some u:=fun j u hj=>by
  have e:(⟨g,0,none⟩:Addr).add j=⟨g,j,none⟩:=by cases j <;> simp[Addr.add]
  rw[e];exact pr j u hj
 refine wpList_append_own (P:=Tryz.prog) w s5 s x 78 ho base 4 i1 (.bool false) 1 1 Tryz.underlying78 gi gz0 gz1 gz2 rfl (by decide) v n xs hs aj ⟨g,0,none⟩ m cap (fl.map Value.bool) (by rw[hx,hv2]) qp.1 jn (fun u hu=>by obtain⟨b,_,rfl⟩:=yj.1 hu;rfl) (by unfold maxLen;omega) (by omega) cv (fun v' w' k1 k2 _=>?_);obtain⟨A',c',rfl⟩:=cS k1;exact h A' c' w' k1 k2
theorem zE{W W4:World}{z:Nat}(h:W.grownBy W4 (Value.slice (some ⟨z,0,none⟩) 0 0).ownBlock):Kp [z] W W4 :=
 (Kp.refl _ _).grown h (fun y hy=>.inl (by simp[Value.ownBlock]at hy;subst hy;exact .head _))
theorem uDB{W W4:World}{z q:Nat}{t:TypeId}{cs:Array Value}(h:W.grownBy W4 (Value.slice (some ⟨z,0,none⟩) 0 0).ownBlock)(hl:Lies W q t cs)(hq:q<z):Lies W4 q t cs :=
 (zE h).lies hl (fun hm=>by have:=yf.1 hm;omega)
set_option maxRecDepth 1000000 in
theorem rset_any(q base:Nat)(l:List IdR)(fl:List Bool)(v1 v2:Value)(x:IdR)(b:Bool)(w:World)(hM:RfMk q base l fl v1 v2 w)(hl:l.length=fl.length)(hn:l.length<=100000)(cv:base<=w.heap.size) :
  Calls Tryz.prog 21 #[.pointer (some ⟨q,0,none⟩),idV x,.bool b] w fun e w'=>(∃ n,e=.returned (.int .i64 n))/\(∃ v2',RfMk q base l (jM l fl x b) v1 v2' w')/\Kp [q] w w':=by
 obtain⟨W1,bt⟩:∃ W1,W1=w.alloc (.cells #[.int .i64 x.a,.int .i64 x.n] 34):=⟨_,rfl⟩
 have bu:=zh bt;have HLi:Hid (Lies W1 w.heap.size 34 #[.int .i64 x.a,.int .i64 x.n]):=zh (by rw[bt];exact Lies.new _ _ _);have af:Below w.heap.size w W1:=by rw[bt];exact(zp _)
 have HB:=zh af;have HM:=zh (hM.next af);have HL:=zh hl;have HN:=zh hn;have b0:=HLi.out.cell 0;have b1:=HLi.out.cell 1;simp only[za,zb,zf]at b0 b1;clear bt af hM hl hn
 go_enter Tryz.func21,Tryz.ntmps21
 go_upto_region 1 with fail
 rw[<- bu.out];generalize hq:w.heap.size=qb at *;have HQ:=zh hq;clear bu hq
 go_wp2_with fail
 refine(wL q base l fl v1 v2 x W1 HM.out HN.out).mono ?_;rintro e W2 ⟨rfl,ay⟩;have i8:=zh (HM.out.next ay);have cq:=zh ay;have bq:Hid (Kp [q] w W2):=zh (Kp.of_below (by have h:=HB.out;rw[<- HQ.out]at h;exact h.trans (ay.mono h.size)));have ph:Hid (base<=W2.heap.size):=zh (by have:=HB.out.size;have:=ay.size;have:=HQ.out;omega);clear ay b0 b1;rcases sL l x with hp|⟨k,hp,hk⟩
 ·have HS:Hid (jM l fl x b=fl):=zh (by unfold jM;rw[hp];rfl);rw[hp]
  go_wp2_with fail
  go_ret
  exact⟨⟨_,rfl⟩,⟨_,by rw[HS.out];exact i8.out⟩,bq.out⟩
 have mg:k<fl.length:=by rw[<- HL.out];exact hk
 have HS:Hid (jM l fl x b=fl.set k b):=zh (by unfold jM;rw[hp,if_neg (by omega)];rfl);have ll:(k:Int)<=100000:=by have:=HN.out;omega
 obtain⟨g,cap,rfl,nk,km⟩:=i8.out.r2.form (by omega);have ja:(k:Int)<(l.length:Int):=by omega
 have a1:=i8.out.ax.cell 1;simp only[za,zb,zf]at a1;have hc:W2.cell? ⟨g,k,none⟩=some (.bool fl[k]):=by
  rw[i8.out.r2.cellAt k (by omega),List.getElem?_map,List.getElem?_eq_getElem mg];rfl
 obtain⟨c,t5⟩:∃ c,fl[k]=c:=⟨_,rfl⟩
 rw[t5]at hc;rw[hp];clear hk;have ik:fl.set k c=fl:=by rw[<- t5];exact List.set_getElem_self mg
 clear t5;by_cases pm:c=b
 ·subst pm
  go_wp2_with fail
  go_ret
  exact⟨⟨_,rfl⟩,⟨_,by rw[HS.out,ik];exact i8.out⟩,bq.out⟩
 have hcf:(c==b)=false:=by cases c <;> cases b <;> first|rfl|exact absurd rfl pm
 have b9:Below W2.heap.size W2 (W2.alloc (.cells #[] 4)):=(zp _);have HE:Hid ((W2.alloc (.cells #[] 4)).ownsRow W2.heap.size 4 1 (.slice (some ⟨W2.heap.size,0,none⟩) 0 0) 0 []):=zh (World.ownsRow_lit W2 #[] 0 zr (by decide) rfl);have HM3:=zh (i8.out.next b9);have fb:=zh (bq.out.trans (Kp.of_below b9));have HZ3:Hid (W2.heap.size<=(W2.alloc (.cells #[] 4)).heap.size):=zh b9.size;have uo:Hid (q<W2.heap.size):=zh i8.out.ax.lt;have c1:=HM3.out.ax.cell 1;simp only[za,zb,zf]at c1;clear b9
 go_upto_region 7 with(at_builtin;refine mZ rfl _ _ rfl W2.heap.size 0 fl.length _ [] rfl HE.out (by have:=HN.out;have:=HL.out;omega) HZ3.out _ base fl rfl (by have h:=HM3.out.r2;rw[HL.out]at h;rw[HL.out];exact h) (by omega) ?_;intro A4 c4 W4 k4 g4;have K4:=zh k4;have HKG:=zh (zE g4);have X4:=zh (uDB g4 HM3.out.ax uo.out);have x1:=X4.out.cell 1;have f1:=X4.out.frozen 1;have hqz:q<W4.heap.size:=X4.out.lt;simp only[za,zb,zf]at x1;clear k4 g4 a1 hc c1)
 have K5:W4.ownsRow W2.heap.size 4 1 (.slice A4 fl.length c4) fl.length (fl.map Value.bool):=by have h:=K4.out;rwa [Nat.zero_add,List.nil_append]at h
 have hqw:Kp [W2.heap.size] W2 W4:=(Kp.of_below (zp _)).trans HKG.out;have i7:W4.ownsRow base 34 2 v1 l.length (bL l):=dQ i8.out.r1 hqw (fun y hy hm=>by have:=(bH i8.out.r1 y hy).2;have:=yf.1 hm;omega);obtain⟨W5,pi⟩:∃ W5,W5=W4.setCell ⟨q,1,none⟩ (.slice A4 fl.length c4):=⟨_,rfl⟩
 have hk5:Kp [q] W4 W5:=by rw[pi];exact(Kp.refl _ W4).set (.inl (.head _)) 1 _
 have HL5:Hid (Lies W5 q 85 #[v1,.slice A4 fl.length c4]):=zh (by rw[pi];exact X4.out.put 1 _);have dr:=zh (dQ i7 hk5 (fun y hy hm=>(i8.out.nb.1 y hy).1 (yf.1 hm)));have ni:=zh (dQ K5 hk5 (fun y hy hm=>by have h:=(bH K5 y hy).1;have:=yf.1 hm;have:=uo.out;omega));have jq:Hid (Kp [q] w W5):=zh ((bq.out.andThen hqw (fun y hy=>.inr (by rw[yf.1 hy];exact bq.out.size))).trans hk5);have rs:Hid (w.heap.size<=W2.heap.size/\base<=W2.heap.size/\q<W2.heap.size):=zh ⟨bq.out.size,ph.out,uo.out⟩
 first|rw[<- pi] |(rw[Nat.zero_add,<- pi])
 clear K5 hqw i7 hk5 pi x1 f1 hqz i8 HM3 bq fb HKG X4 K4 HE HZ3;obtain⟨g4,jh,hv4,hgb4,hgl4⟩:=ni.out.form (by omega);cases hv4;have y1:=HL5.out.cell 1;simp only[za,zb,zf]at y1;have hc5:W5.cell? ⟨g4,k,none⟩=some (.bool fl[k]):=by
  rw[ni.out.cellAt k (by omega),List.getElem?_map,List.getElem?_eq_getElem mg];rfl
 have ff5:=ni.out.frozenAt k;have hki5:(k:Int)<(fl.length:Int):=by omega
 go_wp2_with fail
 go_ret
 obtain⟨W6,hW6⟩:∃ W6,W6=W5.setCell ⟨g4,k,none⟩ (.bool b):=⟨_,rfl⟩
 rw[<- hW6];have hk6:Kp [g4] W5 W6:=by rw[hW6];exact(Kp.refl _ W5).set (.inl (.head _)) k _
 have hg4q:g4≠q:=by have:=rs.out;omega
 have el:=(ni.out.stored k (.bool b)).1;rw[<- hW6]at el;refine⟨⟨_,rfl⟩,⟨.slice (some ⟨g4,0,none⟩) fl.length c4,?_⟩,jq.out.andThen hk6 (fun y hy=>.inr (by rw[yf.1 hy];have:=rs.out;omega))⟩;rw[HS.out];refine⟨hk6.lies HL5.out (fun h=>hg4q (yf.1 h).symm),dQ dr.out hk6 (fun y hy hm=>jG (by decide) dr.out ni.out y hy (by rw[yf.1 hm];rfl)),?_⟩;rw[HL.out,List.map_set];exact uDX el rs.out.2.1
set_option maxRecDepth 1000000 in
theorem rnew_any(A:Option Addr)(cap:Nat)(ids:List IdR)(w:World)(hA:kF w A ids)(hn:ids.length<=300) :
  Calls Tryz.prog 19 #[.slice A ids.length cap] w fun e w'=>∃ v1 v2,e=.returned (.pointer (some ⟨w.heap.size,0,none⟩))/\RfMk w.heap.size (w.heap.size+1) (bU ids) (List.replicate (bU ids).length true) v1 v2 w'/\Below w.heap.size w w':=by
 have HA:=zh hA;have HS:=zh (jH ids);have tf:=zh (pV ids);have rq:Hid (bU (ids.take ids.length)=bU ids):=zh (by rw[List.take_length]);obtain⟨n,kx⟩:∃ n,n=ids.length:=⟨_,rfl⟩
 have HN:=zh kx;rw[<- kx]at hn ⊢;clear hA kx;obtain⟨W1,bt⟩:∃ W1,W1=w.alloc (.cells #[.slice none 0 0,.slice none 0 0] 85):=⟨_,rfl⟩
 have HM0:Hid (RfMk w.heap.size (w.heap.size+1) [] [] (.slice none 0 0) (.slice none 0 0) W1):=zh (by rw[bt];exact⟨Lies.new w _ _,⟨rfl,.inl ⟨rfl,rfl⟩⟩,⟨rfl,.inl ⟨rfl,rfl⟩⟩⟩);have HB0:Hid (Below w.heap.size w W1):=zh (by rw[bt];exact zp _);have HZ0:Hid (w.heap.size+1<=W1.heap.size):=zh (by rw[bt];simp);have bu:=zh bt;clear bt
 go_enter Tryz.func19,Tryz.ntmps19
 go_upto_region 2 with fail
 rw[<- bu.out];clear bu
 go_wp2_with fail
 go_loopw [4] (fun v wx=>∃ (k:Nat) (v1 v2:Value),v=.int .i64 (k:Int)/\k<=n/\Hid (RfMk w.heap.size (w.heap.size+1) (bU (ids.take k)) (List.replicate (bU (ids.take k)).length true) v1 v2 wx)/\Hid (Below w.heap.size w wx)/\Hid (w.heap.size+1<=wx.heap.size)) (fun v _=>n-(intOf v).toNat)
 case atStart=>exact⟨0,_,_,rfl,zm _,HM0,HB0,HZ0⟩
 case round=>
  obtain⟨k,v1,v2,rfl,hk,hM,hB,hZ⟩:=hrel;generalize en:w.heap.size=q at *;have HQ:=zh en;clear en HM0 HB0 HZ0;by_cases hlt:k<n
  ·have ja:k<ids.length:=by rw[<- HN.out];exact hlt
   have hkn:(k:Int)<(n:Int):=by omega
   have ll:(k:Int)<=300:=by omega
   obtain⟨ga,oa,rfl,kl,bi⟩:=HA.out (by omega);obtain⟨c0,c1⟩:=bi k ja;have rr:=yv (tf.out k (by omega)) (Nat.le_of_lt ja);have vg:=zh (HS.out k ja);have HRx:Hid (wr.rangeAt ga (oa+k*2) [.int .i64 ids[k].a,.int .i64 ids[k].n]):=zh (fun j v hv=>by
    match j,hv with
    |0,hv=>simp at hv;subst hv;exact(hB.out.cell (p:=⟨ga,_,none⟩) (by rw[<- HQ.out];exact kl)).trans c0
    |1,hv=>simp at hv;subst hv;exact(hB.out.cell (p:=⟨ga,_,none⟩) (by rw[<- HQ.out];exact kl)).trans c1)
   have wv:ga<wr.heap.size:=by have:=hZ.out;rw[HQ.out]at kl;omega
   rw[<- HN.out]at rr;generalize ids[k]=x at *;generalize bU (ids.take k)=acc at *;generalize o7:bU (ids.take (k+1))=acc' at *;have jz:=zh o7;clear o7 c0 c1 bi;obtain⟨A1,cap1,rfl⟩:=cS hM.out.r1;obtain⟨A2,cap2,rfl⟩:=cS hM.out.r2;generalize hle:acc.length=m at *;have ww:=zh hle;clear hle;obtain⟨b0,ct⟩:∃ b,decide (x≠id0)=b:=⟨_,rfl⟩
   obtain⟨b1,af⟩:∃ b,decide (dO acc x<0)=b:=⟨_,rfl⟩
   obtain⟨d,hd⟩:∃ d,d=(b0&&b1):=⟨_,rfl⟩
   have rj:∀ w:World,(binOp .neq 34 (idV x) (idV id0)).run Tryz.prog w=.ok (.bool b0) w:=fun w=>by rw[fU,ct]
   have HBs:=zh (And.intro ct (And.intro af (And.intro hd rj)));have HD:Hid (acc'=if d then acc++[x] else acc):=zh (by
    rw[vg.out,kU,hd,<- ct,<- af];by_cases h1:x=id0
    ·rw[if_pos (.inl h1)];simp[h1]
    by_cases h2:x∈acc
    ·have hn:¬ dO acc x<0:=fun h=>(pX acc x).1 h h2
     rw[if_pos (.inr h2),if_neg (by simp[h1];exact Int.not_lt.1 hn)]
    rw[if_neg (by simp[h1,h2]),if_pos];have:=(pX acc x).2 h2;simp[h1,this])
   clear ct af hd rj vg;obtain⟨Wr,hWr⟩:∃ Wr,Wr=wr:=⟨_,rfl⟩
   subst hWr
   go_upto_region 5 with fail
   go_cut [35] (fun v wx=>v=.bool d/\Hid (Below Wr.heap.size Wr wx))
   case first=>
    obtain⟨ct,af,hd,rj⟩:=HBs.out
    obtain⟨TT,ae⟩:∃ TT:List (Nat×Nat×Value),TT=((0,13,.slice (some ⟨ga,oa,none⟩) n cap)::(1,14,.int .i64 (k:Int))::(2,15,.pointer (some ⟨ga,oa+k*2,none⟩))::(3,16,idV x)::(4,17,idV id0)::(5,18,.bool b0)::(6,19,.bool b0)::(7,20,(bif b0 then .pointer (some ⟨q,0,none⟩) else undef))::(8,21,(bif b0 then .slice (some ⟨ga,oa,none⟩) n cap else undef))::(9,22,(bif b0 then .int .i64 (k:Int) else undef))::(10,23,(bif b0 then .pointer (some ⟨ga,oa+k*2,none⟩) else undef))::(11,24,(bif b0 then idV x else undef))::(12,25,(bif b0 then .int .i64 (dO acc x) else undef))::(13,26,(bif b0 then .bool b1 else undef))::(14,27,.bool d)::(15,28,.bool d)::(16,29,(bif d then .pointer (some ⟨q,0,none⟩) else undef))::(17,30,(bif d then .pointer (some ⟨q,0,none⟩) else undef))::(18,31,(bif d then .pointer (some ⟨q,0,none⟩) else undef))::(19,32,(bif d then .slice A1 m cap1 else undef))::(20,33,(bif d then .int .i64 (m:Nat) else undef))::(21,34,(bif d then .bool true else undef))::(22,35,.bool d)::[]):=⟨_,rfl⟩
    have am:=zh ae;clear ae;refine bD (fun a0=>59<=a0.tmps.size/\a0.eval (.tmp 0)=.slice (some ⟨ga,oa,none⟩) n cap/\a0.eval (.tmp 3)=.pointer (some ⟨q,0,none⟩)/\a0.eval (.tmp 4)=.int .i64 (k:Int)) (13::14::15::16::17::18::19::20::21::22::23::24::25::26::27::28::29::30::31::32::33::34::35::[]) TT [] (fun w'=>Below Wr.heap.size Wr w') (by kernel_rfl) ⟨by simp,rfl,rfl,rfl⟩ (Below.refl _ _) ?_ ?_
    ·rintro a0 ⟨hs,dh,j0,la⟩ zl a1 w1 zj o bg hI aa ho zd;have qq:Below Wr.heap.size Wr w1:=hI.st;have ae:=am.out;have hk:okU (TT.map fun e=>(e.1,e.2.1)) (13::14::15::16::17::18::19::20::21::22::23::24::25::26::27::28::29::30::31::32::33::34::35::[]) 59=true:=by rw[ae];rfl
     subst ae;have e0x:=aE ((hI.off.eval (by decide)).trans dh);have e3x:=aE ((hI.off.eval (by decide)).trans j0);have e4x:=aE ((hI.off.eval (by decide)).trans la);have hj:=Up.of_false aa;have hj12:zj<23:=by rw[bg]at hj;exact hj
     have G:RG _ _ _ _ _ _ _ _ _ _ _:=⟨hk,hI,hs,aa,ho,zd⟩
     (iterate 22 rcases zq hj12 with hj12|rfl);obtain rfl:=cz hj12;all_goals obtain rfl:=oi ho
     ·exact G.nl 0 rfl (by simp[execOp,go_sem,e0x])
     ·exact G.nl 1 rfl (by simp[execOp,go_sem,e4x])
     ·exact G.nl 2 rfl (by simp[execOp,go_sem,G.t 0 rfl,G.t 1 rfl,hkn])
     ·have p2:=G.d 2 rfl;exact G.nl 3 rfl (aL 34 (.tmp 15) rfl ga (oa+k*2) p2 _ _ (fun j v hv=>(qq.cell (p:=⟨ga,oa+k*2+j,none⟩) wv).trans (HRx.out j v hv)) Tryz.underlying34 rfl iA)
     ·exact G.nl 4 rfl (by simp[execOp,go_sem])
     ·exact G.nl 5 rfl (by simp[execOp,go_sem,G.t 3 rfl,G.t 4 rfl,rj])
     ·exact G.nl 6 rfl (by simp[execOp,go_sem,G.t 5 rfl])
     ·refine G.gv 6 7 rfl rfl rfl ?_;rintro rfl;simp[execOp,go_sem,e3x]
     ·refine G.gv 6 8 rfl rfl rfl ?_;rintro rfl;simp[execOp,go_sem,e0x]
     ·refine G.gv 6 9 rfl rfl rfl ?_;rintro rfl;simp[execOp,go_sem,e4x]
     ·refine G.gv 6 10 rfl rfl rfl ?_;rintro rfl;simp[execOp,go_sem,G.t 8 rfl,G.t 9 rfl,hkn]
     ·refine G.gv 6 11 rfl rfl rfl ?_;rintro rfl;have p10:=G.d 10 rfl;exact aL 34 (.tmp 23) rfl ga (oa+k*2) p10 _ _ (fun j v hv=>(qq.cell (p:=⟨ga,oa+k*2+j,none⟩) wv).trans (HRx.out j v hv)) Tryz.underlying34 rfl iA
     ·have pg:=G.g 6 rfl;cases b0
      ·exact G.sk 12 rfl pg rfl
      refine cR (inT 12 rfl) hk hI hs aa ho zd (Eq.trans (aH rfl rfl rfl pg) rfl) rfl 32 #[.pointer (some ⟨q,0,none⟩),idV x] (by simp[go_sem,G.t 7 rfl,G.t 11 rfl]) ?_;refine(wL q (q+1) acc (List.replicate acc.length true) _ _ x w1 (by rw[ww.out];exact hM.out.next qq) (by rw[ww.out];omega)).mono ?_;rintro e w2 ⟨rfl,hb⟩;exact⟨rfl,qq.trans (hb.mono qq.size)⟩
     ·refine G.gv 6 13 rfl rfl rfl ?_;rintro rfl;simp[execOp,go_sem,G.t 12 rfl,af]
     ·cases b0
      all_goals have p6:=G.d 6 rfl
      all_goals have p13:=G.d 13 rfl
      all_goals exact G.nl 14 rfl (by simp[execOp,go_sem,aE p6,aE p13,hd])
     ·exact G.nl 15 rfl (by simp[execOp,go_sem,G.t 14 rfl])
     ·refine G.gv 15 16 rfl rfl rfl ?_;rintro rfl;simp[execOp,go_sem,e3x]
     ·refine G.gv 15 17 rfl rfl rfl ?_;rintro rfl;simp[execOp,go_sem,G.t 16 rfl]
     ·refine G.gv 15 18 rfl rfl rfl ?_;rintro rfl;simp[execOp,go_sem,G.t 17 rfl]
     ·refine G.gv 15 19 rfl rfl rfl ?_;rintro rfl;have xq:w1.cell? ⟨q,0,none⟩=some (.slice A1 m cap1):=(hM.out.next qq).ax.cell 0;simp[execOp,go_sem,G.t 18 rfl,xq]
     ·refine G.gv 15 20 rfl rfl rfl ?_;rintro rfl;simp[go_sem,G.t 19 rfl]
     ·have pg:=G.g 15 rfl;cases d
      ·exact G.sk 21 rfl pg rfl
      have vh:(m:Int)<1000:=by omega
      exact G.vl 21 rfl pg rfl (by simp[execOp,go_sem,G.t 20 rfl,vh])
     cases d
     all_goals have p15:=G.d 15 rfl
     all_goals have p21:=G.d 21 rfl
     all_goals exact G.nl 22 rfl (by simp[execOp,go_sem,aE p15,aE p21])
    intro zl a1 w1 hI ap;have qq:Below Wr.heap.size Wr w1:=hI.st;have ae:=am.out;subst ae;have z35:=hI.ptk 22 rfl (ap 22 (by decide));obtain⟨ff,rfl,hf⟩:=hI.off.forms;rw[<- hf 35]at z35;clear hI;simp only[List.foldl,Act.put,yz,List.set];rw[z35];simp only[Exit.then]
    go_step
    go_meet
    exact⟨rfl,zh qq⟩
   case rest=>
    obtain⟨rfl,mw⟩:=hcut;have hM4:=zh (hM.out.next mw.out);have o8:=zh (hB.out.trans (mw.out.mono (by have:=hZ.out;omega)));have hZ4:Hid (q+1<=wc.heap.size):=zh (by have:=mw.out.size;have:=hZ.out;omega);have el:=HD.out;have HRx4:Hid (wc.rangeAt ga (oa+k*2) [.int .i64 x.a,.int .i64 x.n]):=zh (fun j v hv=>(mw.out.cell (p:=⟨ga,oa+k*2+j,none⟩) wv).trans (HRx.out j v hv));have hga4:ga<wc.heap.size:=yu wv mw.out.size;clear hM hB hZ HRx wv HBs HD mw;cases d
    ·rw[if_neg (by decide)]at el;have ig:=zh el;clear el
     go_wp2_with fail
     go_roundw
     case rel=>exact⟨k+1,_,_,by go_num,by omega,by rw[jz.out,ig.out,ww.out];exact hM4,o8,hZ4⟩
     case measure=>first |(simp[intOf];done) |(simp[intOf];omega)
    rw[if_pos rfl]at el;have ig:=zh el;clear el;obtain⟨W4,hW4⟩:∃ W4,W4=wc:=⟨_,rfl⟩
    subst hW4;have HX4:=zh hM4.out.ax;have dr:Hid (W4.ownsRow (q+1) 34 2 (.slice A1 m cap1) m (bL acc)):=zh (by have:=hM4.out.r1;rwa [ww.out]at this);have c6:Hid (W4.ownsRow (q+1) 4 1 (.slice A2 m cap2) m ((List.replicate m true).map Value.bool)):=zh (by have:=hM4.out.r2;rwa [ww.out]at this);have HY:Hid (∀ g,(Value.slice A1 m cap1).ownBlock=some g->g∈q::(Value.slice A1 m cap1).ownBlock.toList):=zh (fun g hg=>by rw[hg];simp);have en:q<=ga->False:=fun h=>by rw[HQ.out]at kl;omega
    have hbY:Hid (ga∉q::(Value.slice A1 m cap1).ownBlock.toList):=zh (fun h=>by
     rcases ym.1 h with h|h
     ·exact en (by omega)
     have:=(bH dr.out ga (by simpa using h)).1;exact en (by omega))
    go_upto_region 6 with fail
    go_cut [46] (fun v wx=>∃ v1',Hid (Lies wx q 85 #[v1',.slice A2 m cap2])/\Hid (wx.ownsRow (q+1) 34 2 v1' (m+1) (bL acc++[.int .i64 x.a,.int .i64 x.n]))/\Hid (Kp (q::(Value.slice A1 m cap1).ownBlock.toList) W4 wx))
    case first=>
     obtain⟨TT,ae⟩:∃ TT:List (Nat×Nat×Value),TT=[(0,36,.pointer (some ⟨q,0,none⟩)),(1,37,.pointer (some ⟨q,0,none⟩)),(2,38,.pointer (some ⟨q,0,none⟩)),(3,39,.pointer (some ⟨q,0,none⟩)),(4,40,.slice A1 m cap1),(5,41,.slice (some ⟨ga,oa,none⟩) n cap),(6,42,.int .i64 (k:Int)),(7,43,.pointer (some ⟨ga,oa+k*2,none⟩)),(8,44,.agg #[.int .i64 x.a,.int .i64 x.n]),(11,47,.pointer (some ⟨q,0,none⟩)),(12,48,.pointer (some ⟨q,0,none⟩))]:=⟨_,rfl⟩
     have am:=zh ae;clear ae;refine fH (by kernel_rfl) (by kernel_rfl) (fun a0=>59<=a0.tmps.size/\a0.eval (.tmp 0)=.slice (some ⟨ga,oa,none⟩) n cap/\a0.eval (.tmp 3)=.pointer (some ⟨q,0,none⟩)/\a0.eval (.tmp 4)=.int .i64 (k:Int)) (GA [36,37,38,39,40,41,42,43,44,45,46,47,48] TT (q::(Value.slice A1 m cap1).ownBlock.toList) W4 4 9 45 10 46 13 q 0 34 85 #[.slice A1 m cap1,.slice A2 m cap2] (q+1) 2 m (.slice A1 m cap1) (bL acc) [.int .i64 x.a,.int .i64 x.n]) ⟨by simp,rfl,rfl,rfl⟩ (GA.start _ _ (Kp.refl _ _).drew dr.out HX4.out) ?_ ?_
     ·rintro a0 ⟨hs,dh,j0,la⟩ zl a1 w1 j o bg hI aa ho zd;have ae:=am.out;subst ae;have hk:GAk [36,37,38,39,40,41,42,43,44,45,46,47,48] [(0,36,.pointer (some ⟨q,0,none⟩)),(1,37,.pointer (some ⟨q,0,none⟩)),(2,38,.pointer (some ⟨q,0,none⟩)),(3,39,.pointer (some ⟨q,0,none⟩)),(4,40,.slice A1 m cap1),(5,41,.slice (some ⟨ga,oa,none⟩) n cap),(6,42,.int .i64 (k:Int)),(7,43,.pointer (some ⟨ga,oa+k*2,none⟩)),(8,44,.agg #[.int .i64 x.a,.int .i64 x.n]),(11,47,.pointer (some ⟨q,0,none⟩)),(12,48,.pointer (some ⟨q,0,none⟩))] (q::(Value.slice A1 m cap1).ownBlock.toList) 9 45 10 46 13 q 34 85 (.slice A1 m cap1) 59:=⟨rfl,by decide,HY.out,.head _⟩
      have hj:=Up.of_false aa;have hj12:j<14:=by rw[bg]at hj;exact hj
      have e0x:a1.eval (.tmp 0)=.slice (some ⟨ga,oa,none⟩) n cap:=(hI.off.eval (by decide)).trans dh;have e3x:a1.eval (.tmp 3)=.pointer (some ⟨q,0,none⟩):=(hI.off.eval (by decide)).trans j0;have e4x:a1.eval (.tmp 4)=.int .i64 (k:Int):=(hI.off.eval (by decide)).trans la;rcases(by omega:j=0\/j=1\/j=2\/j=3\/j=4\/j=5\/j=6\/j=7\/j=8\/j=9\/j=10\/j=11\/j=12\/j=13) with rfl|rfl|rfl|rfl|rfl|rfl|rfl|rfl|rfl|rfl|rfl|rfl|rfl|rfl<;>obtain rfl:=oi ho
      ·exact bZ hk hI hs (.head _) aa ho rfl rfl (by simp[execOp,go_sem,aE e3x])
      ·exact bZ hk hI hs (.tail _ (.head _)) aa ho rfl rfl (by simp[execOp,go_sem,aE e3x])
      ·have d1:=ud zd 1;have p1:=pk hI.pt 1 rfl d1;exact bZ hk hI hs (mm 2 rfl) aa ho rfl rfl (by simp[execOp,go_sem,aE p1])
      ·have d2:=ud zd 2;have p2:=pk hI.pt 2 rfl d2;exact bZ hk hI hs (mm 3 rfl) aa ho rfl rfl (by simp[execOp,go_sem,aE p2])
      ·have d3:=ud zd 3;have p3:=pk hI.pt 3 rfl d3;have c0:=(hI.unl aa).cell 0;simp only[za,zb]at c0;exact bZ hk hI hs (mm 4 rfl) aa ho rfl rfl (by simp[execOp,go_sem,aE p3,c0])
      ·exact bZ hk hI hs (mm 5 rfl) aa ho rfl rfl (by simp[execOp,go_sem,aE e0x])
      ·exact bZ hk hI hs (mm 6 rfl) aa ho rfl rfl (by simp[execOp,go_sem,aE e4x])
      ·have d5:=ud zd 5;have p5:=pk hI.pt 5 rfl d5;have d6:=ud zd 6;have p6:=pk hI.pt 6 rfl d6;exact bZ hk hI hs (mm 7 rfl) aa ho rfl rfl (by simp[execOp,go_sem,aE p5,aE p6,hkn])
      ·have d7:=ud zd 7;have p7:=pk hI.pt 7 rfl d7;exact bZ hk hI hs (mm 8 rfl) aa ho rfl rfl (aL 34 (.tmp 43) rfl ga (oa+k*2) p7 [.int .i64 x.a,.int .i64 x.n] _ (fun j v hv=>(hI.kp.cell (g:=ga) (i:=oa+k*2+j) hga4 hbY.out).trans (HRx4.out j v hv)) Tryz.underlying34 rfl iA)
      ·have d8:=ud zd 8;have p8:=pk hI.pt 8 rfl d8;exact sP hk hI hs aa ho rfl rfl (by simp[execOp,go_sem,aE p8])
      ·have d4:=ud zd 4;have p4:=pk hI.pt 4 rfl d4;have d9:=ud zd 9;obtain⟨i1,gi,gz0,gz1,gz2⟩:=info_parts xJ;exact uCZ hk hI hs aa ho rfl rfl d4 d9 22 40 rfl p4 i1 (.agg #[.int .i64 0,.int .i64 0]) 16 Tryz.underlying22 gi gz0 gz1 gz2 rfl (by decide) rfl (by intro u hu;simp at hu;rcases hu with rfl|rfl <;> rfl) (by unfold maxLen;omega) (by omega) (yv hZ4.out hI.kp.size)
      ·have d0:=ud zd 0;have p0:=pk hI.pt 0 rfl d0;exact bZ hk hI hs (mm 9 rfl) aa ho rfl rfl (by simp[execOp,go_sem,aE p0])
      ·have d11:=ud zd 11;have p11:=pk hI.pt 9 rfl d11;exact bZ hk hI hs (mm 10 rfl) aa ho rfl rfl (by simp[execOp,go_sem,aE p11])
      have d12:=ud zd 12;have p12:=pk hI.pt 10 rfl d12;have d10:=ud zd 10;exact sQ hk hI aa ho rfl rfl d10 (fun hL jw=>by
       obtain⟨gs,cs,jw⟩:=jw;have c0:=hL.cell 0;have k0:=hL.frozen 0;simp at c0;rw[jw];simp[execOp,go_sem,aE p12,aE jw,c0,k0])
     intro zl a1 w1 hI ap;have ae:=am.out;subst ae;have gy:=hI.kp;have aj:=hI.o2 (ap 10 (by decide));have j1:=(hI.b2 (ap 13 (by decide))).2;obtain⟨ff,rfl,hf⟩:=hI.off.forms;rw[<- hf 46]at aj j1;clear hI;generalize ff 46=v' at *;simp only[List.foldl,Act.put,yz,List.set];simp only[Exit.then]
     go_step
     go_meet
     exact⟨v',zh j1,zh aj,zh gy⟩
    case rest=>
     obtain⟨v1',nj,ni,jq⟩:=hcut;obtain⟨A1',o9,rfl⟩:=cS ni.out;have ky:=zh (dQ c6.out jq.out (fun g hg=>by
      intro hm;rcases ym.1 hm with h|h
      ·subst h;exact eE (by decide) c6.out HX4.out hg.symm
      exact jG (by decide) c6.out dr.out g hg (by simpa using h)))
     have de:=zh (o8.out.trans (jq.out.below (B:=q) (fun g hg=>by
      rcases ym.1 hg with h|h
      ·omega
      have:=(bH dr.out g (by simpa using h)).1;omega) (by have:=hZ4.out;omega)))
     have rs:Hid (q+1<=wc.heap.size):=zh (yv hZ4.out jq.out.size);clear HX4 dr c6 jq o8 hZ4 HY hbY hM4 HRx4 hga4;have x1:=nj.out.cell 1;have f1:=nj.out.frozen 1;simp only[za,zb,zf]at x1;have hqz:q<wc.heap.size:=by have:=rs.out;omega
     obtain⟨i1,gi,gz0,gz1,gz2⟩:=info_parts sS
     go_wp2_with (at_builtin;refine wpList_append_own _ rfl _ _ 78 rfl (q+1) 4 i1 (.bool false) 1 1 Tryz.underlying78 gi gz0 gz1 gz2 rfl (by decide) _ _ _ rfl (World.ownsRow.alloc ky.out _) ⟨wc.heap.size,0,none⟩ 1 1 [.bool true] rfl rfl ?c1 ?c2 ?c3 ?c4 ?c5 ?_)
     case c1=>
      intro j u hj
      match j,hj with
      |0,hj=>simp at hj;subst hj;simp[Addr.add]
     case c2=>intro u hu;simp at hu;subst hu;rfl
     case c3=>unfold maxLen;omega
     case c4=>omega
     case c5=>have:=rs.out;rw[World.size_alloc];omega
     intro v2' W6 du cu _;obtain⟨A2',pf,rfl⟩:=cS du;have kl:wc.grownBy W6 (Value.slice A2 m cap2).ownBlock:=(World.grownBy_alloc wc _ _).trans cu;have ti:=zh (nj.out.grownA kl (eE (by decide) ky.out nj.out));have HR6:=zh (World.ownsRow.kept ni.out kl (by
      cases hv:(Value.slice A1' (m+1) o9).ownBlock with
      |none=>exact .inl rfl
      |some g=>exact .inr (fun e=>jG (by decide) ni.out ky.out g hv e.symm)))
     have HR62:=zh du;have tj:=zh (de.out.grown kl (by have:=rs.out;omega) (fun g hg=>by have:=(bH ky.out g hg).1;omega));have HZ6:Hid (q+1<=W6.heap.size):=zh (yv rs.out kl.size);clear kl cu du nj ni ky de rs x1 f1 hqz;have x1:=ti.out.cell 1;have f1:=ti.out.frozen 1;simp only[za,zb,zf]at x1
     go_wp2_with fail
     go_roundw
     case rel=>
      refine⟨k+1,.slice A1' (m+1) o9,.slice A2' (m+1) pf,by go_num,by omega,zh ⟨ti.out.put 1 _,?_,?_⟩,zh (tj.out.setCell (p:=⟨q,1,none⟩) (Nat.le_refl q) _),zh (by rw[World.size_setCell];exact HZ6.out)⟩
      ·rw[jz.out,ig.out,lD,yl,ww.out];exact mQ (by decide) HR6.out ti.out 1 _
      rw[jz.out,ig.out,yl,ww.out];have h:=mQ (by decide) HR62.out ti.out 1 (.slice A2' (m+1) pf);rw[show (List.replicate (m+[x].length) true).map Value.bool=(List.replicate m true).map Value.bool++[.bool true] from by rw[List.length_singleton,List.replicate_succ',List.map_append];rfl,List.map_replicate];exact h
     case measure=>first |(simp[intOf];done) |(simp[intOf];omega)
  obtain rfl:k=n:=by omega
  rw[HN.out,rq.out]at hM
  go_wp2_with fail
  go_ret
  exact⟨v1,v2,by rw[HQ.out];rfl,by rw[HQ.out];exact hM.out,by rw[HQ.out];exact hB.out⟩
abbrev cL(c:Cor):Array Value:=#[.int .i64 c.row.a,.int .i64 c.row.n,.int .i64 c.col.a,.int .i64 c.col.n,.bool c.fr,.bool c.fc]
set_option maxRecDepth 1000000 in
theorem uFC(a b:Cor)(w:World) :
  Calls Tryz.prog 53 #[arV a b] w fun e w'=>e=.returned (.bool (cY a b))/\Below w.heap.size w w':=by
 obtain⟨W1,bt⟩:∃ W1,W1=w.alloc (.cells #[.int .i64 a.row.a,.int .i64 a.row.n,.int .i64 a.col.a,.int .i64 a.col.n,.bool a.fr,.bool a.fc,.int .i64 b.row.a,.int .i64 b.row.n,.int .i64 b.col.a,.int .i64 b.col.n,.bool b.fr,.bool b.fc] 38):=⟨_,rfl⟩
 have bu:=zh bt;have HL:Hid (Lies W1 w.heap.size 38 #[.int .i64 a.row.a,.int .i64 a.row.n,.int .i64 a.col.a,.int .i64 a.col.n,.bool a.fr,.bool a.fc,.int .i64 b.row.a,.int .i64 b.row.n,.int .i64 b.col.a,.int .i64 b.col.n,.bool b.fr,.bool b.fc]):=zh (by rw[bt];exact Lies.new _ _ _);have HB:Hid (Below w.heap.size w W1):=zh (by rw[bt];exact zp _);clear bt;obtain⟨rb,hrb⟩:∃ rb,cY a b=rb:=⟨_,rfl⟩
 have HR:=zh hrb;rw[hrb];clear hrb;have x0:=HL.out.cell 0;have x1:=HL.out.cell 1;have x2:=HL.out.cell 2;have x3:=HL.out.cell 3;have x4:=HL.out.cell 4;have x5:=HL.out.cell 5;have x6:=HL.out.cell 6;have x7:=HL.out.cell 7;have x8:=HL.out.cell 8;have x9:=HL.out.cell 9;have x10:=HL.out.cell 10;have x11:=HL.out.cell 11;simp only[za,zb,zf]at x0 x1 x2 x3 x4 x5 x6 x7 x8 x9 x10 x11;have hlt:=HL.out.lt
 go_enter Tryz.func53,Tryz.ntmps53
 go_upto_region 1 with fail
 rw[<- bu.out];generalize hq:w.heap.size=q at *
 go_cut [3,4] (fun va vb wx=>∃ qa qb,va=.pointer (some ⟨qa,0,none⟩)/\vb=.pointer (some ⟨qb,0,none⟩)/\Hid (Lies wx qa 36 (cL a)/\Lies wx qb 36 (cL b)/\Below q w wx))
 case first=>
  have i9:=zh (Lies.new W1 36 (cL a));have bv:=zh (Lies.new (W1.alloc (.cells (cL a) 36)) 36 (cL b));have fa:=zh (Lies.new W1 36 (cL b));have HC2:=zh (Lies.new (W1.alloc (.cells (cL b) 36)) 36 (cL a));have HBa:Hid (Below q w (((W1.alloc (.cells (cL a) 36)).alloc (.cells (cL b) 36)).drew)):=zh ((HB.out.alloc (by have:=HB.out.size;omega) _).alloc (by have:=HB.out.size;simp;omega) _).drew;have HBc:Hid (Below q w (((W1.alloc (.cells (cL b) 36)).alloc (.cells (cL a) 36)).drew)):=zh ((HB.out.alloc (by have:=HB.out.size;omega) _).alloc (by have:=HB.out.size;simp;omega) _).drew
  go_region
  all_goals go_wp2_with fail
  all_goals go_meet
  all_goals first
   |exact⟨_,_,rfl,rfl,zh ⟨i9.out.alloc _,by have:=bv.out;rwa [World.size_alloc]at this,HBa.out⟩⟩
   |exact⟨_,_,rfl,rfl,zh ⟨by have:=HC2.out;rwa [World.size_alloc]at this,fa.out.alloc _,HBc.out⟩⟩
 case rest=>
  obtain⟨qa,qb,rfl,rfl,hc⟩:=hcut;clear x0 x1 x2 x3 x4 x5 x6 x7 x8 x9 x10 x11 HL HB bu hlt;obtain⟨W3,l5⟩:∃ W3,W3=wc.alloc (.cells #[.int .i64 0,.int .i64 0] 34):=⟨_,rfl⟩
  have b9:Below wc.heap.size wc W3:=by rw[l5];exact(zp _)
  have HA:=zh (hc.out.1.next b9);have mn:=zh (hc.out.2.1.next b9);have bg:=hc.out.2.2.size;have HZ:Hid (Lies W3 wc.heap.size 34 #[.int .i64 0,.int .i64 0]):=zh (by rw[l5];exact Lies.new _ _ _);have HB:Hid (Below q w W3):=zh (hc.out.2.2.trans (b9.mono (by omega)));have HW3:=zh l5;obtain⟨r1,i7⟩:∃ x,decide (a.row≠id0)=x:=⟨_,rfl⟩
  obtain⟨k1,dq⟩:∃ x,decide (a.col≠id0)=x:=⟨_,rfl⟩
  obtain⟨r2,lh⟩:∃ x,decide (b.row≠id0)=x:=⟨_,rfl⟩
  obtain⟨k2,fm⟩:∃ x,decide (b.col≠id0)=x:=⟨_,rfl⟩
  obtain⟨f1,hf1⟩:∃ x,a.fr=x:=⟨_,rfl⟩
  obtain⟨f2,hf2⟩:∃ x,b.fr=x:=⟨_,rfl⟩
  obtain⟨g1,mh⟩:∃ x,a.fc=x:=⟨_,rfl⟩
  obtain⟨g2,qv⟩:∃ x,b.fc=x:=⟨_,rfl⟩
  have c6:Hid (rb=((r1==r2)&&(k1==k2)&&(r1||k1)&&(r1||(!f1&&!f2))&&(k1||(!g1&&!g2)))):=zh (by rw[<- HR.out];unfold cY;dsimp only;rw[i7,dq,lh,fm,hf1,hf2,mh,qv]);have N1:∀ w:World,(binOp .neq 34 (idV a.row) (idV id0)).run Tryz.prog w=.ok (.bool r1) w:=fun w=>by rw[fU,i7]
  have N2:∀ w:World,(binOp .neq 34 (idV a.col) (idV id0)).run Tryz.prog w=.ok (.bool k1) w:=fun w=>by rw[fU,dq]
  have N3:∀ w:World,(binOp .neq 34 (idV b.row) (idV id0)).run Tryz.prog w=.ok (.bool r2) w:=fun w=>by rw[fU,lh]
  have N4:∀ w:World,(binOp .neq 34 (idV b.col) (idV id0)).run Tryz.prog w=.ok (.bool k2) w:=fun w=>by rw[fU,fm]
  have HN:=zh (And.intro N1 (And.intro N2 (And.intro N3 N4)));have HF:=zh (And.intro hf1 (And.intro hf2 (And.intro mh qv)));clear N1 N2 N3 N4 i7 dq lh fm hf1 hf2 mh qv hc b9 l5 HR
  go_upto_region 3 with fail
  rw[<- HW3.out];generalize wc.heap.size=qz at *;clear HW3
  go_cut [6,7] (fun va vb wx=>va=.bool r1/\vb=.bool k1/\Hid (Below W3.heap.size W3 wx))
  case first=>
   obtain⟨TT,ae⟩:∃ TT:List (Nat×Nat×Value),TT=((0,13,.pointer (some ⟨qa,0,none⟩))::(1,14,idV a.row)::(2,15,idV id0)::(3,16,.bool r1)::(4,17,.pointer (some ⟨qa,2,none⟩))::(5,18,idV a.col)::(6,19,idV id0)::(7,20,.bool k1)::(8,6,.bool r1)::(9,7,.bool k1)::[]):=⟨_,rfl⟩
   have am:=zh ae;clear ae;refine bC (fun a0=>65<=a0.tmps.size/\a0.eval (.tmp 3)=.pointer (some ⟨qa,0,none⟩)/\a0.eval (.tmp 4)=.pointer (some ⟨qb,0,none⟩)/\a0.eval (.tmp 5)=.pointer (some ⟨qz,0,none⟩)) (13::14::15::16::17::18::19::20::6::7::[]) TT [] (fun w'=>Below W3.heap.size W3 w') (by kernel_rfl) (by kernel_rfl) ⟨by simp,rfl,rfl,rfl⟩ (Below.refl _ _).drew ?_ ?_
   ·rintro a0 ⟨hs,j0,la,qo⟩ zl a1 w1 zj o bg hI aa ho zd;have af:Below W3.heap.size W3 w1:=hI.st;have ae:=am.out;have hk:okU (TT.map fun e=>(e.1,e.2.1)) (13::14::15::16::17::18::19::20::6::7::[]) 65=true:=by rw[ae];rfl
    subst ae;have e3x:=aE ((hI.off.eval (by decide)).trans j0);have e4x:=aE ((hI.off.eval (by decide)).trans la);have e5x:=aE ((hI.off.eval (by decide)).trans qo);have hj:=Up.of_false aa;have hj12:zj<10:=by rw[bg]at hj;exact hj
    have G:RG _ _ _ _ _ _ _ _ _ _ _:=⟨hk,hI,hs,aa,ho,zd⟩
    (iterate 9 rcases zq hj12 with hj12|rfl);obtain rfl:=cz hj12;all_goals obtain rfl:=oi ho
    ·exact G.nl 0 rfl (by simp[execOp,go_sem,e3x])
    ·have Lx:=HA.out.next af;have x0:=Lx.cell 0;have x1:=Lx.cell 1;simp only[za,zb,zf]at x0 x1;exact G.nl 1 rfl (by simp[execOp,go_sem,G.t 0 rfl,x0,x1])
    ·have Lx:=HZ.out.next af;have x0:=Lx.cell 0;have x1:=Lx.cell 1;simp only[za,zb,zf]at x0 x1;exact G.nl 2 rfl (by simp[execOp,go_sem,e5x,x0,x1])
    ·have N1:=HN.out.1;exact G.nl 3 rfl (by simp[execOp,go_sem,G.t 1 rfl,G.t 2 rfl,N1])
    ·exact G.nl 4 rfl (by simp[execOp,go_sem,e3x])
    ·have Lx:=HA.out.next af;have x2:=Lx.cell 2;have x3:=Lx.cell 3;simp only[za,zb,zf]at x2 x3;exact G.nl 5 rfl (by simp[execOp,go_sem,G.t 4 rfl,x2,x3])
    ·have Lx:=HZ.out.next af;have x0:=Lx.cell 0;have x1:=Lx.cell 1;simp only[za,zb,zf]at x0 x1;exact G.nl 6 rfl (by simp[execOp,go_sem,e5x,x0,x1])
    ·have N1:=HN.out.2.1;exact G.nl 7 rfl (by simp[execOp,go_sem,G.t 5 rfl,G.t 6 rfl,N1])
    ·exact G.nl 8 rfl (by simp[execOp,go_sem,G.t 3 rfl])
    exact G.nl 9 rfl (by simp[execOp,go_sem,G.t 7 rfl])
   intro zl a1 w1 hI ap;have af:Below W3.heap.size W3 w1:=hI.st;have ae:=am.out;subst ae;have z6:=hI.ptk 8 rfl (ap 8 (by decide));have z7:=hI.ptk 9 rfl (ap 9 (by decide));obtain⟨ff,rfl,hf⟩:=hI.off.forms;rw[<- hf 6]at z6;rw[<- hf 7]at z7;clear hI;simp only[List.foldl,Act.put,yz,List.set];rw[z6,z7]
   go_wp2_with fail
   go_meet
   exact⟨rfl,rfl,zh af⟩
  case rest=>
   obtain⟨rfl,rfl,lx⟩:=hcut;have lm:=zh (HA.out.next lx.out);have HBb4:=zh (mn.out.next lx.out);have HZ4:=zh (HZ.out.next lx.out);have cn:=zh (HB.out.trans (lx.out.mono (by have:=HB.out.size;omega)));clear HA mn HZ HB lx;obtain⟨y1,hy1⟩:∃ x,x=!(r1==r2):=⟨_,rfl⟩
   obtain⟨y2,hy2⟩:∃ x,x=!(k1==k2):=⟨_,rfl⟩
   obtain⟨y,hy⟩:∃ x,x=(y1||y2):=⟨_,rfl⟩
   have HY:=zh (And.intro hy1 (And.intro hy2 hy));clear hy1 hy2 hy;obtain⟨W4,hW4⟩:∃ W4,W4=wc:=⟨_,rfl⟩
   subst hW4
   go_upto_region 4 with fail
   go_cut [34] (fun v wx=>v=.bool y/\Hid (Below W4.heap.size W4 wx))
   case first=>
    obtain⟨hy1,hy2,hy⟩:=HY.out;obtain⟨TT,ae⟩:∃ TT:List (Nat×Nat×Value),TT=((0,21,.bool r1)::(1,22,.pointer (some ⟨qb,0,none⟩))::(2,23,idV b.row)::(3,24,idV id0)::(4,25,.bool r2)::(5,26,.bool y1)::(6,27,.bool y1)::(7,28,(bif y1 then undef else .bool k1))::(8,29,(bif y1 then undef else .pointer (some ⟨qb,2,none⟩)))::(9,30,(bif y1 then undef else idV b.col))::(10,31,(bif y1 then undef else idV id0))::(11,32,(bif y1 then undef else .bool k2))::(12,33,(bif y1 then undef else .bool y2))::(13,34,.bool y)::[]):=⟨_,rfl⟩
    have am:=zh ae;clear ae;refine bD (fun a0=>65<=a0.tmps.size/\a0.eval (.tmp 3)=.pointer (some ⟨qa,0,none⟩)/\a0.eval (.tmp 4)=.pointer (some ⟨qb,0,none⟩)/\a0.eval (.tmp 5)=.pointer (some ⟨qz,0,none⟩)/\a0.eval (.tmp 6)=.bool r1/\a0.eval (.tmp 7)=.bool k1) (21::22::23::24::25::26::27::28::29::30::31::32::33::34::[]) TT [] (fun w'=>Below W4.heap.size W4 w') (by kernel_rfl) ⟨by simp,rfl,rfl,rfl,rfl,rfl⟩ (Below.refl _ _) ?_ ?_
    ·rintro a0 ⟨hs,j0,la,qo,mu,hq7⟩ zl a1 w1 zj o bg hI aa ho zd;have af:Below W4.heap.size W4 w1:=hI.st;have ae:=am.out;have hk:okU (TT.map fun e=>(e.1,e.2.1)) (21::22::23::24::25::26::27::28::29::30::31::32::33::34::[]) 65=true:=by rw[ae];rfl
     subst ae;have e3x:=aE ((hI.off.eval (by decide)).trans j0);have e4x:=aE ((hI.off.eval (by decide)).trans la);have e5x:=aE ((hI.off.eval (by decide)).trans qo);have e6x:=aE ((hI.off.eval (by decide)).trans mu);have e7x:=aE ((hI.off.eval (by decide)).trans hq7);have hj:=Up.of_false aa;have hj12:zj<14:=by rw[bg]at hj;exact hj
     have G:RG _ _ _ _ _ _ _ _ _ _ _:=⟨hk,hI,hs,aa,ho,zd⟩
     (iterate 13 rcases zq hj12 with hj12|rfl);obtain rfl:=cz hj12;all_goals obtain rfl:=oi ho
     ·exact G.nl 0 rfl (by simp[execOp,go_sem,e6x])
     ·exact G.nl 1 rfl (by simp[execOp,go_sem,e4x])
     ·have Lx:=HBb4.out.next af;have x0:=Lx.cell 0;have x1:=Lx.cell 1;simp only[za,zb,zf]at x0 x1;exact G.nl 2 rfl (by simp[execOp,go_sem,G.t 1 rfl,x0,x1])
     ·have Lx:=HZ4.out.next af;have x0:=Lx.cell 0;have x1:=Lx.cell 1;simp only[za,zb,zf]at x0 x1;exact G.nl 3 rfl (by simp[execOp,go_sem,e5x,x0,x1])
     ·have N1:=HN.out.2.2.1;exact G.nl 4 rfl (by simp[execOp,go_sem,G.t 2 rfl,G.t 3 rfl,N1])
     ·exact G.nl 5 rfl (by simp[execOp,go_sem,G.t 0 rfl,G.t 4 rfl,hy1])
     ·exact G.nl 6 rfl (by simp[execOp,go_sem,G.t 5 rfl])
     ·refine G.gn 6 7 rfl rfl rfl ?_;rintro rfl;simp[execOp,go_sem,e7x]
     ·refine G.gn 6 8 rfl rfl rfl ?_;rintro rfl;simp[execOp,go_sem,e4x]
     ·have pg:=G.g 6 rfl;cases y1
      ·have Lx:=HBb4.out.next af;have x2:=Lx.cell 2;have x3:=Lx.cell 3;simp only[za,zb,zf]at x2 x3;exact G.vl 9 rfl pg rfl (by simp[execOp,go_sem,G.t 8 rfl,x2,x3])
      exact G.sk 9 rfl pg rfl
     ·have pg:=G.g 6 rfl;cases y1
      ·have Lx:=HZ4.out.next af;have x0:=Lx.cell 0;have x1:=Lx.cell 1;simp only[za,zb,zf]at x0 x1;exact G.vl 10 rfl pg rfl (by simp[execOp,go_sem,e5x,x0,x1])
      exact G.sk 10 rfl pg rfl
     ·refine G.gn 6 11 rfl rfl rfl ?_;rintro rfl;have N1:=HN.out.2.2.2;simp[execOp,go_sem,G.t 9 rfl,G.t 10 rfl,N1]
     ·refine G.gn 6 12 rfl rfl rfl ?_;rintro rfl;simp[execOp,go_sem,G.t 7 rfl,G.t 11 rfl,hy2]
     cases y1
     all_goals have p6:=G.d 6 rfl
     all_goals have p12:=G.d 12 rfl
     all_goals exact G.nl 13 rfl (by simp[execOp,go_sem,aE p6,aE p12,hy])
    intro zl a1 w1 hI ap;have af:Below W4.heap.size W4 w1:=hI.st;have ae:=am.out;subst ae;have z34:=hI.ptk 13 rfl (ap 13 (by decide));obtain⟨ff,rfl,hf⟩:=hI.off.forms;rw[<- hf 34]at z34;clear hI;simp only[List.foldl,Act.put,yz,List.set];rw[z34]
    go_wp2_with fail
    go_meet
    exact⟨rfl,zh af⟩
   case rest=>
    obtain⟨rfl,ij⟩:=hcut;have j2:=zh (lm.out.next ij.out);have HBb5:=zh (HBb4.out.next ij.out);have de:=zh (cn.out.trans (ij.out.mono (by have:=cn.out.size;omega)));clear lm HBb4 HZ4 cn ij HN;cases y
    ·obtain⟨z,hz⟩:∃ x,x=(r1||k1):=⟨_,rfl⟩
     obtain⟨nf1,wy⟩:∃ x,x=(!f1):=⟨_,rfl⟩
     obtain⟨ng1,xc⟩:∃ x,x=(!g1):=⟨_,rfl⟩
     obtain⟨m1,xy⟩:∃ x,x=(nf1&&!f2):=⟨_,rfl⟩
     obtain⟨m2,ug⟩:∃ x,x=(ng1&&!g2):=⟨_,rfl⟩
     obtain⟨s1,jo⟩:∃ x,x=(r1||m1):=⟨_,rfl⟩
     obtain⟨s2,qw⟩:∃ x,x=(k1||m2):=⟨_,rfl⟩
     obtain⟨u,hu⟩:∃ x,x=(z&&s1):=⟨_,rfl⟩
     obtain⟨v,hv⟩:∃ x,x=(u&&s2):=⟨_,rfl⟩
     have HV:Hid (rb=v):=zh (by rw[c6.out,hv,hu,jo,qw,xy,ug,wy,xc,hz];have:=HY.out.2.2;rw[HY.out.1,HY.out.2.1]at this;revert this;cases r1 <;> cases r2 <;> cases k1 <;> cases k2 <;> simp);have HVV:=zh (And.intro hz (And.intro wy (And.intro xc (And.intro xy (And.intro ug (And.intro jo (And.intro qw (And.intro hu hv))))))));clear hz wy xc xy ug jo qw hu hv;obtain⟨W5,pi⟩:∃ W5,W5=wc:=⟨_,rfl⟩
     subst pi
     go_upto_region 6 with fail
     obtain⟨hz,wy,xc,xy,ug,jo,qw,hu,hv⟩:=HVV.out;obtain⟨hf1,hf2,mh,qv⟩:=HF.out
     obtain⟨TT,ae⟩:∃ TT:List (Nat×Nat×Value),TT=((0,35,.bool r1)::(1,36,.bool r1)::(2,37,(bif r1 then undef else .bool k1))::(3,38,.bool z)::(4,39,.bool z)::(5,40,(bif z then .bool r1 else undef))::(6,41,(bif z then .bool r1 else undef))::(7,42,(bif z then (bif r1 then undef else .pointer (some ⟨qa,4,none⟩)) else undef))::(8,43,(bif z then (bif r1 then undef else .bool f1) else undef))::(9,44,(bif z then (bif r1 then undef else .bool nf1) else undef))::(10,45,(bif z then (bif r1 then undef else .bool nf1) else undef))::(11,46,(bif z then (bif r1 then undef else (bif nf1 then .pointer (some ⟨qb,4,none⟩) else undef)) else undef))::(12,47,(bif z then (bif r1 then undef else (bif nf1 then .bool f2 else undef)) else undef))::(13,48,(bif z then (bif r1 then undef else (bif nf1 then .bool (!f2) else undef)) else undef))::(14,49,(bif z then (bif r1 then undef else .bool m1) else undef))::(15,50,(bif z then .bool s1 else undef))::(16,51,.bool u)::(17,52,.bool u)::(18,53,(bif u then .bool k1 else undef))::(19,54,(bif u then .bool k1 else undef))::(20,55,(bif u then (bif k1 then undef else .pointer (some ⟨qa,5,none⟩)) else undef))::(21,56,(bif u then (bif k1 then undef else .bool g1) else undef))::(22,57,(bif u then (bif k1 then undef else .bool ng1) else undef))::(23,58,(bif u then (bif k1 then undef else .bool ng1) else undef))::(24,59,(bif u then (bif k1 then undef else (bif ng1 then .pointer (some ⟨qb,5,none⟩) else undef)) else undef))::(25,60,(bif u then (bif k1 then undef else (bif ng1 then .bool g2 else undef)) else undef))::(26,61,(bif u then (bif k1 then undef else (bif ng1 then .bool (!g2) else undef)) else undef))::(27,62,(bif u then (bif k1 then undef else .bool m2) else undef))::(28,63,(bif u then .bool s2 else undef))::(29,64,.bool v)::(30,2,.bool v)::[]):=⟨_,rfl⟩
     have am:=zh ae;clear ae;refine bD (fun a0=>65<=a0.tmps.size/\a0.eval (.tmp 3)=.pointer (some ⟨qa,0,none⟩)/\a0.eval (.tmp 4)=.pointer (some ⟨qb,0,none⟩)/\a0.eval (.tmp 6)=.bool r1/\a0.eval (.tmp 7)=.bool k1) (35::36::37::38::39::40::41::42::43::44::45::46::47::48::49::50::51::52::53::54::55::56::57::58::59::60::61::62::63::64::2::[]) TT [] (fun w'=>Below W5.heap.size W5 w') (by kernel_rfl) ⟨by simp,rfl,rfl,rfl,rfl⟩ (Below.refl _ _) ?_ ?_
     ·rintro a0 ⟨hs,j0,la,mu,hq7⟩ zl a1 w1 zj o bg hI aa ho zd;have af:Below W5.heap.size W5 w1:=hI.st;have ae:=am.out;have hk:okU (TT.map fun e=>(e.1,e.2.1)) (35::36::37::38::39::40::41::42::43::44::45::46::47::48::49::50::51::52::53::54::55::56::57::58::59::60::61::62::63::64::2::[]) 65=true:=by rw[ae];rfl
      subst ae;have e3x:=aE ((hI.off.eval (by decide)).trans j0);have e4x:=aE ((hI.off.eval (by decide)).trans la);have e6x:=aE ((hI.off.eval (by decide)).trans mu);have e7x:=aE ((hI.off.eval (by decide)).trans hq7);have hj:=Up.of_false aa;have hj12:zj<31:=by rw[bg]at hj;exact hj
      have G:RG _ _ _ _ _ _ _ _ _ _ _:=⟨hk,hI,hs,aa,ho,zd⟩
      (iterate 30 rcases zq hj12 with hj12|rfl);obtain rfl:=cz hj12;all_goals obtain rfl:=oi ho
      ·exact G.nl 0 rfl (by simp[execOp,go_sem,e6x])
      ·exact G.nl 1 rfl (by simp[execOp,go_sem,G.t 0 rfl])
      ·refine G.gn 1 2 rfl rfl rfl ?_;rintro rfl;simp[execOp,go_sem,e7x]
      ·cases r1
       all_goals have p1:=G.d 1 rfl
       all_goals have p2:=G.d 2 rfl
       all_goals exact G.nl 3 rfl (by simp[execOp,go_sem,aE p1,aE p2,hz])
      ·exact G.nl 4 rfl (by simp[execOp,go_sem,G.t 3 rfl])
      ·refine G.gv 4 5 rfl rfl rfl ?_;rintro rfl;simp[execOp,go_sem,e6x]
      ·refine G.gv 4 6 rfl rfl rfl ?_;rintro rfl;simp[execOp,go_sem,G.t 5 rfl]
      ·have pg:=G.g 6 rfl;cases z
       ·exact aZ hk hI hs (inT 7 rfl) fD aa ho zd (aU rfl rfl rfl pg) rfl
       cases r1
       ·exact G.vl 7 rfl pg rfl (by simp[execOp,go_sem,e3x])
       exact G.sk 7 rfl pg rfl
      ·have pg:=G.g 6 rfl;cases z
       ·exact aZ hk hI hs (inT 8 rfl) fD aa ho zd (aU rfl rfl rfl pg) rfl
       cases r1
       ·have Lx:=j2.out.next af;have x4:=Lx.cell 4;simp only[za,zb,zf]at x4;exact G.vl 8 rfl pg rfl (by simp[execOp,go_sem,G.t 7 rfl,x4,hf1])
       exact G.sk 8 rfl pg rfl
      ·have pg:=G.g 6 rfl;cases z
       ·exact aZ hk hI hs (inT 9 rfl) fD aa ho zd (aU rfl rfl rfl pg) rfl
       cases r1
       ·exact G.vl 9 rfl pg rfl (by simp[execOp,go_sem,G.t 8 rfl,wy])
       exact G.sk 9 rfl pg rfl
      ·have pg:=G.g 6 rfl;cases z
       ·exact aZ hk hI hs (inT 10 rfl) fD aa ho zd (aU rfl rfl rfl pg) rfl
       cases r1
       ·exact G.vl 10 rfl pg rfl (by simp[execOp,go_sem,G.t 9 rfl])
       exact G.sk 10 rfl pg rfl
      ·have pg:=G.g 10 rfl;cases z
       ·exact aZ hk hI hs (inT 11 rfl) fD aa ho zd (aU rfl rfl rfl pg) rfl
       cases r1
       ·cases nf1
        ·exact G.sk 11 rfl pg rfl
        exact G.vl 11 rfl pg rfl (by simp[execOp,go_sem,e4x])
       exact aZ hk hI hs (inT 11 rfl) fD aa ho zd (aU rfl rfl rfl pg) rfl
      ·have pg:=G.g 10 rfl;cases z
       ·exact aZ hk hI hs (inT 12 rfl) fD aa ho zd (aU rfl rfl rfl pg) rfl
       cases r1
       ·cases nf1
        ·exact G.sk 12 rfl pg rfl
        have Lx:=HBb5.out.next af;have x4:=Lx.cell 4;simp only[za,zb,zf]at x4;exact G.vl 12 rfl pg rfl (by simp[execOp,go_sem,G.t 11 rfl,x4,hf2])
       exact aZ hk hI hs (inT 12 rfl) fD aa ho zd (aU rfl rfl rfl pg) rfl
      ·have pg:=G.g 10 rfl;cases z
       ·exact aZ hk hI hs (inT 13 rfl) fD aa ho zd (aU rfl rfl rfl pg) rfl
       cases r1
       ·cases nf1
        ·exact G.sk 13 rfl pg rfl
        exact G.vl 13 rfl pg rfl (by simp[execOp,go_sem,G.t 12 rfl])
       exact aZ hk hI hs (inT 13 rfl) fD aa ho zd (aU rfl rfl rfl pg) rfl
      ·have pg:=G.g 6 rfl;cases z
       ·exact aZ hk hI hs (inT 14 rfl) fD aa ho zd (aU rfl rfl rfl pg) rfl
       cases r1
       ·cases nf1
        all_goals have p10:=G.d 10 rfl
        all_goals have p13:=G.d 13 rfl
        all_goals exact G.vl 14 rfl pg rfl (by simp[execOp,go_sem,aE p10,aE p13,xy])
       exact G.sk 14 rfl pg rfl
      ·have pg:=G.g 4 rfl;cases z
       ·exact G.sk 15 rfl pg rfl
       cases r1
       all_goals have p6:=G.d 6 rfl
       all_goals have p14:=G.d 14 rfl
       all_goals exact G.vl 15 rfl pg rfl (by simp[execOp,go_sem,aE p6,aE p14,jo])
      ·cases z
       all_goals have p4:=G.d 4 rfl
       all_goals have p15:=G.d 15 rfl
       all_goals exact G.nl 16 rfl (by simp[execOp,go_sem,aE p4,aE p15,hu])
      ·exact G.nl 17 rfl (by simp[execOp,go_sem,G.t 16 rfl])
      ·refine G.gv 17 18 rfl rfl rfl ?_;rintro rfl;simp[execOp,go_sem,e7x]
      ·refine G.gv 17 19 rfl rfl rfl ?_;rintro rfl;simp[execOp,go_sem,G.t 18 rfl]
      ·have pg:=G.g 19 rfl;cases u
       ·exact aZ hk hI hs (inT 20 rfl) fD aa ho zd (aU rfl rfl rfl pg) rfl
       cases k1
       ·exact G.vl 20 rfl pg rfl (by simp[execOp,go_sem,e3x])
       exact G.sk 20 rfl pg rfl
      ·have pg:=G.g 19 rfl;cases u
       ·exact aZ hk hI hs (inT 21 rfl) fD aa ho zd (aU rfl rfl rfl pg) rfl
       cases k1
       ·have Lx:=j2.out.next af;have x5:=Lx.cell 5;simp only[za,zb,zf]at x5;exact G.vl 21 rfl pg rfl (by simp[execOp,go_sem,G.t 20 rfl,x5,mh])
       exact G.sk 21 rfl pg rfl
      ·have pg:=G.g 19 rfl;cases u
       ·exact aZ hk hI hs (inT 22 rfl) fD aa ho zd (aU rfl rfl rfl pg) rfl
       cases k1
       ·exact G.vl 22 rfl pg rfl (by simp[execOp,go_sem,G.t 21 rfl,xc])
       exact G.sk 22 rfl pg rfl
      ·have pg:=G.g 19 rfl;cases u
       ·exact aZ hk hI hs (inT 23 rfl) fD aa ho zd (aU rfl rfl rfl pg) rfl
       cases k1
       ·exact G.vl 23 rfl pg rfl (by simp[execOp,go_sem,G.t 22 rfl])
       exact G.sk 23 rfl pg rfl
      ·have pg:=G.g 23 rfl;cases u
       ·exact aZ hk hI hs (inT 24 rfl) fD aa ho zd (aU rfl rfl rfl pg) rfl
       cases k1
       ·cases ng1
        ·exact G.sk 24 rfl pg rfl
        exact G.vl 24 rfl pg rfl (by simp[execOp,go_sem,e4x])
       exact aZ hk hI hs (inT 24 rfl) fD aa ho zd (aU rfl rfl rfl pg) rfl
      ·have pg:=G.g 23 rfl;cases u
       ·exact aZ hk hI hs (inT 25 rfl) fD aa ho zd (aU rfl rfl rfl pg) rfl
       cases k1
       ·cases ng1
        ·exact G.sk 25 rfl pg rfl
        have Lx:=HBb5.out.next af;have x5:=Lx.cell 5;simp only[za,zb,zf]at x5;exact G.vl 25 rfl pg rfl (by simp[execOp,go_sem,G.t 24 rfl,x5,qv])
       exact aZ hk hI hs (inT 25 rfl) fD aa ho zd (aU rfl rfl rfl pg) rfl
      ·have pg:=G.g 23 rfl;cases u
       ·exact aZ hk hI hs (inT 26 rfl) fD aa ho zd (aU rfl rfl rfl pg) rfl
       cases k1
       ·cases ng1
        ·exact G.sk 26 rfl pg rfl
        exact G.vl 26 rfl pg rfl (by simp[execOp,go_sem,G.t 25 rfl])
       exact aZ hk hI hs (inT 26 rfl) fD aa ho zd (aU rfl rfl rfl pg) rfl
      ·have pg:=G.g 19 rfl;cases u
       ·exact aZ hk hI hs (inT 27 rfl) fD aa ho zd (aU rfl rfl rfl pg) rfl
       cases k1
       ·cases ng1
        all_goals have p23:=G.d 23 rfl
        all_goals have p26:=G.d 26 rfl
        all_goals exact G.vl 27 rfl pg rfl (by simp[execOp,go_sem,aE p23,aE p26,ug])
       exact G.sk 27 rfl pg rfl
      ·have pg:=G.g 17 rfl;cases u
       ·exact G.sk 28 rfl pg rfl
       cases k1
       all_goals have p19:=G.d 19 rfl
       all_goals have p27:=G.d 27 rfl
       all_goals exact G.vl 28 rfl pg rfl (by simp[execOp,go_sem,aE p19,aE p27,qw])
      ·cases u
       all_goals have p17:=G.d 17 rfl
       all_goals have p28:=G.d 28 rfl
       all_goals exact G.nl 29 rfl (by simp[execOp,go_sem,aE p17,aE p28,hv])
      exact G.nl 30 rfl (by simp[execOp,go_sem,G.t 29 rfl])
     intro zl a1 w1 hI ap;have af:Below W5.heap.size W5 w1:=hI.st;have ae:=am.out;subst ae;have z2:=hI.ptk 30 rfl (ap 30 (by decide));obtain⟨ff,rfl,hf⟩:=hI.off.forms;rw[<- hf 2]at z2;clear hI;simp only[List.foldl,Act.put,yz,List.set];rw[z2]
     go_wp2_with fail
     go_ret
     exact⟨by first|exact aI HV.out.symm |(rw[HV.out];rfl),by first|exact de.out.trans (af.mono (by have:=de.out.size;omega)) |(rw[hq];exact de.out.trans (af.mono (by have:=de.out.size;omega)))⟩
    have hrf:Hid (rb=false):=zh (by rw[c6.out];have:=HY.out.2.2;rw[HY.out.1,HY.out.2.1]at this;revert this;cases r1 <;> cases r2 <;> cases k1 <;> cases k2 <;> simp)
    go_wp2_with fail
    go_ret
    exact⟨by first|exact aI hrf.out.symm |(rw[hrf.out];rfl),by first|exact de.out |(rw[hq];exact de.out)⟩
def NodeH.fine(h:NodeH):Prop:=-9223372036854775808<=h.v.mant/\h.v.mant<=9223372036854775807/\h.v.text.length<=1000000/\h.name.length<=100000
mutual
def Tree.fine:Tree->Prop
 | .mk h l=>h.fine/\uFO l
def uFO:List Tree->Prop
 | []=>True
 |t::r=>t.fine/\uFO r
end
theorem vM:∀ {l:List Tree} (i:Nat) (hi:i<l.length),uFO l->l[i].fine
 | [],_,hi,_=>absurd hi (by simp)
 |t::r,0,_,h=>h.1
 |t::r,i+1,hi,h=>vM (l:=r) i (by simpa using hi) h.2
theorem uBC{l:List Tree}{k:Int}(i:Nat)(h:bK (l.take i) k=false):bK l k=false:=by
 induction l generalizing i with
 |nil=>simp[bK]at h
 |cons t r ih=>
  cases i with
  |zero=>simp[bK]at h
  |succ i=>
   rw[List.take_succ_cons]at h;unfold bK at h ⊢;cases h1:(decide (k≠8)||decide (t.h.kind=0)) <;> cases h2:t.right k <;> rw[h1,h2]at h <;> try simp
   simp at h;exact ih i h
structure RF(a:Act)(g o:Nat)(above:Int):Prop where
 sz:287<=a.tmps.size
 s0:a.eval (.tmp 0)=.pointer (some ⟨g,o,none⟩)
 s1:a.eval (.tmp 1)=.int .i64 above
 df:a.defers=[]
theorem RF.off{a a':Act}{S:List Nat}{g o:Nat}{above:Int}(h:RF a g o above)(hO:Off S a a')(h0:0∉S)(h1:1∉S):RF a' g o above :=
 ⟨by rw[hO.size];exact h.sz,(hO.eval h0).trans h.s0,(hO.eval h1).trans h.s1,hO.defers.trans h.df⟩
theorem uGB{fn:Func}{t:Tmp}{a:Act}{w:World}{R:Ending->World->Prop}{v:Value}(h:fn.results=#[.tmp t])(hd:a.defers=[])(hv:a.eval (.tmp t)=v)(hR:R (.returned v) w):bodyPost Tryz.prog fn R .ret a w:=by
 refine yt (results_tmp h a.tmps _ _) hd ?_;have:a.tmps.getD t undef=v:=by rw[<- aE hv,Array.getD_eq_getD_getElem?]
 rw[this];exact hR
theorem eT{Q:Exit->Act->World->Prop}{a:Act}{w:World}{id:Nat}{x y s:Nat}{k c:Int}{ty:TypeId}{p1 p2:String}{t1 t2:TypeId}(b:Bool)(h:a.eval (.tmp s)=.int .i64 k)(hb:(k==c)=b)(hx:x<a.tmps.size)(hy:y<a.tmps.size)
  (hn:∀ a',Off [x,y] a a'->a'.eval (.tmp y)=.bool b->Q .normal a' w) :
  (Code.region id #[{ dst:=some x,op:=.binOp .eql ty (.tmp s) (.const (.int .i64 c)) ty,type:=t1,pos:=p1,after:=#[],guard:=none },{ dst:=some y,op:=.assign (.tmp x),type:=t2,pos:=p2,after:=#[⟨0,.data⟩],guard:=none }] false).wp Tryz.prog Q a w:=by
 subst hb;refine wp_region_lit ?_;refine wpList_plain rfl fun K hK=>?_
 unfold Oper.wp;have h1:(execOp a.eval { dst:=some x,op:=.binOp .eql ty (.tmp s) (.const (.int .i64 c)) ty,type:=t1,pos:=p1,after:=#[],guard:=none }).run Tryz.prog w=.ok (.value (.bool (k==c))) w:=by
  have h':=aE h;simp[execOp,go_sem,h']
 rw[h1];refine hK _ _ ?_;refine wpList_plain rfl fun K2 hK2=>?_
 unfold Oper.wp;have h2:(execOp (a.put (some x) (.bool (k==c))).eval { dst:=some y,op:=.assign (.tmp x),type:=t2,pos:=p2,after:=#[⟨0,.data⟩],guard:=none }).run Tryz.prog w=.ok (.value (.bool (k==c))) w:=by
  simp[execOp,go_sem];intro hh;omega
 rw[h2];refine hK2 _ _ ?_;exact hn _ (((Off.refl _ _).put (.head _) _).put (.tail _ (.head _)) _) (iD _ _ (by rw[pE];exact hy))
theorem wp_inc{Q:Exit->Act->World->Prop}{a:Act}{w:World}{id:Nat}{x s:Nat}{k:Int}{ty t1 t2:TypeId}{p1 p2:String}(h:a.eval (.tmp s)=.int .i64 k)(hk:IntKind.i64.wrap (k+1)=k+1)(hx:x<a.tmps.size)(hs:s<a.tmps.size)
  (hn:∀ a',Off [x,s] a a'->a'.eval (.tmp s)=.int .i64 (k+1)->Q .normal a' w) :
  (Code.region id #[{ dst:=some x,op:=.binOp .add ty (.tmp s) (.const (.int .i64 1)) ty,type:=t1,pos:=p1,after:=#[],guard:=none },{ dst:=some s,op:=.move (.tmp x),type:=t2,pos:=p2,after:=#[⟨0,.data⟩],guard:=none }] false).wp Tryz.prog Q a w:=by
 refine wp_region_lit ?_;refine wpList_plain rfl fun K hK=>?_
 unfold Oper.wp;have h1:(execOp a.eval { dst:=some x,op:=.binOp .add ty (.tmp s) (.const (.int .i64 1)) ty,type:=t1,pos:=p1,after:=#[],guard:=none }).run Tryz.prog w=.ok (.value (.int .i64 (k+1))) w:=by
  have h':=aE h;simp[execOp,go_sem,h',hk]
 rw[h1];refine hK _ _ ?_;refine wpList_plain rfl fun K2 hK2=>?_
 unfold Oper.wp;have h2:(execOp (a.put (some x) (.int .i64 (k+1))).eval { dst:=some s,op:=.move (.tmp x),type:=t2,pos:=p2,after:=#[⟨0,.data⟩],guard:=none }).run Tryz.prog w=.ok (.value (.int .i64 (k+1))) w:=by
  simp[execOp,go_sem];intro hh;omega
 rw[h2];refine hK2 _ _ ?_;exact hn _ (((Off.refl _ _).put (.head _) _).put (.tail _ (.head _)) _) (iD _ _ (by rw[pE];exact hs))
end Go.Proofs.YtmgjidnalpgegaaGreatDoor
