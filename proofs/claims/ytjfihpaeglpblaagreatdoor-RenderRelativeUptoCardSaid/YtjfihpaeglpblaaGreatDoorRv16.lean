/-
  Lemmas, part 16: RmF RkL RmG RmH RmI.
-/
import Derived.Test.YtjfihpaeglpblaaGreatDoorRv15
set_option maxHeartbeats 100000000
set_option maxRecDepth 1000000
namespace Go.Proofs.YtjfihpaeglpblaaGreatDoor
open Go.RowKit
theorem rOwnG8(v:Val)(s:Bs)(a b:Cor)(r:Int)(l:List Tree)(A:Option Addr)(cp:Nat)(Cn:List Value)(w:World)(hk:KidsOk w [] A l)(hs:(Tree.mk ⟨8,v,s,a,b,r⟩ l).size<=1000000)(ah:Hid (Cn.toArray=aK ⟨8,v,s,a,b,r⟩ A l.length cp)) :
  Calls Tryz.prog 87 #[.agg Cn.toArray] w fun e w'=>e=.returned (.bool ((decide (1<=r)&&decide (1<=l.length)&&decide ((l.length:Int).tmod r=0))&&NodeH.same ⟨8,aE,[],aQ,aQ,r⟩ ⟨8,v,s,a,b,r⟩))/\Below w.heap.size w w':=by
 obtain⟨sm,ft⟩:∃ c,NodeH.same ⟨8,aE,[],aQ,aQ,r⟩ ⟨8,v,s,a,b,r⟩=c:=⟨_,rfl⟩
 have m6:=zh ft;rw[ft];clear ft;have de:=zh hs;clear hs;have HK:=zh hk;clear hk;have qp:l.length<=1000000:=by have h1:=cF l;have h2:aN l+1<=1000000:=de.out;omega
 obtain⟨W1,Cm,Ck,am,HL,HB,fo,ew,i8,HT,yo,cu,bu,bw,bf,er⟩:=dU 8 (A) l.length cp ⟨8,aE,[],aQ,aQ,r⟩ Cn w;have x0:=HL.out.cell 0;have x21:=HL.out.cell 21;rw[ah.out]at x0 x21;simp only[za,zb,zf]at x0 x21
 go_in
 go_upto_region 1 with fail
 rw[am.out];clear am;generalize hQ:w.heap.size=q at *
 go_upto_region 2 with(first |(refine yq rfl 34 (.tmp 3) (.tmp 9) rfl W1.heap.size 0 Cm.toArray rfl (congrArg Value.agg ew.out) HT.out cu.out yo.out ?_;change wpList _ _ _ _ _ (World.setCells _ W1.heap.size 0 Cm)))
 generalize World.setCells _ _ _ _=W3 at bu bw bf ⊢;rw[ew.out];clear x0 x21;have dc:=fo.out;generalize W1.heap.size=q1 at *;subst dc;clear HL HB fo ew HT yo cu;have x0:=bw.out.cell 0;have x20:=bw.out.cell 20;rw[ah.out]at x0 x20;simp only[za,zb,zf]at x0 x20;have y20:=bu.out.cell 20;have yf20:=bu.out.frozen 20;rw[i8.out]at y20;simp only[za,zb,zf]at y20
 go_upto_region 28 with fail
 clear x0 x20;clear y20 yf20;have f7:=bu.out;rw[i8.out]at f7;have dm:Hid (Lies _ (q+1) 34 Ck.toArray):=zh (by rw[er.out];exact(f7.put 20 (vI r)));have au:=zh (aC bw.out (b:=q+1) (by omega) 20 (vI r));have bt:=zh (bf.out.setCell (p:=⟨q+1,20,none⟩) (Nat.le_succ q) (vI r));generalize World.setCell _ _ _=W4 at dm au bt ⊢;clear bu bw bf f7;have x20:=au.out.cell 20;have x21:=au.out.cell 21;rw[ah.out]at x20 x21;simp only[za,zb,zf]at x20 x21;by_cases hr:1<=r
 rotate_left
 ·have hdr:=zh (decide_eq_false hr)
  go_wp2_with fail
  go_ret
  exact⟨aA (by rw[hdr.out];try simp),by first|exact bt.out |(rw[hQ];exact bt.out)⟩
 have fq:¬ r=0:=by omega
 have hdr:=zh (decide_eq_true hr);by_cases hl:1<=l.length
 rotate_left
 ·have el:¬ (1:Int)<=(l.length:Int):=by omega
  have r8:=zh (decide_eq_false hl);clear hl
  go_wp2_with fail
  go_ret
  exact⟨aA (by rw[r8.out];try simp),by first|exact bt.out |(rw[hQ];exact bt.out)⟩
 have el:(1:Int)<=(l.length:Int):=by omega
 have r8:=zh (decide_eq_true hl);by_cases hm:(l.length:Int).tmod r=0
 rotate_left
 ·have hdm:=zh (decide_eq_false hm);have f7:((l.length:Int) % r==0)=false:=by rw[Int.tmod_eq_emod_of_nonneg (by omega)]at hm;simpa using hm
  clear hm hl
  go_wp2_with fail
  go_ret
  exact⟨aA (by rw[hdm.out];try simp),by first|exact bt.out |(rw[hQ];exact bt.out)⟩
 have hdm:=zh (decide_eq_true hm);have f7:((l.length:Int) % r==0)=true:=by rw[Int.tmod_eq_emod_of_nonneg (by omega)]at hm;rw[hm];rfl
 clear hm hl;have m8:=zh (dm.out.rangeL);have iu:=zh (au.out.rangeL);have HI:=zh (cP ah.out);have je:=zh (cP er.out);have ee:=zh (cU 1000000 zr (.mk ⟨8,aE,[],aQ,aQ,r⟩ l) (.mk ⟨8,v,s,a,b,r⟩ l) _ _ W4 de.out ⟨A,cp,er.out,HK.out.kp (Kp.of_below (by rw[hQ];exact bt.out))⟩ ⟨A,cp,ah.out,HK.out.kp (Kp.of_below (by rw[hQ];exact bt.out))⟩);rw[dI,m6.out]at ee
 go_wp2_with (first |(refine aL (Eq.trans (aT rfl rfl rfl rfl) rfl) 34 (.tmp 3) rfl (q+1) 0 rfl Ck _ m8.out Tryz.underlying34 rfl je.out ?_) |(refine aL (Eq.trans (aT rfl rfl rfl rfl) rfl) 34 (.tmp 1) rfl q 0 rfl Cn _ iu.out Tryz.underlying34 rfl HI.out ?_))
 refine ee.out.mono ?_;rintro e w9 ⟨rfl,ii⟩;have iy:=zh (bt.out.trans (ii.mono (by have:=bt.out.size;omega)));clear ii
 go_wp2_with fail
 go_ret
 exact⟨aA (by rw[hdm.out,hdr.out,r8.out];try simp),by first|exact iy.out |(rw[hQ];exact iy.out)⟩
theorem rOwnG4a(v:Val)(s:Bs)(a b:Cor)(r:Int)(l:List Tree)(A:Option Addr)(cp:Nat)(Cn:List Value)(w:World)(hk:KidsOk w [] A l)(hs:(Tree.mk ⟨4,v,s,a,b,r⟩ l).size<=1000000)(ah:Hid (Cn.toArray=aK ⟨4,v,s,a,b,r⟩ A l.length cp))(ji:s.length<=100000)(hn:l.length≠1) :
  Calls Tryz.prog 87 #[.agg Cn.toArray] w fun e w'=>e=.returned (.bool ((bY s&&decide (l.length<=32)&&decide (l.length≠1))&&NodeH.same ⟨4,aE,s,aQ,aQ,0⟩ ⟨4,v,s,a,b,r⟩))/\Below w.heap.size w w':=by
 obtain⟨sm,ft⟩:∃ c,NodeH.same ⟨4,aE,s,aQ,aQ,0⟩ ⟨4,v,s,a,b,r⟩=c:=⟨_,rfl⟩
 have m6:=zh ft;rw[ft];clear ft;have ol:((l.length:Int) != 1)=true:=by rw[bne_iff_ne];omega
 have vg:=zh (fun W=>vO s W ji);generalize bY s=b1 at *;clear ji;have de:=zh hs;clear hs;have HK:=zh hk;clear hk;have qp:l.length<=1000000:=by have h1:=cF l;have h2:aN l+1<=1000000:=de.out;omega
 obtain⟨W1,Cm,Ck,am,HL,HB,fo,ew,i8,HT,yo,cu,bu,bw,bf,er⟩:=dU 4 (A) l.length cp ⟨4,aE,s,aQ,aQ,0⟩ Cn w;have x0:=HL.out.cell 0;have x21:=HL.out.cell 21;rw[ah.out]at x0 x21;simp only[za,zb,zf]at x0 x21
 go_in
 go_upto_region 1 with fail
 rw[am.out];clear am;generalize hQ:w.heap.size=q at *
 go_upto_region 2 with(first |(refine yq rfl 34 (.tmp 3) (.tmp 9) rfl W1.heap.size 0 Cm.toArray rfl (congrArg Value.agg ew.out) HT.out cu.out yo.out ?_;change wpList _ _ _ _ _ (World.setCells _ W1.heap.size 0 Cm)))
 generalize World.setCells _ _ _ _=W3 at bu bw bf ⊢;rw[ew.out];clear x0 x21;have dc:=fo.out;generalize W1.heap.size=q1 at *;subst dc;clear HL HB fo ew HT yo cu;have x0:=bw.out.cell 0;have x7:=bw.out.cell 7;rw[ah.out]at x0 x7;simp only[za,zb,zf]at x0 x7;have y7:=bu.out.cell 7;have yf7:=bu.out.frozen 7;rw[i8.out]at y7;simp only[za,zb,zf]at y7
 go_upto_region 16 with fail
 clear x0 x7;clear y7 yf7;have f7:=bu.out;rw[i8.out]at f7;have dm:Hid (Lies _ (q+1) 34 Ck.toArray):=zh (by rw[er.out];exact(f7.put 7 (vT s)));have au:=zh (aC bw.out (b:=q+1) (by omega) 7 (vT s));have bt:=zh (bf.out.setCell (p:=⟨q+1,7,none⟩) (Nat.le_succ q) (vT s));generalize World.setCell _ _ _=W4 at dm au bt ⊢;clear bu bw bf f7;have x7:=au.out.cell 7;have x21:=au.out.cell 21;rw[ah.out]at x7 x21;simp only[za,zb,zf]at x7 x21
 go_wp2_with fail
 refine(vg.out _).mono ?_;rintro e w5 ⟨rfl,rfl⟩;clear vg;cases b1
 ·go_wp2_with fail
  go_ret
  exact⟨aA (by rfl;try simp),by first|exact bt.out |(rw[hQ];exact bt.out)⟩
 by_cases hl:l.length<=32
 rotate_left
 ·have el:¬ (l.length:Int)<=32:=by omega
  have r8:=zh (decide_eq_false hl);clear hl hn
  go_wp2_with fail
  go_ret
  exact⟨aA (by rw[r8.out];try simp),by first|exact bt.out |(rw[hQ];exact bt.out)⟩
 have el:(l.length:Int)<=32:=by omega
 have r8:=zh (decide_eq_true hl);have hdn:=zh (decide_eq_true hn);clear hl hn;have m8:=zh (dm.out.rangeL);have iu:=zh (au.out.rangeL);have HI:=zh (cP ah.out);have je:=zh (cP er.out);have ee:=zh (cU 1000000 zr (.mk ⟨4,aE,s,aQ,aQ,0⟩ l) (.mk ⟨4,v,s,a,b,r⟩ l) _ _ W4 de.out ⟨A,cp,er.out,HK.out.kp (Kp.of_below (by rw[hQ];exact bt.out))⟩ ⟨A,cp,ah.out,HK.out.kp (Kp.of_below (by rw[hQ];exact bt.out))⟩);rw[dI,m6.out]at ee
 go_wp2_with (first |(refine aL (Eq.trans (aT rfl rfl rfl rfl) rfl) 34 (.tmp 3) rfl (q+1) 0 rfl Ck _ m8.out Tryz.underlying34 rfl je.out ?_) |(refine aL (Eq.trans (aT rfl rfl rfl rfl) rfl) 34 (.tmp 1) rfl q 0 rfl Cn _ iu.out Tryz.underlying34 rfl HI.out ?_))
 refine ee.out.mono ?_;rintro e w9 ⟨rfl,ii⟩;have iy:=zh (bt.out.trans (ii.mono (by have:=bt.out.size;omega)));clear ii
 go_wp2_with fail
 go_ret
 exact⟨aA (by rw[r8.out,hdn.out];try simp),by first|exact iy.out |(rw[hQ];exact iy.out)⟩
theorem rOwnG4b(v:Val)(s:Bs)(a b:Cor)(r:Int)(g og:Nat)(kk:Int)(l:List Tree)(A:Option Addr)(cp:Nat)(Cn:List Value)(w:World)(hk:KidsOk w [] A l)(hs:(Tree.mk ⟨4,v,s,a,b,r⟩ l).size<=1000000)(ah:Hid (Cn.toArray=aK ⟨4,v,s,a,b,r⟩ A l.length cp))(ji:s.length<=100000)(hl:l.length=1)(hA:A=some ⟨g,og,none⟩)(hkd:∀ W',Below w.heap.size w W'->W'.cell? ⟨g,og,none⟩=some (vI kk)) :
  Calls Tryz.prog 87 #[.agg Cn.toArray] w fun e w'=>e=.returned (.bool ((bY s&&decide (kk≠9))&&NodeH.same ⟨4,aE,s,aQ,aQ,0⟩ ⟨4,v,s,a,b,r⟩))/\Below w.heap.size w w':=by
 obtain⟨sm,ft⟩:∃ c,NodeH.same ⟨4,aE,s,aQ,aQ,0⟩ ⟨4,v,s,a,b,r⟩=c:=⟨_,rfl⟩
 have m6:=zh ft;rw[ft];clear ft;subst hA;have wd:=zh hkd;have el:(l.length:Int)<=32:=by omega
 have ol:((l.length:Int) != 1)=false:=by rw[hl];rfl
 have vg:=zh (fun W=>vO s W ji);generalize bY s=b1 at *;clear ji;have hlp:(0:Int)<(l.length:Int):=by omega
 clear hl hkd;have de:=zh hs;clear hs;have HK:=zh hk;clear hk;have qp:l.length<=1000000:=by have h1:=cF l;have h2:aN l+1<=1000000:=de.out;omega
 obtain⟨W1,Cm,Ck,am,HL,HB,fo,ew,i8,HT,yo,cu,bu,bw,bf,er⟩:=dU 4 (some ⟨g,og,none⟩) l.length cp ⟨4,aE,s,aQ,aQ,0⟩ Cn w;have x0:=HL.out.cell 0;have x21:=HL.out.cell 21;rw[ah.out]at x0 x21;simp only[za,zb,zf]at x0 x21
 go_in
 go_upto_region 1 with fail
 rw[am.out];clear am;generalize hQ:w.heap.size=q at *
 go_upto_region 2 with(first |(refine yq rfl 34 (.tmp 3) (.tmp 9) rfl W1.heap.size 0 Cm.toArray rfl (congrArg Value.agg ew.out) HT.out cu.out yo.out ?_;change wpList _ _ _ _ _ (World.setCells _ W1.heap.size 0 Cm)))
 generalize World.setCells _ _ _ _=W3 at bu bw bf ⊢;rw[ew.out];clear x0 x21;have dc:=fo.out;generalize W1.heap.size=q1 at *;subst dc;clear HL HB fo ew HT yo cu;have x0:=bw.out.cell 0;have x7:=bw.out.cell 7;rw[ah.out]at x0 x7;simp only[za,zb,zf]at x0 x7;have y7:=bu.out.cell 7;have yf7:=bu.out.frozen 7;rw[i8.out]at y7;simp only[za,zb,zf]at y7
 go_upto_region 16 with fail
 clear x0 x7;clear y7 yf7;have f7:=bu.out;rw[i8.out]at f7;have dm:Hid (Lies _ (q+1) 34 Ck.toArray):=zh (by rw[er.out];exact(f7.put 7 (vT s)));have au:=zh (aC bw.out (b:=q+1) (by omega) 7 (vT s));have bt:=zh (bf.out.setCell (p:=⟨q+1,7,none⟩) (Nat.le_succ q) (vT s));generalize World.setCell _ _ _=W4 at dm au bt ⊢;clear bu bw bf f7;have x7:=au.out.cell 7;have x21:=au.out.cell 21;rw[ah.out]at x7 x21;simp only[za,zb,zf]at x7 x21;have k0:=wd.out W4 bt.out
 go_wp2_with fail
 refine(vg.out _).mono ?_;rintro e w5 ⟨rfl,rfl⟩;clear vg;cases b1
 ·go_wp2_with fail
  go_ret
  exact⟨aA (by rfl;try simp),by first|exact bt.out |(rw[hQ];exact bt.out)⟩
 by_cases hk9:kk=9
 ·have gy:(kk != 9)=false:=by simpa using hk9
  have hdk:=zh (decide_eq_false (fun h:kk≠9=>h hk9));clear hk9
  go_wp2_with fail
  go_ret
  exact⟨aA (by rw[hdk.out];try simp),by first|exact bt.out |(rw[hQ];exact bt.out)⟩
 have gy:(kk != 9)=true:=by simpa using hk9
 have hdk:=zh (decide_eq_true hk9);clear hk9;have m8:=zh (dm.out.rangeL);have iu:=zh (au.out.rangeL);have HI:=zh (cP ah.out);have je:=zh (cP er.out);have ee:=zh (cU 1000000 zr (.mk ⟨4,aE,s,aQ,aQ,0⟩ l) (.mk ⟨4,v,s,a,b,r⟩ l) _ _ W4 de.out ⟨some ⟨g,og,none⟩,cp,er.out,HK.out.kp (Kp.of_below (by rw[hQ];exact bt.out))⟩ ⟨some ⟨g,og,none⟩,cp,ah.out,HK.out.kp (Kp.of_below (by rw[hQ];exact bt.out))⟩);rw[dI,m6.out]at ee
 go_wp2_with (first |(refine aL (Eq.trans (aT rfl rfl rfl rfl) rfl) 34 (.tmp 3) rfl (q+1) 0 rfl Ck _ m8.out Tryz.underlying34 rfl je.out ?_) |(refine aL (Eq.trans (aT rfl rfl rfl rfl) rfl) 34 (.tmp 1) rfl q 0 rfl Cn _ iu.out Tryz.underlying34 rfl HI.out ?_))
 refine ee.out.mono ?_;rintro e w9 ⟨rfl,ii⟩;have iy:=zh (bt.out.trans (ii.mono (by have:=bt.out.size;omega)));clear ii
 go_wp2_with fail
 go_ret
 exact⟨aA (by rw[hdk.out];try simp),by first|exact iy.out |(rw[hQ];exact iy.out)⟩
theorem rOwnGx(k:Int)(v:Val)(s:Bs)(a b:Cor)(r:Int)(l:List Tree)(A:Option Addr)(cp:Nat)(Cn:List Value)(w:World)(ah:Hid (Cn.toArray=aK ⟨k,v,s,a,b,r⟩ A l.length cp))(h:∀ j:Int,0<=j->j<=9->k≠j) :
  Calls Tryz.prog 87 #[.agg Cn.toArray] w fun e w'=>e=.returned (.bool false)/\Below w.heap.size w w':=by
 have n0:((k:Int)==0)=false:=by simpa using h 0 (by decide) (by decide)
 have n1:((k:Int)==1)=false:=by simpa using h 1 (by decide) (by decide)
 have n2:((k:Int)==2)=false:=by simpa using h 2 (by decide) (by decide)
 have n3:((k:Int)==3)=false:=by simpa using h 3 (by decide) (by decide)
 have n4:((k:Int)==4)=false:=by simpa using h 4 (by decide) (by decide)
 have n5:((k:Int)==5)=false:=by simpa using h 5 (by decide) (by decide)
 have n6:((k:Int)==6)=false:=by simpa using h 6 (by decide) (by decide)
 have n7:((k:Int)==7)=false:=by simpa using h 7 (by decide) (by decide)
 have n8:((k:Int)==8)=false:=by simpa using h 8 (by decide) (by decide)
 have n9:((k:Int)==9)=false:=by simpa using h 9 (by decide) (by decide)
 clear h;obtain⟨W1,Cm,-,am,HL,HB,fo,ew,i8,HT,yo,cu,-,bw,bf,-⟩:=dU k A l.length cp head0 Cn w;have x0:=HL.out.cell 0;have x21:=HL.out.cell 21;rw[ah.out]at x0 x21;simp only[za,zb,zf]at x0 x21
 go_in
 go_upto_region 1 with fail
 rw[am.out];clear am;generalize hQ:w.heap.size=q at *
 go_upto_region 2 with(first |(refine yq rfl 34 (.tmp 3) (.tmp 9) rfl W1.heap.size 0 Cm.toArray rfl (congrArg Value.agg ew.out) HT.out cu.out yo.out ?_;change wpList _ _ _ _ _ (World.setCells _ W1.heap.size 0 Cm)))
 generalize World.setCells _ _ _ _=W3 at bw bf ⊢;rw[ew.out];clear x0 x21;have dc:=fo.out;generalize W1.heap.size=q1 at *;subst dc;clear HL HB fo ew HT yo cu i8;have x0:=bw.out.cell 0;rw[ah.out]at x0;simp only[za,zb]at x0
 go_wp2_with fail
 go_ret
 exact⟨rfl,by first|exact bf.out |(rw[hQ];exact bf.out)⟩
theorem uGO{h h':NodeH}(e:NodeH.same h h'=true):h=h':=by
 unfold NodeH.same at e;simp only[yh,decide_eq_true_eq,gT,beq_iff_eq]at e;obtain⟨⟨⟨⟨⟨e1,e2⟩,e3⟩,e4⟩,e5⟩,e6⟩:=e;cases h;cases h';simp only at e1 e2 e3 e4 e5 e6;subst e1 e2 e3 e4 e5 e6;rfl
theorem qQ{t:Tree}{k:Int}(hr:t.right k=true)(h8:k≠8):¬ (t.h.kind=0/\t.h.v.kind=1/\t.h.v.mant<0):=by
 obtain⟨h,l⟩:=t;rintro⟨h0,h1,h2⟩;have h0:h.kind=0:=h0;have h2:h.v.mant<0:=h2;rw[Tree.right,yh]at hr;have g:=hr.1;unfold bJ dH at g;rw[if_pos h0]at g;simp[h8]at g;omega
def uBO(h:NodeH)(n:Nat)(kids:List Int):Bool:=bJ h n kids (if h.kind=9 then 4 else 8)
theorem eP(h h':NodeH):NodeH.same h h'=NodeH.same h' h:=by
 have key:∀ x y:NodeH,NodeH.same x y=true->NodeH.same y x=true:=fun x y e=>by have h:=uGO e;subst h;exact e
 cases h1:NodeH.same h h' with
 |true=>exact(key _ _ h1).symm
 |false=>
  cases h2:NodeH.same h' h with
  |false=>rfl
  |true=>rw[key _ _ h2]at h1;cases h1
theorem un_in(s:Bs):(([[45],[43],[37]]:List Bs).contains s)=unB s:=by
 unfold unB;simp only[List.contains_cons,List.contains_nil,Bool.or_false,Bool.or_assoc]
theorem bin_in(s:Bs):(([[43],[45],[42],[47],[94],[38],[61],[60,62],[60],[60,61],[62],[62,61]]:List Bs).contains s)=mS s:=by
 unfold mS;simp only[List.contains_cons,List.contains_nil,Bool.or_false,Bool.or_assoc]
theorem rOwn_any(t:Tree)(cs:Array Value)(w:World)(hs:t.size<=1000000)(hf:t.h.fine)(ht:TreeIn w t cs) :
  Calls Tryz.prog 87 #[.agg cs] w fun e w'=>e=.returned (.bool (uBO t.h t.l.length (t.l.map fun t=>t.h.kind)))/\Below w.heap.size w w':=by
 obtain⟨⟨k,v,s,a,b,r⟩,l⟩:=t;obtain⟨A,cp,hc,hk⟩:=ht;obtain⟨Cn,rfl⟩:∃ C:List Value,cs=C.toArray:=⟨cs.toList,by simp⟩
 have nv:KidsOk w [] A l:=hk;clear hk;have ah:Hid (Cn.toArray=aK ⟨k,v,s,a,b,r⟩ A l.length cp):=zh hc;have hf:NodeH.fine ⟨k,v,s,a,b,r⟩:=hf;show Calls Tryz.prog 87 #[.agg Cn.toArray] w fun e w'=>e=.returned (.bool (uBO ⟨k,v,s,a,b,r⟩ l.length (l.map fun t=>t.h.kind)))/\Below w.heap.size w w'
 obtain⟨f1,f2,f3,f4⟩:-9223372036854775808<=v.mant/\v.mant<=9223372036854775807/\v.text.length<=1000000/\s.length<=100000:=hf;unfold uBO bJ;dsimp only;by_cases k0:k=0
 ·subst k0;refine(rOwnG0 v s a b r l A cp Cn w nv hs ah ⟨f1,f2,f3⟩).mono ?_;rintro e w' ⟨rfl,hb⟩;refine⟨aA ?_,hb⟩;rw[eP];simp[dH,Bool.and_assoc,Bool.and_comm]
 by_cases k1:k=1
 ·subst k1;refine(rOwnG1 v s a b r l A cp Cn w nv hs ah).mono ?_;rintro e w' ⟨rfl,hb⟩;refine⟨aA ?_,hb⟩;rw[eP];simp[Bool.and_assoc,Bool.and_comm]
 by_cases k3:k=3
 ·subst k3;refine(rOwnG3 v s a b r l A cp Cn w nv hs ah).mono ?_;rintro e w' ⟨rfl,hb⟩;refine⟨aA ?_,hb⟩;rw[eP];simp[Bool.and_assoc,Bool.and_comm]
 by_cases k2:k=2
 ·subst k2;refine(rOwnG2 v s a b r l A cp Cn w nv hs ah).mono ?_;rintro e w' ⟨rfl,hb⟩;refine⟨aA ?_,hb⟩;rw[eP];simp[Bool.and_assoc,Bool.and_comm]
 by_cases k4:k=4
 ·subst k4;rw[if_neg (by decide),if_neg (by decide),if_neg (by decide),if_pos rfl,eP];by_cases hn:l.length=1
  ·have hp:0<l.length:=by omega
   obtain⟨g,og,ci,hA,fv,da⟩:=gN nv 0 hp;refine(rOwnG4b v s a b r g og l[0].h.kind l A cp Cn w nv hs ah f4 hn hA (fun W' hb=>by
    obtain⟨c1,A',li,c2,_⟩:=da W' (Kp.of_below hb);have h0:ci[0]?=some (vI l[0].h.kind):=by
     have:=congrArg (fun a=>a[0]?) c2;simpa using this
    have:=c1 0 _ h0;simpa using this)).mono ?_
   rintro e w' ⟨rfl,hb⟩;refine⟨aA ?_,hb⟩;have e9:decide (l.map (fun t=>t.h.kind)=[9])=decide (l[0].h.kind=9):=by
    rw[decide_eq_decide];cases l with
    |nil=>simp at hp
    |cons x r=>
     cases r with
     |nil=>simp
     |cons y r=>simp at hn
   rw[e9,decide_eq_true hn,decide_eq_true (show l.length<=32 by omega)];by_cases h9:l[0].h.kind=9
   ·rw[decide_eq_true h9,decide_eq_false (fun h=>h h9)];simp
   rw[decide_eq_false h9,decide_eq_true h9];simp
  refine(rOwnG4a v s a b r l A cp Cn w nv hs ah f4 hn).mono ?_;rintro e w' ⟨rfl,hb⟩;refine⟨aA ?_,hb⟩;rw[decide_eq_true hn,decide_eq_false hn];simp
 by_cases k5:k=5
 ·subst k5;refine(rOwnG5 v s a b r l A cp Cn w nv hs ah).mono ?_;rintro e w' ⟨rfl,hb⟩;refine⟨aA ?_,hb⟩;rw[eP,un_in];simp[Bool.and_assoc]
 by_cases k6:k=6
 ·subst k6;refine(rOwnG6 v s a b r l A cp Cn w nv hs ah).mono ?_;rintro e w' ⟨rfl,hb⟩;refine⟨aA ?_,hb⟩;rw[eP,bin_in];simp[Bool.and_assoc]
 by_cases k7:k=7
 ·subst k7;refine(rOwnG7 v s a b r l A cp Cn w nv hs ah f4).mono ?_;rintro e w' ⟨rfl,hb⟩;refine⟨aA ?_,hb⟩;rw[eP];simp[Bool.and_assoc,Bool.and_comm]
 by_cases k8:k=8
 ·subst k8;refine(rOwnG8 v s a b r l A cp Cn w nv hs ah).mono ?_;rintro e w' ⟨rfl,hb⟩;refine⟨aA ?_,hb⟩;rw[eP];simp[Bool.and_assoc]
 by_cases k9:k=9
 ·subst k9;refine(rOwnG9 v s a b r l A cp Cn w nv hs ah).mono ?_;rintro e w' ⟨rfl,hb⟩;refine⟨aA ?_,hb⟩;rw[eP];simp[Bool.and_comm]
 refine(rOwnGx k v s a b r l A cp Cn w ah (fun j h0 h9 e=>by omega)).mono ?_;rintro e w' ⟨rfl,hb⟩;refine⟨aA ?_,hb⟩;rw[if_neg k0,if_neg (by omega),if_neg k2,if_neg k4,if_neg k5,if_neg k6,if_neg k7,if_neg k8,if_neg k9]
def Tree.belowB(t:Tree):Bool:=decide (t.h.kind=0)&&decide (t.h.v.kind=1)&&decide (t.h.v.mant<0)
theorem oS{t:Tree}:t.belowB=true↔(t.h.kind=0/\t.h.v.kind=1/\t.h.v.mant<0):=by
 unfold Tree.belowB;simp only[yh,decide_eq_true_eq,and_assoc]
theorem uCG{h:NodeH}{n:Nat}{kids:List Int}{k:Int}(hb:k=8\/¬ (h.kind=0/\h.v.kind=1/\h.v.mant<0)):bJ h n kids k=(uBO h n kids&&!(decide (h.kind=9)&&!decide (k=4))):=by
 unfold uBO;by_cases k9:h.kind=9
 ·rw[if_pos k9,decide_eq_true k9];unfold bJ;simp only[k9];simp;by_cases k4:k=4
  ·simp[k4]
  simp[k4]
 rw[if_neg k9,decide_eq_false k9];simp only[Bool.false_and,Bool.not_false,Bool.and_true];by_cases k0:h.kind=0
 ·unfold bJ;rw[if_pos k0,if_pos k0];have e:dH h.v (decide (k=8))=dH h.v (decide ((8:Int)=8)):=by
   rcases hb with hb|hb
   ·rw[hb]
   unfold dH;cases hr:aW h.v with
   |false=>simp
   |true=>
    have h0:0<=h.v.mant:=by
     by_cases h1:h.v.kind=1
     ·have:=hb;omega
     have lu:=hr;unfold aW at lu;simp only[yh,Bool.not_eq_true',Bool.or_eq_false_iff,Bool.and_eq_false_iff,decide_eq_false_iff_not,decide_eq_true_eq,Bool.not_eq_false']at lu;have:=lu.1.1.1.1;rcases this with g|g
     ·exact absurd h1 g
     omega
    simp[h0]
  rw[e]
 unfold bJ;rw[if_neg k0,if_neg k0];simp only[k9,if_false]
theorem yX{l:List Tree}{k:Int}{i:Nat}(h:i<l.length):aZ (l.drop i) k=(((decide (k≠8)||decide (l[i].h.kind=0))&&l[i].right k)&&aZ (l.drop (i+1)) k):=by
 rw[yx h,aZ]
theorem yR:∀ (n:Nat),n<=1000000->∀ (t:Tree) (k:Int) (b:Bool) (cs:Array Value) (w:World),t.size<=n->t.fine->(k=8\/t.belowB=false)->b=decide (k=4)->TreeIn w t cs->Calls Tryz.prog 39 #[.agg cs,.bool b] w fun e w'=>e=.returned (.bool (t.right k))/\Below w.heap.size w w':=by
 intro n
 induction n with
 |zero=>intro _ t _ _ _ _ hs;cases t;simp[Tree.size]at hs
 |succ n ih=>
 intro bk;rintro⟨h,l⟩ k b cs w hs hf mv rfl ht;have IH:=zh (fun(i:Nat) (hi:i<l.length) cs W (hb:h.kind=8\/(l[i]'hi).belowB=false) h2=>ih (by omega) (l[i]'hi) h.kind (decide (h.kind=4)) cs W (by have h9:(l[i]'hi).size<(Tree.mk h l).size:=fG (t:=.mk h l) (i:=i) hi;omega) (oW i hi hf.2) hb rfl h2);have hR:(Tree.mk h l).right k=(uBO h l.length (l.map fun t=>t.h.kind)&&!(decide (h.kind=9)&&!decide (k=4))&&aZ l h.kind):=by
  rw[Tree.right,uCG (mv.elim .inl (fun h8=>.inr (fun h9=>by rw[(oS (t:=.mk h l)).2 h9]at h8;cases h8)))]
 obtain⟨rr,ny⟩:∃ r,(Tree.mk h l).right k=r:=⟨_,rfl⟩
 rw[ny]at hR ⊢;obtain⟨ow,how⟩:∃ x,uBO h l.length (l.map fun t=>t.h.kind)=x:=⟨_,rfl⟩
 rw[how]at hR;have HOWN:Hid (∀ W,Below w.heap.size w W->Calls Tryz.prog 87 #[.agg cs] W fun e w'=>e=.returned (.bool ow)/\Below W.heap.size W w'):=zh (fun W hb=>by rw[<- how];exact rOwn_any (.mk h l) cs W (by omega) hf.1 (ht.kp (Kp.of_below hb)));obtain⟨b9,ii⟩:∃ x,decide (h.kind=9)=x:=⟨_,rfl⟩
 have h9b:(h.kind==9)=b9:=by rw[<- ii];rfl
 rw[ii]at hR;generalize decide (k=4)=b at *;obtain⟨d0,qo⟩:∃ x,(!ow||(b9&&!b))=x:=⟨_,rfl⟩
 have HR:Hid (rr=(!d0&&aZ l h.kind)):=zh (by rw[hR,<- qo];cases ow <;> cases b9 <;> cases b <;> rfl);have HD0:=zh qo;clear hR ny how ii qo mv;obtain⟨A,cp,hc,hk⟩:=ht;obtain⟨Cn,rfl⟩:∃ C:List Value,cs=C.toArray:=⟨cs.toList,by simp⟩
 have fz:Hid (l.length<=1000000):=zh (by have h1:=cF l;have h2:aN l+1<=n+1:=hs;omega);clear ih hs hf;dsimp only[Tree.h,Tree.l]at hk hc;have HK:=zh hk;have ah:Hid (Cn.toArray=aK h A l.length cp):=zh hc;clear hk hc;generalize iz:(w.alloc (.cells Cn.toArray 34))=W1;have HL:Hid (Lies W1 w.heap.size 34 Cn.toArray):=zh (by rw[<- iz];exact Lies.new _ _ _);have HB:Hid (Below w.heap.size w W1):=zh (by rw[<- iz];exact zp _);have am:=zh iz;clear iz;have HO:=zh (HOWN.out W1 HB.out);have HI:=zh (cP ah.out);have iu:=zh (HL.out.rangeL)
 go_in
 go_upto_region 1 with fail
 rw[am.out];clear am;generalize hQ:w.heap.size=q at *
 go_cut [17] (fun v wx=>v=.bool d0/\Hid (Below W1.heap.size W1 wx))
 case first=>
  go_wp2_with (first |(refine yr rfl 34 (.tmp 2) rfl q 0 rfl Cn _ iu.out Tryz.underlying34 rfl HI.out ?_))
  refine HO.out.mono ?_;rintro e w2 ⟨rfl,hb2⟩;have x0:=(HL.out.next hb2).cell 0;rw[ah.out]at x0;simp only[za,zb]at x0;cases ow <;> cases b9 <;> cases b
  all_goals go_wp2_with fail
  all_goals go_meet
  all_goals exact⟨by rw[<- HD0.out];rfl,zh hb2⟩
 case rest=>
 obtain⟨rfl,hcut⟩:=hcut;have aw:=zh (HB.out.trans (hcut.out.mono (by have:=HB.out.size;omega)));have nh:Hid (∀ W',Below wc.heap.size wc W'->W'.cell? ⟨q,0,none⟩=some (vI h.kind)/\W'.cell? ⟨q,21,none⟩=some (.slice A l.length cp)):=zh (fun W' hb=>by
  have h0:=((HL.out.next hcut.out).next hb).cell 0;have h1:=((HL.out.next hcut.out).next hb).cell 21;rw[ah.out]at h0 h1;exact⟨h0,h1⟩)
 clear hcut HO iu HOWN HL HB h9b HD0;cases d0 with
 |true=>
  go_wp2_with fail
  go_ret
  exact⟨aA (by rw[HR.out];rfl),by first|exact aw.out |(rw[hQ];exact aw.out)⟩
 |false=>
 have jb:Hid (rr=aZ l h.kind):=zh (by rw[HR.out];rfl);clear HR
 go_wp2_with fail
 go_loopw [5] (fun v wr=>∃ i:Nat,i<=l.length/\v=vI (i:Int)/\Hid (Below wc.heap.size wc wr)/\Hid (rr=aZ (l.drop i) h.kind)) (fun v _=>l.length-(intOf v).toNat)
 case atStart=>exact⟨0,zm _,rfl,zh zB,jb⟩
 case round=>
  obtain⟨i,hi,rfl,kr,HRi⟩:=hrel;obtain⟨x0,hx⟩:=nh.out wr kr.out;by_cases hlt:i<l.length
  ·obtain⟨g,og,ci,rfl,ei,da⟩:=gN HK.out i hlt;have xr:=zh hlt;have hib:(i:Int)<=1000000:=by have:=fz.out;omega
   have wa:(i:Int)<(l.length:Int):=by omega
   have zi:(Tryz.prog.info? 34).map (·.size)=some ci.length:=by rw[ei];exact bZ
   obtain⟨b8,hb8⟩:∃ x,(h.kind==8)=x:=⟨_,rfl⟩
   obtain⟨b4,na⟩:∃ x,(h.kind==4)=x:=⟨_,rfl⟩
   have hn8:(h.kind != 8)=!b8:=by rw[<- hb8];rfl
   obtain⟨kk,nv⟩:∃ kk,(l[i]'hlt).h.kind=kk:=⟨_,rfl⟩
   obtain⟨nk,hnk⟩:∃ x,(kk != 0)=x:=⟨_,rfl⟩
   obtain⟨bl,mv⟩:∃ x,(l[i]'hlt).belowB=x:=⟨_,rfl⟩
   obtain⟨rk,hrk⟩:∃ x,(l[i]'hlt).right h.kind=x:=⟨_,rfl⟩
   obtain⟨d1,tz⟩:∃ x,x=(b8&&nk):=⟨_,rfl⟩
   obtain⟨d2,hd2⟩:∃ x,x=(d1||(!b8&&bl)):=⟨_,rfl⟩
   obtain⟨d3,zu⟩:∃ x,x=(d2||!rk):=⟨_,rfl⟩
   have jt:Hid (aZ (l.drop i) h.kind=(!d3&&aZ (l.drop (i+1)) h.kind)):=zh (by
    rw[yX hlt,zu,hd2,tz]
    congr 1
    have e1:decide (h.kind≠8)=!b8:=by rw[<- hb8];by_cases h8:h.kind=8 <;> simp[h8]
    have e2:decide ((l[i]'hlt).h.kind=0)=!nk:=by rw[nv,<- hnk];by_cases h8:kk=0 <;> simp[h8]
    rw[e1,e2,hrk];have e3:b8=false->bl=true->rk=false:=fun h1 h2=>by
     cases lu:rk with
     |false=>rfl
     |true=>
      rw[lu]at hrk;rw[h1]at hb8;exact absurd (oS.1 (by rw[mv,h2])) (qQ hrk (by simpa using hb8))
    cases b8 <;> cases nk <;> cases bl <;> cases rk <;> simp_all)
   have HD:=zh (And.intro tz (And.intro hd2 zu));have pq:Hid (∀ W',Below wr.heap.size wr W'->W'.rangeAt g (og+i*22) ci/\W'.cell? ⟨g,og+i*22,none⟩=some (vI kk)/\(d2=false->Calls Tryz.prog 39 #[.agg ci.toArray,.bool b4] W' (fun e w'=>e=.returned (.bool rk)/\Below W'.heap.size W' w'))/\Calls Tryz.prog 38 #[.agg ci.toArray] W' (fun e w'=>e=.returned (.bool bl)/\Below W'.heap.size W' w')):=zh (fun W' hb=>by
    obtain⟨c1,c2⟩:=da W' (Kp.of_below (by rw[hQ];exact aw.out.trans ((zU kr.out hb).mono (by have:=aw.out.size;omega))));refine⟨c1,?_,?_,?_⟩
    ·obtain⟨A',li,c3,_⟩:=c2;have h0:ci[0]?=some (vI kk):=by
      have e1:ci.toArray[0]?=_:=congrArg (fun a:Array Value=>a[0]?) c3;rw[za]at e1;rw[<- nv,e1];rfl
     have:=c1 0 _ h0;simpa using this
    ·intro e2;have h4:decide (h.kind=4)=b4:=by rw[<- na];rfl
     have h2:=IH.out i hlt ci.toArray W' (by
      by_cases h8:h.kind=8
      ·exact .inl h8
      right
      rw[mv];rw[hd2]at e2;have e8:b8=false:=by rw[<- hb8];simpa using h8
      rw[e8]at e2;cases hq:bl with
      |false=>rfl
      |true=>rw[hq]at e2;simp at e2) c2
     rwa [h4,hrk]at h2
    obtain⟨A',li,c3,_⟩:=c2;rw[c3,<- mv];exact tD _ _ _ _ _)
   have HS:=zh (And.intro hn8 (And.intro na (And.intro hb8 hnk)));clear da nv hn8 hnk mv hrk tz hd2 zu
   go_upto_region 6 with fail
   clear x0 hx
   go_cut [61] (fun v wx=>v=.bool d3/\Hid (Below wr.heap.size wr wx))
   case first=>
    obtain⟨TT,ai⟩:∃ TT:List (Nat×Nat×Value),TT=((0,25,vP q 0)::(1,26,vI h.kind)::(2,27,.bool b8)::(3,28,.bool b8)::(4,29,(bif b8 then vP q 21 else undef))::(5,30,(bif b8 then .slice (some ⟨g,og,none⟩) l.length cp else undef))::(6,31,(bif b8 then vI (i:Int) else undef))::(7,32,(bif b8 then vP g (og+i*22) else undef))::(8,33,(bif b8 then vP g (og+i*22) else undef))::(9,34,(bif b8 then vI kk else undef))::(10,35,(bif b8 then .bool nk else undef))::(11,36,.bool d1)::(12,37,.bool d1)::(13,38,(bif d1 then undef else vP q 0))::(14,39,(bif d1 then undef else vI h.kind))::(15,40,(bif d1 then undef else .bool (!b8)))::(16,41,(bif d1 then undef else .bool (!b8)))::(17,42,(bif d1 then undef else (bif b8 then undef else vP q 21)))::(18,43,(bif d1 then undef else (bif b8 then undef else .slice (some ⟨g,og,none⟩) l.length cp)))::(19,44,(bif d1 then undef else (bif b8 then undef else vI (i:Int))))::(20,45,(bif d1 then undef else (bif b8 then undef else vP g (og+i*22))))::(21,46,(bif d1 then undef else (bif b8 then undef else .agg ci.toArray)))::(22,47,(bif d1 then undef else (bif b8 then undef else .bool bl)))::(23,48,(bif d1 then undef else .bool (!b8&&bl)))::(24,49,.bool d2)::(25,50,.bool d2)::(26,51,(bif d2 then undef else vP q 21))::(27,52,(bif d2 then undef else .slice (some ⟨g,og,none⟩) l.length cp))::(28,53,(bif d2 then undef else vI (i:Int)))::(29,54,(bif d2 then undef else vP g (og+i*22)))::(30,55,(bif d2 then undef else .agg ci.toArray))::(31,56,(bif d2 then undef else vP q 0))::(32,57,(bif d2 then undef else vI h.kind))::(33,58,(bif d2 then undef else .bool b4))::(34,59,(bif d2 then undef else .bool rk))::(35,60,(bif d2 then undef else .bool (!rk)))::(36,61,.bool d3)::[]):=⟨_,rfl⟩
    have az:=zh ai;clear ai;refine bX (fun a0=>62<=a0.tmps.size/\a0.eval (.tmp 2)=vP q 0/\a0.eval (.tmp 5)=vI (i:Int)) (25::26::27::28::29::30::31::32::33::34::35::36::37::38::39::40::41::42::43::44::45::46::47::48::49::50::51::52::53::54::55::56::57::58::59::60::61::[]) TT [] (fun w'=>Below wr.heap.size wr w') (by kernel_rfl) (by kernel_rfl) ⟨by simp,rfl,rfl⟩ (zB.drew) ?_ ?_
    ·rintro a0 ⟨hs,tj,ri⟩ zl a1 w1 zj o aq hI al ho zd;have ab:Below wr.heap.size wr w1:=hI.st;have ai:=az.out
     subst ai;have e2x:=hI.off.q tj;have e5x:=hI.off.q ri;have hj:=Up.of_false al;have hj12:zj<37:=by rw[aq]at hj;exact hj
     have G:RG _ _ _ _ _ _ _ _ _ _ _:=⟨by rfl,hI,hs,al,ho,zd⟩
     (iterate 36 rcases zq hj12 with hj12|rfl);obtain rfl:=cz hj12;all_goals obtain rfl:=oi ho
     ·exact G.nl 0 rfl (by simp[execOp,go_sem,e2x])
     ·have xq:w1.cell? ⟨q,0,none⟩=some (vI h.kind):=(nh.out _ (zU kr.out ab)).1;exact G.nl 1 rfl (by simp[execOp,go_sem,G.t 0,xq])
     ·exact G.nl 2 rfl (by simp[execOp,go_sem,G.t 1,HS.out.2.2.1])
     ·exact G.nl 3 rfl (by simp[execOp,go_sem,G.t 2])
     ·refine G.gv 3 4 ?_;rintro rfl;simp[execOp,go_sem,e2x]
     ·refine G.gv 3 5 ?_;rintro rfl;have xq:w1.cell? ⟨q,21,none⟩=some (.slice (some ⟨g,og,none⟩) l.length cp):=(nh.out _ (zU kr.out ab)).2;simp[execOp,go_sem,G.t 4,xq]
     ·refine G.gv 3 6 ?_;rintro rfl;simp[execOp,go_sem,e5x]
     ·refine G.gv 3 7 ?_;rintro rfl;simp[execOp,go_sem,G.t 5,G.t 6,wa]
     ·refine G.gv 3 8 ?_;rintro rfl;simp[execOp,go_sem,G.t 7]
     ·refine G.gv 3 9 ?_;rintro rfl;have xq:=(pq.out _ ab).2.1;simp[execOp,go_sem,G.t 8,xq]
     ·refine G.gv 3 10 ?_;rintro rfl;simp[execOp,go_sem,G.t 9,HS.out.2.2.2]
     ·cases b8
      all_goals exact G.nl 11 rfl (by simp[execOp,go_sem,G.t 3,G.t 10,HD.out.1])
     ·exact G.nl 12 rfl (by simp[execOp,go_sem,G.t 11])
     ·refine G.gn 12 13 ?_;rintro rfl;simp[execOp,go_sem,e2x]
     ·refine G.gn 12 14 ?_;rintro rfl;have xq:w1.cell? ⟨q,0,none⟩=some (vI h.kind):=(nh.out _ (zU kr.out ab)).1;simp[execOp,go_sem,G.t 13,xq]
     ·refine G.gn 12 15 ?_;rintro rfl;simp[execOp,go_sem,G.t 14,HS.out.1]
     ·refine G.gn 12 16 ?_;rintro rfl;simp[execOp,go_sem,G.t 15]
     ·have pg:=G.g 16;cases d1
      ·cases b8
       ·exact G.vl 17 rfl pg (by simp[execOp,go_sem,e2x])
       exact G.sk 17 pg
      exact G.su 17 pg
     ·have pg:=G.g 16;cases d1
      ·cases b8
       ·have xq:w1.cell? ⟨q,21,none⟩=some (.slice (some ⟨g,og,none⟩) l.length cp):=(nh.out _ (zU kr.out ab)).2;exact G.vl 18 rfl pg (by simp[execOp,go_sem,G.t 17,xq])
       exact G.sk 18 pg
      exact G.su 18 pg
     ·have pg:=G.g 16;cases d1
      ·cases b8
       ·exact G.vl 19 rfl pg (by simp[execOp,go_sem,e5x])
       exact G.sk 19 pg
      exact G.su 19 pg
     ·have pg:=G.g 16;cases d1
      ·cases b8
       ·exact G.vl 20 rfl pg (by simp[execOp,go_sem,G.t 18,G.t 19,wa])
       exact G.sk 20 pg
      exact G.su 20 pg
     ·have pg:=G.g 16;cases d1
      ·cases b8
       ·have p20:=G.d 20;exact G.vl 21 rfl pg (aR 34 (.tmp 45) rfl _ _ p20 _ _ (pq.out _ ab).1 Tryz.underlying34 rfl zi)
       exact G.sk 21 pg
      exact G.su 21 pg
     ·have pg:=G.g 16;cases d1
      ·cases b8
       ·refine G.cw 22 rfl pg 38 #[.agg ci.toArray] (by simp[go_sem,G.t 21]) ?_;refine((pq.out _ ab).2.2.2).mono ?_;rintro e w2 ⟨rfl,hb⟩;exact⟨rfl,zU ab hb⟩
       exact G.sk 22 pg
      exact G.su 22 pg
     ·have pg:=G.g 12;cases d1
      ·cases b8
       all_goals exact G.vl 23 rfl pg (by simp[execOp,go_sem,G.t 16,G.t 22])
      exact G.sk 23 pg
     ·cases d1
      all_goals exact G.nl 24 rfl (by simp[execOp,go_sem,G.t 12,G.t 23,HD.out.2.1])
     ·exact G.nl 25 rfl (by simp[execOp,go_sem,G.t 24])
     ·refine G.gn 25 26 ?_;rintro rfl;simp[execOp,go_sem,e2x]
     ·refine G.gn 25 27 ?_;rintro rfl;have xq:w1.cell? ⟨q,21,none⟩=some (.slice (some ⟨g,og,none⟩) l.length cp):=(nh.out _ (zU kr.out ab)).2;simp[execOp,go_sem,G.t 26,xq]
     ·refine G.gn 25 28 ?_;rintro rfl;simp[execOp,go_sem,e5x]
     ·refine G.gn 25 29 ?_;rintro rfl;simp[execOp,go_sem,G.t 27,G.t 28,wa]
     ·refine G.gn 25 30 ?_;rintro rfl;have p29:=G.d 29;exact aR 34 (.tmp 54) rfl _ _ p29 _ _ (pq.out _ ab).1 Tryz.underlying34 rfl zi
     ·refine G.gn 25 31 ?_;rintro rfl;simp[execOp,go_sem,e2x]
     ·refine G.gn 25 32 ?_;rintro rfl;have xq:w1.cell? ⟨q,0,none⟩=some (vI h.kind):=(nh.out _ (zU kr.out ab)).1;simp[execOp,go_sem,G.t 31,xq]
     ·refine G.gn 25 33 ?_;rintro rfl;simp[execOp,go_sem,G.t 32,HS.out.2.1]
     ·have pg:=G.g 25;cases d2
      ·refine G.cw 34 rfl pg 39 #[.agg ci.toArray,.bool b4] (by simp[go_sem,G.t 30,G.t 33]) ?_;refine((pq.out _ ab).2.2.1 rfl).mono ?_;rintro e w2 ⟨rfl,hb⟩;exact⟨rfl,zU ab hb⟩
      exact G.sk 34 pg
     ·refine G.gn 25 35 ?_;rintro rfl;simp[execOp,go_sem,G.t 34]
     cases d2
     all_goals exact G.nl 36 rfl (by simp[execOp,go_sem,G.t 25,G.t 35,HD.out.2.2])
    intro zl a1 w1 hI bj;have ab:Below wr.heap.size wr w1:=hI.st;have ai:=az.out;subst ai;have z61:=hI.ptk 36 rfl (bj 36 (by decide));obtain⟨ff,rfl,hf⟩:=hI.off.forms;rw[<- hf 61]at z61;clear hI;simp only[List.foldl,Act.put,yz,List.set];rw[z61];simp only[Exit.then]
    go_step
    go_meet
    exact⟨rfl,zh ab⟩
   case rest=>
    obtain⟨rfl,hcut⟩:=hcut;have nn:=zh (zU kr.out hcut.out);clear hcut pq HS HD;cases d3 with
    |true=>
     have h2:Below q w wc:=aw.out.trans (nn.out.mono (by have:=aw.out.size;omega))
     go_wp2_with fail
     go_ret
     exact⟨aA (by rw[HRi.out,jt.out];rfl),by first|exact h2 |(rw[hQ];exact h2)⟩
    |false=>
    have HRn:Hid (rr=aZ (l.drop (i+1)) h.kind):=zh (by rw[HRi.out,jt.out];rfl);clear jt HRi
    go_wp2_with fail
    go_roundw
    case rel=>exact⟨i+1,by have:=xr.out;omega,by go_num,nn,HRn⟩
    case measure=>have:=xr.out;simp[intOf];omega
  have vm:¬ ((i:Int)<(l.length:Int)):=by omega
  have HRe:Hid (rr=true):=zh (by rw[HRi.out,List.drop_eq_nil_of_le (by omega),aZ])
  go_wp2_with fail
  go_ret
  have h2:Below q w wr:=aw.out.trans (kr.out.mono (by have:=aw.out.size;omega));exact⟨aA (by rw[HRe.out]),by first|exact h2 |(rw[hQ];exact h2)⟩
theorem uCB(t:Tree)(cs:Array Value)(w:World)(hf:t.fine)(hs:t.size<=1000000)(ht:TreeIn w t cs) :
  Calls Tryz.prog 16 #[.agg cs] w fun e w'=>e=.returned (vI (dP t:Nat))/\Below w.heap.size w w':=by
 have HTI:=zh (fun W (hb:Below w.heap.size w W)=>ht.kp (Kp.of_below hb));have fo:=zh hs;have HR:=zh hf;have HDB:=zh (mU t);obtain⟨bl,mv⟩:∃ x,t.belowB=x:=⟨_,rfl⟩
 have HBL:Hid (∀ A n c W,Calls Tryz.prog 38 #[cR t.h A n c] W fun e w'=>e=.returned (.bool bl)/\Below W.heap.size W w'):=zh (fun A n c W=>by rw[<- mv];exact tD _ _ _ _ _);have HBF:=zh mv;obtain⟨pc,hpc⟩:∃ x,dP t=x:=⟨_,rfl⟩
 have HPC:Hid (pc=if 256<t.size then 5 else if 32<t.depth then 8 else if t.right 6 then 0 else 6):=zh hpc.symm;rw[hpc];clear mv hpc;obtain⟨A,cp,hc,hk⟩:=ht;obtain⟨Cn,rfl⟩:∃ C:List Value,cs=C.toArray:=⟨cs.toList,by simp⟩
 have ah:Hid (Cn.toArray=aK t.h A t.l.length cp):=zh hc;clear hk hc hs hf;generalize iz:(w.alloc (.cells Cn.toArray 34))=W1;have HL:Hid (Lies W1 w.heap.size 34 Cn.toArray):=zh (by rw[<- iz];exact Lies.new _ _ _);have HB:Hid (Below w.heap.size w W1):=zh (by rw[<- iz];exact zp _);have am:=zh iz;clear iz;have HI:=zh (cP ah.out);have iu:=zh (HL.out.rangeL);have ls:=zh (tE 1000000 zr t Cn.toArray W1 fo.out (HTI.out W1 HB.out));have HSB:Hid ((t.size:Int)<=1000000):=zh (by have:=fo.out;omega)
 go_in
 go_upto_region 1 with fail
 rw[am.out];clear am;generalize hQ:w.heap.size=q at *
 go_wp2_with (first |(refine yr rfl 34 (.tmp 1) rfl q 0 rfl Cn _ iu.out Tryz.underlying34 rfl HI.out ?_))
 refine ls.out.mono ?_;rintro e w2 ⟨A2,c2,xs,rfl,ho2,hp2,hb2⟩;have aw:=zh (HB.out.trans (hb2.mono (by have:=HB.out.size;omega)));have gu:=zh (HL.out.next hb2);clear hb2 ls iu HL HB ho2 hp2;have iu:=zh (gu.out.rangeL);have HC2:=zh (uCC 1000000 zr t Cn.toArray w2 fo.out (HTI.out w2 aw.out));by_cases xv:256<t.size
 ·have h1:(256:Int)<(t.size:Int):=by omega
  go_wp2_with fail
  go_ret
  have hpq:pc=5:=by rw[HPC.out,if_pos xv]
  exact⟨by rw[hpq];rfl,by first|exact aw.out |(rw[hQ];exact aw.out)⟩
 have h1:¬ (256:Int)<(t.size:Int):=by omega
 go_wp2_with (first |(refine yr rfl 34 (.tmp 1) rfl q 0 rfl Cn _ iu.out Tryz.underlying34 rfl HI.out ?_))
 refine HC2.out.mono ?_;rintro e w3 ⟨rfl,bv⟩;have bf:=zh (aw.out.trans (bv.mono (by have:=aw.out.size;omega)));have xc:=zh (gu.out.next bv);clear bv HC2 iu gu aw;have iu:=zh (xc.out.rangeL);have HC3:=zh (HBL.out A t.l.length cp w3);rw[show cR t.h A t.l.length cp=.agg Cn.toArray by rw[ah.out]]at HC3;by_cases xi:32<t.depth
 ·have h2:(32:Int)<(t.depth:Int):=by omega
  go_wp2_with fail
  go_ret
  have hpq:pc=8:=by rw[HPC.out,if_neg xv,if_pos xi]
  exact⟨by rw[hpq];rfl,by first|exact bf.out |(rw[hQ];exact bf.out)⟩
 have h2:¬ (32:Int)<(t.depth:Int):=by omega
 go_wp2_with (first |(refine yr rfl 34 (.tmp 1) rfl q 0 rfl Cn _ iu.out Tryz.underlying34 rfl HI.out ?_))
 refine HC3.out.mono ?_;rintro e w4 ⟨rfl,na⟩;have bt:=zh (bf.out.trans (na.mono (by have:=bf.out.size;omega)));have qq:=zh (xc.out.next na);clear na HC3 iu xc bf;have iu:=zh (qq.out.rangeL);cases bl with
 |true=>
  have hpq:pc=6:=by
   rw[HPC.out,if_neg xv,if_neg xi,if_neg];intro hr;exact qQ hr (by decide) (oS.1 HBF.out)
  go_wp2_with fail
  go_ret
  exact⟨by rw[hpq];rfl,by first|exact bt.out |(rw[hQ];exact bt.out)⟩
 |false=>
 have HC4:=zh (yR 1000000 zr t 6 false Cn.toArray w4 fo.out HR.out (.inr HBF.out) rfl (HTI.out w4 bt.out))
 go_wp2_with (first |(refine aL (Eq.trans (aT rfl rfl rfl rfl) rfl) 34 (.tmp 1) rfl q 0 rfl Cn _ iu.out Tryz.underlying34 rfl HI.out ?_))
 refine HC4.out.mono ?_;rintro e w5 ⟨rfl,fw⟩;have bm:=zh (bt.out.trans (fw.mono (by have:=bt.out.size;omega)));have HPC2:Hid (pc=if t.right 6 then 0 else 6):=zh (by rw[HPC.out,if_neg xv,if_neg xi]);clear fw HPC HC4;generalize t.right 6=rr at *;cases rr
 all_goals go_wp2_with fail
 all_goals go_ret
 all_goals exact⟨by rw[HPC2.out];rfl,by first|exact bm.out |(rw[hQ];exact bm.out)⟩
end Go.Proofs.YtjfihpaeglpblaaGreatDoor
