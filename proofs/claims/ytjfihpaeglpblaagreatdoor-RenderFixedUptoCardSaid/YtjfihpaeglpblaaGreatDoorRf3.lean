/-
  Lemmas, part 3: Num10 Val12 RsB PlainH PlainJ PlainK PlT1 Ord2 Addr1.
-/
import Derived.Test.YtjfihpaeglpblaaGreatDoorShelfB
import Derived.Lib.AppendIntMem
import Derived.Lib.Walk
import Derived.Lib.Repeat
import Derived.Orders
import Derived.Test.YtjfihpaeglpblaaGreatDoorRf2
set_option maxHeartbeats 100000000
set_option maxRecDepth 1000000
namespace Go.Proofs.YtjfihpaeglpblaaGreatDoor
open Go.RowKit
open Go.RowKit Go.Sort Go.Lib
abbrev PowTab(w:World):Prop:=Lib.TabIs Tryz.prog w "internal/strconv.uint64pow10" .u64 Lib.pow10Tab
theorem ifmt_any(u:Nat)(sn:u<18446744073709551616)(w:World)(ye:PowTab w) :
  Calls Tryz.prog 241 #[.int .u64 u,vI 10] w fun e w'=>e=.returned (vT (Lib.decDigits u))/\Below w.heap.size w w':=by
 by_cases hs:u<100
 ·go_in
  go_wp2_with fail
  refine(Tryz.internal_strconv_small u hs _).mono ?_;rintro e w' ⟨rfl,rfl⟩
  go_wp2_with fail
  go_ret
  exact⟨rfl,Below.refl _ _⟩
 have hu1:1<=u:=by omega
 have hnd20:Lib.nDigits u<=20:=by have:=Lib.numDigits_eq u hu1 sn;split at this <;> omega
 have ve:Tryz.prog.arrayLen 249=24:=by kernel_rfl
 have hsl1:∀ W,(Instr.sliceAt 249 (vP w.heap.size 0) none (some (vI (Lib.nDigits u:Int))) none).run Tryz.prog W=.ok (.slice (some ⟨w.heap.size,0,none⟩) (Lib.nDigits u) 24) W:=fun W=>by
  rw[run_sliceAt_array_h W 249 ⟨w.heap.size,0,none⟩ (by kernel_rfl) .i64 (Lib.nDigits u:Int) (by omega) (by rw[ve];omega)]
  go_simp
 have hH0:=Lib.holds_zero0 w 249 (Lib.nDigits u) (by omega);have yy:=Tryz.internal_strconv_formatBase10 w.heap.size 0 24 u (Array.replicate (Lib.nDigits u) 0) (w.alloc (.cells Lib.zeros24 249)) hH0 (by rw[Array.size_replicate];exact Lib.lt_pow_nDigits u) sn (by rw[Array.size_replicate];omega);rw[Array.size_replicate]at yy;have HH0:=zh hH0;have Hfmt:=zh yy;clear hH0 ve yy
 go_in
 go_wp2_with fail
 refine(Tryz.internal_strconv_numDigits u hu1 sn _ (Lib.tabIs_alloc ye _)).mono ?_;rintro e w' ⟨rfl,rfl⟩
 go_wp2_with fail
 refine Hfmt.out.mono ?_;rintro e w' ⟨rfl,k,v',dk,rfl,hF⟩;have hcv:(convert 110 9 (.slice (some ⟨w.heap.size,0,none⟩) (Lib.nDigits u) 24)).run Tryz.prog ((putRow (fun(b:UInt8)=>Value.int .u8 (b.toNat:Int)) (w.alloc (.cells Lib.zeros24 249)) w.heap.size 0 dk).drewN k)=.ok (vT (Lib.decDigits u)) ((putRow (fun(b:UInt8)=>Value.int .u8 (b.toNat:Int)) (w.alloc (.cells Lib.zeros24 249)) w.heap.size 0 dk).drewN k):=by
  have h:=run_convert_bytes_back (P:=Tryz.prog) ((putRow (fun(b:UInt8)=>Value.int .u8 (b.toNat:Int)) (w.alloc (.cells Lib.zeros24 249)) w.heap.size 0 dk).drewN k) 110 9 5 ⟨w.heap.size,0,none⟩ 24 (Lib.decDigits u) Tryz.underlying110 Tryz.underlying5 Tryz.underlying9 (fun j hj=>by
   rw[Lib.row_is_numeral hF j hj,Lib.add_plain,World.cell?_drewN];exact cell?_putRow (fun(b:UInt8)=>Value.int .u8 (b.toNat:Int)) _ w.heap.size 0 _ dk HH0.out (by rw[hF.size,Array.size_replicate]) j (by rw[hF.size];rw[Lib.decDigits_length]at hj;exact hj))
  rw[Lib.decDigits_length]at h;exact h
 obtain⟨os,eo⟩:=Lib.fin_at w (.cells Lib.zeros24 249) dk k 0;have HB:Hid (Below w.heap.size w ((putRow (fun(b:UInt8)=>Value.int .u8 (b.toNat:Int)) (w.alloc (.cells Lib.zeros24 249)) w.heap.size 0 dk).drewN k)):=zh (by rw[eo];exact Lib.below_grow _ w zr k os);clear eo Hfmt HH0
 go_wp2_with fail
 go_ret
 exact⟨rfl,HB.out⟩
theorem fmt_any(u:Nat)(sn:u<18446744073709551616)(w:World)(ye:PowTab w) :
  Calls Tryz.prog 218 #[.int .u64 u,vI 10] w fun e w'=>e=.returned (vT (Lib.decDigits u))/\Below w.heap.size w w':=by
 go_in
 go_wp2_with fail
 refine(ifmt_any u sn _ ye).mono ?_;rintro e w' ⟨rfl,hb⟩
 go_wp2_with fail
 go_ret
 exact⟨rfl,hb⟩
theorem nZ{x:ByteArray}{y:Bs}(h:x.data.toList=y):Ending.returned (.string x)=.returned (vT y):=by rw[<- h]
def cC(m e:Int):Bs :=
 let t:=Lib.decDigits m.natAbs
 let s:=if m<0 then [45] else []
 if 0<=e then s++t++List.replicate e.toNat 48
 else if 0<(t.length:Int)+e then s++t.take ((t.length:Int)+e).toNat++[46]++t.drop ((t.length:Int)+e).toNat
 else s++[48,46]++List.replicate (-((t.length:Int)+e)).toNat 48++t
theorem pI(c:UInt8):∀ n,Lib.repeatL [c] n=List.replicate n c
 |0=>rfl
 |n+1=>by rw[Lib.repeatL,pI c n];rfl
theorem uDO(k:Nat)(w:World)(hk:k<=1000000) :
  Calls Tryz.prog 219 #[vS #[48],vI k] w fun e w'=>e=.returned (vT (List.replicate k 48))/\Below w.heap.size w w':=by
 have h:=Tryz.strings_Repeat ⟨#[48]⟩ k w (by omega) (by show 1*k<=_;omega);rw[show Lib.repeatL (⟨#[48]⟩:ByteArray).data.toList k=List.replicate k 48 from pI 48 k]at h;exact h
theorem gPow:Tryz.prog.globalNamed "internal/strconv.uint64pow10"=some 4:=by kernel_rfl
theorem PowTab.next{w w':World}(h:PowTab w)(hb:Below w.heap.size w w'):PowTab w':=by
 unfold PowTab Lib.TabIs World.var? at *;rw[gPow]at h ⊢;simp only[Option.bind_some]at h ⊢;have hlt:4<w.heap.size:=by
  rcases Nat.lt_or_ge 4 w.heap.size with h'|h'
  ·exact h'
  rw[Array.getElem?_eq_none h']at h;cases h
 rw[hb.block _ hlt];exact h
def MaxVar(w:World):Prop:=∃ m,w.cell? ⟨1,0,none⟩=some (vI m)
theorem pX{w:World}{b o:Nat}{v:Value}(h:w.cell? ⟨b,o,none⟩=some v):b<w.heap.size:=by
 rcases Nat.lt_or_ge b w.heap.size with h1|h1
 ·exact h1
 simp[World.cell?,Array.getElem?_eq_none h1]at h
theorem MaxVar.next{w w':World}(h:MaxVar w)(hb:Below w.heap.size w w'):MaxVar w':=by
 obtain⟨m,hm⟩:=h;exact⟨m,(hb.cell (p:=⟨_,_,none⟩) (pX hm)).trans hm⟩
theorem jZ(m e:Int)(w:World)(ht:PowTab w)(h1:-9223372036854775808<=m)(h2:m<=9223372036854775807)(hR:bF m e=true) :
  Calls Tryz.prog 181 #[xC m e] w fun x w'=>x=.returned (vT (cC m e))/\Below w.heap.size w w':=by
 have ke:-40<=e/\e<=40:=by
  by_cases z:m=0
  ·unfold bF at hR;rw[if_pos z]at hR;simp at hR;omega
  have:=kN hR z;omega
 obtain⟨ke1,ke2⟩:=ke;have CR:=zh (fun W=>oD m e W h1 h2);rw[hR]at CR;have T0:=zh (NumIn.start w m e);have HT0:Hid (PowTab (w.alloc (.cells #[vI m,vI e] 23))):=zh (ht.next ((Below.refl _ w).alloc zr _));have CS:=zh (fun W=>xY m W h1 h2);have CF:=zh (fun W (h:PowTab W)=>fmt_any m.natAbs (by omega) W h);have ed:1<=(Lib.decDigits m.natAbs).length:=by rw[Lib.decDigits_length,Lib.nDigits];split <;> omega
 have hl1:(Lib.decDigits m.natAbs).length<=20:=by
  rw[Lib.decDigits_length];by_cases z:m.natAbs=0
  ·rw[z,Lib.nDigits_small (by omega)];omega
  have:=Lib.numDigits_eq m.natAbs (by omega) (by omega);split at this <;> omega
 have HN:Hid (cC m e=if 0<=e then (if m<0 then [45] else [])++Lib.decDigits m.natAbs++List.replicate e.toNat 48
  else if 0<((Lib.decDigits m.natAbs).length:Int)+e then (if m<0 then [45] else [])++(Lib.decDigits m.natAbs).take (((Lib.decDigits m.natAbs).length:Int)+e).toNat++[46]++(Lib.decDigits m.natAbs).drop (((Lib.decDigits m.natAbs).length:Int)+e).toNat
  else (if m<0 then [45] else [])++[48,46]++List.replicate (-(((Lib.decDigits m.natAbs).length:Int)+e)).toNat 48++Lib.decDigits m.natAbs):=zh rfl
 generalize cC m e=r at *;clear ht h1 h2 hR;generalize Lib.decDigits m.natAbs=t at *
 go_in
 go_wp2_with fail
 refine(CR.out _).mono ?_;rintro x w1 ⟨rfl,hb⟩;have T1:=zh (T0.out.next hb);have HT1:=zh (HT0.out.next hb);clear hb T0 HT0 CR;obtain⟨g0,g1,g2,-⟩:=T1.out
 go_wp2_with fail
 refine(CS.out _).mono ?_;rintro x w2 ⟨rfl,rfl⟩
 go_wp2_with fail
 refine(CF.out _ HT1.out).mono ?_;rintro x w2 ⟨rfl,hb⟩;have T2:=zh (T1.out.next hb);clear hb T1 HT1 CS CF g0 g1 g2;obtain⟨g0,g1,g2,-⟩:=T2.out
 go_upto_if 15 with fail
 go_cut [4] (fun v wx=>v=vT (if m<0 then [45] else []:Bs)/\wx=w2)
 case first=>
  by_cases hm:m<0
  ·go_wp2_with fail
   go_meet
   exact⟨by rw[if_pos hm],rfl⟩
  go_wp2_with fail
  go_meet
  exact⟨by rw[if_neg (by omega)],rfl⟩
 case rest=>
  obtain⟨rfl,rfl⟩:=hcut;have hsg:(if m<0 then [45] else []:Bs).length<=1:=by split <;> decide
  generalize (if m<0 then [45] else []:Bs)=sg at *;by_cases he:0<=e
  ·obtain⟨k,rfl⟩:∃ k:Nat,e=k:=⟨e.toNat,by omega⟩
   have hN:Hid (r=sg++t++List.replicate k 48):=zh (by rw[HN.out,if_pos he];rfl);clear HN
   go_wp2_with fail
   refine(uDO k _ (by omega)).mono ?_;rintro x w3 ⟨rfl,hb⟩;have hrl:(List.replicate k (48:UInt8)).length<=40:=by rw[List.length_replicate];omega
   generalize List.replicate k (48:UInt8)=z at *;have HB:Hid (Below w.heap.size w w3):=zh (T2.out.next hb).2.2.2;clear hb T2
   go_wp2_with fail
   go_ret
   exact⟨nZ (by rw[hN.out];simp),HB.out⟩
  by_cases hw:0<(t.length:Int)+e
  ·obtain⟨n,hn⟩:∃ n:Nat,(t.length:Int)+e=n:=⟨((t.length:Int)+e).toNat,by omega⟩
   have hN:Hid (r=sg++t.take n++[46]++t.drop n):=zh (by rw[HN.out,if_neg he,if_pos hw,hn];rfl);have sq:n<=t.length:=by omega
   clear HN
   go_wp2_with fail
   go_region
   all_goals go_wp2_with fail
   all_goals go_ret
   all_goals exact⟨nZ (by rw[hN.out];simp),T2.out.2.2.2.drew⟩
  obtain⟨k,hk⟩:∃ k:Nat,(t.length:Int)+e=-(k:Int):=⟨(-((t.length:Int)+e)).toNat,by omega⟩
  have hN:Hid (r=sg++[48,46]++List.replicate k 48++t):=zh (by rw[HN.out,if_neg he,if_neg hw,hk,Int.neg_neg];rfl);clear HN
  go_wp2_with fail
  refine(uDO k _ (by omega)).mono ?_;rintro x w3 ⟨rfl,hb⟩;have hrl:(List.replicate k (48:UInt8)).length<=40:=by rw[List.length_replicate];omega
  generalize List.replicate k (48:UInt8)=z at *;have HB:Hid (Below w.heap.size w w3):=zh (T2.out.next hb).2.2.2;clear hb T2
  go_wp2_with fail
  go_ret
  exact⟨nZ (by rw[hN.out];simp),HB.out⟩
def dZ(v:Val):Bs×Int :=
 if v.kind=1 then (cC v.mant v.exp,0) else if v.kind=2 then (v.text,0) else if v.kind=3 then (if v.truth then sU else noB,0) else if v.kind=4 then ([],v.fault) else ([],0)
theorem uBW(v:Val)(w:World)(ht:PowTab w)(h1:-9223372036854775808<=v.mant)(h2:v.mant<=9223372036854775807)(hR:v.kind=1->bF v.mant v.exp=true) :
  Calls Tryz.prog 114 #[iB v] w fun x w'=>x=.returned (.tuple #[vS ((dZ v).1.toArray),vI (dZ v).2])/\Below w.heap.size w w':=by
 have HN:Hid (dZ v=if v.kind=1 then (cC v.mant v.exp,0) else if v.kind=2 then (v.text,0) else if v.kind=3 then (if v.truth then sU else noB,0) else if v.kind=4 then ([],v.fault) else ([],0)):=zh rfl;generalize dZ v=r at *;have HB:Hid (Below w.heap.size w (w.alloc (.cells (kZ v) 25))):=zh ((Below.refl _ w).alloc zr _);have HT:Hid (PowTab (w.alloc (.cells (kZ v) 25))):=zh (ht.next ((Below.refl _ w).alloc zr _));obtain⟨k,m,x,t,tr,f⟩:=v;dsimp only at HN h1 h2 hR;clear ht;by_cases k1:k=1
 ·subst k1;have hN:Hid (r=(cC m x,0)):=zh (by rw[HN.out];rfl);have C:=zh (fun W h=>jZ m x W h h1 h2 (hR rfl));clear HN h1 h2 hR
  go_in
  go_wp2_with fail
  refine(C.out _ HT.out).mono ?_;rintro e w1 ⟨rfl,hb⟩;have bf:Hid (Below w.heap.size w w1):=zT HB hb;clear hb HT
  go_wp2_with fail
  refine yt (v:=.tuple #[vT (cC m x),vI 0]) (by simp[results,Tryz.results114,go_sem]) rfl ?_;exact⟨by rw[hN.out],bf.out⟩
 have b1:(k==1)=false:=by rw[beq_eq_false_iff_ne];exact k1
 clear hR HT h1 h2;by_cases k2:k=2
 ·subst k2;have hN:Hid (r=(t,0)):=zh (by rw[HN.out];rfl);clear HN k1
  go_in
  go_wp2_with fail
  refine yt (v:=.tuple #[vT t,vI 0]) (by simp[results,Tryz.results114,go_sem]) rfl ?_;exact⟨by rw[hN.out],HB.out⟩
 have b2:(k==2)=false:=by rw[beq_eq_false_iff_ne];exact k2
 by_cases k3:k=3
 ·subst k3;have hN:Hid (r=(if tr then sU else noB,0)):=zh (by rw[HN.out];rfl);clear HN k1 k2;cases tr
  ·go_in
   go_wp2_with fail
   refine yt (v:=.tuple #[vT noB,vI 0]) (by simp[results,Tryz.results114,go_sem,noB]) rfl ?_;exact⟨by rw[hN.out];rfl,HB.out⟩
  go_in
  go_wp2_with fail
  refine yt (v:=.tuple #[vT sU,vI 0]) (by simp[results,Tryz.results114,go_sem,sU]) rfl ?_;exact⟨by rw[hN.out];rfl,HB.out⟩
 have b3:(k==3)=false:=by rw[beq_eq_false_iff_ne];exact k3
 by_cases k4:k=4
 ·subst k4;have hN:Hid (r=([],f)):=zh (by rw[HN.out];rfl);clear HN k1 k2 k3
  go_in
  go_wp2_with fail
  go_region
  all_goals go_wp2_with fail
  all_goals refine yt (v:=.tuple #[vS #[],vI f]) (by simp[results,Tryz.results114,go_sem]) rfl ?_
  all_goals exact⟨by rw[hN.out],HB.out.drew⟩
 have b4:(k==4)=false:=by rw[beq_eq_false_iff_ne];exact k4
 have hN:Hid (r=([],0)):=zh (by rw[HN.out,if_neg k1,if_neg k2,if_neg k3,if_neg k4]);clear HN k1 k2 k3 k4
 go_in
 go_wp2_with fail
 refine yt (v:=.tuple #[vS #[],vI 0]) (by simp[results,Tryz.results114,go_sem]) rfl ?_;exact⟨by rw[hN.out],HB.out⟩
def uDT(v:Val):Bs:=if v.kind=4 then bA v.fault else (dZ v).1
theorem xX(v:Val)(w:World)(ht:Tab w)(hp:PowTab w)(h1:-9223372036854775808<=v.mant)(h2:v.mant<=9223372036854775807)(hR:v.kind=1->bF v.mant v.exp=true) :
  Calls Tryz.prog 60 #[iB v] w fun x w'=>x=.returned (vT (uDT v))/\Below w.heap.size w w':=by
 have HN:Hid (uDT v=if v.kind=4 then bA v.fault else (dZ v).1):=zh rfl;have C:=zh (fun W h=>uBW v W h h1 h2 hR);have HB:Hid (Below w.heap.size w (w.alloc (.cells (kZ v) 25))):=zh ((Below.refl _ w).alloc zr _);have HT:Hid (PowTab (w.alloc (.cells (kZ v) 25))):=zh (hp.next ((Below.refl _ w).alloc zr _));have HF:Hid (Tab (w.alloc (.cells (kZ v) 25))):=zh (ht.alloc _);generalize uDT v=r at *;generalize (dZ v).2=q at *;generalize (dZ v).1=s at *;clear hR h1 h2 ht hp;obtain⟨k,m,x,t,tr,f⟩:=v;dsimp only at HN;by_cases k4:k=4
 ·subst k4;have hN:Hid (r=bA f):=zh (by rw[HN.out];rfl);clear HN C HT
  go_in
  go_wp2_with fail
  refine(hG f _ HF.out).mono ?_;rintro e w1 ⟨rfl,rfl⟩
  go_wp2_with fail
  go_ret
  exact⟨by rw[hN.out];rfl,HB.out⟩
 have hN:Hid (r=s):=zh (by rw[HN.out,if_neg k4]);have b4:(k==4)=false:=by rw[beq_eq_false_iff_ne];exact k4
 clear HN k4 HF
 go_in
 go_wp2_with fail
 refine(C.out _ HT.out).mono ?_;rintro e w1 ⟨rfl,hb⟩;have bf:Hid (Below w.heap.size w w1):=zT HB hb;clear hb HT
 go_wp2_with fail
 go_ret
 exact⟨by rw[hN.out];rfl,bf.out⟩
def VBox(W:World)(q:Nat)(v:Val)(w':World):Prop :=
 w'.cell? ⟨q,0,none⟩=some (vI v.kind)/\w'.cell? ⟨q,1,none⟩=some (vI v.mant)/\w'.cell? ⟨q,2,none⟩=some (vI v.exp)/\w'.cell? ⟨q,3,none⟩=some (vT v.text)/\w'.cell? ⟨q,4,none⟩=some (.bool v.truth)/\w'.cell? ⟨q,5,none⟩=some (vI v.fault)/\q<w'.heap.size/\Below W.heap.size W w'
theorem VBox.next{W:World}{q:Nat}{v:Val}{w w':World}(h:VBox W q v w)(hb:Below w.heap.size w w'):VBox W q v w':=by
 obtain⟨a1,a2,a3,a4,a5,a6,h1,b⟩:=h;have hs:=hb.size;exact⟨(hb.cell (p:=⟨_,_,none⟩) h1).trans a1,(hb.cell (p:=⟨_,_,none⟩) h1).trans a2,(hb.cell (p:=⟨_,_,none⟩) h1).trans a3,(hb.cell (p:=⟨_,_,none⟩) h1).trans a4,(hb.cell (p:=⟨_,_,none⟩) h1).trans a5,(hb.cell (p:=⟨_,_,none⟩) h1).trans a6,by omega,zU b hb⟩
abbrev jK:Array Value:=#[vI 2,vI 0,vI 0,vS #[84,82,85,69],.bool false,vI 0]
def lJ:Val:=⟨2,0,0,[84,82,85,69],false,0⟩
theorem isQ_any(w:World):Calls Tryz.prog 61 #[.agg jK] w fun e w'=>e=.returned (.bool true)/\Below w.heap.size w w':=by
 have aq:Hid (Below w.heap.size w (w.alloc (.cells jK 25))):=zh ((Below.refl _ w).alloc zr _);have qu:Hid (Lies (w.alloc (.cells jK 25)) w.heap.size 25 jK):=zh (Lies.new w _ _);have CRd:Hid (∀ W,Below w.heap.size w W->Calls Tryz.prog 66 #[vS #[84,82,85,69]] W fun z w'=>z=.returned (.agg #[vI 3,vI 0,vI 0,vS #[],.bool true,vI 0])/\Below W.heap.size W w'):=zh (fun W _=>read_T W);have CSm:Hid (∀ W,Calls Tryz.prog 115 #[.agg #[vI 3,vI 0,vI 0,vS #[],.bool true,vI 0],.agg jK] W fun e w'=>e=.returned (.bool false)/\Below W.heap.size W w'):=zh (fun W=>by
  have h1:=uBM (mA true) lJ W;rw[show aW (mA true) lJ=false from by kernel_rfl]at h1;exact h1)
 have T0:Hid (VBox (w.alloc (.cells jK 25)) w.heap.size lJ (w.alloc (.cells jK 25))):=zh ⟨qu.out.cell 0,qu.out.cell 1,qu.out.cell 2,qu.out.cell 3,qu.out.cell 4,qu.out.cell 5,qu.out.lt,Below.refl _ _⟩;clear qu
 go_in
 go_upto_region 1 with fail
 generalize w.alloc (.cells jK 25)=W at *;generalize dh:w.heap.size=q at *;obtain⟨y0,y1,y2,y3,y4,y5,y6,-⟩:=T0.out;dsimp only[lJ]at y0 y1 y2 y3 y4 y5
 go_cut [2] (fun b wx=>b=.bool true/\Hid (VBox W q lJ wx))
 case first=>
  have K2:Hid (∀ W',Below W.heap.size W W'->Calls Tryz.prog 66 #[vS #[84,82,85,69]] W' fun z w'=>z=.returned (.agg #[vI 3,vI 0,vI 0,vS #[],.bool true,vI 0])/\Below W'.heap.size W' w'):=zh (fun W' hb=>CRd.out W' (aq.out.trans (hb.mono (dh ▸ aq.out.size))));clear y0 y1 y2 y3 y4 y5 y6 CRd
  go_region_held3 (fun w'=>w'.cell? ⟨q,0,none⟩=some (vI 2)/\w'.cell? ⟨q,1,none⟩=some (vI 0)/\w'.cell? ⟨q,2,none⟩=some (vI 0)/\w'.cell? ⟨q,3,none⟩=some (vS #[84,82,85,69])/\w'.cell? ⟨q,4,none⟩=some (.bool false)/\w'.cell? ⟨q,5,none⟩=some (vI 0)/\q<w'.heap.size/\Below W.heap.size W w')
   (first|exact T0.out|exact T0.out.next zB.drew|exact(VBox.next (VBox.next T0.out zB.drew) hb) |(go_split_ands;exact(VBox.next (W:=W) (v:=lJ) ⟨by assumption,by assumption,by assumption,by assumption,by assumption,by assumption,by assumption,by assumption⟩ hb)))
   (first
    |(go_at_call 66;(with_reducible refine(K2.out _ ?hbw).mono ?_);(case hbw=>(first|assumption|exact zB.drew |(go_split_ands;assumption)));rintro z wx ⟨rfl,hb⟩)
    |(go_at_call 115;(with_reducible refine(CSm.out _).mono ?_);rintro z wx ⟨rfl,hb⟩))
  all_goals go_wp2_with fail
  all_goals go_meet
  all_goals refine⟨rfl,zh ?_⟩
  all_goals first|exact⟨by assumption,by assumption,by assumption,by assumption,by assumption,by assumption,by assumption,by assumption⟩ |(go_split_ands;exact⟨by assumption,by assumption,by assumption,by assumption,by assumption,by assumption,by assumption,by assumption⟩)
 case rest=>
  obtain⟨rfl,hc⟩:=hcut;clear y0 y1 y2 y3 y4 y5 y6 T0;obtain⟨y0,y1,y2,y3,y4,y5,y6,hbw⟩:=hc.out;have HBf:=zh (aq.out.trans (hbw.mono (dh ▸ aq.out.size)));clear hbw hc CRd CSm
  go_wp2_with fail
  go_ret
  exact⟨rfl,dh ▸ HBf.out⟩
theorem uFG(n k:Nat):rhe (n*10 ^ k) k=n:=by
 have hp:0<10 ^ k:=Nat.pow_pos (by decide);unfold rhe;rw[Nat.mul_mod_left,Nat.mul_div_cancel _ hp,if_neg (by omega)]
theorem uG(n:Nat)(h:n % 10≠0):∀ (j:Nat) (e:Int),pE (n*10 ^ j) e=(n,e+j)
 |0,e=>by rw[Nat.pow_zero,Nat.mul_one,uAW n e h];simp
 |j+1,e=>by
  have hn:0<n:=by omega
  have hp:0<n*10 ^ j:=Nat.mul_pos hn (Nat.pow_pos (by decide));have he:n*10 ^ (j+1)=(n*10 ^ j)*10:=by rw[Nat.pow_succ,Nat.mul_assoc]
  rw[he,uAV _ _ (by omega) (Nat.mul_mod_left _ _),Nat.mul_div_cancel _ (by decide),uG n h j]
  congr 1
  omega
theorem dlen_pow(n:Nat)(h:0<n)(j:Nat):eQ (n*10 ^ j)=eQ n+j:=by
 have h1:=uCX n;have h2:=qA n h;have h3:=qQ n h;refine vK (by omega) ?_ ?_
 ·rw[show eQ n+j-1=(eQ n-1)+j by omega,Nat.pow_add];exact Nat.mul_le_mul_right _ h2
 rw[Nat.pow_add];exact Nat.mul_lt_mul_of_pos_right h1 (Nat.pow_pos (by decide))
theorem lV(neg:Bool)(n j:Nat)(e:Int)(h:n % 10≠0)(h15:eQ n<=15)(he:-40<=e)(hT:(eQ n:Int)+(e+j)<=40) :
  rT neg (n*10 ^ j) e=some (if neg then -(n:Int) else n,e+j):=by
 have hn:0<n:=by omega
 obtain⟨k,hk,h1⟩:∃ k,k<=j/\kA (n*10 ^ j) e=(n*10 ^ (j-k),e+k):=by
  unfold kA;rw[dlen_pow n hn];by_cases hb:15<eQ n+j
  ·refine⟨eQ n+j-15,by omega,?_⟩;rw[if_pos hb];have:n*10 ^ j=n*10 ^ (j-(eQ n+j-15))*10 ^ (eQ n+j-15):=by
    rw[Nat.mul_assoc,<- Nat.pow_add]
    congr 2
    omega
   rw[this,uFG]
  refine⟨0,zm _,?_⟩;rw[if_neg hb];simp
 have h2:pC (n*10 ^ (j-k)) (e+k)=(n*10 ^ (j-k),e+k):=by
  unfold pC;rw[if_neg (by omega)]
 unfold rT;rw[h1,h2,uG n h];unfold uDI;rw[if_neg (by show ¬ n=0;omega),if_neg (by show ¬ (40:Int)<(eQ n:Int)+(e+k+((j-k:Nat):Int));omega)]
 congr 2
 show e+k+((j-k:Nat):Int)=e+j;omega
theorem mV(p:UInt8->Bool)(r:Bs):∀ (D:Bs),(∀ c∈D,p c=true)->aU p (D++r)=D.length+aU p r
 | [],_=>by simp
 |c::D,h=>by
  have h1:=h c (by simp);have ih:=mV p r D (fun x hx=>h x (by simp[hx]));rw[yp,yi];simp only[aU,h1,if_true,ih];omega
def AllDig(D:Bs):Prop:=∀ c∈D,aC c=true
def sgB(neg:Bool):Bs:=if neg then [45] else []
theorem AllDig.app{A B:Bs}(h:AllDig A)(k:AllDig B):AllDig (A++B):=fun c hc=>(List.mem_append.1 hc).elim (h c) (k c)
theorem AllDig.zeros(n:Nat):AllDig (List.replicate n 48):=fun c hc=>by rw[(List.mem_replicate.1 hc).2];decide
theorem AllDig.take{A:Bs}(h:AllDig A)(n:Nat):AllDig (A.take n):=fun c hc=>h c (List.mem_of_mem_take hc)
theorem AllDig.drop{A:Bs}(h:AllDig A)(n:Nat):AllDig (A.drop n):=fun c hc=>h c (List.mem_of_mem_drop hc)
theorem vH(u:Nat):AllDig (Lib.decDigits u)/\cM (dL (Lib.decDigits u))=u:=by
 induction u using Nat.strongRecOn with
 |_ u ih=>
  have hd:∀ d,d<10->aC (UInt8.ofNat (48+d))=true/\(UInt8.ofNat (48+d)).toNat-48=d:=by decide
  rw[Lib.decDigits];by_cases h:u<10
  ·rw[dif_pos h];refine⟨fun c hc=>?_,?_⟩
   ·rw[yf.1 hc];exact(hd u h).1
   show cM [(UInt8.ofNat (48+u)).toNat-48]=u;rw[(hd u h).2];simp[cM]
  rw[dif_neg h];obtain⟨i1,i2⟩:=ih (u / 10) (by omega);have hm:=hd (u % 10) (by omega);refine⟨i1.app (fun c hc=>?_),?_⟩
  ·rw[yf.1 hc];exact hm.1
  rw[gU];show cM (dL (Lib.decDigits (u / 10))++[(UInt8.ofNat (48+u % 10)).toNat-48])=u;rw[rN,i2,hm.2];omega
theorem pD(neg:Bool)(A:Bs)(hA:AllDig A)(h0:A≠[]):mS (sgB neg++A)=some (neg,dL A,0,false,[]):=by
 obtain⟨c,t,rfl⟩:∃ c t,A=c::t:=by cases A with|nil=>exact absurd rfl h0|cons c t=>exact⟨c,t,rfl⟩
 have hc:=hA c (by simp);have h45:(c==45)=false:=by rw[beq_eq_false_iff_ne];intro h;subst h;exact absurd hc (by decide)
 have hr:aU aC (c::t)=(c::t).length:=by
  have:=mV aC [] (c::t) hA;rw[List.append_nil]at this;rw[this];rfl
 cases neg
 ·have ha:bH (sgB false++c::t) 0 45=false:=by simp[sgB,bH,h45]
  unfold mS;simp only[ha];simp[sgB,hr,bH,iJ]
 have ha:bH (sgB true++c::t) 0 45=true:=by simp[sgB,bH]
 unfold mS;simp only[ha];simp[sgB,hr,bH,iJ,Nat.add_comm 1]
theorem rU(neg:Bool)(A B:Bs)(hA:AllDig A)(hB:AllDig B)(h0:B≠[]):mS (sgB neg++(A++46::B))=some (neg,dL A++dL B,B.length,false,[]):=by
 have hr:aU aC (A++46::B)=A.length:=by
  rw[mV aC (46::B) A hA];have:aU aC (46::B)=0:=by simp[aU,aC]
  omega
 have hrB:aU aC B=B.length:=by
  have:=mV aC [] B hB;rw[List.append_nil]at this;rw[this];rfl
 have zo:B.length≠0:=fun h=>h0 (List.eq_nil_of_length_eq_zero h)
 have d1:(A++46::B).drop A.length=46::B:=by simp
 have d2:(A++46::B).drop (A.length+1)=B:=by rw[<- List.drop_drop,d1];rfl
 have d3:(A++46::B).drop (A.length+1+B.length)=[]:=by rw[<- List.drop_drop,d2];simp
 have d4:(A++46::B)[A.length]?=some 46:=by simp
 have d5:(A++46::B).take A.length=A:=by simp
 have hz:((A++46::B)[0]?==some 45)=false:=by
  cases A with
  |nil=>rfl
  |cons c t=>
   have hc:=hA c (by simp);show (some c==some 45)=false;rw[beq_eq_false_iff_ne];intro h;injection h with h;subst h;exact absurd hc (by decide)
 cases neg
 ·have ha:bH (sgB false++(A++46::B)) 0 45=false:=hz;unfold mS;simp only[ha];simp only[sgB,Bool.false_eq_true,if_false,List.nil_append,List.drop_zero,hr,Nat.zero_add,bH,d4,d2,hrB,d3,d5,iJ];simp[zo]
 have ha:bH (sgB true++(A++46::B)) 0 45=true:=rfl;unfold mS;simp only[ha];have e1:(sgB true++(A++46::B)).drop 1=A++46::B:=rfl;have e2:∀ k,(sgB true++(A++46::B)).drop (1+k)=(A++46::B).drop k:=fun k=>by rw[<- List.drop_drop,e1]
 have e3:(sgB true++(A++46::B))[1+A.length]?=some 46:=by rw[Nat.add_comm];exact d4
 simp only[if_true,e1,hr,bH,e3,Nat.add_assoc 1,e2,d2,hrB,d3,d5,iJ];simp[zo]
theorem fR(l:Bs)(neg:Bool)(L:List Nat)(b:Nat)(hl:l.length<=255)(h:mS l=some (neg,L,b,false,[])):vW l=rT neg (cM L) (-(b:Int)):=by
 unfold vW;rw[if_neg (by omega),all_text,h];show rT neg (cM L) ((0:Int)-(b:Int))=_;rw[Int.zero_sub]
theorem dec_len(m:Int)(h1:-9223372036854775808<=m)(h2:m<=9223372036854775807):1<=(Lib.decDigits m.natAbs).length/\(Lib.decDigits m.natAbs).length<=20:=by
 refine⟨by rw[Lib.decDigits_length,Lib.nDigits];split <;> omega,?_⟩;rw[Lib.decDigits_length];by_cases z:m.natAbs=0
 ·rw[z,Lib.nDigits_small (by omega)];omega
 have:=Lib.numDigits_eq m.natAbs (by omega) (by omega);split at this <;> omega
theorem uAX(m e:Int)(hR:bF m e=true):vW (cC m e)=some (m,e):=by
 by_cases z:m=0
 ·have he:e=0:=by unfold bF at hR;rw[if_pos z]at hR;simpa using hR
  subst z;subst he;have:cC 0 0=sgB false++[48]:=by
   have h1:cC 0 0=([]:Bs)++Lib.decDigits 0++[]:=rfl;rw[h1,Lib.decDigits];rfl
  rw[this,fR _ false [0] 0 (by decide) (pD false [48] (AllDig.zeros 1) (by decide))];exact uAS false 0
 obtain⟨r1,r2,r3,r4,r5⟩:=kN hR z;have xz:0<m.natAbs:=by omega
 obtain⟨l0,l1⟩:=dec_len m (by omega) (by omega);obtain⟨hd,hv⟩:=vH m.natAbs;have qy:eQ m.natAbs=gF m.natAbs:=(tR _ xz (by omega)).symm;have hs:(if m<0 then [45] else []:Bs)=sgB (decide (m<0)):=by
  unfold sgB;by_cases hm:m<0
  ·rw[if_pos hm,decide_eq_true hm];rfl
  rw[if_neg hm,decide_eq_false hm];rfl
 have j6:(sgB (decide (m<0))).length<=1:=by unfold sgB;split <;> decide
 have hm:(if decide (m<0)=true then -((m.natAbs:Nat):Int) else (m.natAbs:Int))=m:=by
  by_cases hm:m<0
  ·rw[decide_eq_true hm,if_pos rfl];omega
  rw[decide_eq_false hm,if_neg (by decide)];omega
 have h15:eQ m.natAbs<=15:=dlen_le (by omega);have hN:cC m e=if 0<=e then (if m<0 then [45] else [])++Lib.decDigits m.natAbs++List.replicate e.toNat 48
  else if 0<((Lib.decDigits m.natAbs).length:Int)+e then (if m<0 then [45] else [])++(Lib.decDigits m.natAbs).take (((Lib.decDigits m.natAbs).length:Int)+e).toNat++[46]++(Lib.decDigits m.natAbs).drop (((Lib.decDigits m.natAbs).length:Int)+e).toNat
  else (if m<0 then [45] else [])++[48,46]++List.replicate (-(((Lib.decDigits m.natAbs).length:Int)+e)).toNat 48++Lib.decDigits m.natAbs:=rfl
 rw[hN,hs];clear hN hs;generalize Lib.decDigits m.natAbs=t at *;by_cases he:0<=e
 ·obtain⟨k,rfl⟩:∃ k:Nat,e=k:=⟨e.toNat,by omega⟩
  rw[if_pos he,List.append_assoc];have hq:=fR (sgB (decide (m<0))++(t++List.replicate (k:Int).toNat 48)) (decide (m<0)) (dL (t++List.replicate k 48)) 0 (by simp;omega) (pD _ _ (hd.app (AllDig.zeros _)) (fun h=>by have:=congrArg List.length h;rw[yl,List.length_nil]at this;omega));rw[hq,gU,iW,hv];have hz:dL (List.replicate k 48)=List.replicate k 0:=by simp[dL]
  rw[hz,pB,List.length_replicate,Nat.add_zero];have:=lV (decide (m<0)) m.natAbs k 0 (by omega) h15 (by decide) (by omega);rw[hm,Int.zero_add]at this;exact this
 rw[if_neg he];by_cases hw:0<(t.length:Int)+e
 ·obtain⟨n,hn⟩:∃ n:Nat,(t.length:Int)+e=n:=⟨((t.length:Int)+e).toNat,by omega⟩
  rw[if_pos hw,hn];have ha:sgB (decide (m<0))++t.take (n:Int).toNat++[46]++t.drop (n:Int).toNat=sgB (decide (m<0))++(t.take n++46::t.drop n):=by simp
  rw[ha];have hq:=fR (sgB (decide (m<0))++(t.take n++46::t.drop n)) _ _ _ (by simp;omega) (rU (decide (m<0)) (t.take n) (t.drop n) (hd.take n) (hd.drop n) (fun h=>by have:=congrArg List.length h;simp at this;omega));rw[hq,<- gU,List.take_append_drop,hv];have:=lV (decide (m<0)) m.natAbs 0 e (by omega) h15 (by omega) (by omega);rw[hm,Nat.pow_zero,Nat.mul_one]at this;rw[show (-((t.drop n).length:Int))=e by rw[yk];omega,this];simp
 obtain⟨k,hk⟩:∃ k:Nat,(t.length:Int)+e=-(k:Int):=⟨(-((t.length:Int)+e)).toNat,by omega⟩
 rw[if_neg hw,hk,Int.neg_neg];have ha:sgB (decide (m<0))++[48,46]++List.replicate (k:Int).toNat 48++t=sgB (decide (m<0))++([48]++46::(List.replicate k 48++t)):=by simp
 rw[ha];have hq:=fR (sgB (decide (m<0))++([48]++46::(List.replicate k 48++t))) _ _ _ (by simp;omega) (rU (decide (m<0)) [48] (List.replicate k 48++t) (AllDig.zeros 1) ((AllDig.zeros k).app hd) (fun h=>by have:=congrArg List.length h;rw[yl,List.length_nil]at this;omega));have hz:dL [48]++dL (List.replicate k 48++t)=List.replicate (k+1) 0++dL t:=by
  rw[gU];simp[dL,List.replicate_succ]
 rw[hq,hz,iW,pB,Nat.zero_mul,Nat.zero_add,hv];have:=lV (decide (m<0)) m.natAbs 0 e (by omega) h15 (by omega) (by omega);rw[hm,Nat.pow_zero,Nat.mul_one]at this;rw[show (-((List.replicate k (48:UInt8)++t).length:Int))=e by rw[yl,List.length_replicate];omega,this];simp
theorem uFH(m e:Int)(hR:bF m e=true):bF (-m) e=true:=by
 unfold bF at hR ⊢;have h1:(-m).natAbs=m.natAbs:=by omega
 by_cases z:m=0
 ·rw[if_pos z]at hR;rw[if_pos (by omega)];exact hR
 rw[if_neg z]at hR;rw[if_neg (by omega),h1];exact hR
def eH(c:Nat):Bs:=if _h:c=0 then [] else eH ((c-1) / 26)++[UInt8.ofNat (65+(c-1) % 26)]
termination_by c
decreasing_by omega
theorem fW:eH 0=[]:=by rw[eH,dif_pos rfl]
theorem fV(c:Nat)(h:0<c):eH c=eH ((c-1) / 26)++[UInt8.ofNat (65+(c-1) % 26)]:=by rw[eH,dif_neg (by omega)]
def aZ(c:UInt8):Bool:=decide (65<=c.toNat)&&decide (c.toNat<=90)
theorem cap_of(d:Nat)(h:d<26):aZ (UInt8.ofNat (65+d))=true/\(UInt8.ofNat (65+d)).toNat=65+d:=by
 have:=(by decide:∀ d,d<26->aZ (UInt8.ofNat (65+d))=true/\(UInt8.ofNat (65+d)).toNat=65+d)
 exact this d h
def uCT(l:Bs):Nat:=l.foldl (fun a c=>a*26+(c.toNat-65)+1) 0
theorem zI(l:Bs)(c:UInt8):uCT (l++[c])=uCT l*26+(c.toNat-65)+1:=by simp[uCT]
theorem lets_is(c:Nat):(∀ x∈eH c,aZ x=true)/\uCT (eH c)=c:=by
 induction c using Nat.strongRecOn with
 |_ c ih=>
  by_cases h:c=0
  ·subst h;rw[fW];exact⟨fun x hx=>by simp at hx,rfl⟩
  rw[fV c (by omega)];obtain⟨i1,i2⟩:=ih ((c-1) / 26) (by omega);obtain⟨c1,c2⟩:=cap_of ((c-1) % 26) (by omega);refine⟨fun x hx=>?_,?_⟩
  ·rcases List.mem_append.1 hx with h|h
   ·exact i1 x h
   rw[yf.1 h];exact c1
  rw[zI,i2,c2];omega
theorem wZ(c:Nat)(h:0<c):0<(eH c).length:=by rw[fV c h];simp
theorem iG(c:Nat)(h:c<=18278):(eH c).length<=3:=by
 by_cases h0:c=0
 ·subst h0;rw[fW];simp
 rw[fV c (by omega),yl];by_cases h1:(c-1) / 26=0
 ·rw[h1,fW];simp
 rw[fV _ (by omega),yl];by_cases h2:((c-1) / 26-1) / 26=0
 ·rw[h2,fW];simp
 rw[fV _ (by omega),yl];have h3:(((c-1) / 26-1) / 26-1) / 26=0:=by omega
 rw[h3,fW];simp
def qR(b:Bool):Bs:=if b then [36] else []
def mO(row col:Nat)(fr fc:Bool):Bs:=qR fc++(eH (col+1)++(qR fr++Lib.decDigits (row+1)))
theorem uCV(u:Nat):0<(Lib.decDigits u).length:=by rw[Lib.decDigits];split <;> simp
theorem cO(u k:Nat)(h:u<10 ^ (k+1)):(Lib.decDigits u).length<=k+1:=by
 induction k generalizing u with
 |zero=>rw[Lib.decDigits,dif_pos (by omega)];simp
 |succ k ih=>
  rw[Lib.decDigits];by_cases h1:u<10
  ·rw[dif_pos h1];simp
  rw[dif_neg h1,yl];have:=ih (u / 10) (by rw[Nat.pow_succ]at h;omega);simp;omega
structure IdR where
 a:Int
 n:Int
theorem IdR.ext'{x y:IdR}(h1:x.a=y.a)(h2:x.n=y.n):x=y:=by
 cases x;cases y;cases h1;cases h2;rfl
instance :DecidableEq IdR:=fun x y=>if h:x.a=y.a/\x.n=y.n then .isTrue (IdR.ext' h.1 h.2) else .isFalse (fun e=>h (by rw[e];exact⟨rfl,rfl⟩))
abbrev id0:IdR:=⟨0,0⟩
structure Cor where
 row:IdR
 col:IdR
 fr:Bool
 fc:Bool
theorem Cor.ext'{x y:Cor}(h1:x.row=y.row)(h2:x.col=y.col)(h3:x.fr=y.fr)(h4:x.fc=y.fc):x=y:=by
 cases x;cases y;cases h1;cases h2;cases h3;cases h4;rfl
instance :DecidableEq Cor:=fun x y=>if h:x.row=y.row/\x.col=y.col/\x.fr=y.fr/\x.fc=y.fc then .isTrue (Cor.ext' h.1 h.2.1 h.2.2.1 h.2.2.2) else .isFalse (fun e=>h (by rw[e];exact⟨rfl,rfl,rfl,rfl⟩))
abbrev aN:Cor:=⟨id0,id0,false,false⟩
structure NodeH where
 kind:Int
 v:Val
 name:Bs
 a:Cor
 b:Cor
 rows:Int
inductive Tree where
 |mk (h:NodeH) (l:List Tree)
def Tree.h:Tree->NodeH
 | .mk h _=>h
def Tree.l:Tree->List Tree
 | .mk _ l=>l
abbrev head0:NodeH:=⟨0,aD,[],aN,aN,0⟩
abbrev tree0:Tree:=.mk head0 []
mutual
def Tree.size:Tree->Nat
 | .mk _ l=>aM l+1
def aM:List Tree->Nat
 | []=>0
 |t::r=>t.size+aM r
end
mutual
def Tree.depth:Tree->Nat
 | .mk _ l=>cD l+1
def cD:List Tree->Nat
 | []=>0
 |t::r=>max t.depth (cD r)
end
def NodeH.same(x y:NodeH):Bool:=decide (x.kind=y.kind)&&aW x.v y.v&&x.name==y.name&&decide (x.a=y.a)&&decide (x.b=y.b)&&decide (x.rows=y.rows)
mutual
def Tree.same:Tree->Tree->Bool
 | .mk h l,.mk h' l'=>NodeH.same h h'&&eY l l'
def eY:List Tree->List Tree->Bool
 | [],[]=>true
 |t::r,t'::r'=>t.same t'&&eY r r'
 | [],_::_=>false
 |_::_,[]=>false
end
def aG(s:Bs):Nat:=aU aC s
def aE(s:Bs):Nat:=aU aZ s
def bN(s:Bs):Bool :=
 decide (0<s.length)&&decide (s.length<=32)&&aZ (s.headD 0)&&s.all (fun c=>aZ c||aC c||c==46) &&
  !(decide (aE s+aG (s.drop (aE s))=s.length)&&decide (aE s<=3)&&decide (1<=aG (s.drop (aE s)))&&decide (aG (s.drop (aE s))<=7)&&!bH s (aE s) 48)
def dH(s:Bs):Bool :=
 let a:=if bH s 0 82 then 1+aG (s.drop 1) else 0
 let b:=if bH s a 67 then a+1+aG (s.drop (a+1)) else a
 decide (b=s.length)
def lI:Bs:=[84,82,85,69]
def gZ:Bs:=[70,65,76,83,69]
def bB(s:Bs):Bool :=
 decide (0<s.length)&&decide (s.length<=32)&&(aZ (s.headD 0)||s.headD 0==95)&&s.all (fun c=>aZ c||aC c||c==95||c==46) &&
  !(s==lI||s==gZ||dH s) &&
  !(decide (aE s+aG (s.drop (aE s))=s.length)&&decide (1<=aE s)&&decide (aE s<=3)&&decide (1<=aG (s.drop (aE s))))
def unB(s:Bs):Bool:=s==[45]||s==[43]||s==[37]
def lO(s:Bs):Bool:=s==[43]||s==[45]||s==[42]||s==[47]||s==[94]||s==[38]||s==[61]||s==[60,62]||s==[60]||s==[60,61]||s==[62]||s==[62,61]
def cS(v:Val)(inMat:Bool):Bool:=decide (v.kind≠0)&&aR v&&(inMat||decide (0<=v.mant))
def bM(a b:Cor):Bool :=
 let rows:=decide (a.row≠id0)
 let cols:=decide (a.col≠id0)
 (rows==decide (b.row≠id0))&&(cols==decide (b.col≠id0))&&(rows||cols)&&(rows||(!a.fr&&!b.fr))&&(cols||(!a.fc&&!b.fc))
def aV(h:NodeH)(n:Nat)(kids:List Int)(above:Int):Bool :=
 if h.kind=0 then cS h.v (decide (above=8))&&NodeH.same h ⟨0,h.v,[],aN,aN,0⟩&&decide (n=0)
 else if h.kind=1\/h.kind=3 then decide (h.a.row≠id0)&&decide (h.a.col≠id0)&&NodeH.same h ⟨h.kind,aD,[],h.a,aN,0⟩&&decide (n=0)
 else if h.kind=2 then bM h.a h.b&&NodeH.same h ⟨2,aD,[],h.a,h.b,0⟩&&decide (n=0)
 else if h.kind=4 then bN h.name&&decide (n<=32)&&!(decide (n=1)&&decide (kids=[9]))&&NodeH.same h ⟨4,aD,h.name,aN,aN,0⟩
 else if h.kind=5 then unB h.name&&decide (n=1)&&NodeH.same h ⟨5,aD,h.name,aN,aN,0⟩
 else if h.kind=6 then lO h.name&&decide (n=2)&&NodeH.same h ⟨6,aD,h.name,aN,aN,0⟩
 else if h.kind=7 then bB h.name&&NodeH.same h ⟨7,aD,h.name,aN,aN,0⟩&&decide (n=0)
 else if h.kind=8 then decide (1<=h.rows)&&decide (1<=n)&&decide ((n:Int).tmod h.rows=0)&&NodeH.same h ⟨8,aD,[],aN,aN,h.rows⟩
 else if h.kind=9 then decide (above=4)&&NodeH.same h ⟨9,aD,[],aN,aN,0⟩&&decide (n=0)
 else false
mutual
def Tree.right:Tree->Int->Bool
 | .mk h l,above=>aV h l.length (l.map fun t=>t.h.kind) above&&aT l h.kind
def aT:List Tree->Int->Bool
 | [],_=>true
 |t::r,k=>(decide (k≠8)||decide (t.h.kind=0))&&t.right k&&aT r k
end
def cL(t:Tree):Nat:=if 256<t.size then 5 else if 32<t.depth then 8 else if t.right 6 then 0 else 6
def hd(ts:List Tok):Tok:=ts.headD ⟨0,[],0⟩
open Go
def Up(zl:Array Bool)(i:Nat):Prop:=zl.getD i false=true
theorem Up.of_false{zl:Array Bool}{i:Nat}(h:zl.getD i true=false):i<zl.size:=by
 rcases Nat.lt_or_ge i zl.size with h1|h1
 ·exact h1
 simp[Array.getElem?_eq_none h1]at h
theorem Up.set{zl:Array Bool}{i j:Nat}(hs:i<zl.size):Up (zl.setIfInBounds i true) j↔(j=i\/Up zl j):=by
 unfold Up;by_cases h:i=j
 ·subst h;simp[hs]
 rw[getD_set_ne false h];constructor
 ·exact .inr
 rintro(e|e)
 ·exact absurd e.symm h
 exact e
theorem Up.none(n i:Nat):¬ Up (Array.replicate n false) i:=by
 unfold Up;simp only[Array.getD_eq_getD_getElem?,Array.getElem?_replicate]
 split <;> simp
def jO(ops:Array Oper):Bool:=(List.range ops.size).all fun i=>((ops[i]?).map fun o=>o.after.all fun e=>decide (e.on<i)).getD true
theorem lC{ops:Array Oper}(h:jO ops=true){i:Nat}{o:Oper}(ho:ops[i]?=some o):∀ e∈o.after,e.on<i:=by
 intro e he;have hlt:i<ops.size:=(zk.1 ho).1;have:=List.all_eq_true.1 h i (yg.2 hlt);rw[ho]at this;simp only[Option.map_some,Option.getD_some,Array.all_eq_true_iff_forall_mem]at this;exact of_decide_eq_true (this e he)
theorem all_up{md:Region.Mode}{ops:Array Oper}(hb:jO ops=true){zl:Array Bool}(hs:zl.size=ops.size)(hr:Region.ready md ops zl=[]):∀ i,i<ops.size->Up zl i:=by
 intro i
 induction i using Nat.strongRecOn with
 |_ i ih=>
  intro hi;cases hu:zl.getD i true
  ·exfalso
   have ho:ops[i]?=some ops[i]:=Array.getElem?_eq_getElem hi;have:i∈Region.ready md ops zl:=mem_ready.2 ⟨hu,ops[i],ho,fun e he _=>ih e.on (lC hb ho e he) (Nat.lt_trans (lC hb ho e he) hi)⟩;rw[hr]at this;cases this
  have q8:i<zl.size:=by omega
  unfold Up;simp only[Array.getD_eq_getD_getElem?,Array.getElem?_eq_getElem q8,Option.getD_some]at hu ⊢;exact hu
def left(zl:Array Bool):Nat:=zl.toList.countP (fun b=>!b)
theorem rJ{zl:Array Bool}{i:Nat}(h:zl.getD i true=false):left (zl.setIfInBounds i true)+1=left zl:=by
 have hi:=Up.of_false h;have hv:zl[i]=false:=by simpa [hi] using h
 unfold left;obtain⟨l⟩:=zl;simp only[yd]at hi;simp only[List.getElem_toArray]at hv;simp only[yz];have e1:l=l.take i++l[i]::l.drop (i+1):=by
  rw[<- yx hi,List.take_append_drop]
 have e2:l.set i true=l.take i++true::l.drop (i+1):=List.set_eq_take_append_cons_drop.trans (if_pos hi);rw[e2]
 conv=>rhs;rw[e1]
 rw[List.countP_append,List.countP_append,List.countP_cons,List.countP_cons,hv];simp;omega
theorem tZ{zl:Array Bool}(h:left zl=0)(i:Nat):zl.getD i true=true:=by
 cases hu:zl.getD i true
 ·have:=rJ hu;omega
 rfl
section
variable {P:Program} {ops:Array Oper} {Q:Exit->Act->World->Prop} {md:Region.Mode}
theorem uZ(hb:jO ops=true)(I:Array Bool->Act->World->Prop)
  (bw:∀ zl a w i o,zl.size=ops.size->I zl a w->zl.getD i true=false->ops[i]?=some o->(∀ e∈o.after,Region.binds md e=true->Up zl e.on)->wpOp P ops Q i (I (zl.setIfInBounds i true)) a w)
  (b7:∀ zl a w,I zl a w->(∀ i,i<ops.size->Up zl i)->Q .normal a w) :
  ∀ (fuel:Nat) (zl:Array Bool) (a:Act) (w:World),zl.size=ops.size->left zl<=fuel->I zl a w->wpAny P md ops Q fuel zl a w
 |0,zl,a,w,hs,hf,hI=>by
  have hr:Region.ready md ops zl=[]:=by
   refine List.eq_nil_iff_forall_not_mem.2 (fun i hi=>?_);have h1:=(mem_ready.1 hi).1;rw[tZ (by omega) i]at h1;cases h1
  exact⟨hr,b7 zl a w hI (all_up hb hs hr)⟩
 |fuel+1,zl,a,w,hs,hf,hI=>by
  refine⟨fun hr=>b7 zl a w hI (all_up hb hs hr),fun i hi=>?_⟩;obtain⟨h1,o,ho,zd⟩:=mem_ready.1 hi;refine wpOp_mono (fun a' w' h'=>uZ hb I bw b7 fuel _ a' w' (by rw[Array.size_setIfInBounds];exact hs) (by have:=rJ h1;omega) h') (bw zl a w i o hs hI h1 ho zd)
theorem jX(n:Nat):left (Array.replicate n false)=n:=by
 unfold left;simp[List.countP_replicate]
theorem tG{id:Nat}{a:Act}{w:World}(hm:P.follows .mixedOrders=true)(hb:jO ops=true)(I:Array Bool->Act->World->Prop)
  (h0:I (Array.replicate ops.size false) a w.drew)
  (bw:∀ zl a w i o,zl.size=ops.size->I zl a w->zl.getD i true=false->ops[i]?=some o->(∀ e∈o.after,Region.binds .any e=true->Up zl e.on)->wpOp P ops Q i (I (zl.setIfInBounds i true)) a w)
  (b7:∀ zl a w,I zl a w->(∀ i,i<ops.size->Up zl i)->Q .normal a w):(Code.region id ops true).wp P Q a w :=
 wp_region_any hm (uZ hb I bw b7 ops.size _ a _ (by simp) (by rw[jX];exact zr) h0)
theorem wp_region_inv'{id:Nat}{a:Act}{w:World}(hm:P.follows .mixedOrders=true)(hb:jO ops=true)(F:Act->Prop)(I:Act->Array Bool->Act->World->Prop)(hF:F a)
  (h0:I a (Array.replicate ops.size false) a w.drew)
  (bw:∀ a0,F a0->∀ zl a w i o,zl.size=ops.size->I a0 zl a w->zl.getD i true=false->ops[i]?=some o->(∀ e∈o.after,Region.binds .any e=true->Up zl e.on)->wpOp P ops Q i (I a0 (zl.setIfInBounds i true)) a w)
  (b7:∀ zl a' w',I a zl a' w'->(∀ i,i<ops.size->Up zl i)->Q .normal a' w'):(Code.region id ops true).wp P Q a w :=
 tG hm hb (I a) h0 (bw a hF) b7
theorem jF{i:Nat}{o:Oper}{K:Act->World->Prop}{a:Act}{w:World}(ho:ops[i]?=some o)(hg:o.guard=none)(h:o.wp P a w K Q):wpOp P ops Q i K a w:=by
 unfold wpOp;rw[ho];simp only;rw[if_pos (by simp[Region.wanted,hg])];exact .inl h
end
theorem gV(a:Act)(v:Value){t s:Nat}(h:t≠s):(a.put (some t) v).eval (.tmp s)=a.eval (.tmp s):=Act.eval_put (fun _ hd e=>h ((Option.some.inj hd).trans (Operand.tmp.inj e).symm))
theorem fJ(a:Act)(v:Value){t:Nat}(h:t<a.tmps.size):(a.put (some t) v).eval (.tmp t)=v:=by simp[Act.eval,Act.put,h]
theorem mZ(a:Act)(v:Value)(t:Nat):(a.put (some t) v).tmps.size=a.tmps.size:=by simp[Act.put]
open Go
structure Off(S:List Nat)(a0 a:Act):Prop where
 defers:a.defers=a0.defers
 size:a.tmps.size=a0.tmps.size
 same:∀ t:Nat,t∉S->a.tmps[t]?=a0.tmps[t]?
theorem Off.refl(S:List Nat)(a:Act):Off S a a:=⟨rfl,rfl,fun _ _=>rfl⟩
theorem Off.put{S:List Nat}{a0 a:Act}(h:Off S a0 a){s:Nat}(hs:s∈S)(v:Value):Off S a0 (a.put (some s) v):=by
 refine⟨h.defers,by rw[mZ];exact h.size,fun t ht=>?_⟩;have cg:s≠t:=fun e=>ht (e ▸ hs)
 rw[<- h.same t ht];simp[Act.put,cg]
theorem Off.eval{S:List Nat}{a0 a:Act}(h:Off S a0 a){t:Nat}(ht:t∉S):a.eval (.tmp t)=a0.eval (.tmp t):=by
 have:=h.same t ht;simp only[Act.eval,Array.getD_eq_getD_getElem?,this]
theorem Off.form:∀ (S:List Nat) (a0 a:Act),Off S a0 a->a=S.foldl (fun b s=>b.put (some s) (a.tmps.getD s undef)) a0
 | [],a0,a,h=>by
  obtain⟨tmps,df⟩:=a;obtain⟨tmps0,df0⟩:=a0;have h1:=h.defers;dsimp only at h1;subst h1;have h2:tmps=tmps0:=Array.ext_getElem? (fun t=>h.same t (by simp));rw[h2];rfl
 |s::S,a0,a,h=>by
  rw[List.foldl_cons];refine Off.form S _ a ⟨h.defers,by rw[mZ];exact h.size,fun t ht=>?_⟩;by_cases en:s=t
  ·subst en;have hz:=h.size;simp only[Act.put,Array.getElem?_setIfInBounds,if_true,Array.getD_eq_getD_getElem?]
   split
   ·next hlt=>
    have:s<a.tmps.size:=by omega
    rw[Array.getElem?_eq_getElem this];rfl
   next hlt=>rw[Array.getElem?_eq_none (by omega)]
  rw[h.same t (by simp only[ym,not_or];exact⟨fun e=>en e.symm,ht⟩)];simp[Act.put,en]
theorem Off.forms{S:List Nat}{a0 a:Act}(h:Off S a0 a):∃ f:Nat->Value,a=S.foldl (fun b s=>b.put (some s) (f s)) a0/\∀ s,f s=a.eval (.tmp s) :=
 ⟨fun s=>a.tmps.getD s undef,Off.form S a0 a h,fun _=>rfl⟩
theorem bR{a:Act}{t:Nat}{v:Value}(h:a.eval (.tmp t)=v):a.tmps[t]?.getD undef=v:=by
 rw[<- h];simp[Act.eval]
def PT(T:List (Nat×Nat×Value))(zl:Array Bool)(a:Act):Prop:=∀ e∈T,Up zl e.1->a.eval (.tmp e.2.1)=e.2.2
theorem pk{T:List (Nat×Nat×Value)}{zl:Array Bool}{a:Act}(hp:PT T zl a)(n:Nat){i s:Nat}{v:Value}(h:T[n]?=some (i,s,v))(hu:Up zl i):a.eval (.tmp s)=v:=hp (i,s,v) (List.mem_of_getElem? h) hu
theorem ud{zl:Array Bool}{o:Oper}(zd:∀ e∈o.after,Region.binds .any e=true->Up zl e.on)(i:Nat)(hm:{ on:=i,ground:=.data }∈o.after:=by simp):Up zl i:=zd _ hm rfl
theorem PT.start(T:List (Nat×Nat×Value))(n:Nat)(a:Act):PT T (Array.replicate n false) a:=fun _ _ h=>absurd h (Up.none _ _)
theorem PT.step{T:List (Nat×Nat×Value)}{zl:Array Bool}{a:Act}(h:PT T zl a){i s:Nat}{v:Value}(hi:i<zl.size)(hs:s<a.tmps.size)(h1:∀ e∈T,e.2.1=s->e.2.2=v)(h2:∀ e∈T,e.1=i->e.2.1=s):PT T (zl.setIfInBounds i true) (a.put (some s) v):=by
 intro e he hu;by_cases hes:s=e.2.1
 ·rw[<- hes,fJ _ _ hs,h1 e he hes.symm]
 rw[gV _ _ hes];rcases(Up.set hi).1 hu with hu|hu
 ·exact absurd (h2 e he hu).symm hes
 exact h e he hu
theorem PT.skip{T:List (Nat×Nat×Value)}{zl:Array Bool}{a:Act}(h:PT T zl a){i:Nat}(hi:i<zl.size)(h1:∀ e∈T,e.1≠i):PT T (zl.setIfInBounds i true) a:=by
 intro e he hu;rcases(Up.set hi).1 hu with hu|hu
 ·exact absurd hu (h1 e he)
 exact h e he hu
theorem kG{zl:Array Bool}{i j:Nat}(hi:i<zl.size)(h:Up (zl.setIfInBounds i true) j)(cg:j≠i):Up zl j:=((Up.set hi).1 h).resolve_left cg
theorem eI{zl:Array Bool}{i j:Nat}(hi:i<zl.size)(h:Up zl j):Up (zl.setIfInBounds i true) j:=(Up.set hi).2 (.inr h)
theorem qD{zl:Array Bool}{i:Nat}(hi:i<zl.size):Up (zl.setIfInBounds i true) i:=(Up.set hi).2 (.inl rfl)
theorem iY{zl:Array Bool}{i:Nat}(ah:zl.getD i true=false):¬ Up zl i:=fun h=>by
 have hi:=Up.of_false ah;unfold Up at h;simp[hi]at ah h;rw[ah]at h;cases h
theorem oK{P:Program}{o:Oper}{a:Act}{w w1:World}{K:Act->World->Prop}{Q:Exit->Act->World->Prop}(v:Value)(hr:(execOp a.eval o).run P w=.ok (.value v) w1)(hk:K (a.put o.dst v) w1):o.wp P a w K Q:=by
 unfold Oper.wp;rw[hr];exact hk
theorem uCL{P:Program}{o:Oper}{a:Act}{w w1:World}{K:Act->World->Prop}{Q:Exit->Act->World->Prop}(hr:(execOp a.eval o).run P w=.ok .skip w1)(hk:K (a.put o.dst undef) w1):o.wp P a w K Q:=by
 unfold Oper.wp;rw[hr];exact hk
theorem gS(r c:Int)(w:World)(h1:0<=r)(h2:r<=9999998)(h3:0<=c)(h4:c<=18277) :
  Calls Tryz.prog 90 #[vI r,vI c] w fun e w'=>e=.returned (.bool true)/\w=w':=by
 go_in
 go_wp2
 go_ret
 exact⟨rfl,rfl⟩
theorem qS(b:Bool)(w:World):Calls Tryz.prog 141 #[.bool b] w fun e w'=>e=.returned (vT (qR b))/\w=w':=by
 cases b
 all_goals
  go_in
  go_wp2
  go_ret
  exact⟨rfl,rfl⟩
end Go.Proofs.YtjfihpaeglpblaaGreatDoor
