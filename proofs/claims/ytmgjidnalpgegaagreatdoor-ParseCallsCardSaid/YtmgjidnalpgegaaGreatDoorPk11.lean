/-
  Lemmas, part 11: ParK ParL ParM.
-/
import Derived.Test.YtmgjidnalpgegaaGreatDoorPk10
set_option maxHeartbeats 100000000
namespace Go.Proofs.YtmgjidnalpgegaaGreatDoor
open Go.RowKit
theorem jF(q j b:Nat)(W:World)(hb:W.heap[q]?=some (.map (yB q) 6))(hf:Instr.findNow (.int .i64) (.int .i64 (j:Int)) (yB q).toList 0=some (some (j,.map (some b)))) :
  (Instr.lookup 63 (.map (some q)) (.int .i64 (j:Int)) false).run Tryz.prog W=.ok (.map (some b)) W:=by
 have hc:(Instr.checkKey (yB q).isEmpty 10000 3 (.int .i64 (j:Int))).run Tryz.prog W=.ok () W:=MapKept.run_checkKey (k:=.int .i64 (j:Int)) uInt rfl _ 9999;simp[Instr.lookup,run_underlying uSgO,MapKept.run_getObj_map hb,hc,MapKept.run_findKey uInt hf,Result.andThen]
set_option maxRecDepth 100000 in
theorem power_any(E:Env)(hE:E.ok)(he:E.ends)(hL:E.L.length<=1000000)(next:List Tok->Nat->Out)(op:Nat)(hp:eE E 107 next op):eE E 94 (bL next oN) op:=by
 intro k nd pl er w hI hk hn;have cj:=zh (hI.next (zp (.cells aA.toArray 41)));have CP:=zh (lJ E hE he hL 107 (enters_of Tryz.func107 (by kernel_rfl) rfl) next op hp 4 (by decide) k nd pl er _ cj.out hk hn);have ik:eU[4]=oN:=rfl;rw[ik]at CP;have cf:Hid (Kp E.X w (w.alloc (.cells aA.toArray 41))):=zh ((Kp.refl _ _).alloc _);have cd:=zh (Own1.new hI (Kp.refl E.X w) 41 aA.toArray);have cr:Hid (w.heap.size<(w.alloc (.cells aA.toArray 41)).heap.size):=zh (by simp);clear hI hp ik;simp only[aA]at cj cf cd CP cr;generalize hO:bL next oN (E.L.drop k) nd=O at *;clear hO
 go_enter Tryz.func94,Tryz.ntmps94
 go_upto_region 1 with fail
 generalize w.alloc (.cells zM 41)=W1 at cj cf cd CP cr ⊢;generalize fa:w.heap.size=q at cd ⊢;have qw:=zh fa;clear fa;have r6:=cj.out.rd.cell 6;simp only[za,zb,zf]at r6;have mo:(Instr.lookup 63 (.map (some E.sg)) (.int .i64 4) false).run Tryz.prog W1=.ok (.map (some (E.sg+1+4))) W1:=jF E.sg 4 (E.sg+1+4) W1 cj.out.sg.out rfl
 go_wp2_with fail
 refine CP.out.mono ?_;cases O with
 |ok t ts c=>
  rintro e w2 ⟨k1,cs,rfl,h1,h2,h3,h4,h5,h6,h7,h8⟩;obtain⟨l,rfl⟩:∃ l:List Value,cs=l.toArray:=⟨cs.toList,by simp⟩
  have aj:Hid (l.length=22):=zh (by have:=h8.1;rwa [yd]at this);have yo:=zh h8.2.1;have ct:=zh h6;have im:=h7;have HX:=zh (⟨h1,h2,h3,h4,h5,h8⟩:k<=k1/\k1<E.L.length/\ts=E.L.drop k1/\c+k<=nd+k1/\nd<=c/\NV w2 (List.range W1.heap.size) c t l.toArray);clear h1 h2 h3 h4 h5 h6 h7 h8;have bq:=zh (cd.out.kp im);have cq:=zh (cf.out.trans im);have HT:Hid (w2.there q 0 l.toArray.size):=zh (by have h:=bq.out.li.thereA;rw[show l.toArray.size=22 from aj.out];exact h);have zi:(Tryz.prog.info? 41).map (·.size)=some l.toArray.size:=by rw[show l.toArray.size=22 from aj.out];exact aE
  clear cj cd cf CP im mo r6
  go_wp2_with (first |(refine yq rfl 41 (.tmp 2) (.tmp 13) rfl q 0 l.toArray rfl rfl HT.out zi yo.out ?_;change wpList _ _ _ _ _ (w2.setCells q 0 l);generalize fo:w2.setCells q 0 l=w7))
  have bn:Kp [q] w2 w7:=by rw[<- fo];exact aQ (.inl (.head _)) l 0 (Kp.refl _ _)
  have dw:Hid (Lies w7 q 41 l.toArray):=zh (by rw[<- fo];exact bq.out.li.putAll aj.out);refine yt (aO rfl rfl dw.out aj.out) rfl ?_;exact⟨k1,l.toArray,rfl,HX.out.1,HX.out.2.1,HX.out.2.2.1,HX.out.2.2.2.1,HX.out.2.2.2.2.1,ct.out.own hE bq.out (by decide) (by decide) bn,cq.out.own bq.out bn,(HX.out.2.2.2.2.2.kpX bn (fun y hy=>by rw[yf.1 hy];exact yg.2 (by have:=cr.out;have:=qw.out;omega))).anti (fun y hy _=>yg.2 (Nat.lt_trans (yg.1 hy) cr.out))⟩
 |bad e0 p0=>
  rintro e w2 ⟨cs,k1,op1,nd1,rfl,h1,h2,h3,h4,h5,h6,h7⟩;obtain⟨l,rfl⟩:∃ l:List Value,cs=l.toArray:=⟨cs.toList,by simp⟩
  have aj:Hid (l.length=22):=zh (by rwa [yd]at h1);have yo:=zh h2;have ct:=zh h6;have im:=h7;have HX:=zh (⟨h3,h4,h5⟩:k<=k1/\k1<E.L.length/\nd1+k<=nd+k1);clear h1 h2 h3 h4 h5 h6 h7;have bq:=zh (cd.out.kp im);have cq:=zh (cf.out.trans im);have HT:Hid (w2.there q 0 l.toArray.size):=zh (by have h:=bq.out.li.thereA;rw[show l.toArray.size=22 from aj.out];exact h);have zi:(Tryz.prog.info? 41).map (·.size)=some l.toArray.size:=by rw[show l.toArray.size=22 from aj.out];exact aE
  clear cj cd cf CP im mo r6
  go_wp2_with (first |(refine yq rfl 41 (.tmp 2) (.tmp 13) rfl q 0 l.toArray rfl rfl HT.out zi yo.out ?_;change wpList _ _ _ _ _ (w2.setCells q 0 l);generalize fo:w2.setCells q 0 l=w7))
  have bn:Kp [q] w2 w7:=by rw[<- fo];exact aQ (.inl (.head _)) l 0 (Kp.refl _ _)
  have dw:Hid (Lies w7 q 41 l.toArray):=zh (by rw[<- fo];exact bq.out.li.putAll aj.out);refine yt (aO rfl rfl dw.out aj.out) rfl ?_;exact⟨l.toArray,k1,op1,nd1,rfl,aj.out,yo.out,HX.out.1,HX.out.2.1,HX.out.2.2,ct.out.own hE bq.out (by decide) (by decide) bn,cq.out.own bq.out bn⟩
set_option maxRecDepth 100000 in
theorem uCO(E:Env)(hE:E.ok)(he:E.ends)(hL:E.L.length<=1000000)(next:List Tok->Nat->Out)(op:Nat)(hp:eE E 94 next op):eE E 76 (bL next qK) op:=by
 intro k nd pl er w hI hk hn;have cj:=zh (hI.next (zp (.cells aA.toArray 41)));have CP:=zh (lJ E hE he hL 94 (enters_of Tryz.func94 (by kernel_rfl) rfl) next op hp 3 (by decide) k nd pl er _ cj.out hk hn);have ik:eU[3]=qK:=rfl;rw[ik]at CP;have cf:Hid (Kp E.X w (w.alloc (.cells aA.toArray 41))):=zh ((Kp.refl _ _).alloc _);have cd:=zh (Own1.new hI (Kp.refl E.X w) 41 aA.toArray);have cr:Hid (w.heap.size<(w.alloc (.cells aA.toArray 41)).heap.size):=zh (by simp);clear hI hp ik;simp only[aA]at cj cf cd CP cr;generalize hO:bL next qK (E.L.drop k) nd=O at *;clear hO
 go_enter Tryz.func76,Tryz.ntmps76
 go_upto_region 1 with fail
 generalize w.alloc (.cells zM 41)=W1 at cj cf cd CP cr ⊢;generalize fa:w.heap.size=q at cd ⊢;have qw:=zh fa;clear fa;have r6:=cj.out.rd.cell 6;simp only[za,zb,zf]at r6;have mo:(Instr.lookup 63 (.map (some E.sg)) (.int .i64 3) false).run Tryz.prog W1=.ok (.map (some (E.sg+1+3))) W1:=jF E.sg 3 (E.sg+1+3) W1 cj.out.sg.out rfl
 go_wp2_with fail
 refine CP.out.mono ?_;cases O with
 |ok t ts c=>
  rintro e w2 ⟨k1,cs,rfl,h1,h2,h3,h4,h5,h6,h7,h8⟩;obtain⟨l,rfl⟩:∃ l:List Value,cs=l.toArray:=⟨cs.toList,by simp⟩
  have aj:Hid (l.length=22):=zh (by have:=h8.1;rwa [yd]at this);have yo:=zh h8.2.1;have ct:=zh h6;have im:=h7;have HX:=zh (⟨h1,h2,h3,h4,h5,h8⟩:k<=k1/\k1<E.L.length/\ts=E.L.drop k1/\c+k<=nd+k1/\nd<=c/\NV w2 (List.range W1.heap.size) c t l.toArray);clear h1 h2 h3 h4 h5 h6 h7 h8;have bq:=zh (cd.out.kp im);have cq:=zh (cf.out.trans im);have HT:Hid (w2.there q 0 l.toArray.size):=zh (by have h:=bq.out.li.thereA;rw[show l.toArray.size=22 from aj.out];exact h);have zi:(Tryz.prog.info? 41).map (·.size)=some l.toArray.size:=by rw[show l.toArray.size=22 from aj.out];exact aE
  clear cj cd cf CP im mo r6
  go_wp2_with (first |(refine yq rfl 41 (.tmp 2) (.tmp 13) rfl q 0 l.toArray rfl rfl HT.out zi yo.out ?_;change wpList _ _ _ _ _ (w2.setCells q 0 l);generalize fo:w2.setCells q 0 l=w7))
  have bn:Kp [q] w2 w7:=by rw[<- fo];exact aQ (.inl (.head _)) l 0 (Kp.refl _ _)
  have dw:Hid (Lies w7 q 41 l.toArray):=zh (by rw[<- fo];exact bq.out.li.putAll aj.out);refine yt (aO rfl rfl dw.out aj.out) rfl ?_;exact⟨k1,l.toArray,rfl,HX.out.1,HX.out.2.1,HX.out.2.2.1,HX.out.2.2.2.1,HX.out.2.2.2.2.1,ct.out.own hE bq.out (by decide) (by decide) bn,cq.out.own bq.out bn,(HX.out.2.2.2.2.2.kpX bn (fun y hy=>by rw[yf.1 hy];exact yg.2 (by have:=cr.out;have:=qw.out;omega))).anti (fun y hy _=>yg.2 (Nat.lt_trans (yg.1 hy) cr.out))⟩
 |bad e0 p0=>
  rintro e w2 ⟨cs,k1,op1,nd1,rfl,h1,h2,h3,h4,h5,h6,h7⟩;obtain⟨l,rfl⟩:∃ l:List Value,cs=l.toArray:=⟨cs.toList,by simp⟩
  have aj:Hid (l.length=22):=zh (by rwa [yd]at h1);have yo:=zh h2;have ct:=zh h6;have im:=h7;have HX:=zh (⟨h3,h4,h5⟩:k<=k1/\k1<E.L.length/\nd1+k<=nd+k1);clear h1 h2 h3 h4 h5 h6 h7;have bq:=zh (cd.out.kp im);have cq:=zh (cf.out.trans im);have HT:Hid (w2.there q 0 l.toArray.size):=zh (by have h:=bq.out.li.thereA;rw[show l.toArray.size=22 from aj.out];exact h);have zi:(Tryz.prog.info? 41).map (·.size)=some l.toArray.size:=by rw[show l.toArray.size=22 from aj.out];exact aE
  clear cj cd cf CP im mo r6
  go_wp2_with (first |(refine yq rfl 41 (.tmp 2) (.tmp 13) rfl q 0 l.toArray rfl rfl HT.out zi yo.out ?_;change wpList _ _ _ _ _ (w2.setCells q 0 l);generalize fo:w2.setCells q 0 l=w7))
  have bn:Kp [q] w2 w7:=by rw[<- fo];exact aQ (.inl (.head _)) l 0 (Kp.refl _ _)
  have dw:Hid (Lies w7 q 41 l.toArray):=zh (by rw[<- fo];exact bq.out.li.putAll aj.out);refine yt (aO rfl rfl dw.out aj.out) rfl ?_;exact⟨l.toArray,k1,op1,nd1,rfl,aj.out,yo.out,HX.out.1,HX.out.2.1,HX.out.2.2,ct.out.own hE bq.out (by decide) (by decide) bn,cq.out.own bq.out bn⟩
set_option maxRecDepth 100000 in
theorem sum_any(E:Env)(hE:E.ok)(he:E.ends)(hL:E.L.length<=1000000)(next:List Tok->Nat->Out)(op:Nat)(hp:eE E 76 next op):eE E 49 (bL next gR) op:=by
 intro k nd pl er w hI hk hn;have cj:=zh (hI.next (zp (.cells aA.toArray 41)));have CP:=zh (lJ E hE he hL 76 (enters_of Tryz.func76 (by kernel_rfl) rfl) next op hp 2 (by decide) k nd pl er _ cj.out hk hn);have ik:eU[2]=gR:=rfl;rw[ik]at CP;have cf:Hid (Kp E.X w (w.alloc (.cells aA.toArray 41))):=zh ((Kp.refl _ _).alloc _);have cd:=zh (Own1.new hI (Kp.refl E.X w) 41 aA.toArray);have cr:Hid (w.heap.size<(w.alloc (.cells aA.toArray 41)).heap.size):=zh (by simp);clear hI hp ik;simp only[aA]at cj cf cd CP cr;generalize hO:bL next gR (E.L.drop k) nd=O at *;clear hO
 go_enter Tryz.func49,Tryz.ntmps49
 go_upto_region 1 with fail
 generalize w.alloc (.cells zM 41)=W1 at cj cf cd CP cr ⊢;generalize fa:w.heap.size=q at cd ⊢;have qw:=zh fa;clear fa;have r6:=cj.out.rd.cell 6;simp only[za,zb,zf]at r6;have mo:(Instr.lookup 63 (.map (some E.sg)) (.int .i64 2) false).run Tryz.prog W1=.ok (.map (some (E.sg+1+2))) W1:=jF E.sg 2 (E.sg+1+2) W1 cj.out.sg.out rfl
 go_wp2_with fail
 refine CP.out.mono ?_;cases O with
 |ok t ts c=>
  rintro e w2 ⟨k1,cs,rfl,h1,h2,h3,h4,h5,h6,h7,h8⟩;obtain⟨l,rfl⟩:∃ l:List Value,cs=l.toArray:=⟨cs.toList,by simp⟩
  have aj:Hid (l.length=22):=zh (by have:=h8.1;rwa [yd]at this);have yo:=zh h8.2.1;have ct:=zh h6;have im:=h7;have HX:=zh (⟨h1,h2,h3,h4,h5,h8⟩:k<=k1/\k1<E.L.length/\ts=E.L.drop k1/\c+k<=nd+k1/\nd<=c/\NV w2 (List.range W1.heap.size) c t l.toArray);clear h1 h2 h3 h4 h5 h6 h7 h8;have bq:=zh (cd.out.kp im);have cq:=zh (cf.out.trans im);have HT:Hid (w2.there q 0 l.toArray.size):=zh (by have h:=bq.out.li.thereA;rw[show l.toArray.size=22 from aj.out];exact h);have zi:(Tryz.prog.info? 41).map (·.size)=some l.toArray.size:=by rw[show l.toArray.size=22 from aj.out];exact aE
  clear cj cd cf CP im mo r6
  go_wp2_with (first |(refine yq rfl 41 (.tmp 2) (.tmp 13) rfl q 0 l.toArray rfl rfl HT.out zi yo.out ?_;change wpList _ _ _ _ _ (w2.setCells q 0 l);generalize fo:w2.setCells q 0 l=w7))
  have bn:Kp [q] w2 w7:=by rw[<- fo];exact aQ (.inl (.head _)) l 0 (Kp.refl _ _)
  have dw:Hid (Lies w7 q 41 l.toArray):=zh (by rw[<- fo];exact bq.out.li.putAll aj.out);refine yt (aO rfl rfl dw.out aj.out) rfl ?_;exact⟨k1,l.toArray,rfl,HX.out.1,HX.out.2.1,HX.out.2.2.1,HX.out.2.2.2.1,HX.out.2.2.2.2.1,ct.out.own hE bq.out (by decide) (by decide) bn,cq.out.own bq.out bn,(HX.out.2.2.2.2.2.kpX bn (fun y hy=>by rw[yf.1 hy];exact yg.2 (by have:=cr.out;have:=qw.out;omega))).anti (fun y hy _=>yg.2 (Nat.lt_trans (yg.1 hy) cr.out))⟩
 |bad e0 p0=>
  rintro e w2 ⟨cs,k1,op1,nd1,rfl,h1,h2,h3,h4,h5,h6,h7⟩;obtain⟨l,rfl⟩:∃ l:List Value,cs=l.toArray:=⟨cs.toList,by simp⟩
  have aj:Hid (l.length=22):=zh (by rwa [yd]at h1);have yo:=zh h2;have ct:=zh h6;have im:=h7;have HX:=zh (⟨h3,h4,h5⟩:k<=k1/\k1<E.L.length/\nd1+k<=nd+k1);clear h1 h2 h3 h4 h5 h6 h7;have bq:=zh (cd.out.kp im);have cq:=zh (cf.out.trans im);have HT:Hid (w2.there q 0 l.toArray.size):=zh (by have h:=bq.out.li.thereA;rw[show l.toArray.size=22 from aj.out];exact h);have zi:(Tryz.prog.info? 41).map (·.size)=some l.toArray.size:=by rw[show l.toArray.size=22 from aj.out];exact aE
  clear cj cd cf CP im mo r6
  go_wp2_with (first |(refine yq rfl 41 (.tmp 2) (.tmp 13) rfl q 0 l.toArray rfl rfl HT.out zi yo.out ?_;change wpList _ _ _ _ _ (w2.setCells q 0 l);generalize fo:w2.setCells q 0 l=w7))
  have bn:Kp [q] w2 w7:=by rw[<- fo];exact aQ (.inl (.head _)) l 0 (Kp.refl _ _)
  have dw:Hid (Lies w7 q 41 l.toArray):=zh (by rw[<- fo];exact bq.out.li.putAll aj.out);refine yt (aO rfl rfl dw.out aj.out) rfl ?_;exact⟨l.toArray,k1,op1,nd1,rfl,aj.out,yo.out,HX.out.1,HX.out.2.1,HX.out.2.2,ct.out.own hE bq.out (by decide) (by decide) bn,cq.out.own bq.out bn⟩
set_option maxRecDepth 100000 in
theorem uEZ(E:Env)(hE:E.ok)(he:E.ends)(hL:E.L.length<=1000000)(next:List Tok->Nat->Out)(op:Nat)(hp:eE E 49 next op):eE E 36 (bL next pE) op:=by
 intro k nd pl er w hI hk hn;have cj:=zh (hI.next (zp (.cells aA.toArray 41)));have CP:=zh (lJ E hE he hL 49 (enters_of Tryz.func49 (by kernel_rfl) rfl) next op hp 1 (by decide) k nd pl er _ cj.out hk hn);have ik:eU[1]=pE:=rfl;rw[ik]at CP;have cf:Hid (Kp E.X w (w.alloc (.cells aA.toArray 41))):=zh ((Kp.refl _ _).alloc _);have cd:=zh (Own1.new hI (Kp.refl E.X w) 41 aA.toArray);have cr:Hid (w.heap.size<(w.alloc (.cells aA.toArray 41)).heap.size):=zh (by simp);clear hI hp ik;simp only[aA]at cj cf cd CP cr;generalize hO:bL next pE (E.L.drop k) nd=O at *;clear hO
 go_enter Tryz.func36,Tryz.ntmps36
 go_upto_region 1 with fail
 generalize w.alloc (.cells zM 41)=W1 at cj cf cd CP cr ⊢;generalize fa:w.heap.size=q at cd ⊢;have qw:=zh fa;clear fa;have r6:=cj.out.rd.cell 6;simp only[za,zb,zf]at r6;have mo:(Instr.lookup 63 (.map (some E.sg)) (.int .i64 1) false).run Tryz.prog W1=.ok (.map (some (E.sg+1+1))) W1:=jF E.sg 1 (E.sg+1+1) W1 cj.out.sg.out rfl
 go_wp2_with fail
 refine CP.out.mono ?_;cases O with
 |ok t ts c=>
  rintro e w2 ⟨k1,cs,rfl,h1,h2,h3,h4,h5,h6,h7,h8⟩;obtain⟨l,rfl⟩:∃ l:List Value,cs=l.toArray:=⟨cs.toList,by simp⟩
  have aj:Hid (l.length=22):=zh (by have:=h8.1;rwa [yd]at this);have yo:=zh h8.2.1;have ct:=zh h6;have im:=h7;have HX:=zh (⟨h1,h2,h3,h4,h5,h8⟩:k<=k1/\k1<E.L.length/\ts=E.L.drop k1/\c+k<=nd+k1/\nd<=c/\NV w2 (List.range W1.heap.size) c t l.toArray);clear h1 h2 h3 h4 h5 h6 h7 h8;have bq:=zh (cd.out.kp im);have cq:=zh (cf.out.trans im);have HT:Hid (w2.there q 0 l.toArray.size):=zh (by have h:=bq.out.li.thereA;rw[show l.toArray.size=22 from aj.out];exact h);have zi:(Tryz.prog.info? 41).map (·.size)=some l.toArray.size:=by rw[show l.toArray.size=22 from aj.out];exact aE
  clear cj cd cf CP im mo r6
  go_wp2_with (first |(refine yq rfl 41 (.tmp 2) (.tmp 13) rfl q 0 l.toArray rfl rfl HT.out zi yo.out ?_;change wpList _ _ _ _ _ (w2.setCells q 0 l);generalize fo:w2.setCells q 0 l=w7))
  have bn:Kp [q] w2 w7:=by rw[<- fo];exact aQ (.inl (.head _)) l 0 (Kp.refl _ _)
  have dw:Hid (Lies w7 q 41 l.toArray):=zh (by rw[<- fo];exact bq.out.li.putAll aj.out);refine yt (aO rfl rfl dw.out aj.out) rfl ?_;exact⟨k1,l.toArray,rfl,HX.out.1,HX.out.2.1,HX.out.2.2.1,HX.out.2.2.2.1,HX.out.2.2.2.2.1,ct.out.own hE bq.out (by decide) (by decide) bn,cq.out.own bq.out bn,(HX.out.2.2.2.2.2.kpX bn (fun y hy=>by rw[yf.1 hy];exact yg.2 (by have:=cr.out;have:=qw.out;omega))).anti (fun y hy _=>yg.2 (Nat.lt_trans (yg.1 hy) cr.out))⟩
 |bad e0 p0=>
  rintro e w2 ⟨cs,k1,op1,nd1,rfl,h1,h2,h3,h4,h5,h6,h7⟩;obtain⟨l,rfl⟩:∃ l:List Value,cs=l.toArray:=⟨cs.toList,by simp⟩
  have aj:Hid (l.length=22):=zh (by rwa [yd]at h1);have yo:=zh h2;have ct:=zh h6;have im:=h7;have HX:=zh (⟨h3,h4,h5⟩:k<=k1/\k1<E.L.length/\nd1+k<=nd+k1);clear h1 h2 h3 h4 h5 h6 h7;have bq:=zh (cd.out.kp im);have cq:=zh (cf.out.trans im);have HT:Hid (w2.there q 0 l.toArray.size):=zh (by have h:=bq.out.li.thereA;rw[show l.toArray.size=22 from aj.out];exact h);have zi:(Tryz.prog.info? 41).map (·.size)=some l.toArray.size:=by rw[show l.toArray.size=22 from aj.out];exact aE
  clear cj cd cf CP im mo r6
  go_wp2_with (first |(refine yq rfl 41 (.tmp 2) (.tmp 13) rfl q 0 l.toArray rfl rfl HT.out zi yo.out ?_;change wpList _ _ _ _ _ (w2.setCells q 0 l);generalize fo:w2.setCells q 0 l=w7))
  have bn:Kp [q] w2 w7:=by rw[<- fo];exact aQ (.inl (.head _)) l 0 (Kp.refl _ _)
  have dw:Hid (Lies w7 q 41 l.toArray):=zh (by rw[<- fo];exact bq.out.li.putAll aj.out);refine yt (aO rfl rfl dw.out aj.out) rfl ?_;exact⟨l.toArray,k1,op1,nd1,rfl,aj.out,yo.out,HX.out.1,HX.out.2.1,HX.out.2.2,ct.out.own hE bq.out (by decide) (by decide) bn,cq.out.own bq.out bn⟩
set_option maxRecDepth 100000 in
theorem uKY(E:Env)(hE:E.ok)(he:E.ends)(hL:E.L.length<=1000000)(next:List Tok->Nat->Out)(op:Nat)(hp:eE E 36 next op):eE E 24 (bL next rL) op:=by
 intro k nd pl er w hI hk hn;have cj:=zh (hI.next (zp (.cells aA.toArray 41)));have CP:=zh (lJ E hE he hL 36 (enters_of Tryz.func36 (by kernel_rfl) rfl) next op hp 0 (by decide) k nd pl er _ cj.out hk hn);have ik:eU[0]=rL:=rfl;rw[ik]at CP;have cf:Hid (Kp E.X w (w.alloc (.cells aA.toArray 41))):=zh ((Kp.refl _ _).alloc _);have cd:=zh (Own1.new hI (Kp.refl E.X w) 41 aA.toArray);have cr:Hid (w.heap.size<(w.alloc (.cells aA.toArray 41)).heap.size):=zh (by simp);clear hI hp ik;simp only[aA]at cj cf cd CP cr;generalize hO:bL next rL (E.L.drop k) nd=O at *;clear hO
 go_enter Tryz.func24,Tryz.ntmps24
 go_upto_region 1 with fail
 generalize w.alloc (.cells zM 41)=W1 at cj cf cd CP cr ⊢;generalize fa:w.heap.size=q at cd ⊢;have qw:=zh fa;clear fa;have r6:=cj.out.rd.cell 6;simp only[za,zb,zf]at r6;have mo:(Instr.lookup 63 (.map (some E.sg)) (.int .i64 0) false).run Tryz.prog W1=.ok (.map (some (E.sg+1+0))) W1:=jF E.sg 0 (E.sg+1+0) W1 cj.out.sg.out rfl
 go_wp2_with fail
 refine CP.out.mono ?_;cases O with
 |ok t ts c=>
  rintro e w2 ⟨k1,cs,rfl,h1,h2,h3,h4,h5,h6,h7,h8⟩;obtain⟨l,rfl⟩:∃ l:List Value,cs=l.toArray:=⟨cs.toList,by simp⟩
  have aj:Hid (l.length=22):=zh (by have:=h8.1;rwa [yd]at this);have yo:=zh h8.2.1;have ct:=zh h6;have im:=h7;have HX:=zh (⟨h1,h2,h3,h4,h5,h8⟩:k<=k1/\k1<E.L.length/\ts=E.L.drop k1/\c+k<=nd+k1/\nd<=c/\NV w2 (List.range W1.heap.size) c t l.toArray);clear h1 h2 h3 h4 h5 h6 h7 h8;have bq:=zh (cd.out.kp im);have cq:=zh (cf.out.trans im);have HT:Hid (w2.there q 0 l.toArray.size):=zh (by have h:=bq.out.li.thereA;rw[show l.toArray.size=22 from aj.out];exact h);have zi:(Tryz.prog.info? 41).map (·.size)=some l.toArray.size:=by rw[show l.toArray.size=22 from aj.out];exact aE
  clear cj cd cf CP im mo r6
  go_wp2_with (first |(refine yq rfl 41 (.tmp 2) (.tmp 13) rfl q 0 l.toArray rfl rfl HT.out zi yo.out ?_;change wpList _ _ _ _ _ (w2.setCells q 0 l);generalize fo:w2.setCells q 0 l=w7))
  have bn:Kp [q] w2 w7:=by rw[<- fo];exact aQ (.inl (.head _)) l 0 (Kp.refl _ _)
  have dw:Hid (Lies w7 q 41 l.toArray):=zh (by rw[<- fo];exact bq.out.li.putAll aj.out);refine yt (aO rfl rfl dw.out aj.out) rfl ?_;exact⟨k1,l.toArray,rfl,HX.out.1,HX.out.2.1,HX.out.2.2.1,HX.out.2.2.2.1,HX.out.2.2.2.2.1,ct.out.own hE bq.out (by decide) (by decide) bn,cq.out.own bq.out bn,(HX.out.2.2.2.2.2.kpX bn (fun y hy=>by rw[yf.1 hy];exact yg.2 (by have:=cr.out;have:=qw.out;omega))).anti (fun y hy _=>yg.2 (Nat.lt_trans (yg.1 hy) cr.out))⟩
 |bad e0 p0=>
  rintro e w2 ⟨cs,k1,op1,nd1,rfl,h1,h2,h3,h4,h5,h6,h7⟩;obtain⟨l,rfl⟩:∃ l:List Value,cs=l.toArray:=⟨cs.toList,by simp⟩
  have aj:Hid (l.length=22):=zh (by rwa [yd]at h1);have yo:=zh h2;have ct:=zh h6;have im:=h7;have HX:=zh (⟨h3,h4,h5⟩:k<=k1/\k1<E.L.length/\nd1+k<=nd+k1);clear h1 h2 h3 h4 h5 h6 h7;have bq:=zh (cd.out.kp im);have cq:=zh (cf.out.trans im);have HT:Hid (w2.there q 0 l.toArray.size):=zh (by have h:=bq.out.li.thereA;rw[show l.toArray.size=22 from aj.out];exact h);have zi:(Tryz.prog.info? 41).map (·.size)=some l.toArray.size:=by rw[show l.toArray.size=22 from aj.out];exact aE
  clear cj cd cf CP im mo r6
  go_wp2_with (first |(refine yq rfl 41 (.tmp 2) (.tmp 13) rfl q 0 l.toArray rfl rfl HT.out zi yo.out ?_;change wpList _ _ _ _ _ (w2.setCells q 0 l);generalize fo:w2.setCells q 0 l=w7))
  have bn:Kp [q] w2 w7:=by rw[<- fo];exact aQ (.inl (.head _)) l 0 (Kp.refl _ _)
  have dw:Hid (Lies w7 q 41 l.toArray):=zh (by rw[<- fo];exact bq.out.li.putAll aj.out);refine yt (aO rfl rfl dw.out aj.out) rfl ?_;exact⟨l.toArray,k1,op1,nd1,rfl,aj.out,yo.out,HX.out.1,HX.out.2.1,HX.out.2.2,ct.out.own hE bq.out (by decide) (by decide) bn,cq.out.own bq.out bn⟩
def Apart(L:List (Nat×TypeId×Array Value)):Prop:=∀ (i j:Nat) (a b:Nat×TypeId×Array Value),L[i]?=some a->L[j]?=some b->i≠j->a.1≠b.1
theorem Apart.set{L:List (Nat×TypeId×Array Value)}(h:Apart L){i:Nat}{b:Nat}{t:TypeId}{cs ry:Array Value}(hi:L[i]?=some (b,t,cs)):Apart (L.set i (b,t,ry)):=by
 have key:∀ (j:Nat) (x:Nat×TypeId×Array Value),(L.set i (b,t,ry))[j]?=some x->∃ y:Nat×TypeId×Array Value,L[j]?=some y/\y.1=x.1:=by
  intro j x hj;by_cases hij:i=j
  ·subst hij;obtain⟨qr,_⟩:=List.getElem?_eq_some_iff.1 hi;rw[List.getElem?_set_self qr]at hj;injection hj with hj;exact⟨_,hi,by rw[<- hj]⟩
  rw[List.getElem?_set_ne hij]at hj;exact⟨x,hj,rfl⟩
 intro p q a c hp hq bp;obtain⟨a',h1,h2⟩:=key p a hp;obtain⟨c',h3,h4⟩:=key q c hq;rw[<- h2,<- h4];exact h p q a' c' h1 h3 bp
theorem Apart.cons{L:List (Nat×TypeId×Array Value)}(h:Apart L){x:Nat×TypeId×Array Value}(hx:∀ y∈L,x.1≠y.1):Apart (x::L):=by
 intro p q a c hp hq bp;cases p with
 |zero=>
  cases q with
  |zero=>exact absurd rfl bp
  |succ q=>
   simp at hp hq;subst hp;exact hx c (List.mem_of_getElem? hq)
 |succ p=>
  cases q with
  |zero=>
   simp at hp hq;subst hq;exact(hx a (List.mem_of_getElem? hp)).symm
  |succ q=>
   simp at hp hq;exact h p q a c hp hq (by omega)
structure Fs(E:Env)(w:World)(k op nd pl er:Nat)(L:List (Nat×TypeId×Array Value))(W:World):Prop where
 base:∃ k0 op0 nd0 pl0 er0,InE E k0 op0 nd0 pl0 er0 w
 ine:InE E k op nd pl er W
 kp:Kp E.X w W
 own:∀ b∈L,Own1 E w W b.1 b.2.1 b.2.2
 ne:Apart L
 ty:∀ b∈L,b.2.1≠34/\b.2.1≠4
section
variable {E:Env} {w W W':World} {k op nd pl er:Nat} {L:List (Nat×TypeId×Array Value)}
theorem Fs.start(hI:InE E k op nd pl er w):Fs E w k op nd pl er [] w:=⟨⟨_,_,_,_,_,hI⟩,hI,Kp.refl _ _,fun _ h=>(by cases h),fun i _ _ _ h=>(by simp at h),fun _ h=>(by cases h)⟩
theorem Fs.next(h:Fs E w k op nd pl er L W)(hb:Below W.heap.size W W'):Fs E w k op nd pl er L W' :=
 ⟨h.base,h.ine.next hb,h.kp.trans (Kp.of_below hb),fun b hm=>(h.own b hm).next hb,h.ne,h.ty⟩
theorem Fs.step{k' op' nd' pl' er':Nat}(h:Fs E w k op nd pl er L W)(hi:InE E k' op' nd' pl' er' W')(hk:Kp E.X W W'):Fs E w k' op' nd' pl' er' L W' :=
 ⟨h.base,hi,h.kp.trans hk,fun b hm=>(h.own b hm).kp hk,h.ne,h.ty⟩
theorem Fs.li(h:Fs E w k op nd pl er L W)(i:Nat){b:Nat}{t:TypeId}{cs:Array Value}(hi:L[i]?=some (b,t,cs)):Lies W b t cs:=(h.own _ (List.mem_of_getElem? hi)).li
theorem Fs.lt(h:Fs E w k op nd pl er L W)(i:Nat){b:Nat}{t:TypeId}{cs:Array Value}(hi:L[i]?=some (b,t,cs)):b<W.heap.size:=(h.li i hi).lt
theorem Fs.ge(h:Fs E w k op nd pl er L W)(i:Nat){b:Nat}{t:TypeId}{cs:Array Value}(hi:L[i]?=some (b,t,cs)):w.heap.size<=b:=(h.own _ (List.mem_of_getElem? hi)).ge
theorem Fs.ner(h:Fs E w k op nd pl er L W)(i:Nat){b:Nat}{t:TypeId}{cs:Array Value}(hi:L[i]?=some (b,t,cs)):b≠E.r:=fun e=>(h.own _ (List.mem_of_getElem? hi)).fr.nx (by rw[show (b,t,cs).1=E.r from e];exact .head _)
theorem Fs.alloc(h:Fs E w k op nd pl er L W)(t:TypeId)(cs:Array Value)(ht:t≠34/\t≠4):Fs E w k op nd pl er ((W.heap.size,t,cs)::L) (W.alloc (.cells cs t)):=by
 have hb:Below W.heap.size W (W.alloc (.cells cs t)):=(zp _);have h1:=h.next hb;obtain⟨k0,op0,nd0,pl0,er0,cn⟩:=h.base;refine⟨h.base,h1.ine,h1.kp,fun b hm=>?_,h.ne.cons (fun b hm=>?_),fun b hm=>?_⟩
 ·rcases ym.1 hm with rfl|hm
  ·exact Own1.new cn h.kp t cs
  exact h1.own b hm
 ·have:=(h.own b hm).li.lt;show W.heap.size≠b.1;omega
 rcases ym.1 hm with rfl|hm
 ·exact ht
 exact h.ty b hm
theorem Fs.wrote(h:Fs E w k op nd pl er L W)(hE:E.ok)(i:Nat){b:Nat}{t:TypeId}{cs ry:Array Value}(hi:L[i]?=some (b,t,cs))(hk:Kp [b] W W')(hl:Lies W' b t ry):Fs E w k op nd pl er (L.set i (b,t,ry)) W':=by
 have hm:=List.mem_of_getElem? hi;have ho:=h.own _ hm;have ht:=h.ty _ hm;have key:∀ c∈L.set i (b,t,ry),c=(b,t,ry)\/(c∈L/\b≠c.1):=fun c hc=>by
  obtain⟨j,hj⟩:=List.getElem?_of_mem hc;by_cases hij:i=j
  ·subst hij;obtain⟨qr,_⟩:=List.getElem?_eq_some_iff.1 hi;rw[List.getElem?_set_self qr]at hj;injection hj with hj;exact .inl hj.symm
  rw[List.getElem?_set_ne hij]at hj;exact .inr ⟨List.mem_of_getElem? hj,h.ne i j _ _ hi hj hij⟩
 refine⟨h.base,h.ine.own hE ho ht.1 ht.2 hk,h.kp.own ho hk,fun c hc=>?_,h.ne.set hi,fun c hc=>?_⟩
 ·rcases key c hc with rfl|⟨hc,bp⟩
  ·exact⟨ho.fr,ho.ge,hl⟩
  have rz:=h.own _ hc;exact⟨rz.fr,rz.ge,hk.lies rz.li (fun hm=>bp (yf.1 hm).symm)⟩
 rcases key c hc with rfl|⟨hc,_⟩
 ·exact ht
 exact h.ty c hc
theorem Fs.put(h:Fs E w k op nd pl er L W)(hE:E.ok)(i:Nat){b:Nat}{t:TypeId}{cs:Array Value}(hi:L[i]?=some (b,t,cs))(j:Nat)(v:Value):Fs E w k op nd pl er (L.set i (b,t,cs.setIfInBounds j v)) (W.setCell ⟨b,j,none⟩ v) :=
 h.wrote hE i hi ((Kp.refl _ _).set (.inl (.head _)) j v) ((h.li i hi).put j v)
theorem Fs.fill(h:Fs E w k op nd pl er L W)(hE:E.ok)(i:Nat){b:Nat}{t:TypeId}{cs:Array Value}(hi:L[i]?=some (b,t,cs))(vs:List Value)(hl:vs.length=cs.size):Fs E w k op nd pl er (L.set i (b,t,vs.toArray)) (W.setCells b 0 vs) :=
 h.wrote hE i hi (aQ (.inl (.head _)) vs 0 (Kp.refl _ _)) ((h.li i hi).putAll hl)
theorem Fs.rd(h:Fs E w k op nd pl er L W)(hE:E.ok)(j:Nat)(v:Value){k' op' nd' pl' er':Nat}(he:(rdC E k op nd pl er).setIfInBounds j v=rdC E k' op' nd' pl' er'):Fs E w k' op' nd' pl' er' L (W.setCell ⟨E.r,j,none⟩ v):=by
 have hk:Kp [E.r] W (W.setCell ⟨E.r,j,none⟩ v):=(Kp.refl _ _).set (.inl (.head _)) j v;exact h.step (h.ine.wrote hE hk (by rw[<- he];exact h.ine.rd.put j v)) hk.X
theorem Fs.there(h:Fs E w k op nd pl er L W)(i:Nat){b:Nat}{t:TypeId}{cs:Array Value}(hi:L[i]?=some (b,t,cs))(n:Nat)(hn:n=cs.size):W.there b 0 n:=by rw[hn];exact(h.li i hi).thereA
theorem Fs.range(h:Fs E w k op nd pl er L W)(i:Nat){b:Nat}{t:TypeId}{l:List Value}(hi:L[i]?=some (b,t,l.toArray)):W.rangeAt b 0 l:=by simpa using (h.li i hi).range
end
abbrev cM(kd:Int)(a b:Cor):List Value:=[.int .i64 kd,.int .i64 0,.int .i64 0,.int .i64 0,.string ⟨#[]⟩,.bool false,.int .i64 0,.string ⟨#[]⟩,.int .i64 a.row.a,.int .i64 a.row.n,.int .i64 a.col.a,.int .i64 a.col.n,.bool a.fr,.bool a.fc,.int .i64 b.row.a,.int .i64 b.row.n,.int .i64 b.col.a,.int .i64 b.col.n,.bool b.fr,.bool b.fc,.int .i64 0,.slice none 0 0]
theorem eA(kd:Int)(a b:Cor):(cM kd a b).toArray.all (·.oneCell')=true:=by simp[cM,Value.oneCell']
theorem jS{E:Env}{w W:World}{k k' op nd c pl er:Nat}{L:List (Nat×TypeId×Array Value)}{C:List Value}{h:NodeH}(hF:Fs E w k' op c pl er L W)(fb:C.length=22)(h1:C.toArray.all (·.oneCell')=true)(hc:c<=256->C.toArray=bC h none 0 0)(hk:k<=k')(fg:k'<E.L.length)(hn:c+k<=nd+k')(ep:nd<=c){ts:List Tok}(hts:ts=E.L.drop k') :
  NPost E w k op nd pl er (.ok (.mk h []) ts c) (.returned (.tuple #[.agg C.toArray,.bool true])) W :=
 ⟨k',C.toArray,rfl,hk,fg,hts,hn,ep,hF.ine,hF.kp,by rw[yd,fb],h1,fun hn=>⟨none,0,hc hn,.inl rfl⟩⟩
theorem cR{E:Env}{w W:World}{k k' op op' nd nd' pl pl' er er':Nat}{L:List (Nat×TypeId×Array Value)}{C:List Value}(hF:Fs E w k' op' nd' pl' er' L W)(fb:C.length=22)(h1:C.toArray.all (·.oneCell')=true)(hk:k<=k')(fg:k'<E.L.length)(hn:nd'+k<=nd+k') :
  NPost E w k op nd pl er (.bad er' pl') (.returned (.tuple #[.agg C.toArray,.bool false])) W :=
 ⟨C.toArray,k',op',nd',rfl,by rw[yd,fb],h1,hk,fg,hn,hF.ine,hF.kp⟩
def Env.short(E:Env):Prop:=∀ k,(E.at k).text.length<=50000
set_option maxRecDepth 100000 in
theorem uIR(E:Env)(hE:E.ok)(he:E.ends)(hL:E.L.length<=1000000)(hT:E.short)(op:Nat):eE E 120 (iV E.ax) op:=by
 intro k nd pl er w hI hk hn;have CC:=zh (fun k pl er W h hk=>cell_any E hE k op nd pl er W h hk hL (yv (hT k) (by decide)));have CT:=zh (fun k pl er W h hk=>cE E k op nd pl er W h hk);have CS:=zh dF;have CN:=zh (fun k pl er cs fb h1 W h=>iJ E hE k op nd pl er cs fb h1 W h (by omega));have bo:=zh ((Fs.start hI).alloc 41 aA.toArray (by decide));generalize hO:iV E.ax (E.L.drop k) nd=O;have HO:Hid ((match dZ E.ax (E.L.drop k) with
  | .error e=>fU e (E.L.drop k)
  | .ok a=>
   if isS (E.at (k+1)) [35] then .ok (jN 3 a aG) (E.L.drop (k+2)) (nd+1)
   else if isS (E.at (k+1)) [58] then match dZ E.ax (E.L.drop (k+2)) with
    | .error e=>fU e (E.L.drop (k+2))
    | .ok b=>.ok (jN 2 a b) (E.L.drop (k+3)) (nd+1)
   else .ok (jN 1 a aG) (E.L.drop (k+1)) (nd+1))=O):=zh (by
  rw[<- hO];unfold iV;rw[List.tail_drop,List.tail_drop,List.tail_drop];rfl)
 have HF:Hid (k<E.L.length/\nd<=k):=zh ⟨hk,hn⟩;have kf:∀ k a,dZ E.ax (E.L.drop k)=.ok a->(E.at k).kind≠0:=fun k a h h0=>by
  unfold dZ at h;rw[if_pos (show (hd (E.L.drop k)).kind≠4 by rw[show (hd (E.L.drop k)).kind=0 from h0];decide)]at h;cases h
 have HFI:=zh kf;clear hI hO hn kf;simp only[aA]at bo
 go_enter Tryz.func120,Tryz.ntmps120
 go_upto_region 1 with fail
 generalize World.alloc _ _=W1 at bo ⊢;generalize hq:w.heap.size=q at bo ⊢;have dy:=zh (bo.out.alloc 41 aA.toArray (by decide));have HT:=zh (dy.out.there 0 rfl 22 rfl);have bt:=zh (dy.out.fill hE 0 rfl (cM 1 aG aG) rfl);have f9:=eA 1 aG aG;clear bo dy hq;simp only[List.set_cons_zero]at bt;generalize kx:W1.heap.size=q4 at bt HT ⊢
 go_upto_region 3 with(first |(refine yq rfl 41 (.tmp 4) (.tmp 6) rfl q4 0 (cM 1 aG aG).toArray rfl rfl HT.out aE f9 ?_;change wpList _ _ _ _ _ (World.setCells _ q4 0 (cM 1 aG aG));generalize World.setCells _ _ _ _=W2 at bt ⊢))
 clear HT f9 kx
 go_wp2_with fail
 have CC1:=zh (CC.out k pl er _ bt.out.ine hk);refine CC1.out.mono ?_;clear CC1;cases hR:dZ E.ax (E.L.drop k) with
 |error e1=>
  have db:Hid (O=.bad e1 (E.at k).place):=zh (by rw[<- HO.out,hR];rfl);rintro e w4 ⟨rfl,h1,h2⟩;have ak:=zh (bt.out.step h1 h2);clear h1 h2 bt hR;have x8:=(ak.out.li 0 rfl).cell 8;have xf8:=(ak.out.li 0 rfl).frozen 8;have x9:=(ak.out.li 0 rfl).cell 9;have xf9:=(ak.out.li 0 rfl).frozen 9;have x10:=(ak.out.li 0 rfl).cell 10;have xf10:=(ak.out.li 0 rfl).frozen 10;have x11:=(ak.out.li 0 rfl).cell 11;have xf11:=(ak.out.li 0 rfl).frozen 11;have x12:=(ak.out.li 0 rfl).cell 12;have xf12:=(ak.out.li 0 rfl).frozen 12;have x13:=(ak.out.li 0 rfl).cell 13;have xf13:=(ak.out.li 0 rfl).frozen 13;simp only[za,zb,zf]at x8 x9 x10 x11 x12 x13
  have az:Hid (Fs E w (k) op nd (E.at k).place e1 [(q4,41,(cM 1 aG aG).toArray),(q,41,aA.toArray)] ((((((w4.setCell ⟨q4,8,none⟩ (.int .i64 0)).setCell ⟨q4,9,none⟩ (.int .i64 0)).setCell ⟨q4,10,none⟩ (.int .i64 0)).setCell ⟨q4,11,none⟩ (.int .i64 0)).setCell ⟨q4,12,none⟩ (.bool false)).setCell ⟨q4,13,none⟩ (.bool false))):=zh ((((((ak.out.put hE 0 rfl 8 _).put hE 0 rfl 9 _).put hE 0 rfl 10 _).put hE 0 rfl 11 _).put hE 0 rfl 12 _).put hE 0 rfl 13 _);clear ak;dsimp only[jC]
  go_upto_region 5 with fail
  generalize World.setCell _ _ _=wb at az ⊢;have HT:=zh (az.out.there 1 rfl 22 rfl);have ag:=zh (az.out.fill hE 1 rfl aA rfl)
  go_wp2_with (first |(refine yq rfl 41 (.tmp 2) (.tmp 16) rfl q 0 aA.toArray rfl rfl HT.out aE bB ?_;change wpList _ _ _ _ _ (World.setCells _ q 0 aA);generalize World.setCells _ _ _ _=wz at ag ⊢))
  have HA:=zh (ag.out.li 1 rfl);refine yt (aO rfl rfl HA.out rfl) rfl ?_;rw[db.out];exact cR ag.out rfl bB (by omega) (by omega) (by have:=HF.out.2;omega)
 |ok a=>
  have db:Hid ((if isS (E.at (k+1)) [35] then .ok (jN 3 a aG) (E.L.drop (k+2)) (nd+1)
   else if isS (E.at (k+1)) [58] then match dZ E.ax (E.L.drop (k+2)) with
    | .error e=>fU e (E.L.drop (k+2))
    | .ok b=>.ok (jN 2 a b) (E.L.drop (k+3)) (nd+1)
   else .ok (jN 1 a aG) (E.L.drop (k+1)) (nd+1))=O):=zh (by rw[<- HO.out,hR])
  have dc:=E.more he hk (HFI.out k a hR);rintro e w4 ⟨rfl,h1,h2⟩;have ak:=zh (bt.out.step h1 h2);clear h1 h2 bt hR HO;obtain⟨⟨xa,xn⟩,⟨ya,yn⟩,mfr,mfc⟩:=a;dsimp only[jC];have az:Hid (Fs E w (k+1) op nd pl er [(q4,41,(cM 1 ⟨⟨xa,xn⟩,⟨ya,yn⟩,mfr,mfc⟩ aG).toArray),(q,41,aA.toArray)] ((((((w4.setCell ⟨q4,8,none⟩ (.int .i64 xa)).setCell ⟨q4,9,none⟩ (.int .i64 xn)).setCell ⟨q4,10,none⟩ (.int .i64 ya)).setCell ⟨q4,11,none⟩ (.int .i64 yn)).setCell ⟨q4,12,none⟩ (.bool mfr)).setCell ⟨q4,13,none⟩ (.bool mfc))):=zh ((((((ak.out.put hE 0 rfl 8 _).put hE 0 rfl 9 _).put hE 0 rfl 10 _).put hE 0 rfl 11 _).put hE 0 rfl 12 _).put hE 0 rfl 13 _);have x8:=(ak.out.li 0 rfl).cell 8;have xf8:=(ak.out.li 0 rfl).frozen 8;have x9:=(ak.out.li 0 rfl).cell 9;have xf9:=(ak.out.li 0 rfl).frozen 9;have x10:=(ak.out.li 0 rfl).cell 10;have xf10:=(ak.out.li 0 rfl).frozen 10
  have x11:=(ak.out.li 0 rfl).cell 11;have xf11:=(ak.out.li 0 rfl).frozen 11;have x12:=(ak.out.li 0 rfl).cell 12;have xf12:=(ak.out.li 0 rfl).frozen 12;have x13:=(ak.out.li 0 rfl).cell 13;have xf13:=(ak.out.li 0 rfl).frozen 13;simp only[za,zb,zf]at x8 x9 x10 x11 x12 x13;clear ak
  go_upto_block 0 with fail
  generalize World.setCell _ _ _=W5 at az ⊢;clear x8 x9 x10 x11 x12 x13 xf8 xf9 xf10 xf11 xf12 xf13;by_cases b1:isS (E.at (k+1)) [35]=true
  ·rw[if_pos b1]at db;have fg:=E.more he dc (eI b1);have CT1:=zh (CT.out (k+1) pl er _ az.out.ine dc)
   go_wp2_with fail
   refine CT1.out.mono ?_;rintro e w6a ⟨rfl,hb⟩;have wu:=zh (az.out.next hb);clear hb CT1 az;have CS1:=zh (CS.out (E.at (k+1)) [35] w6a);rw[b1]at CS1
   go_wp2_with fail
   refine CS1.out.mono ?_;rintro e w6 ⟨rfl,hb⟩;have am:=zh (wu.out.next hb);clear hb CS1 wu;have r1:=am.out.ine.rd.cell 1;have rf1:=am.out.ine.rd.frozen 1;simp only[za,zb,zf]at r1;have x0:=(am.out.li 0 rfl).cell 0;have xf0:=(am.out.li 0 rfl).frozen 0;simp only[za,zb]at x0;have ol:(k:Int)<=1000000:=by omega
   have HSr:=zh (am.out.rd hE 1 (.int .i64 ((k:Int)+1+1)) (k':=k+2) rfl);have da:Hid (Fs E w (k+2) op nd pl er [(q4,41,(cM 3 ⟨⟨xa,xn⟩,⟨ya,yn⟩,mfr,mfc⟩ aG).toArray),(q,41,aA.toArray)] ((w6.setCell ⟨E.r,1,none⟩ (.int .i64 ((k:Int)+1+1))).setCell ⟨q4,0,none⟩ (.int .i64 3))):=zh (HSr.out.put hE 0 rfl 0 _);have bp:=am.out.ner 0 rfl;clear am HSr
   go_upto_region 15 with fail
   generalize World.setCell _ _ _=w8 at da ⊢;clear r1 rf1;clear x0 xf0;replace db:=zh db.out.symm;have CN1:=zh (CN.out (k+2) pl er (cM 3 ⟨⟨xa,xn⟩,⟨ya,yn⟩,mfr,mfc⟩ aG) rfl (eA 3 ⟨⟨xa,xn⟩,⟨ya,yn⟩,mfr,mfc⟩ aG) _ da.out.ine);obtain⟨C,hC,ai,ec,ii⟩:=fD (nd+1) (cM 3 ⟨⟨xa,xn⟩,⟨ya,yn⟩,mfr,mfc⟩ aG) rfl (eA 3 ⟨⟨xa,xn⟩,⟨ya,yn⟩,mfr,mfc⟩ aG);rw[hC]at CN1;have yC:=zh ai;have dx:=zh ec;have mw:=zh ii;have fm:=zh (da.out.range 0 (l:=cM 3 ⟨⟨xa,xn⟩,⟨ya,yn⟩,mfr,mfc⟩ aG) rfl);clear hC ai ec ii
   go_wp2_with (first |(refine yr rfl 41 (.tmp 4) rfl q4 0 rfl (cM 3 ⟨⟨xa,xn⟩,⟨ya,yn⟩,mfr,mfc⟩ aG) _ fm.out Tryz.underlying41 rfl aE ?_))
   refine CN1.out.mono ?_;rintro e wn ⟨rfl,av,ep⟩;have jv:=zh (da.out.step av ep.X);clear av ep CN1 fm da;have HT:=zh (jv.out.there 1 rfl C.toArray.size (by rw[yd,yC.out];rfl));have ag:=zh (jv.out.fill hE 1 rfl C (by rw[yC.out];rfl));have zi:=fv yC.out
   go_wp2_with (first |(refine yq rfl 41 (.tmp 2) (.tmp 53) rfl q 0 C.toArray rfl rfl HT.out zi dx.out ?_;change wpList _ _ _ _ _ (World.setCells _ q 0 C);generalize World.setCells _ _ _ _=wz at ag ⊢))
   have HA:=zh (ag.out.li 1 rfl);refine yt (aO rfl rfl HA.out (by rw[yd,yC.out])) rfl ?_;rw[db.out];exact jS (h:=⟨3,aC,[],⟨⟨xa,xn⟩,⟨ya,yn⟩,mfr,mfc⟩,aG,0⟩) ag.out yC.out dx.out (fun hn=>by rw[mw.out hn];rfl) (by omega) (by omega) (by have:=HF.out.2;omega) (by omega) rfl
  have b1':isS (E.at (k+1)) [35]=false:=by simpa using b1
  rw[if_neg b1]at db;have CT1:=zh (CT.out (k+1) pl er _ az.out.ine dc)
  go_wp2_with fail
  refine CT1.out.mono ?_;rintro e w6a ⟨rfl,hb⟩;have wu:=zh (az.out.next hb);clear hb CT1 az;have CS1:=zh (CS.out (E.at (k+1)) [35] w6a);rw[b1']at CS1
  go_wp2_with fail
  refine CS1.out.mono ?_;rintro e w6 ⟨rfl,hb⟩;have am:=zh (wu.out.next hb);clear hb CS1 wu;by_cases b2:isS (E.at (k+1)) [58]=true
  ·rw[if_pos b2]at db;have fg:=E.more he dc (eI b2);have CT1:=zh (CT.out (k+1) pl er _ am.out.ine dc)
   go_wp2_with fail
   refine CT1.out.mono ?_;rintro e w7a ⟨rfl,hb⟩;have wv:=zh (am.out.next hb);clear hb CT1 am;have CS1:=zh (CS.out (E.at (k+1)) [58] w7a);rw[b2]at CS1
   go_wp2_with fail
   refine CS1.out.mono ?_;rintro e w7 ⟨rfl,hb⟩;have c8:=zh (wv.out.next hb);clear hb CS1 wv;have r1:=c8.out.ine.rd.cell 1;have rf1:=c8.out.ine.rd.frozen 1;simp only[za,zb,zf]at r1;have x0:=(c8.out.li 0 rfl).cell 0;have xf0:=(c8.out.li 0 rfl).frozen 0;simp only[za,zb]at x0;have ol:(k:Int)<=1000000:=by omega
   have HSr:=zh (c8.out.rd hE 1 (.int .i64 ((k:Int)+1+1)) (k':=k+2) rfl);have da:Hid (Fs E w (k+2) op nd pl er [(q4,41,(cM 2 ⟨⟨xa,xn⟩,⟨ya,yn⟩,mfr,mfc⟩ aG).toArray),(q,41,aA.toArray)] ((w7.setCell ⟨E.r,1,none⟩ (.int .i64 ((k:Int)+1+1))).setCell ⟨q4,0,none⟩ (.int .i64 2))):=zh (HSr.out.put hE 0 rfl 0 _);have bp:=c8.out.ner 0 rfl;clear c8 HSr
   go_upto_region 12 with fail
   generalize World.setCell _ _ _=w8 at da ⊢;clear r1 rf1;clear x0 xf0;have CC1:=zh (CC.out (k+2) pl er _ da.out.ine fg)
   go_wp2_with fail
   refine CC1.out.mono ?_;clear CC1;cases hR:dZ E.ax (E.L.drop (k+2)) with
   |error e1=>
    have gy:Hid (O=.bad e1 (E.at (k+2)).place):=zh (by rw[<- db.out,hR];rfl);rintro e w9 ⟨rfl,h1,h2⟩;have bl:=zh (da.out.step h1 h2);clear h1 h2 da hR;have x14:=(bl.out.li 0 rfl).cell 14;have xf14:=(bl.out.li 0 rfl).frozen 14;have x15:=(bl.out.li 0 rfl).cell 15;have xf15:=(bl.out.li 0 rfl).frozen 15;have x16:=(bl.out.li 0 rfl).cell 16;have xf16:=(bl.out.li 0 rfl).frozen 16;have x17:=(bl.out.li 0 rfl).cell 17;have xf17:=(bl.out.li 0 rfl).frozen 17;have x18:=(bl.out.li 0 rfl).cell 18;have xf18:=(bl.out.li 0 rfl).frozen 18;have x19:=(bl.out.li 0 rfl).cell 19;have xf19:=(bl.out.li 0 rfl).frozen 19;simp only[za,zb,zf]at x14 x15 x16 x17 x18 x19
    have cx:Hid (Fs E w (k+2) op nd (E.at (k+2)).place e1 [(q4,41,(cM 2 ⟨⟨xa,xn⟩,⟨ya,yn⟩,mfr,mfc⟩ aG).toArray),(q,41,aA.toArray)] ((((((w9.setCell ⟨q4,14,none⟩ (.int .i64 0)).setCell ⟨q4,15,none⟩ (.int .i64 0)).setCell ⟨q4,16,none⟩ (.int .i64 0)).setCell ⟨q4,17,none⟩ (.int .i64 0)).setCell ⟨q4,18,none⟩ (.bool false)).setCell ⟨q4,19,none⟩ (.bool false))):=zh ((((((bl.out.put hE 0 rfl 14 _).put hE 0 rfl 15 _).put hE 0 rfl 16 _).put hE 0 rfl 17 _).put hE 0 rfl 18 _).put hE 0 rfl 19 _);clear bl;dsimp only[jC]
    go_upto_region 14 with fail
    generalize World.setCell _ _ _=wb at cx ⊢;have HT:=zh (cx.out.there 1 rfl 22 rfl);have ag:=zh (cx.out.fill hE 1 rfl aA rfl)
    go_wp2_with (first |(refine yq rfl 41 (.tmp 2) (.tmp 50) rfl q 0 aA.toArray rfl rfl HT.out aE bB ?_;change wpList _ _ _ _ _ (World.setCells _ q 0 aA);generalize World.setCells _ _ _ _=wz at ag ⊢))
    have HA:=zh (ag.out.li 1 rfl);refine yt (aO rfl rfl HA.out rfl) rfl ?_;rw[gy.out];exact cR ag.out rfl bB (by omega) (by omega) (by have:=HF.out.2;omega)
   |ok b=>
    have ur:=E.more he fg (HFI.out (k+2) b hR);have gy:Hid (O=.ok (jN 2 ⟨⟨xa,xn⟩,⟨ya,yn⟩,mfr,mfc⟩ b) (E.L.drop (k+3)) (nd+1)):=zh (by rw[<- db.out,hR]);rintro e w9 ⟨rfl,h1,h2⟩;have bl:=zh (da.out.step h1 h2);clear h1 h2 da hR;obtain⟨⟨ua,un⟩,⟨va,vn⟩,nfr,nfc⟩:=b;dsimp only[jC];have cx:Hid (Fs E w (k+3) op nd pl er [(q4,41,(cM 2 ⟨⟨xa,xn⟩,⟨ya,yn⟩,mfr,mfc⟩ ⟨⟨ua,un⟩,⟨va,vn⟩,nfr,nfc⟩).toArray),(q,41,aA.toArray)] ((((((w9.setCell ⟨q4,14,none⟩ (.int .i64 ua)).setCell ⟨q4,15,none⟩ (.int .i64 un)).setCell ⟨q4,16,none⟩ (.int .i64 va)).setCell ⟨q4,17,none⟩ (.int .i64 vn)).setCell ⟨q4,18,none⟩ (.bool nfr)).setCell ⟨q4,19,none⟩ (.bool nfc))):=zh ((((((bl.out.put hE 0 rfl 14 _).put hE 0 rfl 15 _).put hE 0 rfl 16 _).put hE 0 rfl 17 _).put hE 0 rfl 18 _).put hE 0 rfl 19 _);have x14:=(bl.out.li 0 rfl).cell 14;have xf14:=(bl.out.li 0 rfl).frozen 14;have x15:=(bl.out.li 0 rfl).cell 15
    have xf15:=(bl.out.li 0 rfl).frozen 15;have x16:=(bl.out.li 0 rfl).cell 16;have xf16:=(bl.out.li 0 rfl).frozen 16;have x17:=(bl.out.li 0 rfl).cell 17;have xf17:=(bl.out.li 0 rfl).frozen 17;have x18:=(bl.out.li 0 rfl).cell 18;have xf18:=(bl.out.li 0 rfl).frozen 18;have x19:=(bl.out.li 0 rfl).cell 19;have xf19:=(bl.out.li 0 rfl).frozen 19;simp only[za,zb,zf]at x14 x15 x16 x17 x18 x19;clear bl
    go_upto_region 15 with fail
    generalize World.setCell _ _ _=wa at cx ⊢;clear x14 x15 x16 x17 x18 x19 xf14 xf15 xf16 xf17 xf18 xf19;have CN1:=zh (CN.out (k+3) pl er (cM 2 ⟨⟨xa,xn⟩,⟨ya,yn⟩,mfr,mfc⟩ ⟨⟨ua,un⟩,⟨va,vn⟩,nfr,nfc⟩) rfl (eA 2 ⟨⟨xa,xn⟩,⟨ya,yn⟩,mfr,mfc⟩ ⟨⟨ua,un⟩,⟨va,vn⟩,nfr,nfc⟩) _ cx.out.ine);obtain⟨C,hC,ai,ec,ii⟩:=fD (nd+1) (cM 2 ⟨⟨xa,xn⟩,⟨ya,yn⟩,mfr,mfc⟩ ⟨⟨ua,un⟩,⟨va,vn⟩,nfr,nfc⟩) rfl (eA 2 ⟨⟨xa,xn⟩,⟨ya,yn⟩,mfr,mfc⟩ ⟨⟨ua,un⟩,⟨va,vn⟩,nfr,nfc⟩);rw[hC]at CN1;have yC:=zh ai;have dx:=zh ec;have mw:=zh ii;have fm:=zh (cx.out.range 0 (l:=cM 2 ⟨⟨xa,xn⟩,⟨ya,yn⟩,mfr,mfc⟩ ⟨⟨ua,un⟩,⟨va,vn⟩,nfr,nfc⟩) rfl);clear hC ai ec ii
    go_wp2_with (first |(refine yr rfl 41 (.tmp 4) rfl q4 0 rfl (cM 2 ⟨⟨xa,xn⟩,⟨ya,yn⟩,mfr,mfc⟩ ⟨⟨ua,un⟩,⟨va,vn⟩,nfr,nfc⟩) _ fm.out Tryz.underlying41 rfl aE ?_))
    refine CN1.out.mono ?_;rintro e wn ⟨rfl,av,ep⟩;have jv:=zh (cx.out.step av ep.X);clear av ep CN1 fm cx;have HT:=zh (jv.out.there 1 rfl C.toArray.size (by rw[yd,yC.out];rfl));have ag:=zh (jv.out.fill hE 1 rfl C (by rw[yC.out];rfl));have zi:=fv yC.out
    go_wp2_with (first |(refine yq rfl 41 (.tmp 2) (.tmp 53) rfl q 0 C.toArray rfl rfl HT.out zi dx.out ?_;change wpList _ _ _ _ _ (World.setCells _ q 0 C);generalize World.setCells _ _ _ _=wz at ag ⊢))
    have HA:=zh (ag.out.li 1 rfl);refine yt (aO rfl rfl HA.out (by rw[yd,yC.out])) rfl ?_;rw[gy.out];exact jS (h:=⟨2,aC,[],⟨⟨xa,xn⟩,⟨ya,yn⟩,mfr,mfc⟩,⟨⟨ua,un⟩,⟨va,vn⟩,nfr,nfc⟩,0⟩) ag.out yC.out dx.out (fun hn=>by rw[mw.out hn];rfl) (by omega) (by omega) (by have:=HF.out.2;omega) (by omega) rfl
  have b2':isS (E.at (k+1)) [58]=false:=by simpa using b2
  rw[if_neg b2]at db;have CT1:=zh (CT.out (k+1) pl er _ am.out.ine dc)
  go_wp2_with fail
  refine CT1.out.mono ?_;rintro e w7a ⟨rfl,hb⟩;have wv:=zh (am.out.next hb);clear hb CT1 am;have CS1:=zh (CS.out (E.at (k+1)) [58] w7a);rw[b2']at CS1
  go_wp2_with fail
  refine CS1.out.mono ?_;rintro e w7 ⟨rfl,hb⟩;have c8:=zh (wv.out.next hb);clear hb CS1 wv;replace db:=zh db.out.symm;have CN1:=zh (CN.out (k+1) pl er (cM 1 ⟨⟨xa,xn⟩,⟨ya,yn⟩,mfr,mfc⟩ aG) rfl (eA 1 ⟨⟨xa,xn⟩,⟨ya,yn⟩,mfr,mfc⟩ aG) _ c8.out.ine);obtain⟨C,hC,ai,ec,ii⟩:=fD (nd+1) (cM 1 ⟨⟨xa,xn⟩,⟨ya,yn⟩,mfr,mfc⟩ aG) rfl (eA 1 ⟨⟨xa,xn⟩,⟨ya,yn⟩,mfr,mfc⟩ aG);rw[hC]at CN1;have yC:=zh ai;have dx:=zh ec;have mw:=zh ii;have fm:=zh (c8.out.range 0 (l:=cM 1 ⟨⟨xa,xn⟩,⟨ya,yn⟩,mfr,mfc⟩ aG) rfl);clear hC ai ec ii
  go_wp2_with (first |(refine yr rfl 41 (.tmp 4) rfl q4 0 rfl (cM 1 ⟨⟨xa,xn⟩,⟨ya,yn⟩,mfr,mfc⟩ aG) _ fm.out Tryz.underlying41 rfl aE ?_))
  refine CN1.out.mono ?_;rintro e wn ⟨rfl,av,ep⟩;have jv:=zh (c8.out.step av ep.X);clear av ep CN1 fm c8;have HT:=zh (jv.out.there 1 rfl C.toArray.size (by rw[yd,yC.out];rfl));have ag:=zh (jv.out.fill hE 1 rfl C (by rw[yC.out];rfl));have zi:=fv yC.out
  go_wp2_with (first |(refine yq rfl 41 (.tmp 2) (.tmp 53) rfl q 0 C.toArray rfl rfl HT.out zi dx.out ?_;change wpList _ _ _ _ _ (World.setCells _ q 0 C);generalize World.setCells _ _ _ _=wz at ag ⊢))
  have HA:=zh (ag.out.li 1 rfl);refine yt (aO rfl rfl HA.out (by rw[yd,yC.out])) rfl ?_;rw[db.out];exact jS (h:=⟨1,aC,[],⟨⟨xa,xn⟩,⟨ya,yn⟩,mfr,mfc⟩,aG,0⟩) ag.out yC.out dx.out (fun hn=>by rw[mw.out hn];rfl) (by omega) (by omega) (by have:=HF.out.2;omega) (by omega) rfl
end Go.Proofs.YtmgjidnalpgegaaGreatDoor
