/-
  Lemmas, part 12: ParL ParM.
-/
import Derived.Test.YtmgjidnalpgegaaGreatDoorPg11
namespace Go.Proofs.YtmgjidnalpgegaaGreatDoor
open Go.RowKit
def Apart(L:List (Nat×TypeId×Array Value)):Prop:=∀ (i j:Nat) (a b:Nat×TypeId×Array Value),L[i]?=some a→L[j]?=some b→i≠j→a.1≠b.1
theorem Apart.set{L:List (Nat×TypeId×Array Value)}(h:Apart L){i:Nat}{b:Nat}{t:TypeId}{cs cs':Array Value}(hi:L[i]?=some (b,t,cs)):Apart (L.set i (b,t,cs')):=by
 have key:∀ (j:Nat) (x:Nat×TypeId×Array Value),(L.set i (b,t,cs'))[j]?=some x→∃ y:Nat×TypeId×Array Value,L[j]?=some y∧y.1=x.1:=by
  intro j x hj;by_cases hij:i=j
  ·subst hij;obtain⟨hil,_⟩:=List.getElem?_eq_some_iff.1 hi;rw[List.getElem?_set_self hil]at hj;injection hj with hj;exact⟨_,hi,by rw[← hj]⟩
  ·rw[List.getElem?_set_ne hij]at hj;exact⟨x,hj,rfl⟩
 intro p q a c hp hq hne;obtain⟨a',h1,h2⟩:=key p a hp;obtain⟨c',h3,h4⟩:=key q c hq;rw[← h2,← h4];exact h p q a' c' h1 h3 hne
theorem Apart.cons{L:List (Nat×TypeId×Array Value)}(h:Apart L){x:Nat×TypeId×Array Value}(hx:∀ y∈L,x.1≠y.1):Apart (x::L):=by
 intro p q a c hp hq hne;cases p with
 | zero=>
  cases q with
  | zero=>exact absurd rfl hne
  | succ q=>
   simp at hp hq;subst hp;exact hx c (List.mem_of_getElem? hq)
 | succ p=>
  cases q with
  | zero=>
   simp at hp hq;subst hq;exact(hx a (List.mem_of_getElem? hp)).symm
  | succ q=>
   simp at hp hq;exact h p q a c hp hq (by omega)
structure Fs(E:Env)(w:World)(k op nd pl er:Nat)(L:List (Nat×TypeId×Array Value))(W:World):Prop where
 base:∃ k0 op0 nd0 pl0 er0,InE E k0 op0 nd0 pl0 er0 w
 ine:InE E k op nd pl er W
 kp:Kp E.X w W
 own:∀ b∈L,Own1 E w W b.1 b.2.1 b.2.2
 ne:Apart L
 ty:∀ b∈L,b.2.1≠34∧b.2.1≠4
section
variable {E:Env} {w W W':World} {k op nd pl er:Nat} {L:List (Nat×TypeId×Array Value)}
theorem Fs.start(hI:InE E k op nd pl er w):Fs E w k op nd pl er [] w:=⟨⟨_,_,_,_,_,hI⟩,hI,Kp.refl _ _,fun _ h=>(by cases h),fun i _ _ _ h=>(by simp at h),fun _ h=>(by cases h)⟩
theorem Fs.next(h:Fs E w k op nd pl er L W)(hb:Below W.heap.size W W'):Fs E w k op nd pl er L W' :=
 ⟨h.base,h.ine.next hb,h.kp.trans (Kp.of_below hb),fun b hm=>(h.own b hm).next hb,h.ne,h.ty⟩
theorem Fs.step{k' op' nd' pl' er':Nat}(h:Fs E w k op nd pl er L W)(hi:InE E k' op' nd' pl' er' W')(hk:Kp E.X W W'):Fs E w k' op' nd' pl' er' L W' :=
 ⟨h.base,hi,h.kp.trans hk,fun b hm=>(h.own b hm).kp hk,h.ne,h.ty⟩
theorem Fs.li(h:Fs E w k op nd pl er L W)(i:Nat){b:Nat}{t:TypeId}{cs:Array Value}(hi:L[i]?=some (b,t,cs)):Lies W b t cs:=(h.own _ (List.mem_of_getElem? hi)).li
theorem Fs.lt(h:Fs E w k op nd pl er L W)(i:Nat){b:Nat}{t:TypeId}{cs:Array Value}(hi:L[i]?=some (b,t,cs)):b<W.heap.size:=(h.li i hi).lt
theorem Fs.ge(h:Fs E w k op nd pl er L W)(i:Nat){b:Nat}{t:TypeId}{cs:Array Value}(hi:L[i]?=some (b,t,cs)):w.heap.size≤b:=(h.own _ (List.mem_of_getElem? hi)).ge
theorem Fs.ner(h:Fs E w k op nd pl er L W)(i:Nat){b:Nat}{t:TypeId}{cs:Array Value}(hi:L[i]?=some (b,t,cs)):b≠E.r:=fun e=>(h.own _ (List.mem_of_getElem? hi)).fr.nx (by rw[show (b,t,cs).1=E.r from e];exact .head _)
theorem Fs.alloc(h:Fs E w k op nd pl er L W)(t:TypeId)(cs:Array Value)(ht:t≠34∧t≠4):Fs E w k op nd pl er ((W.heap.size,t,cs)::L) (W.alloc (.cells cs t)):=by
 have hb:Below W.heap.size W (W.alloc (.cells cs t)):=(Below.refl _ _).alloc (Nat.le_refl _) _;have h1:=h.next hb;obtain⟨k0,op0,nd0,pl0,er0,hb0⟩:=h.base;refine⟨h.base,h1.ine,h1.kp,fun b hm=>?_,h.ne.cons (fun b hm=>?_),fun b hm=>?_⟩
 ·rcases List.mem_cons.1 hm with rfl | hm
  ·exact Own1.new hb0 h.kp t cs
  ·exact h1.own b hm
 ·have:=(h.own b hm).li.lt;show W.heap.size≠b.1;omega
 ·rcases List.mem_cons.1 hm with rfl | hm
  ·exact ht
  ·exact h.ty b hm
theorem Fs.wrote(h:Fs E w k op nd pl er L W)(hE:E.ok)(i:Nat){b:Nat}{t:TypeId}{cs cs':Array Value}(hi:L[i]?=some (b,t,cs))(hk:Kp [b] W W')(hl:Lies W' b t cs'):Fs E w k op nd pl er (L.set i (b,t,cs')) W':=by
 have hm:=List.mem_of_getElem? hi;have ho:=h.own _ hm;have ht:=h.ty _ hm;have key:∀ c∈L.set i (b,t,cs'),c=(b,t,cs')∨(c∈L∧b≠c.1):=fun c hc=>by
  obtain⟨j,hj⟩:=List.getElem?_of_mem hc;by_cases hij:i=j
  ·subst hij;obtain⟨hil,_⟩:=List.getElem?_eq_some_iff.1 hi;rw[List.getElem?_set_self hil]at hj;injection hj with hj;exact .inl hj.symm
  ·rw[List.getElem?_set_ne hij]at hj;exact .inr ⟨List.mem_of_getElem? hj,h.ne i j _ _ hi hj hij⟩
 refine⟨h.base,h.ine.own hE ho ht.1 ht.2 hk,h.kp.own ho hk,fun c hc=>?_,h.ne.set hi,fun c hc=>?_⟩
 ·rcases key c hc with rfl | ⟨hc,hne⟩
  ·exact⟨ho.fr,ho.ge,hl⟩
  ·have hc0:=h.own _ hc;exact⟨hc0.fr,hc0.ge,hk.lies hc0.li (fun hm=>hne (List.mem_singleton.1 hm).symm)⟩
 ·rcases key c hc with rfl | ⟨hc,_⟩
  ·exact ht
  ·exact h.ty c hc
theorem Fs.put(h:Fs E w k op nd pl er L W)(hE:E.ok)(i:Nat){b:Nat}{t:TypeId}{cs:Array Value}(hi:L[i]?=some (b,t,cs))(j:Nat)(v:Value):Fs E w k op nd pl er (L.set i (b,t,cs.setIfInBounds j v)) (W.setCell ⟨b,j,none⟩ v) :=
 h.wrote hE i hi ((Kp.refl _ _).set (.inl (.head _)) j v) ((h.li i hi).put j v)
theorem Fs.fill(h:Fs E w k op nd pl er L W)(hE:E.ok)(i:Nat){b:Nat}{t:TypeId}{cs:Array Value}(hi:L[i]?=some (b,t,cs))(vs:List Value)(hl:vs.length=cs.size):Fs E w k op nd pl er (L.set i (b,t,vs.toArray)) (W.setCells b 0 vs) :=
 h.wrote hE i hi (aU (.inl (.head _)) vs 0 (Kp.refl _ _)) ((h.li i hi).putAll hl)
theorem Fs.rd(h:Fs E w k op nd pl er L W)(hE:E.ok)(j:Nat)(v:Value){k' op' nd' pl' er':Nat}(he:(rdC E k op nd pl er).setIfInBounds j v=rdC E k' op' nd' pl' er'):Fs E w k' op' nd' pl' er' L (W.setCell ⟨E.r,j,none⟩ v):=by
 have hk:Kp [E.r] W (W.setCell ⟨E.r,j,none⟩ v):=(Kp.refl _ _).set (.inl (.head _)) j v;exact h.step (h.ine.wrote hE hk (by rw[← he];exact h.ine.rd.put j v)) hk.X
theorem Fs.there(h:Fs E w k op nd pl er L W)(i:Nat){b:Nat}{t:TypeId}{cs:Array Value}(hi:L[i]?=some (b,t,cs))(n:Nat)(hn:n=cs.size):W.there b 0 n:=by rw[hn];exact(h.li i hi).thereA
theorem Fs.range(h:Fs E w k op nd pl er L W)(i:Nat){b:Nat}{t:TypeId}{l:List Value}(hi:L[i]?=some (b,t,l.toArray)):W.rangeAt b 0 l:=by simpa using (h.li i hi).range
end
abbrev cG(kd:Int)(a b:Cor):List Value:=[.int .i64 kd,.int .i64 0,.int .i64 0,.int .i64 0,.string ⟨#[]⟩,.bool false,.int .i64 0,.string ⟨#[]⟩,.int .i64 a.row.a,.int .i64 a.row.n,.int .i64 a.col.a,.int .i64 a.col.n,.bool a.fr,.bool a.fc,.int .i64 b.row.a,.int .i64 b.row.n,.int .i64 b.col.a,.int .i64 b.col.n,.bool b.fr,.bool b.fc,.int .i64 0,.slice none 0 0]
theorem dO(kd:Int)(a b:Cor):(cG kd a b).toArray.all (·.oneCell')=true:=by simp[cG,Value.oneCell']
theorem iO{E:Env}{w W:World}{k k' op nd c pl er:Nat}{L:List (Nat×TypeId×Array Value)}{C:List Value}{h:NodeH}(hF:Fs E w k' op c pl er L W)(h22:C.length=22)(h1:C.toArray.all (·.oneCell')=true)(hc:c≤256→C.toArray=bX h none 0 0)(hk:k≤k')(hk2:k'<E.L.length)(hn:c+k≤nd+k')(hn2:nd≤c){ts:List Tok}(hts:ts=E.L.drop k') :
  NPost E w k op nd pl er (.ok (.mk h []) ts c) (.returned (.tuple #[.agg C.toArray,.bool true])) W :=
 ⟨k',C.toArray,rfl,hk,hk2,hts,hn,hn2,hF.ine,hF.kp,by rw[List.size_toArray,h22],h1,fun hn=>⟨none,0,hc hn,.inl rfl⟩⟩
theorem cK{E:Env}{w W:World}{k k' op op' nd nd' pl pl' er er':Nat}{L:List (Nat×TypeId×Array Value)}{C:List Value}(hF:Fs E w k' op' nd' pl' er' L W)(h22:C.length=22)(h1:C.toArray.all (·.oneCell')=true)(hk:k≤k')(hk2:k'<E.L.length)(hn:nd'+k≤nd+k') :
  NPost E w k op nd pl er (.bad er' pl') (.returned (.tuple #[.agg C.toArray,.bool false])) W :=
 ⟨C.toArray,k',op',nd',rfl,by rw[List.size_toArray,h22],h1,hk,hk2,hn,hF.ine,hF.kp⟩
def Env.short(E:Env):Prop:=∀ k,(E.at k).text.length≤50000
set_option maxRecDepth 100000 in
set_option maxHeartbeats 800000 in
theorem uGK(E:Env)(hE:E.ok)(he:E.ends)(hL:E.L.length≤1000000)(hT:E.short)(op:Nat):dU E 120 (gW E.ax) op:=by
 intro k nd pl er w hI hk hn;have CC:=zh (fun k pl er W h hk=>cell_any E hE k op nd pl er W h hk hL (Nat.le_trans (hT k) (by decide)));have CT:=zh (fun k pl er W h hk=>bT E k op nd pl er W h hk);have CS:=zh cY;have CN:=zh (fun k pl er cs h22 h1 W h=>gN E hE k op nd pl er cs h22 h1 W h (by omega));have HS1:=zh ((Fs.start hI).alloc 41 aB.toArray (by decide));generalize hO:gW E.ax (E.L.drop k) nd=O;have HO:Hid ((match dM E.ax (E.L.drop k) with
  | .error e=>fD e (E.L.drop k)
  | .ok a=>
   if isS (E.at (k+1)) [35] then .ok (iL 3 a aH) (E.L.drop (k+2)) (nd+1)
   else if isS (E.at (k+1)) [58] then match dM E.ax (E.L.drop (k+2)) with
    | .error e=>fD e (E.L.drop (k+2))
    | .ok b=>.ok (iL 2 a b) (E.L.drop (k+3)) (nd+1)
   else .ok (iL 1 a aH) (E.L.drop (k+1)) (nd+1))=O):=zh (by
  rw[← hO];unfold gW;rw[List.tail_drop,List.tail_drop,List.tail_drop];rfl)
 have HF:Hid (k<E.L.length∧nd≤k):=zh ⟨hk,hn⟩;have hfine:∀ k a,dM E.ax (E.L.drop k)=.ok a→(E.at k).kind≠0:=fun k a h h0=>by
  unfold dM at h;rw[if_pos (show (hd (E.L.drop k)).kind≠4 by rw[show (hd (E.L.drop k)).kind=0 from h0];decide)]at h;cases h
 have HFI:=zh hfine;clear hI hO hn hfine;simp only[aB]at HS1
 go_enter Tryz.func120,Tryz.ntmps120
 go_upto_region 1 with fail
 generalize World.alloc _ _=W1 at HS1 ⊢;generalize hq:w.heap.size=q at HS1 ⊢;have HS2:=zh (HS1.out.alloc 41 aB.toArray (by decide));have HT:=zh (HS2.out.there 0 rfl 22 rfl);have HS3:=zh (HS2.out.fill hE 0 rfl (cG 1 aH aH) rfl);have hone:=dO 1 aH aH;clear HS1 HS2 hq;simp only[List.set_cons_zero]at HS3;generalize hq4:W1.heap.size=q4 at HS3 HT ⊢
 go_upto_region 3 with(first |(refine wpList_store_mid rfl 41 (.tmp 4) (.tmp 6) rfl q4 0 (cG 1 aH aH).toArray rfl rfl HT.out aE hone ?_;change wpList _ _ _ _ _ (World.setCells _ q4 0 (cG 1 aH aH));generalize World.setCells _ _ _ _=W2 at HS3 ⊢))
 clear HT hone hq4
 go_wp2_with fail
 have CC1:=zh (CC.out k pl er _ HS3.out.ine hk);refine CC1.out.mono ?_;clear CC1;cases hR:dM E.ax (E.L.drop k) with
 | error e1=>
  have HO1:Hid (O=.bad e1 (E.at k).place):=zh (by rw[← HO.out,hR];rfl);rintro e w4 ⟨rfl,h1,h2⟩;have HS4:=zh (HS3.out.step h1 h2);clear h1 h2 HS3 hR;have x8:=(HS4.out.li 0 rfl).cell 8;have xf8:=(HS4.out.li 0 rfl).frozen 8;have x9:=(HS4.out.li 0 rfl).cell 9;have xf9:=(HS4.out.li 0 rfl).frozen 9;have x10:=(HS4.out.li 0 rfl).cell 10;have xf10:=(HS4.out.li 0 rfl).frozen 10;have x11:=(HS4.out.li 0 rfl).cell 11;have xf11:=(HS4.out.li 0 rfl).frozen 11;have x12:=(HS4.out.li 0 rfl).cell 12;have xf12:=(HS4.out.li 0 rfl).frozen 12;have x13:=(HS4.out.li 0 rfl).cell 13;have xf13:=(HS4.out.li 0 rfl).frozen 13;simp only[List.getElem?_toArray,List.getElem?_cons_zero,List.getElem?_cons_succ]at x8 x9 x10 x11 x12 x13
  have HS5:Hid (Fs E w (k) op nd (E.at k).place e1 [(q4,41,(cG 1 aH aH).toArray),(q,41,aB.toArray)] ((((((w4.setCell ⟨q4,8,none⟩ (.int .i64 0)).setCell ⟨q4,9,none⟩ (.int .i64 0)).setCell ⟨q4,10,none⟩ (.int .i64 0)).setCell ⟨q4,11,none⟩ (.int .i64 0)).setCell ⟨q4,12,none⟩ (.bool false)).setCell ⟨q4,13,none⟩ (.bool false))):=zh ((((((HS4.out.put hE 0 rfl 8 _).put hE 0 rfl 9 _).put hE 0 rfl 10 _).put hE 0 rfl 11 _).put hE 0 rfl 12 _).put hE 0 rfl 13 _);clear HS4;dsimp only[iU]
  go_upto_region 5 with fail
  generalize World.setCell _ _ _=wb at HS5 ⊢;have HT:=zh (HS5.out.there 1 rfl 22 rfl);have HSz:=zh (HS5.out.fill hE 1 rfl aB rfl)
  go_wp2_with (first |(refine wpList_store_mid rfl 41 (.tmp 2) (.tmp 16) rfl q 0 aB.toArray rfl rfl HT.out aE aT ?_;change wpList _ _ _ _ _ (World.setCells _ q 0 aB);generalize World.setCells _ _ _ _=wz at HSz ⊢))
  have HA:=zh (HSz.out.li 1 rfl);refine bodyPost_ret (aK rfl rfl HA.out rfl) rfl ?_;rw[HO1.out];exact cK HSz.out rfl aT (by omega) (by omega) (by have:=HF.out.2;omega)
 | ok a=>
  have HO1:Hid ((if isS (E.at (k+1)) [35] then .ok (iL 3 a aH) (E.L.drop (k+2)) (nd+1)
   else if isS (E.at (k+1)) [58] then match dM E.ax (E.L.drop (k+2)) with
    | .error e=>fD e (E.L.drop (k+2))
    | .ok b=>.ok (iL 2 a b) (E.L.drop (k+3)) (nd+1)
   else .ok (iL 1 a aH) (E.L.drop (k+1)) (nd+1))=O):=zh (by rw[← HO.out,hR])
  have hk1:=E.more he hk (HFI.out k a hR);rintro e w4 ⟨rfl,h1,h2⟩;have HS4:=zh (HS3.out.step h1 h2);clear h1 h2 HS3 hR HO;obtain⟨⟨xa,xn⟩,⟨ya,yn⟩,mfr,mfc⟩:=a;dsimp only[iU];have HS5:Hid (Fs E w (k+1) op nd pl er [(q4,41,(cG 1 ⟨⟨xa,xn⟩,⟨ya,yn⟩,mfr,mfc⟩ aH).toArray),(q,41,aB.toArray)] ((((((w4.setCell ⟨q4,8,none⟩ (.int .i64 xa)).setCell ⟨q4,9,none⟩ (.int .i64 xn)).setCell ⟨q4,10,none⟩ (.int .i64 ya)).setCell ⟨q4,11,none⟩ (.int .i64 yn)).setCell ⟨q4,12,none⟩ (.bool mfr)).setCell ⟨q4,13,none⟩ (.bool mfc))):=zh ((((((HS4.out.put hE 0 rfl 8 _).put hE 0 rfl 9 _).put hE 0 rfl 10 _).put hE 0 rfl 11 _).put hE 0 rfl 12 _).put hE 0 rfl 13 _);have x8:=(HS4.out.li 0 rfl).cell 8;have xf8:=(HS4.out.li 0 rfl).frozen 8;have x9:=(HS4.out.li 0 rfl).cell 9;have xf9:=(HS4.out.li 0 rfl).frozen 9;have x10:=(HS4.out.li 0 rfl).cell 10;have xf10:=(HS4.out.li 0 rfl).frozen 10
  have x11:=(HS4.out.li 0 rfl).cell 11;have xf11:=(HS4.out.li 0 rfl).frozen 11;have x12:=(HS4.out.li 0 rfl).cell 12;have xf12:=(HS4.out.li 0 rfl).frozen 12;have x13:=(HS4.out.li 0 rfl).cell 13;have xf13:=(HS4.out.li 0 rfl).frozen 13;simp only[List.getElem?_toArray,List.getElem?_cons_zero,List.getElem?_cons_succ]at x8 x9 x10 x11 x12 x13;clear HS4
  go_upto_block 0 with fail
  generalize World.setCell _ _ _=W5 at HS5 ⊢;clear x8 x9 x10 x11 x12 x13 xf8 xf9 xf10 xf11 xf12 xf13;by_cases b1:isS (E.at (k+1)) [35]=true
  ·rw[if_pos b1]at HO1;have hk2:=E.more he hk1 (dY b1);have CT1:=zh (CT.out (k+1) pl er _ HS5.out.ine hk1)
   go_wp2_with fail
   refine CT1.out.mono ?_;rintro e w6a ⟨rfl,hb⟩;have HS6a:=zh (HS5.out.next hb);clear hb CT1 HS5;have CS1:=zh (CS.out (E.at (k+1)) [35] w6a);rw[b1]at CS1
   go_wp2_with fail
   refine CS1.out.mono ?_;rintro e w6 ⟨rfl,hb⟩;have HS6:=zh (HS6a.out.next hb);clear hb CS1 HS6a;have r1:=HS6.out.ine.rd.cell 1;have rf1:=HS6.out.ine.rd.frozen 1;simp only[List.getElem?_toArray,List.getElem?_cons_zero,List.getElem?_cons_succ]at r1;have x0:=(HS6.out.li 0 rfl).cell 0;have xf0:=(HS6.out.li 0 rfl).frozen 0;simp only[List.getElem?_toArray,List.getElem?_cons_zero]at x0;have hkb:(k:Int)≤1000000:=by omega
   have HSr:=zh (HS6.out.rd hE 1 (.int .i64 ((k:Int)+1+1)) (k':=k+2) rfl);have HS8:Hid (Fs E w (k+2) op nd pl er [(q4,41,(cG 3 ⟨⟨xa,xn⟩,⟨ya,yn⟩,mfr,mfc⟩ aH).toArray),(q,41,aB.toArray)] ((w6.setCell ⟨E.r,1,none⟩ (.int .i64 ((k:Int)+1+1))).setCell ⟨q4,0,none⟩ (.int .i64 3))):=zh (HSr.out.put hE 0 rfl 0 _);have hne:=HS6.out.ner 0 rfl;clear HS6 HSr
   go_upto_region 15 with fail
   generalize World.setCell _ _ _=w8 at HS8 ⊢;clear r1 rf1;clear x0 xf0;replace HO1:=zh HO1.out.symm;have CN1:=zh (CN.out (k+2) pl er (cG 3 ⟨⟨xa,xn⟩,⟨ya,yn⟩,mfr,mfc⟩ aH) rfl (dO 3 ⟨⟨xa,xn⟩,⟨ya,yn⟩,mfr,mfc⟩ aH) _ HS8.out.ine);obtain⟨C,hC,hC22,hC1,hCk⟩:=eT (nd+1) (cG 3 ⟨⟨xa,xn⟩,⟨ya,yn⟩,mfr,mfc⟩ aH) rfl (dO 3 ⟨⟨xa,xn⟩,⟨ya,yn⟩,mfr,mfc⟩ aH);rw[hC]at CN1;have yC:=zh hC22;have HC1:=zh hC1;have HCk:=zh hCk;have HRg:=zh (HS8.out.range 0 (l:=cG 3 ⟨⟨xa,xn⟩,⟨ya,yn⟩,mfr,mfc⟩ aH) rfl);clear hC hC22 hC1 hCk
   go_wp2_with (first |(refine wpList_load_mid rfl 41 (.tmp 4) rfl q4 0 rfl (cG 3 ⟨⟨xa,xn⟩,⟨ya,yn⟩,mfr,mfc⟩ aH) _ HRg.out Tryz.underlying41 rfl aE ?_))
   refine CN1.out.mono ?_;rintro e wn ⟨rfl,hn1,hn2⟩;have HSn:=zh (HS8.out.step hn1 hn2.X);clear hn1 hn2 CN1 HRg HS8;have HT:=zh (HSn.out.there 1 rfl C.toArray.size (by rw[List.size_toArray,yC.out];rfl));have HSz:=zh (HSn.out.fill hE 1 rfl C (by rw[yC.out];rfl));have zi:=hfN yC.out
   go_wp2_with (first |(refine wpList_store_mid rfl 41 (.tmp 2) (.tmp 53) rfl q 0 C.toArray rfl rfl HT.out zi HC1.out ?_;change wpList _ _ _ _ _ (World.setCells _ q 0 C);generalize World.setCells _ _ _ _=wz at HSz ⊢))
   have HA:=zh (HSz.out.li 1 rfl);refine bodyPost_ret (aK rfl rfl HA.out (by rw[List.size_toArray,yC.out])) rfl ?_;rw[HO1.out];exact iO (h:=⟨3,aF,[],⟨⟨xa,xn⟩,⟨ya,yn⟩,mfr,mfc⟩,aH,0⟩) HSz.out yC.out HC1.out (fun hn=>by rw[HCk.out hn];rfl) (by omega) (by omega) (by have:=HF.out.2;omega) (by omega) rfl
  ·have b1':isS (E.at (k+1)) [35]=false:=by simpa using b1
   rw[if_neg b1]at HO1;have CT1:=zh (CT.out (k+1) pl er _ HS5.out.ine hk1)
   go_wp2_with fail
   refine CT1.out.mono ?_;rintro e w6a ⟨rfl,hb⟩;have HS6a:=zh (HS5.out.next hb);clear hb CT1 HS5;have CS1:=zh (CS.out (E.at (k+1)) [35] w6a);rw[b1']at CS1
   go_wp2_with fail
   refine CS1.out.mono ?_;rintro e w6 ⟨rfl,hb⟩;have HS6:=zh (HS6a.out.next hb);clear hb CS1 HS6a;by_cases b2:isS (E.at (k+1)) [58]=true
   ·rw[if_pos b2]at HO1;have hk2:=E.more he hk1 (dY b2);have CT1:=zh (CT.out (k+1) pl er _ HS6.out.ine hk1)
    go_wp2_with fail
    refine CT1.out.mono ?_;rintro e w7a ⟨rfl,hb⟩;have HS7a:=zh (HS6.out.next hb);clear hb CT1 HS6;have CS1:=zh (CS.out (E.at (k+1)) [58] w7a);rw[b2]at CS1
    go_wp2_with fail
    refine CS1.out.mono ?_;rintro e w7 ⟨rfl,hb⟩;have HS7:=zh (HS7a.out.next hb);clear hb CS1 HS7a;have r1:=HS7.out.ine.rd.cell 1;have rf1:=HS7.out.ine.rd.frozen 1;simp only[List.getElem?_toArray,List.getElem?_cons_zero,List.getElem?_cons_succ]at r1;have x0:=(HS7.out.li 0 rfl).cell 0;have xf0:=(HS7.out.li 0 rfl).frozen 0;simp only[List.getElem?_toArray,List.getElem?_cons_zero]at x0;have hkb:(k:Int)≤1000000:=by omega
    have HSr:=zh (HS7.out.rd hE 1 (.int .i64 ((k:Int)+1+1)) (k':=k+2) rfl);have HS8:Hid (Fs E w (k+2) op nd pl er [(q4,41,(cG 2 ⟨⟨xa,xn⟩,⟨ya,yn⟩,mfr,mfc⟩ aH).toArray),(q,41,aB.toArray)] ((w7.setCell ⟨E.r,1,none⟩ (.int .i64 ((k:Int)+1+1))).setCell ⟨q4,0,none⟩ (.int .i64 2))):=zh (HSr.out.put hE 0 rfl 0 _);have hne:=HS7.out.ner 0 rfl;clear HS7 HSr
    go_upto_region 12 with fail
    generalize World.setCell _ _ _=w8 at HS8 ⊢;clear r1 rf1;clear x0 xf0;have CC1:=zh (CC.out (k+2) pl er _ HS8.out.ine hk2)
    go_wp2_with fail
    refine CC1.out.mono ?_;clear CC1;cases hR:dM E.ax (E.L.drop (k+2)) with
    | error e1=>
     have HO2:Hid (O=.bad e1 (E.at (k+2)).place):=zh (by rw[← HO1.out,hR];rfl);rintro e w9 ⟨rfl,h1,h2⟩;have HS9:=zh (HS8.out.step h1 h2);clear h1 h2 HS8 hR;have x14:=(HS9.out.li 0 rfl).cell 14;have xf14:=(HS9.out.li 0 rfl).frozen 14;have x15:=(HS9.out.li 0 rfl).cell 15;have xf15:=(HS9.out.li 0 rfl).frozen 15;have x16:=(HS9.out.li 0 rfl).cell 16;have xf16:=(HS9.out.li 0 rfl).frozen 16;have x17:=(HS9.out.li 0 rfl).cell 17;have xf17:=(HS9.out.li 0 rfl).frozen 17;have x18:=(HS9.out.li 0 rfl).cell 18;have xf18:=(HS9.out.li 0 rfl).frozen 18;have x19:=(HS9.out.li 0 rfl).cell 19;have xf19:=(HS9.out.li 0 rfl).frozen 19;simp only[List.getElem?_toArray,List.getElem?_cons_zero,List.getElem?_cons_succ]at x14 x15 x16 x17 x18 x19
     have HSa:Hid (Fs E w (k+2) op nd (E.at (k+2)).place e1 [(q4,41,(cG 2 ⟨⟨xa,xn⟩,⟨ya,yn⟩,mfr,mfc⟩ aH).toArray),(q,41,aB.toArray)] ((((((w9.setCell ⟨q4,14,none⟩ (.int .i64 0)).setCell ⟨q4,15,none⟩ (.int .i64 0)).setCell ⟨q4,16,none⟩ (.int .i64 0)).setCell ⟨q4,17,none⟩ (.int .i64 0)).setCell ⟨q4,18,none⟩ (.bool false)).setCell ⟨q4,19,none⟩ (.bool false))):=zh ((((((HS9.out.put hE 0 rfl 14 _).put hE 0 rfl 15 _).put hE 0 rfl 16 _).put hE 0 rfl 17 _).put hE 0 rfl 18 _).put hE 0 rfl 19 _);clear HS9;dsimp only[iU]
     go_upto_region 14 with fail
     generalize World.setCell _ _ _=wb at HSa ⊢;have HT:=zh (HSa.out.there 1 rfl 22 rfl);have HSz:=zh (HSa.out.fill hE 1 rfl aB rfl)
     go_wp2_with (first |(refine wpList_store_mid rfl 41 (.tmp 2) (.tmp 50) rfl q 0 aB.toArray rfl rfl HT.out aE aT ?_;change wpList _ _ _ _ _ (World.setCells _ q 0 aB);generalize World.setCells _ _ _ _=wz at HSz ⊢))
     have HA:=zh (HSz.out.li 1 rfl);refine bodyPost_ret (aK rfl rfl HA.out rfl) rfl ?_;rw[HO2.out];exact cK HSz.out rfl aT (by omega) (by omega) (by have:=HF.out.2;omega)
    | ok b=>
     have hk3:=E.more he hk2 (HFI.out (k+2) b hR);have HO2:Hid (O=.ok (iL 2 ⟨⟨xa,xn⟩,⟨ya,yn⟩,mfr,mfc⟩ b) (E.L.drop (k+3)) (nd+1)):=zh (by rw[← HO1.out,hR]);rintro e w9 ⟨rfl,h1,h2⟩;have HS9:=zh (HS8.out.step h1 h2);clear h1 h2 HS8 hR;obtain⟨⟨ua,un⟩,⟨va,vn⟩,nfr,nfc⟩:=b;dsimp only[iU];have HSa:Hid (Fs E w (k+3) op nd pl er [(q4,41,(cG 2 ⟨⟨xa,xn⟩,⟨ya,yn⟩,mfr,mfc⟩ ⟨⟨ua,un⟩,⟨va,vn⟩,nfr,nfc⟩).toArray),(q,41,aB.toArray)] ((((((w9.setCell ⟨q4,14,none⟩ (.int .i64 ua)).setCell ⟨q4,15,none⟩ (.int .i64 un)).setCell ⟨q4,16,none⟩ (.int .i64 va)).setCell ⟨q4,17,none⟩ (.int .i64 vn)).setCell ⟨q4,18,none⟩ (.bool nfr)).setCell ⟨q4,19,none⟩ (.bool nfc))):=zh ((((((HS9.out.put hE 0 rfl 14 _).put hE 0 rfl 15 _).put hE 0 rfl 16 _).put hE 0 rfl 17 _).put hE 0 rfl 18 _).put hE 0 rfl 19 _);have x14:=(HS9.out.li 0 rfl).cell 14;have xf14:=(HS9.out.li 0 rfl).frozen 14;have x15:=(HS9.out.li 0 rfl).cell 15
     have xf15:=(HS9.out.li 0 rfl).frozen 15;have x16:=(HS9.out.li 0 rfl).cell 16;have xf16:=(HS9.out.li 0 rfl).frozen 16;have x17:=(HS9.out.li 0 rfl).cell 17;have xf17:=(HS9.out.li 0 rfl).frozen 17;have x18:=(HS9.out.li 0 rfl).cell 18;have xf18:=(HS9.out.li 0 rfl).frozen 18;have x19:=(HS9.out.li 0 rfl).cell 19;have xf19:=(HS9.out.li 0 rfl).frozen 19;simp only[List.getElem?_toArray,List.getElem?_cons_zero,List.getElem?_cons_succ]at x14 x15 x16 x17 x18 x19;clear HS9
     go_upto_region 15 with fail
     generalize World.setCell _ _ _=wa at HSa ⊢;clear x14 x15 x16 x17 x18 x19 xf14 xf15 xf16 xf17 xf18 xf19;have CN1:=zh (CN.out (k+3) pl er (cG 2 ⟨⟨xa,xn⟩,⟨ya,yn⟩,mfr,mfc⟩ ⟨⟨ua,un⟩,⟨va,vn⟩,nfr,nfc⟩) rfl (dO 2 ⟨⟨xa,xn⟩,⟨ya,yn⟩,mfr,mfc⟩ ⟨⟨ua,un⟩,⟨va,vn⟩,nfr,nfc⟩) _ HSa.out.ine);obtain⟨C,hC,hC22,hC1,hCk⟩:=eT (nd+1) (cG 2 ⟨⟨xa,xn⟩,⟨ya,yn⟩,mfr,mfc⟩ ⟨⟨ua,un⟩,⟨va,vn⟩,nfr,nfc⟩) rfl (dO 2 ⟨⟨xa,xn⟩,⟨ya,yn⟩,mfr,mfc⟩ ⟨⟨ua,un⟩,⟨va,vn⟩,nfr,nfc⟩);rw[hC]at CN1;have yC:=zh hC22;have HC1:=zh hC1;have HCk:=zh hCk;have HRg:=zh (HSa.out.range 0 (l:=cG 2 ⟨⟨xa,xn⟩,⟨ya,yn⟩,mfr,mfc⟩ ⟨⟨ua,un⟩,⟨va,vn⟩,nfr,nfc⟩) rfl);clear hC hC22 hC1 hCk
     go_wp2_with (first |(refine wpList_load_mid rfl 41 (.tmp 4) rfl q4 0 rfl (cG 2 ⟨⟨xa,xn⟩,⟨ya,yn⟩,mfr,mfc⟩ ⟨⟨ua,un⟩,⟨va,vn⟩,nfr,nfc⟩) _ HRg.out Tryz.underlying41 rfl aE ?_))
     refine CN1.out.mono ?_;rintro e wn ⟨rfl,hn1,hn2⟩;have HSn:=zh (HSa.out.step hn1 hn2.X);clear hn1 hn2 CN1 HRg HSa;have HT:=zh (HSn.out.there 1 rfl C.toArray.size (by rw[List.size_toArray,yC.out];rfl));have HSz:=zh (HSn.out.fill hE 1 rfl C (by rw[yC.out];rfl));have zi:=hfN yC.out
     go_wp2_with (first |(refine wpList_store_mid rfl 41 (.tmp 2) (.tmp 53) rfl q 0 C.toArray rfl rfl HT.out zi HC1.out ?_;change wpList _ _ _ _ _ (World.setCells _ q 0 C);generalize World.setCells _ _ _ _=wz at HSz ⊢))
     have HA:=zh (HSz.out.li 1 rfl);refine bodyPost_ret (aK rfl rfl HA.out (by rw[List.size_toArray,yC.out])) rfl ?_;rw[HO2.out];exact iO (h:=⟨2,aF,[],⟨⟨xa,xn⟩,⟨ya,yn⟩,mfr,mfc⟩,⟨⟨ua,un⟩,⟨va,vn⟩,nfr,nfc⟩,0⟩) HSz.out yC.out HC1.out (fun hn=>by rw[HCk.out hn];rfl) (by omega) (by omega) (by have:=HF.out.2;omega) (by omega) rfl
   ·have b2':isS (E.at (k+1)) [58]=false:=by simpa using b2
    rw[if_neg b2]at HO1;have CT1:=zh (CT.out (k+1) pl er _ HS6.out.ine hk1)
    go_wp2_with fail
    refine CT1.out.mono ?_;rintro e w7a ⟨rfl,hb⟩;have HS7a:=zh (HS6.out.next hb);clear hb CT1 HS6;have CS1:=zh (CS.out (E.at (k+1)) [58] w7a);rw[b2']at CS1
    go_wp2_with fail
    refine CS1.out.mono ?_;rintro e w7 ⟨rfl,hb⟩;have HS7:=zh (HS7a.out.next hb);clear hb CS1 HS7a;replace HO1:=zh HO1.out.symm;have CN1:=zh (CN.out (k+1) pl er (cG 1 ⟨⟨xa,xn⟩,⟨ya,yn⟩,mfr,mfc⟩ aH) rfl (dO 1 ⟨⟨xa,xn⟩,⟨ya,yn⟩,mfr,mfc⟩ aH) _ HS7.out.ine);obtain⟨C,hC,hC22,hC1,hCk⟩:=eT (nd+1) (cG 1 ⟨⟨xa,xn⟩,⟨ya,yn⟩,mfr,mfc⟩ aH) rfl (dO 1 ⟨⟨xa,xn⟩,⟨ya,yn⟩,mfr,mfc⟩ aH);rw[hC]at CN1;have yC:=zh hC22;have HC1:=zh hC1;have HCk:=zh hCk;have HRg:=zh (HS7.out.range 0 (l:=cG 1 ⟨⟨xa,xn⟩,⟨ya,yn⟩,mfr,mfc⟩ aH) rfl);clear hC hC22 hC1 hCk
    go_wp2_with (first |(refine wpList_load_mid rfl 41 (.tmp 4) rfl q4 0 rfl (cG 1 ⟨⟨xa,xn⟩,⟨ya,yn⟩,mfr,mfc⟩ aH) _ HRg.out Tryz.underlying41 rfl aE ?_))
    refine CN1.out.mono ?_;rintro e wn ⟨rfl,hn1,hn2⟩;have HSn:=zh (HS7.out.step hn1 hn2.X);clear hn1 hn2 CN1 HRg HS7;have HT:=zh (HSn.out.there 1 rfl C.toArray.size (by rw[List.size_toArray,yC.out];rfl));have HSz:=zh (HSn.out.fill hE 1 rfl C (by rw[yC.out];rfl));have zi:=hfN yC.out
    go_wp2_with (first |(refine wpList_store_mid rfl 41 (.tmp 2) (.tmp 53) rfl q 0 C.toArray rfl rfl HT.out zi HC1.out ?_;change wpList _ _ _ _ _ (World.setCells _ q 0 C);generalize World.setCells _ _ _ _=wz at HSz ⊢))
    have HA:=zh (HSz.out.li 1 rfl);refine bodyPost_ret (aK rfl rfl HA.out (by rw[List.size_toArray,yC.out])) rfl ?_;rw[HO1.out];exact iO (h:=⟨1,aF,[],⟨⟨xa,xn⟩,⟨ya,yn⟩,mfr,mfc⟩,aH,0⟩) HSz.out yC.out HC1.out (fun hn=>by rw[HCk.out hn];rfl) (by omega) (by omega) (by have:=HF.out.2;omega) (by omega) rfl
end Go.Proofs.YtmgjidnalpgegaaGreatDoor
