/-
  Lemmas, part 4: LexTextsW Addr2 Num11 Addr3 PlainX PlainZ2 Join1 Build2 Csv2 Join2 PFi ShownP RefC PlSim OpenV.
-/
import Derived.Lib.RuneCountTail
import Derived.Lib.TrimU
import Derived.Lib.SpaceUEq
import Derived.Lib.IndexAny
import Derived.Lib.QuoteLoop
import Derived.Laws.OwnMore
import Derived.Test.YtjfihpaeglpblaaGreatDoorCards
import Derived.ProofKit
import Derived.OpenShut
import Derived.ShutString
import Derived.Deep.DeepHandedRow
import Derived.Test.YtjfihpaeglpblaaGreatDoorRf3
set_option maxHeartbeats 100000000
set_option maxRecDepth 1000000
namespace Go.Proofs.YtjfihpaeglpblaaGreatDoor
open Go.RowKit
def InBytes(w:World)(A:Option Addr)(b:Bs):Prop:=0<b.length->∃ g o,A=some ⟨g,o,none⟩/\g<w.heap.size/\∀ j (h:j<b.length),w.cell? ⟨g,o+j,none⟩=some (.int .u8 (b[j].toNat:Int))
theorem InBytes.conv{w:World}{A:Option Addr}{b:Bs}(h:InBytes w A b)(cap:Nat):(convert 110 9 (.slice A b.length cap)).run Tryz.prog w=.ok (vT b) w:=by
 rcases Nat.eq_zero_or_pos b.length with h0|h0
 ·obtain rfl:b=[]:=List.eq_nil_of_length_eq_zero h0;cases A with
  |none=>
   rw[run_convert_bytes_string w 110 9 5 none _ cap Tryz.underlying110 Tryz.underlying5 Tryz.underlying9];simp[Conv.bytesToString];rfl
  |some a=>exact run_convert_bytes_back w 110 9 5 a cap [] Tryz.underlying110 Tryz.underlying5 Tryz.underlying9 (fun j hj=>by simp at hj)
 obtain⟨g,o,rfl,hg,hc⟩:=h h0;refine run_convert_bytes_back w 110 9 5 ⟨g,o,none⟩ cap b Tryz.underlying110 Tryz.underlying5 Tryz.underlying9 (fun j hj=>?_);rw[<- hc j hj];unfold Addr.add;by_cases e:j=0
 ·simp[e]
 simp[e]
theorem below_grow(w:World)(os:Array Obj):Below w.heap.size w (Sort.grow w os) :=
 ⟨rfl,rfl,rfl,by simp[Sort.grow],fun k hk=>by unfold Sort.grow;simp only;rw[Array.getElem?_append_left hk]⟩
theorem mL(n:Nat)(w:World)(hp:PowTab w)(h:n<=1000000000) :
  Calls Tryz.prog 75 #[vI n] w fun e w'=>e=.returned (vT (Lib.decDigits n))/\Below w.heap.size w w' :=
 (Tryz.strconv_Itoa (n:Int) (by omega) (by omega) w hp).mono fun _ _ ⟨h1,k,os,h2⟩=>⟨by rw[h1,Lib.itoa_nonneg],by
  rw[h2];exact(zN (Below.refl _ w) k).trans (below_grow (w.drewN k) os)⟩
theorem longer(wr:World)(A:Option Addr)(L:Bs)(cap:Nat)(vg:InBytes wr A L)(hL:L.length<=2):∃ W:World,
  (Instr.makeSlice 110 (vI ((L.length:Int)+1)) (vI ((L.length:Int)+1))).run Tryz.prog wr=.ok (.slice (some ⟨wr.heap.size,0,none⟩) (L.length+1) (L.length+1)) W /\
  W.cell? ⟨wr.heap.size,0,none⟩=some (.int .u8 0)/\W.frozen? ⟨wr.heap.size,0,none⟩=false /\
  ∀ (c:UInt8) (ty:TypeId),∃ W2:World,(∀ d,L=[]\/d=1->(Builtin.copy_ #[110,110] ty #[.slice (some ⟨wr.heap.size,d,none⟩) L.length L.length,.slice A L.length cap]).run Tryz.prog (W.setCell ⟨wr.heap.size,0,none⟩ (.int .u8 (c.toNat:Int)))=.ok (vI L.length) W2) /\
   InBytes W2 (some ⟨wr.heap.size,0,none⟩) (c::L)/\Below wr.heap.size wr W2:=by
 obtain⟨i0,hi,m6,ix,ku⟩:=info_parts qY;have h:=run_make (P:=Tryz.prog) wr 110 5 i0 (.int .u8 0) Tryz.underlying110 hi m6 .i64 .i64 ((L.length:Int)+1) ((L.length:Int)+1) (by omega) (Int.le_refl _) (by rw[ku];omega) (by omega);have e:((L.length:Int)+1).toNat=L.length+1:=by omega
 rw[e,ix,Nat.mul_one]at h;have hl:=Lies.new wr 5 (madeCells (Value.int .u8 0).cells (L.length+1));have ap:(madeCells (Value.int .u8 0).cells (L.length+1)).size=L.length+1:=by simp[madeCells,Value.cells]
 refine⟨_,h,?_,hl.frozen 0,fun c ty=>?_⟩
 ·rw[hl.cell];simp[madeCells,Value.cells]
 have hl2:=hl.put 0 (.int .u8 (c.toNat:Int));have hM1:((madeCells (Value.int .u8 0).cells (L.length+1)).setIfInBounds 0 (.int .u8 (c.toNat:Int))).size=L.length+1:=by rw[Array.size_setIfInBounds,ap]
 have hM0:((madeCells (Value.int .u8 0).cells (L.length+1)).setIfInBounds 0 (.int .u8 (c.toNat:Int)))[0]?=some (.int .u8 (c.toNat:Int)):=by rw[Array.getElem?_setIfInBounds,if_pos rfl,if_pos (by rw[ap];omega)]
 have cu:Below wr.heap.size wr ((wr.alloc (.cells (madeCells (Value.int .u8 0).cells (L.length+1)) 5)).setCell ⟨wr.heap.size,0,none⟩ (.int .u8 (c.toNat:Int))) :=
  ((Below.refl _ wr).alloc zr _).setCell (p:=⟨wr.heap.size,0,none⟩) zr _
 generalize ((madeCells (Value.int .u8 0).cells (L.length+1)).setIfInBounds 0 (.int .u8 (c.toNat:Int)))=M at *;generalize ((wr.alloc (.cells (madeCells (Value.int .u8 0).cells (L.length+1)) 5)).setCell ⟨wr.heap.size,0,none⟩ (.int .u8 (c.toNat:Int)))=W1 at *;have fe:(Tryz.prog.info? 5).map (·.size)=some 1:=by rw[hi];simp[ix]
 rcases Nat.eq_zero_or_pos L.length with h0|h0
 ·obtain rfl:L=[]:=List.eq_nil_of_length_eq_zero h0;refine⟨W1,fun d _=>?_,?_,cu⟩
  ·exact run_copy_none W1 110 110 ty 5 (some ⟨wr.heap.size,d,none⟩) A 0 0 0 cap Tryz.underlying110 fe rfl
  intro _;refine⟨wr.heap.size,0,rfl,hl2.lt,fun j hj=>?_⟩;obtain rfl:j=0:=by simpa using hj
  rw[hl2.cell];exact hM0
 obtain⟨g,o,rfl,hg,hc⟩:=vg h0;have hin1:∀ j (h:j<L.length),W1.cell? ⟨g,o+j,none⟩=some (.int .u8 (L[j].toNat:Int)):=fun j hj=>(cu.cell (p:=⟨g,o+j,none⟩) hg).trans (hc j hj)
 have qv:=run_copy_row (P:=Tryz.prog) W1 110 110 ty 5 wr.heap.size 1 L.length L.length ⟨g,o,none⟩ L.length cap _ 5 (L.map fun b=>Value.int .u8 (b.toNat:Int)) Tryz.underlying110 fe hl2
  (by rw[List.length_map];exact(Nat.min_self _).symm) (fun j v hv=>by
   obtain⟨b,hb,rfl⟩:=by simpa using hv
   have hj:j<L.length:=by
    rcases Nat.lt_or_ge j L.length with h'|h'
    ·exact h'
    rw[List.getElem?_eq_none h']at hb;cases hb
   rw[List.getElem?_eq_getElem hj]at hb;have um:L[j]=b:=by injection hb
   rw[<- um,<- hin1 j hj];unfold Addr.add;by_cases e:j=0
   ·simp[e]
   simp[e]) (by rw[List.length_map,hM1];omega) (fun v hv=>by obtain⟨b,_,rfl⟩:=yj.1 hv;rfl)
 rw[List.length_map]at qv;refine⟨W1.setRow wr.heap.size (M.toList.take 1++(L.map fun b=>Value.int .u8 (b.toNat:Int))++M.toList.drop (1+L.length)).toArray,fun d hd=>?_,?_,?_⟩
 ·rcases hd with hd|rfl
  ·rw[hd]at h0;simp at h0
  exact qv
 ·intro _;refine⟨wr.heap.size,0,rfl,?_,fun j hj=>?_⟩
  ·have:=hl2.lt;simpa [World.setRow] using this
  have bp:Lies (W1.setRow wr.heap.size (M.toList.take 1++(L.map fun b=>Value.int .u8 (b.toNat:Int))++M.toList.drop (1+L.length)).toArray) wr.heap.size 5 (M.toList.take 1++(L.map fun b=>Value.int .u8 (b.toNat:Int))++M.toList.drop (1+L.length)).toArray:=by
   unfold Lies at hl2 ⊢;simp[World.setRow,Array.getElem?_modify,hl2]
  have ht:M.toList.take 1=[.int .u8 (c.toNat:Int)]:=by
   rw[List.take_one];have:M.toList.head?=M[0]?:=by rw[List.head?_eq_getElem?];simp
   rw[this,hM0];rfl
  rw[bp.cell,ht,Nat.zero_add];cases j with
  |zero=>rfl
  |succ j=>
   have hj':j<L.length:=by simpa using hj
   rw[List.append_assoc,List.singleton_append,za,zf,List.getElem?_append_left (by simpa using hj')];simp[hj']
 refine cu.trans ⟨rfl,rfl,rfl,by simp[World.setRow],fun k hk=>?_⟩;simp only[World.setRow,Array.getElem?_modify];rw[if_neg (by omega)]
theorem uAI(d:Nat):((UInt8.ofNat (65+d % 26)).toNat:Int)=65+(d:Int) % 26:=by
 rw[(cap_of (d % 26) (by omega)).2];omega
theorem jY(col:Nat)(w:World)(hc:col<=18277) :
  Calls Tryz.prog 76 #[vI col] w fun e w'=>e=.returned (vT (eH (col+1)))/\Below w.heap.size w w':=by
 have dy:(col:Int)<=18277:=by omega
 have hl3:=iG (col+1) (by omega)
 go_in
 go_wp2_with fail
 refine(gS 0 (col:Int) _ (by omega) (by omega) (by omega) dy).mono ?_;rintro e w1 ⟨rfl,rfl⟩
 go_wp2_with fail
 go_loopw [0,3] (fun i v wr=>∃ (c:Nat) (A:Option Addr) (L:Bs) (cap:Nat),i=vI ((c:Int)-1)/\v=.slice A L.length cap/\c<=18278/\Hid (eH c++L=eH (col+1))/\Hid (InBytes wr A L)/\Hid (Below w.heap.size w wr)) (fun i _ _=>(intOf i+1).toNat)
 case atStart=>exact⟨col+1,none,[],0,by go_num,rfl,by omega,zh (by simp),zh (fun h=>by simp at h),zh zB⟩
 case round=>
  obtain⟨c,A,L,cap,rfl,rfl,m8,HL,HI,HB⟩:=hrel;cases c with
  |zero=>
   have hconv:=InBytes.conv HI.out cap
   have HE:Hid (L=eH (col+1)):=zh (by have:=HL.out;rw[fW]at this;exact this);rw[show ((0:Nat):Int)-1=-1 from rfl]
   go_wp2_with fail
   go_ret
   exact⟨congrArg (fun l:Bs=>Ending.returned (vT l)) HE.out,HB.out⟩
  |succ d=>
   rw[show ((d+1:Nat):Int)-1=(d:Int) by omega];have hLl:L.length<=2:=by
    have h1:=congrArg List.length HL.out;rw[yl]at h1;have:=wZ (d+1) (by omega);omega
   have gw:Hid (eH (d / 26)++(UInt8.ofNat (65+d % 26)::L)=eH (col+1)):=zh (by
    rw[<- HL.out,fV (d+1) (by omega)];simp)
   obtain⟨W,hmk,oo,hf0,hcp⟩:=longer wr A L cap HI.out hLl;obtain⟨W2,hcp,hin2,hb2⟩:=hcp (UInt8.ofNat (65+d % 26)) 3;have HIN2:=zh hin2;have ba:=zT HB hb2;rw[uAI d]at hcp;have qy:((d:Int))<=18277:=by omega
   have HCP:=zh hcp;clear hcp hin2 hb2 HL HI HB;rcases Nat.eq_zero_or_pos L.length with h0|h0
   ·obtain rfl:L=[]:=List.eq_nil_of_length_eq_zero h0;simp only[List.length_nil,Int.natCast_zero,Int.zero_add,Nat.zero_add]at *;have hcp:=HCP.out 0 (.inl trivial);clear h0
    go_wp2_with fail
    go_roundw
    case rel=>exact⟨d / 26,_,[_],_,by go_num,rfl,by omega,gw,HIN2,ba⟩
    case measure=>simp[intOf];omega
   have cg:¬ L.length=0:=by omega
   have hcp:=HCP.out 1 (.inr rfl)
   go_wp2_with fail
   go_roundw
   case rel=>exact⟨d / 26,_,_::L,_,by go_num,by simp;rfl,by omega,gw,HIN2,ba⟩
   case measure=>simp[intOf];omega
theorem Lies.below{w w':World}{g:Nat}{t:TypeId}{cs:Array Value}(h:Lies w g t cs)(hb:Below w.heap.size w w'):Lies w' g t cs:=(hb.block g h.lt).trans h
theorem uEU(m e:Int)(w:World)(h1:-9223372036854775808<m)(h2:m<=9223372036854775807)(hR:bF m e=true) :
  Calls Tryz.prog 192 #[xC m e] w fun x w'=>x=.returned (xC (-m) e)/\Below w.heap.size w w':=by
 have C:=zh (fun W=>oD m e W (by omega) h2);rw[hR]at C;have HB:Hid (Below w.heap.size w ((w.alloc (.cells #[vI m,vI e] 23)).alloc (.cells #[vI 0,vI 0] 23))):=zh (((Below.refl _ w).alloc zr _).alloc (by simp) _);have T0:Hid (NumIn w m e ((w.alloc (.cells #[vI m,vI e] 23)).alloc (.cells #[vI 0,vI 0] 23))):=zh ((NumIn.start w m e).next (zp _));have HL:Hid (Lies ((w.alloc (.cells #[vI m,vI e] 23)).alloc (.cells #[vI 0,vI 0] 23)) (w.heap.size+1) 23 #[vI 0,vI 0]):=zh (by have:=Lies.new (w.alloc (.cells #[vI m,vI e] 23)) 23 #[vI 0,vI 0];simpa using this);clear hR
 go_in
 go_wp2_with fail
 refine(C.out _).mono ?_;rintro x w1 ⟨rfl,hb⟩;have iu:=zh (Lies.below HL.out hb);have T1:=zh (T0.out.next hb);clear hb HB HL T0 C;obtain⟨g0,g1,g2,g3⟩:=T1.out;have q0:=iu.out.cell 0;have q1:=iu.out.cell 1;have f0:=iu.out.frozen 0;have f1:=iu.out.frozen 1;have hlt:=iu.out.lt;have bf:=zh g3;simp only[za,zb,zf]at q0 q1
 go_wp2_with fail
 refine yt (v:=.agg #[vI (-m),vI e]) (by simp[results,Tryz.results192,go_sem,q0,q1]) rfl ?_;exact⟨rfl,((bf.out.setCell (p:=⟨w.heap.size+1,0,none⟩) (Nat.le_succ _) _).setCell (p:=⟨w.heap.size+1,1,none⟩) (Nat.le_succ _) _)⟩
abbrev markV(row col:Int)(fr fc:Bool):Value:=.agg #[vI row,vI col,.bool fr,.bool fc]
def MarkIn(w:World)(row col:Int)(fr fc:Bool)(w':World):Prop:=w.heap.size<w'.heap.size/\w'.cell? ⟨w.heap.size,0,none⟩=some (vI row)/\w'.cell? ⟨w.heap.size,1,none⟩=some (vI col)/\w'.cell? ⟨w.heap.size,2,none⟩=some (.bool fr)/\w'.cell? ⟨w.heap.size,3,none⟩=some (.bool fc)/\Below w.heap.size w w'
theorem MarkIn.start(w:World)(row col:Int)(fr fc:Bool):MarkIn w row col fr fc (w.alloc (.cells #[vI row,vI col,.bool fr,.bool fc] 90)):=⟨by simp,by simp,by simp,by simp,by simp,(Below.refl _ w).alloc zr _⟩
theorem MarkIn.next{w w' w'':World}{row col:Int}{fr fc:Bool}(h:MarkIn w row col fr fc w')(hb:Below w'.heap.size w' w''):MarkIn w row col fr fc w'':=by
 obtain⟨h1,h2,h3,h4,h5,h6⟩:=h;have hs:=hb.size;exact⟨by omega,(hb.cell (p:=⟨_,_,none⟩) h1).trans h2,(hb.cell (p:=⟨_,_,none⟩) h1).trans h3,(hb.cell (p:=⟨_,_,none⟩) h1).trans h4,(hb.cell (p:=⟨_,_,none⟩) h1).trans h5,zU h6 hb⟩
theorem MarkIn.drew{w w':World}{row col:Int}{fr fc:Bool}(h:MarkIn w row col fr fc w'):MarkIn w row col fr fc w'.drew:=h.next zB.drew
theorem vA(row col:Nat)(fr fc:Bool)(w:World)(hp:PowTab w)(hr:row<=9999998)(hc:col<=18277) :
  Calls Tryz.prog 77 #[markV row col fr fc] w fun e w'=>e=.returned (vT (mO row col fr fc))/\Below w.heap.size w w':=by
 have T0:=zh (MarkIn.start w row col fr fc);have mg:Hid (PowTab (w.alloc (.cells #[vI row,vI col,.bool fr,.bool fc] 90))):=zh (hp.next T0.out.2.2.2.2.2);have hri:(row:Int)<=9999998:=by omega
 have dy:(col:Int)<=18277:=by omega
 have CL:=zh (fun W=>jY col W hc);have CD1:=zh (fun W=>qS fr W);have CD2:=zh (fun W=>qS fc W);have CI:Hid (∀ W,PowTab W->Calls Tryz.prog 75 #[vI ((row:Int)+1)] W fun e w'=>e=.returned (vT (Lib.decDigits (row+1)))/\Below W.heap.size W w'):=zh (fun W h=>mL (row+1) W h (by omega));have HE:Hid (qR fc++(eH (col+1)++(qR fr++Lib.decDigits (row+1)))=mO row col fr fc):=zh rfl;have hwr:IntKind.i64.wrap ((row:Int)+1)=(row:Int)+1:=IntWalk.i64_in _ (by omega);have qw:∀ b,(qR b).length<=1:=fun b=>by cases b <;> decide
 have si:=qw fr;have hd2:=qw fc;have hd3:=iG (col+1) (by omega);have hd4:=cO (row+1) 6 (by omega);clear qw;generalize qR fr=P at *;generalize qR fc=R at *;generalize mO row col fr fc=M at *;generalize eH (col+1)=L at *;generalize Lib.decDigits (row+1)=D at *;have k1:¬ 9223372036854775807<R.length+L.length:=by omega
 have k2:¬ 9223372036854775807<R.length+L.length+P.length:=by omega
 have k3:¬ 9223372036854775807<R.length+(L.length+P.length)+D.length:=by omega
 clear hp hr hc;obtain⟨g0,g1,g2,g3,g4,g5⟩:=T0.out
 go_in
 go_wp2_with fail
 refine(gS (row:Int) (col:Int) _ (by omega) hri (by omega) dy).mono ?_;rintro e w1 ⟨rfl,rfl⟩;generalize hW:w.alloc (.cells #[vI (row:Int),vI (col:Int),.bool fr,.bool fc] 90)=W at *;clear hW;have HP9:Hid (PowTab W.drew):=mg
 go_wp2_with fail
 go_region_held3 (fun w'=>w.heap.size<w'.heap.size/\w'.cell? ⟨w.heap.size,0,none⟩=some (vI (row:Int))/\w'.cell? ⟨w.heap.size,1,none⟩=some (vI (col:Int))/\w'.cell? ⟨w.heap.size,2,none⟩=some (.bool fr)/\w'.cell? ⟨w.heap.size,3,none⟩=some (.bool fc)/\Below w.heap.size w w')
  (first|exact T0.out|exact T0.out.drew|exact(MarkIn.next T0.out.drew hb) |(go_split_ands;exact(MarkIn.next (w:=w) ⟨by assumption,by assumption,by assumption,by assumption,by assumption,by assumption⟩ hb))|assumption)
  (first
   |(go_at_call 76;(with_reducible refine(CL.out _).mono ?_);rintro e wx ⟨rfl,hb⟩;have wm:=zh (HP9.out.next hb))
   |(go_at_call 75;(with_reducible refine(CI.out _ wm.out).mono ?_);rintro e wx ⟨rfl,hb⟩)
   |(go_at_call 141;(with_reducible refine(CD1.out _).mono ?_);rintro e wx ⟨rfl,rfl⟩)
   |(go_at_call 141;(with_reducible refine(CD2.out _).mono ?_);rintro e wx ⟨rfl,rfl⟩))
 all_goals go_wp2_with fail
 all_goals go_ret
 all_goals refine⟨congrArg (fun l:Bs=>Ending.returned (vT l)) HE.out,?_⟩
 all_goals first|assumption |(go_split_ands;assumption)
theorem uDE(l:Bs)(c:UInt8)(h:c∈l):0<=Lib.indexByte l c:=by
 rcases Int.lt_or_le (Lib.indexByte l c) 0 with h1|h1
 ·exact absurd h (idx_no l c h1)
 exact h1
theorem mem_idx(l:Bs)(c:UInt8)(h:0<=Lib.indexByte l c):c∈l:=by
 obtain⟨n,_,h2,_,h4⟩:=uDF l c h;rw[h4];simp
def kt(t:Tok):Nat×Bs:=(t.kind,t.text)
structure RTok where
 kind:Int
 text:Bs
 place:Int
def RTok.cells(t:RTok):Array Value:=#[vI t.kind,vT t.text,vI t.place]
def sP(k:Int):Bool:=k==1||k==3||k==4
def qJ(k:Int)(t set:Bs):Bool:=k==5&&!t.isEmpty&&set.contains (t.headD 0)
def lL(a b:RTok):Bool :=
 if sP a.kind then sP b.kind else if a.kind==2 then b.kind==2 else if a.kind != 5 then false
 else if a.text==[60] then qJ b.kind b.text [61,62] else if a.text==[62] then qJ b.kind b.text [61] else if a.text==[35] then b.kind==3 else false
theorem sQ(k:Int)(t:Bs)(p:Int)(w:World) :
  Calls Tryz.prog 104 #[.agg #[vI k,vT t,vI p]] w fun e w'=>e=.returned (.bool (sP k))/\Below w.heap.size w w':=by
 obtain⟨r,hr⟩:=zE (sP k)
 have HR:=zh hr;rw[hr];clear hr;cases h1:(k==1) <;> cases h3:(k==3) <;> cases h4:(k==4)
 all_goals
  have HV:=zh HR.out;rw[sP,h1,h3,h4]at HV
  go_in
  go_wp2_with fail
  go_ret
  exact⟨aA (HV.out.symm ▸ rfl),(Below.refl _ w).alloc zr _⟩
theorem vG(set:Bs)(c:UInt8):decide (0<=Lib.indexByte set c)=set.contains c:=by
 rw[ze,decide_eq_true_eq,List.contains_iff_mem];exact⟨mem_idx set c,uDE set c⟩
theorem oO(set:Bs)(b:Nat)(k:Int)(t:Bs)(w:World)(h0:w.cell? ⟨b,0,none⟩=some (vI k))(h1:w.cell? ⟨b,1,none⟩=some (vT t)) :
  Calls Tryz.prog 105 #[vT set,vP b 0] w fun e w'=>e=.returned (.bool (qJ k t set))/\w=w':=by
 cases h5:(k==5)
 ·have HV:Hid (qJ k t set=false):=zh (by unfold qJ;rw[h5];rfl)
  go_in
  go_wp2_with fail
  go_ret
  exact⟨aA HV.out.symm,rfl⟩
 cases t with
 |nil=>
  have HV:Hid (qJ k [] set=false):=zh (by unfold qJ;simp)
  go_in
  go_wp2_with fail
  go_ret
  exact⟨aA HV.out.symm,rfl⟩
 |cons c r=>
  have HV:Hid (qJ k (c::r) set=decide (0<=Lib.indexByte set c)):=zh (by unfold qJ;rw[h5,vG];simp)
  go_in
  go_wp2_with fail
  refine(tA set c _).mono ?_;rintro e w' ⟨rfl,rfl⟩;generalize Lib.indexByte set c=i at *
  go_wp2_with fail
  all_goals
   go_ret
   exact⟨aA (by rw[HV.out]),rfl⟩
def TwoTok(w:World)(a b:RTok)(w':World):Prop:=Lies w' w.heap.size 64 a.cells/\Lies w' (w.heap.size+1) 64 b.cells/\Below w.heap.size w w'
theorem TwoTok.start(w:World)(a b:RTok):TwoTok w a b ((w.alloc (.cells a.cells 64)).alloc (.cells b.cells 64)) :=
 ⟨(Lies.new w _ _).alloc _,by have:=Lies.new (w.alloc (.cells a.cells 64)) 64 b.cells;simpa using this,((Below.refl _ w).alloc zr _).alloc (by simp) _⟩
theorem TwoTok.next{w w' w'':World}{a b:RTok}(h:TwoTok w a b w')(hb:Below w'.heap.size w' w''):TwoTok w a b w'' :=
 ⟨h.1.below hb,h.2.1.below hb,h.2.2.trans (hb.mono h.2.2.size)⟩
theorem TwoTok.seen{w w':World}{a b:RTok}(h:TwoTok w a b w'):w'.cell? ⟨w.heap.size,0,none⟩=some (vI a.kind)/\w'.cell? ⟨w.heap.size,1,none⟩=some (vT a.text)/\w'.cell? ⟨w.heap.size,2,none⟩=some (vI a.place) /\
  w'.cell? ⟨w.heap.size+1,0,none⟩=some (vI b.kind)/\w'.cell? ⟨w.heap.size+1,1,none⟩=some (vT b.text)/\w'.cell? ⟨w.heap.size+1,2,none⟩=some (vI b.place)/\w.heap.size+1<w'.heap.size :=
 ⟨h.1.cell 0,h.1.cell 1,h.1.cell 2,h.2.1.cell 0,h.2.1.cell 1,h.2.1.cell 2,h.2.1.lt⟩
theorem uDW(a b:RTok)(w:World) :
  Calls Tryz.prog 54 #[.agg a.cells,.agg b.cells] w fun e w'=>e=.returned (.bool (lL a b))/\Below w.heap.size w w':=by
 have T0:=zh (TwoTok.start w a b);obtain⟨ka,ta,pa⟩:=a;obtain⟨kb,tb,pb⟩:=b;simp only[RTok.cells]at *;have CA:=zh (fun W=>sQ ka ta pa W);have CB:=zh (fun W=>sQ kb tb pb W);obtain⟨r,hr⟩:=zE (lL ⟨ka,ta,pa⟩ ⟨kb,tb,pb⟩)
 rw[hr];unfold lL at hr;simp only at hr;cases hw:sP ka
 ·rw[hw,if_neg (by decide)]at hr;rw[hw]at CA;have fin:∀ (x2 x5 y1 y2 y3:Bool),(ka==2)=x2->(ka != 5)=x5->(ta==[60])=y1->(ta==[62])=y2->(ta==[35])=y3 ->
    Hid ((if x2=true then kb==2 else if x5=true then false else if y1=true then qJ kb tb [61,62] else if y2=true then qJ kb tb [61] else if y3=true then kb==3 else false)=r) ->
    Calls Tryz.prog 54 #[.agg #[vI ka,vT ta,vI pa],.agg #[vI kb,vT tb,vI pb]] w fun e w'=>e=.returned (.bool r)/\Below w.heap.size w w':=by
   intro x2 x5 y1 y2 y3 e2 e5 f1 f2 f3 HR;clear hr hw CB;cases x2
   ·cases x5
    ·cases y1
     ·cases y2
      ·cases y3
       all_goals
        go_in
        go_wp2_with fail
        refine(CA.out _).mono ?_;rintro e w1 ⟨rfl,hb⟩;have T1:=zh (T0.out.next hb);clear hb T0;obtain⟨g0,g1,g2,g3,g4,g5,g6⟩:=TwoTok.seen T1.out;simp only at g0 g1 g2 g3 g4 g5
        go_wp2_with fail
        go_ret
        exact⟨aA HR.out,T1.out.2.2⟩
      go_in
      go_wp2_with fail
      refine(CA.out _).mono ?_;rintro e w1 ⟨rfl,hb⟩;have T1:=zh (T0.out.next hb);clear hb T0;obtain⟨g0,g1,g2,g3,g4,g5,g6⟩:=TwoTok.seen T1.out;simp only at g0 g1 g2 g3 g4 g5
      go_wp2_with fail
      refine(oO [61] _ _ _ _ g3 g4).mono ?_;rintro e w2 ⟨rfl,rfl⟩
      go_wp2_with fail
      go_ret
      exact⟨aA HR.out,T1.out.2.2⟩
     go_in
     go_wp2_with fail
     refine(CA.out _).mono ?_;rintro e w1 ⟨rfl,hb⟩;have T1:=zh (T0.out.next hb);clear hb T0;obtain⟨g0,g1,g2,g3,g4,g5,g6⟩:=TwoTok.seen T1.out;simp only at g0 g1 g2 g3 g4 g5
     go_wp2_with fail
     refine(oO [61,62] _ _ _ _ g3 g4).mono ?_;rintro e w2 ⟨rfl,rfl⟩
     go_wp2_with fail
     go_ret
     exact⟨aA HR.out,T1.out.2.2⟩
    go_in
    go_wp2_with fail
    refine(CA.out _).mono ?_;rintro e w1 ⟨rfl,hb⟩;have T1:=zh (T0.out.next hb);clear hb T0;obtain⟨g0,g1,g2,g3,g4,g5,g6⟩:=TwoTok.seen T1.out;simp only at g0 g1 g2 g3 g4 g5
    go_wp2_with fail
    go_ret
    exact⟨aA HR.out,T1.out.2.2⟩
   go_in
   go_wp2_with fail
   refine(CA.out _).mono ?_;rintro e w1 ⟨rfl,hb⟩;have T1:=zh (T0.out.next hb);clear hb T0;obtain⟨g0,g1,g2,g3,g4,g5,g6⟩:=TwoTok.seen T1.out;simp only at g0 g1 g2 g3 g4 g5
   go_wp2_with fail
   go_ret
   exact⟨aA HR.out,T1.out.2.2⟩
  exact fin _ _ _ _ _ rfl rfl rfl rfl rfl (zh hr)
 rw[hw,if_pos rfl]at hr;have HR:=zh hr;rw[hw]at CA;clear hr hw
 go_in
 go_wp2_with fail
 refine(CA.out _).mono ?_;rintro e w1 ⟨rfl,hb⟩;have T1:=zh (T0.out.next hb);clear hb T0;obtain⟨g0,g1,g2,g3,g4,g5,g6⟩:=TwoTok.seen T1.out;simp only at g0 g1 g2 g3 g4 g5
 go_wp2_with fail
 refine(CB.out _).mono ?_;rintro e w2 ⟨rfl,hb⟩;have T2:=zh (T1.out.next hb);clear hb T1 g0 g1 g2 g3 g4 g5 g6
 go_wp2_with fail
 go_ret
 exact⟨aA HR.out,T2.out.2.2⟩
theorem sY(B b k:Nat)(bs:List Value)(w:World)(h:Lib.IsBuilder 112 5 B b bs w)(hk:k≠b) :
  Calls Tryz.prog 107 #[vP b 0] w fun e w'=>e=.returned (.tuple #[])/\(Lib.BuilderAt 112 5 B b (vP b 0) bs w'/\Below B w w'/\w'.heap[k]?=w.heap[k]?/\w'.cell? ⟨b,1,none⟩=w.cell? ⟨b,1,none⟩):=by
 rcases h with h|h
 ·refine(jG b w h.cell0 h.shape h.frozen0).mono ?_;rintro e w' ⟨rfl,rfl⟩;exact⟨rfl,h.used _,(Below.refl B w).setCell (p:=⟨b,0,none⟩) h.1 _,Below.heap_setCell w ⟨b,0,none⟩ _ k hk,World.cell?_setCell_other w ⟨b,0,none⟩ ⟨b,1,none⟩ _ (by intro e;injection e with _ e;cases e)⟩
 refine(jR b w h.cell0).mono ?_;rintro e w' ⟨rfl,rfl⟩;exact⟨rfl,h,Below.refl B _,rfl,rfl⟩
theorem tI(B b k:Nat)(l:Bs)(c:UInt8)(w:World)(rg:k≠b)(vm:k<w.heap.size)(hkv:Hid (∀ v,w.cell? ⟨b,1,none⟩=some v->v.ownBlock≠some k))(h:Lib.IsBuilder 112 5 B b (Lib.byteCells l) w)(hlen:l.length+1<=140737488355328)(hBw:B<=w.heap.size) :
  Calls Tryz.prog 55 #[vP b 0,.int .u8 (c.toNat:Int)] w fun e w'=>e=.returned .nilIface/\(Lib.IsBuilder 112 5 B b (Lib.byteCells (l++[c])) w'/\Below B w w'/\w'.heap[k]?=w.heap[k]?):=by
 have sj:(Lib.byteCells l).length=l.length:=Lib.byteCells_length l;have e1:Lib.byteCells (l++[c])=Lib.byteCells l++[.int .u8 (c.toNat:Int)]:=by simp[Lib.byteCells]
 have hlen:(Lib.byteCells l).length+1<=140737488355328:=by omega
 have E1:=zh e1;clear sj e1;generalize Lib.byteCells l=bs at *;obtain⟨i0,hi,m6,ix,ku⟩:=info_parts qY
 go_in
 go_wp2_with (go_at_call 107;refine(sY B b k bs _ h rg).mono ?_)
 rintro e w1 ⟨rfl,h1,ab,fw,du⟩;have HK1:=zh fw;have kz:=zh du;clear fw du;obtain⟨hB,v,fu,az,cg⟩:=h1;have c0:w1.cell? ⟨b,0,none⟩=some (vP b 0):=by rw[Lib.cell_of_heap fu];rfl
 have c1:w1.cell? ⟨b,1,none⟩=some v:=by rw[Lib.cell_of_heap fu];rfl
 go_wp2_with (at_builtin;refine wpList_append_own _ rfl _ _ 110 rfl B 5 i0 (.int .u8 0) 1 1 Tryz.underlying110 hi m6 ix ku rfl (by decide) _ _ _ rfl (az.alloc _) ⟨w1.heap.size,0,none⟩ 1 1 [.int .u8 (c.toNat:Int)] rfl rfl ?c1 ?c2 ?c3 ?c4 ?c5 ?_)
 case c1=>
  intro j u hj
  match j,hj with
  |0,hj=>simp at hj;subst hj;simp[Addr.add]
 case c2=>intro u hu;simp at hu;subst hu;rfl
 case c3=>unfold maxLen;omega
 case c4=>omega
 case c5=>have:=ab.size;simp;omega
 intro v' w2 ee dg _;have hlt:b<w1.heap.size:=by
  rcases Nat.lt_or_ge b w1.heap.size with h'|h'
  ·exact h'
  simp[Array.getElem?_eq_none h']at fu
 have hb2:w2.heap[b]?=some (.cells #[vP b 0,v] 112 (0,0)):=by
  rw[dg.block b (by simp;omega) (fun e=>cg e.symm),Lib.alloc_old w1 _ b hlt];exact fu
 have d0:w2.cell? ⟨b,0,none⟩=some (vP b 0):=by rw[Lib.cell_of_heap hb2];rfl
 have d1:w2.cell? ⟨b,1,none⟩=some v:=by rw[Lib.cell_of_heap hb2];rfl
 have f1:w2.frozen? ⟨b,1,none⟩=false:=Lib.frozen_of_heap hb2 1;obtain⟨g,cap,rfl⟩:∃ g cap,v'=.slice (some ⟨g,0,none⟩) (bs.length+1) cap:=by
  rcases ee.2 with⟨_,h0⟩|⟨g,cap,cur,hv,_⟩
  ·omega
  exact⟨g,cap,hv⟩
 go_wp2
 go_ret
 refine⟨rfl,?_,?_,?_⟩
 ·rw[E1.out];exact .inr (Lib.BuilderAt.put (T:=112) (e:=5) hB hb2 (bs':=bs++[.int .u8 (c.toNat:Int)]) (by simpa using ee) (by decide))
 ·exact((ab.alloc (by have:=ab.size;omega) _).grown dg (by have:=ab.size;simp;omega) (fun k hk=>(az.lt k hk).1)).setCell (p:=⟨b,1,none⟩) hB _
 have hvk:v.ownBlock≠some k:=hkv.out v (by rw[<- kz.out];exact c1);have hk1s:k<w1.heap.size:=yu vm ab.size;rw[Below.heap_setCell _ ⟨b,1,none⟩ _ k rg,dg.block k (by simp;omega) (fun e=>hvk e.symm),Below.heap_alloc w1 _ k hk1s];exact HK1.out
theorem IsBuilder.notBuf{B b:Nat}{bs:List Value}{w w':World}(h:Lib.IsBuilder 112 5 B b bs w)(hb:Below w.heap.size w w'):∀ v,w'.cell? ⟨b,1,none⟩=some v->v.ownBlock≠some w.heap.size:=by
 have key:∀ p,Lib.BuilderAt 112 5 B b p bs w->∀ v,w'.cell? ⟨b,1,none⟩=some v->v.ownBlock≠some w.heap.size:=by
  rintro p ⟨_,u,fu,az,_⟩ v hv hk;have hlt:b<w.heap.size:=(zk.1 fu).1;have h1:w.cell? ⟨b,1,none⟩=some u:=by rw[Lib.cell_of_heap fu];rfl
  rw[hb.cell (p:=⟨b,1,none⟩) hlt,h1]at hv;injection hv with hv;subst hv;have:=(az.lt _ hk).2;omega
 rcases h with h|h
 ·exact key _ h
 exact key _ h
theorem IsBuilder.next{B b:Nat}{bs:List Value}{w w':World}(h:Lib.IsBuilder 112 5 B b bs w)(hb:Below w.heap.size w w'):Lib.IsBuilder 112 5 B b bs w':=by
 have key:∀ p,Lib.BuilderAt 112 5 B b p bs w->Lib.BuilderAt 112 5 B b p bs w':=by
  rintro p ⟨h1,u,fu,az,h2⟩;have hlt:b<w.heap.size:=(zk.1 fu).1;exact⟨h1,u,(hb.block b hlt).trans fu,aL hb az,h2⟩
 rcases h with h|h
 ·exact .inl (key _ h)
 exact .inr (key _ h)
theorem uK(l:Bs)(h:34∉l):cB l=l:=by
 induction l with
 |nil=>rfl
 |cons c l ih=>
  simp only[cB];rw[if_neg (fun e=>h (by rw[e];simp)),ih (fun hm=>h (by simp[hm]))]
theorem kC:∀ (k:Nat) (s:Bs),s.count 34=k->Lib.replaceK [34] [34,34] k s=cB s
 |0,s,h=>by
  rw[Lib.replaceK,uK s (List.count_eq_zero.1 h)]
 |k+1,s,h=>by
  have hm:34∈s:=List.count_pos_iff.1 (by omega);obtain⟨n,h1,h2,h3,h4⟩:=uDF s 34 (uDE s 34 hm);have hi:Lib.index s [34]=n:=by rw[Lib.index_one];exact h1
  rw[Lib.replaceK_hit [34] [34,34] k s n hi];have hc:(s.drop (n+1)).count 34=k:=by
   have:=congrArg (List.count 34) h4;rw[List.count_append,List.count_cons,List.count_eq_zero.2 h3]at this;simp at this;omega
  have hq:cB s=cB (s.take n)++(34::34::cB (s.drop (n+1))):=by
   have e:cB (34::s.drop (n+1))=34::34::cB (s.drop (n+1)):=by simp[cB]
   rw[<- e,<- uBF,<- h4]
  rw[hq,uK _ h3,show n+([34]:Bs).length=n+1 from rfl,kC k _ hc];simp
theorem nY(s:Bs):Lib.replaceAll s [34] [34,34]=cB s:=by
 unfold Lib.replaceAll Lib.replace;rw[if_neg (by decide)];unfold Lib.replaceNum;rw[if_pos (.inl (by decide)),Lib.count_one];exact kC _ s rfl
theorem sC(s:Bs)(w:World)(hs:s.length<=1000000)(hm:MaxVar w) :
  Calls Tryz.prog 57 #[vT s,vS #[34],vS #[34,34]] w fun e w'=>e=.returned (vT (cB s))/\Below w.heap.size w w':=by
 obtain⟨m,hm⟩:=hm;have ap:(ByteArray.mk s.toArray).size=s.length:=by simp[ByteArray.size]
 have hc:Lib.countB ⟨s.toArray⟩ ⟨#[34]⟩<=s.length+1:=Lib.count_le _ _;have h2:(ByteArray.mk #[34,34]).size=2:=rfl;refine(Tryz.strings_ReplaceAll ⟨s.toArray⟩ ⟨#[34]⟩ ⟨#[34,34]⟩ m w (by rw[ap];omega) hm (by decide) (by rw[ap,h2];omega)).mono ?_;rintro e w' ⟨rfl,hb⟩;exact⟨by rw[show (ByteArray.mk s.toArray).data.toList=s from rfl,show (ByteArray.mk #[34]).data.toList=[34] from rfl,show (ByteArray.mk #[34,34]).data.toList=[34,34] from rfl,nY],hb⟩
def kY(t:RTok):Bs:=if t.kind==2 then 34::(cB t.text++[34]) else t.text
def pV:Option RTok->RTok->Bs
 |none,_=>[]
 |some a,b=>if lL a b then [32] else []
def dN:Option RTok->List RTok->Bs
 |_,[]=>[]
 |p,t::r=>pV p t++(kY t++dN (some t) r)
def dE:Option RTok->List RTok->Option RTok
 |p,[]=>p
 |_,t::r=>dE (some t) r
theorem rE(t:RTok):∀ (l:List RTok) (p:Option RTok),dN p (l++[t])=dN p l++(pV (dE p l) t++kY t)
 | [],p=>by simp[dN,dE]
 |a::l,p=>by
  rw[yp,dN,dN,rE t l (some a),dE];simp
theorem oX(t:RTok):∀ (l:List RTok) (p:Option RTok),dE p (l++[t])=some t
 | [],p=>rfl
 |a::l,p=>by rw[yp,dE,oX t l]
def uDJ:Option RTok->RTok->Bool
 |none,_=>false
 |some a,b=>lL a b
theorem oF(p:Option RTok)(t:RTok):pV p t=if uDJ p t then [32] else []:=by cases p <;> rfl
theorem wY(ts:List RTok)(j:Nat)(h:j<ts.length):dE none (ts.take (j+1))=some ts[j]:=by
 rw[yw h,oX]
theorem outZ_len(t:RTok)(h:t.text.length<=1000):(kY t).length<=2002:=by
 unfold kY;have:=rZ t.text
 split
 ·simp;omega
 omega
theorem tX:∀ (l:List RTok) (p:Option RTok),(∀ t∈l,t.text.length<=1000)->(dN p l).length<=l.length*2003
 | [],p,_=>zm _
 |t::l,p,h=>by
  have h1:=outZ_len t (h t (by simp));have h2:=tX l (some t) (fun x hx=>h x (by simp[hx]));have h3:(pV p t).length<=1:=by
   cases p with
   |none=>exact zm _
   |some a=>show (if lL a t then ([32]:Bs) else []).length<=1;split <;> decide
  rw[dN,yl,yl,yi];omega
def RIn(w:World)(A:Option Addr)(ts:List RTok):Prop:=0<ts.length->∃ g o,A=some ⟨g,o,none⟩/\g<w.heap.size /\
 ∀ j (h:j<ts.length),w.cell? ⟨g,o+j*3,none⟩=some (vI ts[j].kind)/\w.cell? ⟨g,o+j*3+1,none⟩=some (vS (ts[j].text.toArray))/\w.cell? ⟨g,o+j*3+2,none⟩=some (vI ts[j].place)
theorem join_any(A:Option Addr)(cap:Nat)(ts:List RTok)(w:World)(hn:ts.length<=2000)(hts:∀ t∈ts,t.text.length<=1000)(vg:RIn w A ts)(hmx:MaxVar w) :
  Calls Tryz.prog 25 #[.slice A ts.length cap] w fun e w'=>e=.returned (vT (dN none ts))/\Below w.heap.size w w':=by
 have HIN:=zh vg;have HMX:=zh hmx;have HTS:=zh hts;clear vg hmx hts
 go_in
 go_wp2_with fail
 go_loopg [8] (ts.length) (fun gk i wr=>∃ k:Nat,k<=ts.length/\gk=ts.length-k/\i=vI k/\Hid (Lib.IsBuilder 112 5 w.heap.size w.heap.size (Lib.byteCells (dN none (ts.take k))) wr)/\Hid (Below w.heap.size w wr))
 case atStart=>exact⟨0,zm _,rfl,rfl,zh (Lib.fresh_isBuilder _ _ w),zh ((Below.refl _ w).alloc zr _)⟩
 case round=>
  obtain⟨k,hk,hgk,rfl,HBU,sx⟩:=hrel;have HGK:=zh hgk;clear hgk;have hjl:=tX (ts.take k) none (fun t ht=>HTS.out t (List.mem_of_mem_take ht));rw[zc,Nat.min_eq_left hk]at hjl;by_cases hlt:k<ts.length
  ·obtain⟨g,o,rfl,hg,hc⟩:=HIN.out (by omega);obtain⟨c0,c1,c2⟩:=hc k hlt;have d0:wr.cell? ⟨g,o+k*3,none⟩=some (vI ts[k].kind):=(sx.out.cell (p:=⟨g,_,none⟩) hg).trans c0;have d1:wr.cell? ⟨g,o+k*3+1,none⟩=some (vS (ts[k].text.toArray)):=(sx.out.cell (p:=⟨g,_,none⟩) hg).trans c1;have d2:wr.cell? ⟨g,o+k*3+2,none⟩=some (vI ts[k].place):=(sx.out.cell (p:=⟨g,_,none⟩) hg).trans c2;clear c0 c1 c2;have HC:=zh hc;clear hc;have oq:(0:Int)<=(k:Int):=Int.natCast_nonneg _;have fw:(k:Int)<(ts.length:Int):=by omega
   have HSN:Hid (dN none (ts.take (k+1))=dN none (ts.take k)++(pV (dE none (ts.take k)) ts[k]++kY ts[k])):=zh (by rw[yw hlt,rE]);have hT:Hid (Lies (wr.alloc (.cells #[vI ts[k].kind,vS (ts[k].text.toArray),vI ts[k].place] 64)) wr.heap.size 64 #[vI ts[k].kind,vS (ts[k].text.toArray),vI ts[k].place]):=zh (Lies.new wr _ _);have hW:Hid (Below wr.heap.size wr (wr.alloc (.cells #[vI ts[k].kind,vS (ts[k].text.toArray),vI ts[k].place] 64))):=zh ((Below.refl _ wr).alloc zr _)
   go_wp2_with fail
   go_upto_region 6 with fail
   go_cut [23] (fun v wx=>v=.bool (uDJ (dE none (ts.take k)) ts[k])/\Hid (Below wr.heap.size wr wx)/\Hid (Lies wx wr.heap.size 64 #[vI ts[k].kind,vS (ts[k].text.toArray),vI ts[k].place]))
   case first=>
    cases k with
    |zero=>
     have hd:decide ((0:Int)<((0:Nat):Int))=false:=by decide
     go_quiet (fail)
     go_wp2_with fail
     go_meet
     exact⟨rfl,zh (zN hW.out _),hT⟩
    |succ j=>
     have hjl:j<ts.length:=by omega
     obtain⟨c0,c1,c2⟩:=HC.out j hjl;have z0:wr.cell? ⟨g,o+j*3,none⟩=some (vI ts[j].kind):=(sx.out.cell (p:=⟨g,_,none⟩) hg).trans c0;have z1:wr.cell? ⟨g,o+j*3+1,none⟩=some (vS (ts[j].text.toArray)):=(sx.out.cell (p:=⟨g,_,none⟩) hg).trans c1;have z2:wr.cell? ⟨g,o+j*3+2,none⟩=some (vI ts[j].place):=(sx.out.cell (p:=⟨g,_,none⟩) hg).trans c2;clear c0 c1 c2 d0 d1 d2;have CAP:=zh (fun W=>uDW ts[j] ts[j+1] W);simp only[RTok.cells]at CAP;have HN:Hid (uDJ (dE none (ts.take (j+1))) ts[j+1]=lL ts[j] ts[j+1]):=zh (by rw[wY ts j hjl];rfl);have ap:=sx.out.size;have hgw:g<wr.heap.size:=by omega
     clear HC HTS HSN;generalize ts[j]=a at *;generalize ts[j+1]=b at *;obtain⟨ka,ta,pa⟩:=a;obtain⟨kb,tb,pb⟩:=b;simp only at z0 z1 z2 CAP hT hW;have q0:=hT.out.cell 0;have q1:=hT.out.cell 1;have q2:=hT.out.cell 2;simp only[za,zb,zf]at q0 q1 q2;have p0:=(hW.out.cell (p:=⟨g,o+j*3,none⟩) hgw).trans z0;have p1:=(hW.out.cell (p:=⟨g,o+j*3+1,none⟩) hgw).trans z1;have p2:=(hW.out.cell (p:=⟨g,o+j*3+2,none⟩) hgw).trans z2;generalize hWW:wr.alloc (.cells #[vI kb,vT tb,vI pb] 64)=W at *;clear hWW z0 z1 z2;have hkW:wr.heap.size<W.heap.size:=hT.out.lt;have hgW:g<W.heap.size:=by omega
     have hd:decide ((0:Int)<((j+1:Nat):Int))=true:=by simp
     have hwj:IntKind.i64.wrap (((j+1:Nat):Int)-1)=(j:Int):=by rw[IntWalk.i64_in _ (by omega)];omega
     have hwj2:IntKind.i64.wrap (j:Int)=(j:Int):=IntWalk.i64_in _ (by omega);have hwj3:IntKind.i64.wrap ((j:Int)+1-1)=(j:Int):=by rw[IntWalk.i64_in _ (by omega)];omega
     have hj0:(0:Int)<=(j:Int):=Int.natCast_nonneg _;have hj1:(j:Int)<(ts.length:Int):=by omega
     go_region_held3 (fun w'=>w'.cell? ⟨g,o+j*3,none⟩=some (vI ka)/\w'.cell? ⟨g,o+j*3+1,none⟩=some (vT ta)/\w'.cell? ⟨g,o+j*3+2,none⟩=some (vI pa)/\w'.cell? ⟨wr.heap.size,0,none⟩=some (vI kb)/\w'.cell? ⟨wr.heap.size,1,none⟩=some (vT tb)/\w'.cell? ⟨wr.heap.size,2,none⟩=some (vI pb))
      (first|go_keep |(go_split_ands;exact⟨(hb.cell (p:=⟨g,_,none⟩) hgW).trans (by assumption),(hb.cell (p:=⟨g,_,none⟩) hgW).trans (by assumption),(hb.cell (p:=⟨g,_,none⟩) hgW).trans (by assumption),(hb.cell (p:=⟨wr.heap.size,_,none⟩) hkW).trans (by assumption),(hb.cell (p:=⟨wr.heap.size,_,none⟩) hkW).trans (by assumption),(hb.cell (p:=⟨wr.heap.size,_,none⟩) hkW).trans (by assumption)⟩))
      (first
       |(go_at_call 54;(with_reducible refine(CAP.out _).mono ?_);rintro e wx ⟨rfl,hb⟩))
     all_goals go_wp2_with fail
     all_goals go_meet
     all_goals exact⟨congrArg Value.bool HN.out.symm,zh (hW.out.drew.trans (hb.mono hW.out.size)),zh (Lies.below (w:=W.drew) hT.out hb)⟩
   case rest=>
    obtain⟨rfl,bk,di⟩:=hcut;clear hT hW d0 d1 d2 HC;obtain⟨w5,hw5⟩:∃ w5:World,w5=wc:=⟨_,rfl⟩
    subst hw5
    go_upto_if 23 with fail
    go_cut [5] (fun v wx=>v=vP wr.heap.size 0/\Hid (Lib.IsBuilder 112 5 w.heap.size w.heap.size (Lib.byteCells (dN none (ts.take k)++pV (dE none (ts.take k)) ts[k])) wx)/\Hid (Lies wx wr.heap.size 64 #[vI ts[k].kind,vS (ts[k].text.toArray),vI ts[k].place])/\Hid (Below w.heap.size w wx))
    case first=>
     have qe:Hid (Below w.heap.size w w5):=zh (zU sx.out bk.out);cases hn:uDJ (dE none (ts.take k)) ts[k]
     ·have HSP:Hid (pV (dE none (ts.take k)) ts[k]=[]):=zh (by rw[oF,hn];rfl)
      go_wp2_with fail
      go_meet
      exact⟨rfl,zh (by rw[HSP.out,List.append_nil];exact IsBuilder.next HBU.out bk.out),di,qe⟩
     have HSP:Hid (pV (dE none (ts.take k)) ts[k]=[32]):=zh (by rw[oF,hn];rfl);have cg:wr.heap.size≠w.heap.size:=by
      have h1:w.heap.size<wr.heap.size:=by
       rcases HBU.out with h|h
       ·obtain⟨_,u,hb,_⟩:=h;exact(zk.1 hb).1
       obtain⟨_,u,hb,_⟩:=h;exact(zk.1 hb).1
      omega
     go_wp2_with fail
     refine(tI w.heap.size w.heap.size wr.heap.size (dN none (ts.take k)) 32 _ cg di.out.lt (zh (IsBuilder.notBuf HBU.out bk.out)) (IsBuilder.next HBU.out bk.out) (by omega) qe.out.size).mono ?_;rintro e w6 ⟨rfl,wo,l6,mr⟩;have HBU6:=zh wo;have o8:=zh (qe.out.trans l6);have cm:Hid (Lies w6 wr.heap.size 64 #[vI ts[k].kind,vS (ts[k].text.toArray),vI ts[k].place]):=zh (mr.trans di.out);clear wo l6 mr
     go_wp2_with fail
     go_meet
     exact⟨rfl,zh (by rw[HSP.out];exact HBU6.out),cm,o8⟩
    case rest=>
     obtain⟨rfl,vn,mh,o8⟩:=hcut;obtain⟨w7,hw7⟩:∃ w7:World,w7=wc:=⟨_,rfl⟩
     subst hw7;clear HBU bk di sx;have q0:=mh.out.cell 0;have q1:=mh.out.cell 1;simp only[za,zb,zf]at q0 q1;have HX:=zh (HMX.out.next o8.out);have htl:=HTS.out ts[k] (List.getElem_mem hlt);have hql:=rZ ts[k].text;have HZ:Hid (kY ts[k]=if ts[k].kind==2 then 34::(cB ts[k].text++[34]) else ts[k].text):=zh rfl;have j6:(dN none (ts.take k)++pV (dE none (ts.take k)) ts[k]).length<=5000000:=by
      have:(pV (dE none (ts.take k)) ts[k]).length<=1:=by
       rw[oF]
       split <;> decide
      rw[yl];omega
     have HSN2:Hid (dN none (ts.take (k+1))=(dN none (ts.take k)++pV (dE none (ts.take k)) ts[k])++kY ts[k]):=zh (by rw[HSN.out];simp);clear HSN;generalize dN none (ts.take k)++pV (dE none (ts.take k)) ts[k]=acc at *;cases h2:(ts[k].kind==2)
     ·rw[h2]at HZ;have dv:Hid (kY ts[k]=ts[k].text):=zh (by rw[HZ.out];rfl);clear HZ
      go_wp2_with fail
      refine(jL w.heap.size w.heap.size acc ts[k].text _ vn.out (by omega) o8.out.size).mono ?_;rintro e w8 ⟨rfl,wo,l6⟩;have vo:=zh wo;have HB8:=zh (o8.out.trans l6);clear wo l6 vn o8 mh q0 q1
      go_wp2_with fail
      go_roundg (ts.length-(k+1))
      case rel=>exact⟨k+1,by omega,rfl,by go_num,zh (by rw[HSN2.out,dv.out];exact vo.out),HB8⟩
      case measure=>rw[HGK.out];omega
     rw[h2]at HZ;have dv:Hid (kY ts[k]=34::(cB ts[k].text++[34])):=zh (by rw[HZ.out];rfl);clear HZ
     go_wp2_with fail
     refine(sC ts[k].text _ (by omega) HX.out).mono ?_;rintro e w8 ⟨rfl,hb⟩;have vo:=zh (IsBuilder.next vn.out hb);have HB8:=zT o8 hb;clear hb vn o8 mh q0 q1
     go_wp2_with fail
     refine(jL w.heap.size w.heap.size acc (34::(cB ts[k].text++[34])) _ vo.out (by simp;omega) HB8.out.size).mono ?_;rintro e w9 ⟨rfl,wo,l6⟩;have HBU9:=zh wo;have iq:=zh (HB8.out.trans l6);clear wo l6 vo HB8
     go_wp2_with fail
     go_roundg (ts.length-(k+1))
     case rel=>exact⟨k+1,by omega,rfl,by go_num,zh (by rw[HSN2.out,dv.out];exact HBU9.out),iq⟩
     case measure=>rw[HGK.out];omega
  have e:k=ts.length:=by omega
  have HE:Hid (ts.take k=ts):=zh (by rw[e,List.take_length]);have hd:decide ((k:Int)<(ts.length:Int))=false:=by rw[e];simp
  have hd2:¬ k<ts.length:=hlt;clear e;rw[HE.out]at HBU
  go_wp2_with fail
  refine(Tryz.Builder_String_any w.heap.size w.heap.size (dN none ts) _ HBU.out sx.out.size).mono ?_;rintro e w2 ⟨rfl,hb2⟩;have ba:Hid (Below w.heap.size w w2):=zh (sx.out.trans hb2);clear hb2
  go_wp2_with fail
  go_ret
  exact⟨rfl,ba.out⟩
def gM(x:IdR):Nat->List IdR->Int
 |_,[]=>-1
 |i,y::r=>if y=x then (i:Int) else gM x (i+1) r
def bC(l:List IdR)(x:IdR):Int:=gM x 0 l
theorem fX(x:IdR):∀ (l:List IdR) (i k:Nat),x∉l.take k->l[k]?=some x->gM x i l=((i+k:Nat):Int)
 | [],_,_,_,h=>by simp at h
 |y::r,i,0,_,h=>by
  simp at h;unfold gM;rw[if_pos h];rfl
 |y::r,i,k+1,hn,h=>by
  rw[List.take_succ_cons,ym,not_or]at hn;unfold gM;rw[if_neg (fun e=>hn.1 e.symm),fX x r (i+1) k hn.2 (by simpa using h)]
  congr 1
  omega
theorem eN(x:IdR):∀ (l:List IdR) (i:Nat),x∉l->gM x i l=-1
 | [],_,_=>rfl
 |y::r,i,hn=>by
  rw[ym,not_or]at hn;unfold gM;rw[if_neg (fun e=>hn.1 e.symm),eN x r (i+1) hn.2]
theorem iI(x:IdR):∀ (l:List IdR) (i:Nat),x∈l->∃ k:Nat,gM x i l=((i+k:Nat):Int)/\l[k]?=some x
 | [],_,h=>by cases h
 |y::r,i,h=>by
  by_cases e:y=x
  ·exact⟨0,by unfold gM;rw[if_pos e];rfl,by simp[e]⟩
  obtain⟨k,h1,h2⟩:=iI x r (i+1) ((ym.1 h).resolve_left (fun e'=>e e'.symm));exact⟨k+1,by unfold gM;rw[if_neg e,h1];congr 1;omega,by simpa using h2⟩
theorem uF(l:List IdR)(x:IdR):(bC l x<0↔x∉l):=by
 by_cases h:x∈l
 ·obtain⟨k,h1,_⟩:=iI x l 0 h;unfold bC;rw[h1];exact⟨fun h'=>by omega,fun h'=>absurd h h'⟩
 unfold bC;rw[eN x l 0 h];exact⟨fun _=>h,fun _=>by decide⟩
theorem vQ{v:Val}(h:aR v=true):v.kind=0\/v.kind=1\/v.kind=2\/v.kind=3\/v.kind=4:=by
 by_cases h0:v.kind=0
 ·exact .inl h0
 by_cases h1:v.kind=1
 ·exact .inr (.inl h1)
 by_cases h2:v.kind=2
 ·exact .inr (.inr (.inl h2))
 by_cases h3:v.kind=3
 ·exact .inr (.inr (.inr (.inl h3)))
 by_cases h4:v.kind=4
 ·exact .inr (.inr (.inr (.inr h4)))
 rw[nE v h0 h1 h2 h3 h4]at h;cases h
theorem nX{m e:Int}(h:bF m e=true):-9223372036854775808<=m/\m<=9223372036854775807:=by
 by_cases hz:m=0
 ·omega
 have:=kN h hz;omega
theorem xU(v:Val)(hR:aR v=true):v=⟨0,0,0,[],false,0⟩\/(∃ m e,v=⟨1,m,e,[],false,0⟩/\bF m e=true)\/(∃ t,v=⟨2,0,0,t,false,0⟩/\t.length<=255)
  \/ (∃ b,v=⟨3,0,0,[],b,0⟩)\/(∃ f,v=⟨4,0,0,[],false,f⟩/\1<=f/\f<=9):=by
 rcases vQ hR with h|h|h|h|h
 ·exact .inl ((fY _ _).1 ((nC v h).symm.trans hR))
 ·have k:=(sM v h).symm.trans hR;obtain⟨k1,k2⟩:=Bool.and_eq_true_iff.1 k;exact .inr (.inl ⟨_,_,(fY _ _).1 k2,k1⟩)
 ·have k:=(fY _ _).1 ((pQ v h).symm.trans hR);rcases Nat.lt_or_ge 255 v.text.length with hl|hl
  ·have:pR v.text=pW 2:=if_pos hl;rw[this]at k;rw[k]at h;exact absurd h (by decide)
  have:pR v.text=⟨2,0,0,v.text,false,0⟩:=if_neg (by omega);rw[this]at k;exact .inr (.inr (.inl ⟨_,k,hl⟩))
 ·exact .inr (.inr (.inr (.inl ⟨_,(fY _ _).1 ((nF v h).symm.trans hR)⟩)))
 have k:=(fY _ _).1 ((nD v h).symm.trans hR);refine .inr (.inr (.inr (.inr ⟨v.fault,?_,?_⟩)))
 ·rw[k];show (⟨4,0,0,[],false,if v.fault<1\/9<v.fault then 9 else v.fault⟩:Val)=⟨4,0,0,[],false,(pW v.fault).fault⟩;rfl
 rw[k];show 1<=(if v.fault<1\/9<v.fault then 9 else v.fault)/\(if v.fault<1\/9<v.fault then 9 else v.fault)<=9
 split <;> omega
section
variable {ρ:Tok->Tok->Prop} {G B:Prop} {d N:Nat}
theorem headSame(h:NodeH):NodeH.same h h=true:=by
 unfold NodeH.same;simp[sN]
theorem uBQ(l:List Tree)(x:Tree):aM (l++[x])=aM l+x.size:=by
 induction l with
 |nil=>simp[aM]
 |cons t l ih=>rw[yp,aM,aM,ih];omega
theorem xS(l:List Tree)(x:Tree)(k:Int):aT (l++[x]) k=(aT l k&&((decide (k≠8)||decide (x.h.kind=0))&&x.right k)):=by
 induction l with
 |nil=>simp[aT]
 |cons t l ih=>rw[yp,aT,aT,ih];simp[Bool.and_assoc]
end
end Go.Proofs.YtjfihpaeglpblaaGreatDoor
namespace Go.Proofs.YtjfihpaeglpblaaGreatDoor
open Go.ChangeShapes Go.WideShapes Go.ChangeAt Go.RowKit
theorem wM:Tryz.prog.cellsOf 3=1:=by kernel_rfl
section
variable {H:Type} {enc:TypeId×Value->H} {w:World} {base:Nat} {sp:Nat->Bool} {held:Bool}
theorem trod_num{n:Nat}{c1 c2:Value}{x:DataW H×List MemPlace}(h:DataW.trod enc Tryz.prog w base sp held n 23 [c1,c2]=some x) :
  ∃ m e:Int,c1=vI m/\c2=vI e/\x.2=[]/\-9223372036854775808<=m/\m<=9223372036854775807/\-9223372036854775808<=e/\e<=9223372036854775807:=by
 obtain⟨xs,k,_,hx,_,hlen,hg⟩:=DataW.trod_struct Tryz.underlying23 h
 match xs,hlen with
 | [y0,y1],_=>
  have g0:DataW.trod enc Tryz.prog w base sp held k 3 [c1]=some y0:=by have:=hg 0 _ rfl;simpa [wM] using this
  have g1:DataW.trod enc Tryz.prog w base sp held k 3 [c2]=some y1:=by have:=hg 1 _ rfl;simpa [wM] using this
  obtain⟨m,e0,rfl,w0⟩:=DataW.trod_int Tryz.underlying3 g0;obtain⟨e,e1,rfl,w1⟩:=DataW.trod_int Tryz.underlying3 g1;injection e0 with e0;injection e1 with e1;obtain⟨a1,a2⟩:=bounds_i64 w0;obtain⟨a3,a4⟩:=bounds_i64 w1;exact⟨m,e,e0,e1,by rw[hx];rfl,a1,a2,a3,a4⟩
end
end Go.Proofs.YtjfihpaeglpblaaGreatDoor
