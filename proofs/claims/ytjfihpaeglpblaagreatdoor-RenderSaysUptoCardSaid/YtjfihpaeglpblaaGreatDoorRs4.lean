/-
  Lemmas, part 4: Par4 NdC RsC Par5 Addr1 LexTextsW Addr2 Num11 Addr3 Par7 ParA ParD ParE PlainX PlainZ2 Join1 Build2 Csv2 Join2 TokK.
-/
import Derived.Deep.CutBlock
import Derived.Great.BuildSlice
import Derived.Great.Walk
import Derived.Lib.RuneCountTail
import Derived.Lib.TrimU
import Derived.Lib.SpaceUEq
import Derived.Lib.IndexAny
import Derived.Lib.QuoteLoop
import Derived.Laws.OwnMore
import Derived.Laws.AppendOwnNone
import Derived.Test.YtjfihpaeglpblaaGreatDoorRs3
set_option maxHeartbeats 100000000
set_option maxRecDepth 1000000
namespace Go.Proofs.YtjfihpaeglpblaaGreatDoor
open Go.RowKit
theorem zNq {B : Nat} {a w : World} (h : Below B a w) (n : Nat) : Below B a (w.drewN n) := ⟨h.os, h.tape, h.output, h.size, h.block⟩
abbrev aJ(h:NodeH)(A:Option Addr)(n c:Nat):Array Value:=#[vI h.kind,vI h.v.kind,vI h.v.mant,vI h.v.exp,vT h.v.text,.bool h.v.truth,vI h.v.fault,vT h.name,
 vI h.a.row.a,vI h.a.row.n,vI h.a.col.a,vI h.a.col.n,.bool h.a.fr,.bool h.a.fc,vI h.b.row.a,vI h.b.row.n,vI h.b.col.a,vI h.b.col.n,.bool h.b.fr,.bool h.b.fc,vI h.rows,.slice A n c]
abbrev cQ(h:NodeH)(A:Option Addr)(n c:Nat):Value:=.agg (aJ h A n c)
mutual
def NodeAt(W:World)(X:List Nat)(g o:Nat):Tree->Prop
 | .mk h l=>∃ A c,(∀ j,j<22->W.cell? ⟨g,o+j,none⟩=(aJ h A l.length c)[j]?)/\(l=[]\/∃ g' o',A=some ⟨g',o',none⟩/\g'∉X/\g'<W.heap.size/\KidsAt W X g' o' l)
def KidsAt(W:World)(X:List Nat)(g:Nat):Nat->List Tree->Prop
 |_,[]=>True
 |o,t::r=>NodeAt W X g o t/\KidsAt W X g (o+22) r
end
def KidsOk(W:World)(X:List Nat)(A:Option Addr)(l:List Tree):Prop:=l=[]\/∃ g' o',A=some ⟨g',o',none⟩/\g'∉X/\g'<W.heap.size/\KidsAt W X g' o' l
mutual
theorem NodeAt.kp{W W':World}{X:List Nat}(hk:Kp X W W'){g o:Nat}(hg:g<W.heap.size)(hx:g∉X):∀ {t:Tree},NodeAt W X g o t->NodeAt W' X g o t
 | .mk h l,hn=>by
  obtain⟨A,c,h1,h2⟩:=hn;refine⟨A,c,fun j hj=>(hk.cell hg hx).trans (h1 j hj),?_⟩;rcases h2 with h2|⟨g',o',e,h3,h4,h5⟩
  ·exact .inl h2
  exact .inr ⟨g',o',e,h3,yu h4 hk.size,KidsAt.kp hk h4 h3 h5⟩
theorem KidsAt.kp{W W':World}{X:List Nat}(hk:Kp X W W'){g:Nat}(hg:g<W.heap.size)(hx:g∉X):∀ {l:List Tree} {i:Nat},KidsAt W X g i l->KidsAt W' X g i l
 | [],_,_=>trivial
 |_::_,_,hn=>⟨NodeAt.kp hk hg hx hn.1,KidsAt.kp hk hg hx hn.2⟩
end
theorem KidsOk.kp{W W':World}{X:List Nat}(hk:Kp X W W'){A:Option Addr}{l:List Tree}(h:KidsOk W X A l):KidsOk W' X A l:=by
 rcases h with h2|⟨g',o',e,h3,h4,h5⟩
 ·exact .inl h2
 exact .inr ⟨g',o',e,h3,yu h4 hk.size,KidsAt.kp hk h4 h3 h5⟩
theorem vB{ty:TypeId}{bx:Nat}:∀ (r:List Value) (i:Nat) (W:World) (cs:Array Value),Lies W bx ty cs->i+r.length=cs.size->Lies (W.setCells bx i r) bx ty (cs.toList.take i++r).toArray
 | [],i,_,cs,h,hl=>by
  have:(cs.toList.take i++[]).toArray=cs:=by
   rw[List.append_nil,List.take_of_length_le (by simp at hl;simp;omega)]
  rw[this];exact h
 |v::r,i,_,cs,h,hl=>by
  have h1:=vB r (i+1) _ _ (h.put i v) (by simp at hl ⊢;omega);have hi:i<cs.toList.length:=by simp at hl ⊢;omega
  have e:((cs.setIfInBounds i v).toList.take (i+1)++r).toArray=(cs.toList.take i++v::r).toArray:=by
   congr 1
   rw[Array.toList_setIfInBounds,yw (by simpa using hi),List.getElem_set_self,List.take_set_of_le zr];simp
  rw[<- e];exact h1
theorem nS{Y:List Nat}{a:World}{bx:Nat}(hb:bx∈Y\/a.heap.size<=bx):∀ (r:List Value) (i:Nat) {W:World},Kp Y a W->Kp Y a (W.setCells bx i r)
 | [],_,_,h=>h
 |v::r,i,_,h=>nS hb r (i+1) (h.set hb i v)
theorem fS{bx g:Nat}{t:TypeId}{cs:Array Value}(hb:g≠bx):∀ (r:List Value) (i:Nat) {W:World},Lies W g t cs->Lies (W.setCells bx i r) g t cs
 | [],_,_,h=>h
 |v::r,i,_,h=>fS hb r (i+1) (aC h hb i v)
theorem Lies.range{w:World}{b:Nat}{t:TypeId}{C:Array Value}(h:Lies w b t C):w.rangeAt b 0 C.toList:=fun j v hv=>by
 rw[Nat.zero_add,h.cell j];simpa using hv
theorem Lies.thereA{w:World}{b:Nat}{t:TypeId}{C:Array Value}(h:Lies w b t C):w.there b 0 C.size:=fun j hj=>
 ⟨by rw[Nat.zero_add,h.cell j,Array.getElem?_eq_getElem hj];rfl,h.frozen _⟩
theorem Lies.putAll{w:World}{b:Nat}{t:TypeId}{C:Array Value}(h:Lies w b t C){vs:List Value}(hl:vs.length=C.size):Lies (w.setCells b 0 vs) b t vs.toArray:=by
 have:=vB vs 0 w C h (by omega);simpa using this
abbrev fH:List Value:=[vI 0,vI 0,vI 0,vI 0,vS #[],.bool false,vI 0,vS #[],vI 0,vI 0,vI 0,vI 0,.bool false,.bool false,vI 0,vI 0,vI 0,vI 0,.bool false,.bool false,vI 0,.slice none 0 0]
abbrev zM:Array Value:=#[vI 0,vI 0,vI 0,vI 0,vS #[],.bool false,vI 0,vS #[],vI 0,vI 0,vI 0,vI 0,.bool false,.bool false,vI 0,vI 0,vI 0,vI 0,.bool false,.bool false,vI 0,.slice none 0 0]
theorem bY:(Tryz.prog.info? 34).map (·.size)=some 22:=by kernel_rfl
theorem hfN{C:List Value}(h:C.length=22):(Tryz.prog.info? 34).map (·.size)=some C.toArray.size:=by rw[yd,h];exact bY
abbrev NdC(W:World)(q:Nat)(k:Int)(vv:Val)(s:Bs)(a b:Cor)(r:Int)(A:Option Addr)(n cp:Nat):Prop:=W.cell? ⟨q,0,none⟩=some (vI k)/\W.cell? ⟨q,1,none⟩=some (vI vv.kind)/\W.cell? ⟨q,2,none⟩=some (vI vv.mant)/\W.cell? ⟨q,3,none⟩=some (vI vv.exp)/\W.cell? ⟨q,4,none⟩=some (vT vv.text)/\W.cell? ⟨q,5,none⟩=some (.bool vv.truth)/\W.cell? ⟨q,6,none⟩=some (vI vv.fault)/\W.cell? ⟨q,7,none⟩=some (vT s)/\W.cell? ⟨q,8,none⟩=some (vI a.row.a)/\W.cell? ⟨q,9,none⟩=some (vI a.row.n)/\W.cell? ⟨q,10,none⟩=some (vI a.col.a)/\W.cell? ⟨q,11,none⟩=some (vI a.col.n)/\W.cell? ⟨q,12,none⟩=some (.bool a.fr)/\W.cell? ⟨q,13,none⟩=some (.bool a.fc)/\W.cell? ⟨q,14,none⟩=some (vI b.row.a)/\W.cell? ⟨q,15,none⟩=some (vI b.row.n)/\W.cell? ⟨q,16,none⟩=some (vI b.col.a)/\W.cell? ⟨q,17,none⟩=some (vI b.col.n)/\W.cell? ⟨q,18,none⟩=some (.bool b.fr)/\W.cell? ⟨q,19,none⟩=some (.bool b.fc)/\W.cell? ⟨q,20,none⟩=some (vI r)/\W.cell? ⟨q,21,none⟩=some (.slice A n cp)
theorem cI{W:World}{q:Nat}{k:Int}{vv:Val}{s:Bs}{a b:Cor}{r:Int}{A:Option Addr}{n cp:Nat}{Cn:List Value}(h:Lies W q 34 Cn.toArray)(af:Cn.toArray=aJ ⟨k,vv,s,a,b,r⟩ A n cp):NdC W q k vv s a b r A n cp:=by
 rw[af]at h;exact⟨h.cell 0,h.cell 1,h.cell 2,h.cell 3,h.cell 4,h.cell 5,h.cell 6,h.cell 7,h.cell 8,h.cell 9,h.cell 10,h.cell 11,h.cell 12,h.cell 13,h.cell 14,h.cell 15,h.cell 16,h.cell 17,h.cell 18,h.cell 19,h.cell 20,h.cell 21⟩
def uDM:List Value:=vI 1::(kH.toList++(aJ tree0.h none 0 0).toList)
theorem infoCont:(Tryz.prog.info? 67).map (·.size)=some uDM.length:=by kernel_rfl
theorem uAV(w:World)(hT:Tab w)(hP:PowTab w):Calls Tryz.prog 26 #[.agg uDM.toArray,.pointer none,.pointer none] w fun e w'=>e=.returned (vS #[39,84,82,85,69])/\Below w.heap.size w w':=by
 obtain⟨W0,ak⟩:=zD (w.alloc (.cells uDM.toArray 67))
 have ai:=zh ak;have ag:=zA ak;have HL:=zL ak;have HR:Hid (∀ W,Below W0.heap.size W0 W->W.cell? ⟨w.heap.size,0,none⟩=some (vI 1)/\W.cell? ⟨w.heap.size,1,none⟩=some (vI 2)/\W.cell? ⟨w.heap.size,2,none⟩=some (vI 0)/\W.cell? ⟨w.heap.size,3,none⟩=some (vI 0)/\W.cell? ⟨w.heap.size,4,none⟩=some (vS #[84,82,85,69])/\W.cell? ⟨w.heap.size,5,none⟩=some (.bool false)/\W.cell? ⟨w.heap.size,6,none⟩=some (vI 0)):=zh (fun W hb=>by
  have h:=HL.out.next hb;exact⟨h.cell 0,h.cell 1,h.cell 2,h.cell 3,h.cell 4,h.cell 5,h.cell 6⟩)
 have C1:Hid (Calls Tryz.prog 59 #[.agg kH] W0 fun x w'=>x=.returned (.bool true)/\Below W0.heap.size W0 w'):=zh (by
  have h:=qS mL W0 (by decide) (by decide) (by decide);rw[show aW mL=true from by kernel_rfl]at h;exact h)
 have C2:Hid (∀ W,Below w.heap.size w W->Calls Tryz.prog 60 #[.agg kH] W fun x w'=>x=.returned (vS #[84,82,85,69])/\Below W.heap.size W w'):=zh (fun W hb=>by
  have h:=zG mL W (hT.next hb) (hP.next hb) (by decide) (by decide) (fun h=>by cases h);rw[show uEG mL=[84,82,85,69] from by kernel_rfl]at h;exact h)
 have C3:Hid (∀ W,Below w.heap.size w W->Calls Tryz.prog 61 #[.agg kH] W fun x w'=>x=.returned (.bool true)/\Below W.heap.size W w'):=zh (fun W hb=>isQ_any W);obtain⟨x0,x1,x2,x3,x4,x5,x6⟩:=HR.out W0 zB;have HI:=zh infoCont;generalize uDM=Cn at *;clear ak hT hP HL
 go_in
 go_upto_region 1 with fail
 rw[<- ai.out];clear ai
 go_wp2_with (first
  |((with_reducible refine C1.out.mono ?_);rintro e w1 ⟨rfl,hb⟩;have bq:=zT ag hb;have HK1:=zh hb;clear x0 x1 x2 x3 x4 x5 x6;obtain⟨x0,x1,x2,x3,x4,x5,x6⟩:=HR.out w1 hb;clear hb)
  |((with_reducible refine(C2.out _ bq.out).mono ?_);rintro e w2 ⟨rfl,hb⟩;have au:=zT bq hb;have fp:=zT HK1 hb;clear x0 x1 x2 x3 x4 x5 x6;obtain⟨x0,x1,x2,x3,x4,x5,x6⟩:=HR.out w2 fp.out;clear hb)
  |((with_reducible refine(C3.out _ au.out).mono ?_);rintro e w3 ⟨rfl,hb⟩;have bf:=zT au hb;clear hb))
 go_ret
 exact⟨rfl,bf.out⟩
theorem wZ{P:Program}{w:World}(mty kt et:TypeId){d:TypeDesc}(r clock:Nat)(es:Array MapEntry)(s val:Value)(hm:P.underlying mty=some (.map kt et))(hk:P.underlying kt=some d)(hs:MapKept.IsKey d s)(hb:w.heap[r]?=some (.map es clock))(hf:Instr.findNow d s es.toList 0=some none) :
  (Instr.mapUpdate mty (.map (some r)) s val).run P w=.ok () { w with heap:=w.heap.setIfInBounds r (.map (es.push { key:=s,val:=val,born:=clock }) (clock+1)) }:=by
 have hc:(Instr.checkKey false 10000 kt s).run P w=.ok () w:=MapKept.run_checkKey hk hs false 9999;simp[Instr.mapUpdate,run_underlying hm,MapKept.run_getObj_map hb,hc,MapKept.run_findKey hk hf,MapKept.run_setObj_map _ hb,Result.andThen]
def eC(W:World)(q:Nat)(es:Array MapEntry)(c:Nat):World:={ W with heap:=W.heap.setIfInBounds q (.map es c) }
theorem qO(W:World)(q:Nat)(es:Array MapEntry)(c:Nat):(eC W q es c).heap.size=W.heap.size:=Array.size_setIfInBounds ..
theorem wA{B q:Nat}{W:World}(h:B<=q)(es:Array MapEntry)(c:Nat):Below B W (eC W q es c) :=
 ⟨rfl,rfl,rfl,by rw[qO];exact zr,fun k hk=>Array.getElem?_setIfInBounds_ne (by omega)⟩
theorem yG{W:World}{q:Nat}(h:q<W.heap.size)(es:Array MapEntry)(c:Nat):(eC W q es c).heap[q]?=some (.map es c):=by
 show (W.heap.setIfInBounds _ _)[_]?=_;rw[Array.getElem?_setIfInBounds_self_of_lt h]
theorem cJ{P:Program}{ops:Array Oper}{rest:List Oper}{op:Oper}{a:Act}{w:World}{Q:Exit->Act->World->Prop}(pm:op.guard=none)(mty:TypeId)(m k v:Operand)(ho:op.op=.insert mty m k v){W':World}(hr:(Instr.mapUpdate mty (a.eval m) (a.eval k) (a.eval v)).run P w=.ok () W')(h:wpList P ops Q rest (a.put op.dst undef) W'):wpList P ops Q (op::rest) a w :=
 wpList_plain pm fun K hK=>by
  unfold Oper.wp execOp;simp only[ho,Sem.run_bind,hr,Sem.run_pure,Result.andThen_ok];exact hK _ _ h
theorem pN(r c:Int)(w:World)(h1:0<=r)(h2:r<=9999998)(h3:0<=c)(h4:c<=18277) :
  Calls Tryz.prog 90 #[vI r,vI c] w fun e w'=>e=.returned (.bool true)/\w=w':=by
 go_in
 go_wp2
 go_ret
 exact⟨rfl,rfl⟩
theorem rM(b:Bool)(w:World):Calls Tryz.prog 141 #[.bool b] w fun e w'=>e=.returned (vT (qT b))/\w=w':=by
 cases b
 all_goals
  go_in
  go_wp2
  go_ret
  exact⟨rfl,rfl⟩
def InBytes(w:World)(A:Option Addr)(b:Bs):Prop:=0<b.length->∃ g o,A=some ⟨g,o,none⟩/\g<w.heap.size/\∀ j (h:j<b.length),w.cell? ⟨g,o+j,none⟩=some (.int .u8 (b[j].toNat:Int))
theorem InBytes.conv{w:World}{A:Option Addr}{b:Bs}(h:InBytes w A b)(cap:Nat):(convert 110 9 (.slice A b.length cap)).run Tryz.prog w=.ok (vT b) w:=by
 rcases Nat.eq_zero_or_pos b.length with h0|h0
 ·obtain rfl:b=[]:=List.eq_nil_of_length_eq_zero h0;cases A with
  |none=>
   rw[run_convert_bytes_string w 110 9 5 none _ cap Tryz.underlying110 Tryz.underlying5 Tryz.underlying9];simp[Conv.bytesToString];rfl
  |some a=>exact run_convert_bytes_back w 110 9 5 a cap [] Tryz.underlying110 Tryz.underlying5 Tryz.underlying9 (fun j hj=>by simp at hj)
 obtain⟨g,o,rfl,hg,hc⟩:=h h0;refine run_convert_bytes_back w 110 9 5 ⟨g,o,none⟩ cap b Tryz.underlying110 Tryz.underlying5 Tryz.underlying9 (fun j hj=>?_);rw[<- hc j hj];unfold Addr.add;by_cases e:j=0
 ·simp[e]
 simp[e]
theorem below_grow(w:World)(os:Array Obj):Below w.heap.size w (Sort.grow w os) :=
 ⟨rfl,rfl,rfl,by simp[Sort.grow],fun k hk=>by unfold Sort.grow;simp only;rw[Array.getElem?_append_left hk]⟩
theorem rZ(n:Nat)(w:World)(hp:PowTab w)(h:n<=1000000000) :
  Calls Tryz.prog 75 #[vI n] w fun e w'=>e=.returned (vT (Lib.decDigits n))/\Below w.heap.size w w' :=
 (Tryz.strconv_Itoa (n:Int) (by omega) (by omega) w hp).mono fun _ _ ⟨h1,k,os,h2⟩=>⟨by rw[h1,Lib.itoa_nonneg],by
  rw[h2];exact(zNq (Below.refl _ w) k).trans (below_grow (w.drewN k) os)⟩
theorem longer(wr:World)(A:Option Addr)(L:Bs)(cap:Nat)(rg:InBytes wr A L)(hL:L.length<=2):∃ W:World,
  (Instr.makeSlice 110 (vI ((L.length:Int)+1)) (vI ((L.length:Int)+1))).run Tryz.prog wr=.ok (.slice (some ⟨wr.heap.size,0,none⟩) (L.length+1) (L.length+1)) W /\
  W.cell? ⟨wr.heap.size,0,none⟩=some (.int .u8 0)/\W.frozen? ⟨wr.heap.size,0,none⟩=false /\
  ∀ (c:UInt8) (ty:TypeId),∃ W2:World,(∀ d,L=[]\/d=1->(Builtin.copy_ #[110,110] ty #[.slice (some ⟨wr.heap.size,d,none⟩) L.length L.length,.slice A L.length cap]).run Tryz.prog (W.setCell ⟨wr.heap.size,0,none⟩ (.int .u8 (c.toNat:Int)))=.ok (vI L.length) W2) /\
   InBytes W2 (some ⟨wr.heap.size,0,none⟩) (c::L)/\Below wr.heap.size wr W2:=by
 obtain⟨i0,hi,my,i5,lm⟩:=info_parts rT;have h:=run_make (P:=Tryz.prog) wr 110 5 i0 (.int .u8 0) Tryz.underlying110 hi my .i64 .i64 ((L.length:Int)+1) ((L.length:Int)+1) (by omega) (Int.le_refl _) (by rw[lm];omega) (by omega);have e:((L.length:Int)+1).toNat=L.length+1:=by omega
 rw[e,i5,Nat.mul_one]at h;have hl:=Lies.new wr 5 (madeCells (Value.int .u8 0).cells (L.length+1));have aq:(madeCells (Value.int .u8 0).cells (L.length+1)).size=L.length+1:=by simp[madeCells,Value.cells]
 refine⟨_,h,?_,hl.frozen 0,fun c ty=>?_⟩
 ·rw[hl.cell];simp[madeCells,Value.cells]
 have ru:=hl.put 0 (.int .u8 (c.toNat:Int));have hM1:((madeCells (Value.int .u8 0).cells (L.length+1)).setIfInBounds 0 (.int .u8 (c.toNat:Int))).size=L.length+1:=by rw[Array.size_setIfInBounds,aq]
 have hM0:((madeCells (Value.int .u8 0).cells (L.length+1)).setIfInBounds 0 (.int .u8 (c.toNat:Int)))[0]?=some (.int .u8 (c.toNat:Int)):=by rw[Array.getElem?_setIfInBounds,if_pos rfl,if_pos (by rw[aq];omega)]
 have dh:Below wr.heap.size wr ((wr.alloc (.cells (madeCells (Value.int .u8 0).cells (L.length+1)) 5)).setCell ⟨wr.heap.size,0,none⟩ (.int .u8 (c.toNat:Int))) :=
  ((Below.refl _ wr).alloc zr _).setCell (p:=⟨wr.heap.size,0,none⟩) zr _
 generalize ((madeCells (Value.int .u8 0).cells (L.length+1)).setIfInBounds 0 (.int .u8 (c.toNat:Int)))=M at *;generalize ((wr.alloc (.cells (madeCells (Value.int .u8 0).cells (L.length+1)) 5)).setCell ⟨wr.heap.size,0,none⟩ (.int .u8 (c.toNat:Int)))=W1 at *;have fi:(Tryz.prog.info? 5).map (·.size)=some 1:=by rw[hi];simp[i5]
 rcases Nat.eq_zero_or_pos L.length with h0|h0
 ·obtain rfl:L=[]:=List.eq_nil_of_length_eq_zero h0;refine⟨W1,fun d _=>?_,?_,dh⟩
  ·exact run_copy_none W1 110 110 ty 5 (some ⟨wr.heap.size,d,none⟩) A 0 0 0 cap Tryz.underlying110 fi rfl
  intro _;refine⟨wr.heap.size,0,rfl,ru.lt,fun j hj=>?_⟩;obtain rfl:j=0:=by simpa using hj
  rw[ru.cell];exact hM0
 obtain⟨g,o,rfl,hg,hc⟩:=rg h0;have hin1:∀ j (h:j<L.length),W1.cell? ⟨g,o+j,none⟩=some (.int .u8 (L[j].toNat:Int)):=fun j hj=>(dh.cell (p:=⟨g,o+j,none⟩) hg).trans (hc j hj)
 have ot:=run_copy_row (P:=Tryz.prog) W1 110 110 ty 5 wr.heap.size 1 L.length L.length ⟨g,o,none⟩ L.length cap _ 5 (L.map fun b=>Value.int .u8 (b.toNat:Int)) Tryz.underlying110 fi ru
  (by rw[List.length_map];exact(Nat.min_self _).symm) (fun j v hv=>by
   obtain⟨b,hb,rfl⟩:=by simpa using hv
   have hj:j<L.length:=by
    rcases Nat.lt_or_ge j L.length with h'|h'
    ·exact h'
    rw[List.getElem?_eq_none h']at hb;cases hb
   rw[List.getElem?_eq_getElem hj]at hb;have uz:L[j]=b:=by injection hb
   rw[<- uz,<- hin1 j hj];unfold Addr.add;by_cases e:j=0
   ·simp[e]
   simp[e]) (by rw[List.length_map,hM1];omega) (fun v hv=>by obtain⟨b,_,rfl⟩:=yj.1 hv;rfl)
 rw[List.length_map]at ot;refine⟨W1.setRow wr.heap.size (M.toList.take 1++(L.map fun b=>Value.int .u8 (b.toNat:Int))++M.toList.drop (1+L.length)).toArray,fun d hd=>?_,?_,?_⟩
 ·rcases hd with hd|rfl
  ·rw[hd]at h0;simp at h0
  exact ot
 ·intro _;refine⟨wr.heap.size,0,rfl,?_,fun j hj=>?_⟩
  ·have:=ru.lt;simpa [World.setRow] using this
  have bp:Lies (W1.setRow wr.heap.size (M.toList.take 1++(L.map fun b=>Value.int .u8 (b.toNat:Int))++M.toList.drop (1+L.length)).toArray) wr.heap.size 5 (M.toList.take 1++(L.map fun b=>Value.int .u8 (b.toNat:Int))++M.toList.drop (1+L.length)).toArray:=by
   unfold Lies at ru ⊢;simp[World.setRow,Array.getElem?_modify,ru]
  have ht:M.toList.take 1=[.int .u8 (c.toNat:Int)]:=by
   rw[List.take_one];have:M.toList.head?=M[0]?:=by rw[List.head?_eq_getElem?];simp
   rw[this,hM0];rfl
  rw[bp.cell,ht,Nat.zero_add];cases j with
  |zero=>rfl
  |succ j=>
   have hj':j<L.length:=by simpa using hj
   rw[List.append_assoc,List.singleton_append,za,zf,List.getElem?_append_left (by simpa using hj')];simp[hj']
 refine dh.trans ⟨rfl,rfl,rfl,by simp[World.setRow],fun k hk=>?_⟩;simp only[World.setRow,Array.getElem?_modify];rw[if_neg (by omega)]
theorem uBE(d:Nat):((UInt8.ofNat (65+d % 26)).toNat:Int)=65+(d:Int) % 26:=by
 rw[(cap_of (d % 26) (by omega)).2];omega
theorem kW(col:Nat)(w:World)(hc:col<=18277) :
  Calls Tryz.prog 76 #[vI col] w fun e w'=>e=.returned (vT (dS (col+1)))/\Below w.heap.size w w':=by
 have cv:(col:Int)<=18277:=by omega
 have hl3:=fY (col+1) (by omega)
 go_in
 go_wp2_with fail
 refine(pN 0 (col:Int) _ (by omega) (by omega) (by omega) cv).mono ?_;rintro e w1 ⟨rfl,rfl⟩
 go_wp2_with fail
 go_loopw [0,3] (fun i v wr=>∃ (c:Nat) (A:Option Addr) (L:Bs) (cap:Nat),i=vI ((c:Int)-1)/\v=.slice A L.length cap/\c<=18278/\Hid (dS c++L=dS (col+1))/\Hid (InBytes wr A L)/\Hid (Below w.heap.size w wr)) (fun i _ _=>(intOf i+1).toNat)
 case atStart=>exact⟨col+1,none,[],0,by go_num,rfl,by omega,zh (by simp),zh (fun h=>by simp at h),zh zB⟩
 case round=>
  obtain⟨c,A,L,cap,rfl,rfl,oc,HL,HI,HB⟩:=hrel;cases c with
  |zero=>
   have hconv:=InBytes.conv HI.out cap
   have HE:Hid (L=dS (col+1)):=zh (by have:=HL.out;rw[fK]at this;exact this);rw[show ((0:Nat):Int)-1=-1 from rfl]
   go_wp2_with fail
   go_ret
   exact⟨congrArg (fun l:Bs=>Ending.returned (vT l)) HE.out,HB.out⟩
  |succ d=>
   rw[show ((d+1:Nat):Int)-1=(d:Int) by omega];have uu:L.length<=2:=by
    have h1:=congrArg List.length HL.out;rw[yl]at h1;have:=lets_pos (d+1) (by omega);omega
   have ir:Hid (dS (d / 26)++(UInt8.ofNat (65+d % 26)::L)=dS (col+1)):=zh (by
    rw[<- HL.out,eT (d+1) (by omega)];simp)
   obtain⟨W,hmk,hc0,hf0,hcp⟩:=longer wr A L cap HI.out uu;obtain⟨W2,hcp,hin2,aw⟩:=hcp (UInt8.ofNat (65+d % 26)) 3;have HIN2:=zh hin2;have au:=zT HB aw;rw[uBE d]at hcp;have rn:((d:Int))<=18277:=by omega
   have HCP:=zh hcp;clear hcp hin2 aw HL HI HB;rcases Nat.eq_zero_or_pos L.length with h0|h0
   ·obtain rfl:L=[]:=List.eq_nil_of_length_eq_zero h0;simp only[List.length_nil,Int.natCast_zero,Int.zero_add,Nat.zero_add]at *;have hcp:=HCP.out 0 (.inl trivial);clear h0
    go_wp2_with fail
    go_roundw
    case rel=>exact⟨d / 26,_,[_],_,by go_num,rfl,by omega,ir,HIN2,au⟩
    case measure=>simp[intOf];omega
   have dg:¬ L.length=0:=by omega
   have hcp:=HCP.out 1 (.inr rfl)
   go_wp2_with fail
   go_roundw
   case rel=>exact⟨d / 26,_,_::L,_,by go_num,by simp;rfl,by omega,ir,HIN2,au⟩
   case measure=>simp[intOf];omega
theorem Lies.below{w w':World}{g:Nat}{t:TypeId}{cs:Array Value}(h:Lies w g t cs)(hb:Below w.heap.size w w'):Lies w' g t cs:=(hb.block g h.lt).trans h
theorem uFG(m e:Int)(w:World)(h1:-9223372036854775808<m)(h2:m<=9223372036854775807)(hR:bH m e=true) :
  Calls Tryz.prog 192 #[wP m e] w fun x w'=>x=.returned (wP (-m) e)/\Below w.heap.size w w':=by
 have C:=zh (fun W=>pF m e W (by omega) h2);rw[hR]at C;have HB:Hid (Below w.heap.size w ((w.alloc (.cells #[vI m,vI e] 23)).alloc (.cells #[vI 0,vI 0] 23))):=zh (((Below.refl _ w).alloc zr _).alloc (by simp) _);have T0:Hid (NumIn w m e ((w.alloc (.cells #[vI m,vI e] 23)).alloc (.cells #[vI 0,vI 0] 23))):=zh ((NumIn.start w m e).next (zp _));have HL:Hid (Lies ((w.alloc (.cells #[vI m,vI e] 23)).alloc (.cells #[vI 0,vI 0] 23)) (w.heap.size+1) 23 #[vI 0,vI 0]):=zh (by have:=Lies.new (w.alloc (.cells #[vI m,vI e] 23)) 23 #[vI 0,vI 0];simpa using this);clear hR
 go_in
 go_wp2_with fail
 refine(C.out _).mono ?_;rintro x w1 ⟨rfl,hb⟩;have i8:=zh (Lies.below HL.out hb);have T1:=zh (T0.out.next hb);clear hb HB HL T0 C;obtain⟨g0,g1,g2,g3⟩:=T1.out;have q0:=i8.out.cell 0;have q1:=i8.out.cell 1;have f0:=i8.out.frozen 0;have f1:=i8.out.frozen 1;have hlt:=i8.out.lt;have bq:=zh g3;simp only[za,zb,zf]at q0 q1
 go_wp2_with fail
 refine yt (v:=.agg #[vI (-m),vI e]) (by simp[results,Tryz.results192,go_sem,q0,q1]) rfl ?_;exact⟨rfl,((bq.out.setCell (p:=⟨w.heap.size+1,0,none⟩) (Nat.le_succ _) _).setCell (p:=⟨w.heap.size+1,1,none⟩) (Nat.le_succ _) _)⟩
abbrev markV(row col:Int)(fr fc:Bool):Value:=.agg #[vI row,vI col,.bool fr,.bool fc]
def MarkIn(w:World)(row col:Int)(fr fc:Bool)(w':World):Prop:=w.heap.size<w'.heap.size/\w'.cell? ⟨w.heap.size,0,none⟩=some (vI row)/\w'.cell? ⟨w.heap.size,1,none⟩=some (vI col)/\w'.cell? ⟨w.heap.size,2,none⟩=some (.bool fr)/\w'.cell? ⟨w.heap.size,3,none⟩=some (.bool fc)/\Below w.heap.size w w'
theorem MarkIn.start(w:World)(row col:Int)(fr fc:Bool):MarkIn w row col fr fc (w.alloc (.cells #[vI row,vI col,.bool fr,.bool fc] 90)):=⟨by simp,by simp,by simp,by simp,by simp,(Below.refl _ w).alloc zr _⟩
theorem MarkIn.next{w w' w'':World}{row col:Int}{fr fc:Bool}(h:MarkIn w row col fr fc w')(hb:Below w'.heap.size w' w''):MarkIn w row col fr fc w'':=by
 obtain⟨h1,h2,h3,h4,h5,h6⟩:=h;have hs:=hb.size;exact⟨by omega,(hb.cell (p:=⟨_,_,none⟩) h1).trans h2,(hb.cell (p:=⟨_,_,none⟩) h1).trans h3,(hb.cell (p:=⟨_,_,none⟩) h1).trans h4,(hb.cell (p:=⟨_,_,none⟩) h1).trans h5,zU h6 hb⟩
theorem MarkIn.drew{w w':World}{row col:Int}{fr fc:Bool}(h:MarkIn w row col fr fc w'):MarkIn w row col fr fc w'.drew:=h.next zB.drew
theorem vX(row col:Nat)(fr fc:Bool)(w:World)(hp:PowTab w)(hr:row<=9999998)(hc:col<=18277) :
  Calls Tryz.prog 77 #[markV row col fr fc] w fun e w'=>e=.returned (vT (iY row col fr fc))/\Below w.heap.size w w':=by
 have T0:=zh (MarkIn.start w row col fr fc);have od:Hid (PowTab (w.alloc (.cells #[vI row,vI col,.bool fr,.bool fc] 90))):=zh (hp.next T0.out.2.2.2.2.2);have xc:(row:Int)<=9999998:=by omega
 have cv:(col:Int)<=18277:=by omega
 have CL:=zh (fun W=>kW col W hc);have CD1:=zh (fun W=>rM fr W);have CD2:=zh (fun W=>rM fc W);have CI:Hid (∀ W,PowTab W->Calls Tryz.prog 75 #[vI ((row:Int)+1)] W fun e w'=>e=.returned (vT (Lib.decDigits (row+1)))/\Below W.heap.size W w'):=zh (fun W h=>rZ (row+1) W h (by omega));have HE:Hid (qT fc++(dS (col+1)++(qT fr++Lib.decDigits (row+1)))=iY row col fr fc):=zh rfl;have hwr:IntKind.i64.wrap ((row:Int)+1)=(row:Int)+1:=IntWalk.i64_in _ (by omega);have qe:∀ b,(qT b).length<=1:=fun b=>by cases b <;> decide
 have hd1:=qe fr;have o4:=qe fc;have xe:=fY (col+1) (by omega);have hd4:=bW (row+1) 6 (by omega);clear qe;generalize qT fr=P at *;generalize qT fc=R at *;generalize iY row col fr fc=M at *;generalize dS (col+1)=L at *;generalize Lib.decDigits (row+1)=D at *;have k1:¬ 9223372036854775807<R.length+L.length:=by omega
 have k2:¬ 9223372036854775807<R.length+L.length+P.length:=by omega
 have k3:¬ 9223372036854775807<R.length+(L.length+P.length)+D.length:=by omega
 clear hp hr hc;obtain⟨g0,g1,g2,g3,g4,g5⟩:=T0.out
 go_in
 go_wp2_with fail
 refine(pN (row:Int) (col:Int) _ (by omega) xc (by omega) cv).mono ?_;rintro e w1 ⟨rfl,rfl⟩;generalize hW:w.alloc (.cells #[vI (row:Int),vI (col:Int),.bool fr,.bool fc] 90)=W at *;clear hW;have HP9:Hid (PowTab W.drew):=od
 go_wp2_with fail
 go_region_held3 (fun w'=>w.heap.size<w'.heap.size/\w'.cell? ⟨w.heap.size,0,none⟩=some (vI (row:Int))/\w'.cell? ⟨w.heap.size,1,none⟩=some (vI (col:Int))/\w'.cell? ⟨w.heap.size,2,none⟩=some (.bool fr)/\w'.cell? ⟨w.heap.size,3,none⟩=some (.bool fc)/\Below w.heap.size w w')
  (first|exact T0.out|exact T0.out.drew|exact(MarkIn.next T0.out.drew hb) |(go_split_ands;exact(MarkIn.next (w:=w) ⟨by assumption,by assumption,by assumption,by assumption,by assumption,by assumption⟩ hb))|assumption)
  (first
   |(go_at_call 76;(with_reducible refine(CL.out _).mono ?_);rintro e wx ⟨rfl,hb⟩;have ti:=zh (HP9.out.next hb))
   |(go_at_call 75;(with_reducible refine(CI.out _ ti.out).mono ?_);rintro e wx ⟨rfl,hb⟩)
   |(go_at_call 141;(with_reducible refine(CD1.out _).mono ?_);rintro e wx ⟨rfl,rfl⟩)
   |(go_at_call 141;(with_reducible refine(CD2.out _).mono ?_);rintro e wx ⟨rfl,rfl⟩))
 all_goals go_wp2_with fail
 all_goals go_ret
 all_goals refine⟨congrArg (fun l:Bs=>Ending.returned (vT l)) HE.out,?_⟩
 all_goals first|assumption |(go_split_ands;assumption)
abbrev corV(c:Cor):Value:=.agg #[vI c.row.a,vI c.row.n,vI c.col.a,vI c.col.n,.bool c.fr,.bool c.fc]
mutual
theorem NodeAt.anti{W:World}{X Y:List Nat}(hs:∀ y∈Y,y<W.heap.size->y∈X){g o:Nat}:∀ {t:Tree},NodeAt W X g o t->NodeAt W Y g o t
 | .mk h l,hn=>by
  obtain⟨A,c,h1,h2⟩:=hn;refine⟨A,c,h1,?_⟩;rcases h2 with h2|⟨g',o',e,h3,h4,h5⟩
  ·exact .inl h2
  exact .inr ⟨g',o',e,fun hm=>h3 (hs g' hm h4),h4,KidsAt.anti hs h5⟩
theorem KidsAt.anti{W:World}{X Y:List Nat}(hs:∀ y∈Y,y<W.heap.size->y∈X){g:Nat}:∀ {l:List Tree} {i:Nat},KidsAt W X g i l->KidsAt W Y g i l
 | [],_,_=>trivial
 |_::_,_,hn=>⟨NodeAt.anti hs hn.1,KidsAt.anti hs hn.2⟩
end
theorem uO(off:Nat):∀ (cs:List Value) (k:Nat) (A:Array Value),off+k+cs.length<=A.size->((cs.zipIdx k).foldl (fun(B:Array Value) (x:Value×Nat)=>B.setIfInBounds (off+x.2) x.1) A).toList=A.toList.take (off+k)++cs++A.toList.drop (off+k+cs.length)
 | [],k,A,_=>by simp
 |c::r,k,A,h=>by
  have hl:off+k<A.toList.length:=by simp at h ⊢;omega
  rw[List.zipIdx_cons,List.foldl_cons,uO off r (k+1) _ (by rw[Array.size_setIfInBounds];simp at h;omega)];rw[Array.toList_setIfInBounds];show (A.toList.set (off+k) c).take (off+k+1)++r++(A.toList.set (off+k) c).drop (off+k+1+r.length)=_;rw[yw (by simpa using hl),List.getElem_set_self,List.take_set_of_le zr,List.drop_set_of_lt (by omega)];simp[Nat.add_comm,Nat.add_left_comm]
theorem fold_set(off:Nat)(cs:List Value)(A:Array Value)(h:off+cs.length<=A.size):(cs.toArray.zipIdx.foldl (fun(B:Array Value) (x:Value×Nat)=>B.setIfInBounds (off+x.2) x.1) A)=(A.toList.take off++cs++A.toList.drop (off+cs.length)).toArray:=by
 have:=uO off cs 0 A (by simpa using h);rw[<- Array.foldl_toList,Array.toList_zipIdx];apply Array.toList_inj.1;simpa using this
theorem oT:∃ i z,Tryz.prog.info? 34=some i/\i.size=22/\i.zero=some z/\z.cells.size=22:=by
 have h:((Tryz.prog.info? 34).bind (·.zero)).map (·.cells.size)=some 22:=by kernel_rfl
 have h2:=bY;cases hi:Tryz.prog.info? 34 with
 |none=>rw[hi]at h2;cases h2
 |some i=>
  rw[hi]at h h2;cases hz:i.zero with
  |none=>simp[hz]at h
  |some z=>
   simp[hz]at h;simp at h2;exact⟨i,z,rfl,h2,hz,h⟩
theorem uCP:Tryz.prog.underlying 32=some (.slice 34):=by kernel_rfl
theorem rP(place:Nat->Option (Nat×Nat))(A:Array Value)(off n:Nat)(cs:List Value)(hn:cs.length=n)(i:Nat)(rest:List (Nat×Value))(hp:place i=some (off,n))(h:off+n<=A.size) :
  Instr.fill place A ((i,.agg cs.toArray)::rest)=Instr.fill place (A.toList.take off++cs++A.toList.drop (off+n)).toArray rest:=by
 subst hn;have hf:=fold_set off cs A h;rw[<- hf]
 conv=>lhs;unfold Instr.fill
 rw[hp];refine if_neg ?_;simp[Value.cells];omega
theorem built1(cs:List Value)(h:cs.length=22):Tryz.prog.builtSlice 34 1 [(0,.agg cs.toArray)]=some cs.toArray:=by
 obtain⟨i,z,h1,h2,h3,h4⟩:=oT;unfold Program.builtSlice;rw[h1];simp only[h3,h2];rw[if_neg (by decide),rP _ _ (0*22) 22 cs h 0 [] rfl (by simp)];show some _=some _;simp
theorem built2(c1 c2:List Value)(h1':c1.length=22)(h2':c2.length=22):Tryz.prog.builtSlice 34 2 [(0,.agg c1.toArray),(1,.agg c2.toArray)]=some (c1++c2).toArray:=by
 obtain⟨i,z,h1,h2,h3,h4⟩:=oT;unfold Program.builtSlice;rw[h1];simp only[h3,h2];rw[if_neg (by decide),rP _ _ (0*22) 22 c1 h1' 0 _ rfl (by simp),rP _ _ (1*22) 22 c2 h2' 1 [] rfl (by simp[h1'])];show some _=some _;simp[h1']
theorem tS{ops:Array Oper}{rest:List Oper}{o:Oper}{a:Act}{w:World}{Q:Exit->Act->World->Prop}(hg:o.guard=none)(x:Operand)(ho:o.op=.buildSlice 32 1 #[(0,x)])(cs:List Value)(hx:a.eval x=.agg cs.toArray)(fq:cs.length=22)
  (N:Nat) (hN:w.heap.size=N) (d:Option Tmp) (hd:o.dst=d) (h:wpList Tryz.prog ops Q rest (a.put d (.slice (some ⟨N,0,none⟩) 1 1)) (w.alloc (.cells cs.toArray 34))):wpList Tryz.prog ops Q (o::rest) a w :=
 Great.wpList_buildSliceTo hg 32 34 1 #[(0,x)] ho N hN d hd uCP cs.toArray (by simp only[List.map_toArray,List.map_cons,List.map_nil,hx];exact built1 cs fq) h
theorem uDD{ops:Array Oper}{rest:List Oper}{o:Oper}{a:Act}{w:World}{Q:Exit->Act->World->Prop}(hg:o.guard=none)(x y:Operand)(ho:o.op=.buildSlice 32 2 #[(0,x),(1,y)])(c1 c2:List Value)(hx:a.eval x=.agg c1.toArray)(hy:a.eval y=.agg c2.toArray)(h1:c1.length=22)(h2:c2.length=22)
  (N:Nat) (hN:w.heap.size=N) (d:Option Tmp) (hd:o.dst=d) (h:wpList Tryz.prog ops Q rest (a.put d (.slice (some ⟨N,0,none⟩) 2 2)) (w.alloc (.cells (c1++c2).toArray 34))):wpList Tryz.prog ops Q (o::rest) a w :=
 Great.wpList_buildSliceTo hg 32 34 2 #[(0,x),(1,y)] ho N hN d hd uCP (c1++c2).toArray (by simp only[List.map_toArray,List.map_cons,List.map_nil,hx,hy];exact built2 c1 c2 h1 h2) h
theorem kN{B bx:Nat}{a:World}(hb:B<=bx):∀ (r:List Value) (i:Nat) {W:World},Below B a W->Below B a (W.setCells bx i r)
 | [],_,_,h=>h
 |v::r,i,_,h=>kN hb r (i+1) (h.setCell (p:=⟨bx,i,none⟩) hb v)
theorem mJ(bx:Nat):∀ (r:List Value) (i:Nat) (W:World),(W.setCells bx i r).heap.size=W.heap.size
 | [],_,_=>rfl
 |v::r,i,W=>by
  show ((W.setCell ⟨bx,i,none⟩ v).setCells bx (i+1) r).heap.size=_;rw[mJ bx r (i+1),World.size_setCell]
theorem u8_beq(c d:UInt8)(n:Int)(hn:(d.toNat:Int)=n):((c.toNat:Int)==n)=(c==d):=by
 subst hn;rw[ze,beq_iff_eq,beq_iff_eq];constructor
 ·intro h;exact mM (by omega)
 intro h;rw[h]
theorem uDU(l:Bs)(c:UInt8)(h:c∈l):0<=Lib.indexByte l c:=by
 rcases Int.lt_or_le (Lib.indexByte l c) 0 with h1|h1
 ·exact absurd h (idx_no l c h1)
 exact h1
theorem mem_idx(l:Bs)(c:UInt8)(h:0<=Lib.indexByte l c):c∈l:=by
 obtain⟨n,_,h2,_,h4⟩:=uDV l c h;rw[h4];simp
def kt(t:Tok):Nat×Bs:=(t.kind,t.text)
structure RTok where
 kind:Int
 text:Bs
 place:Int
def RTok.cells(t:RTok):Array Value:=#[vI t.kind,vT t.text,vI t.place]
def gD(k:Int):Bool:=k==1||k==3||k==4
def mQ(k:Int)(t set:Bs):Bool:=k==5&&!t.isEmpty&&set.contains (t.headD 0)
def gR(a b:RTok):Bool :=
 if gD a.kind then gD b.kind else if a.kind==2 then b.kind==2 else if a.kind != 5 then false
 else if a.text==[60] then mQ b.kind b.text [61,62] else if a.text==[62] then mQ b.kind b.text [61] else if a.text==[35] then b.kind==3 else false
theorem tQ(k:Int)(t:Bs)(p:Int)(w:World) :
  Calls Tryz.prog 104 #[.agg #[vI k,vT t,vI p]] w fun e w'=>e=.returned (.bool (gD k))/\Below w.heap.size w w':=by
 obtain⟨r,hr⟩:=zE (gD k)
 have HR:=zh hr;rw[hr];clear hr;cases h1:(k==1) <;> cases h3:(k==3) <;> cases h4:(k==4)
 all_goals
  have HV:=zh HR.out;rw[gD,h1,h3,h4]at HV
  go_in
  go_wp2_with fail
  go_ret
  exact⟨aA (HV.out.symm ▸ rfl),(Below.refl _ w).alloc zr _⟩
theorem wE(set:Bs)(c:UInt8):decide (0<=Lib.indexByte set c)=set.contains c:=by
 rw[ze,decide_eq_true_eq,List.contains_iff_mem];exact⟨mem_idx set c,uDU set c⟩
theorem pP(set:Bs)(b:Nat)(k:Int)(t:Bs)(w:World)(h0:w.cell? ⟨b,0,none⟩=some (vI k))(h1:w.cell? ⟨b,1,none⟩=some (vT t)) :
  Calls Tryz.prog 105 #[vT set,vP b 0] w fun e w'=>e=.returned (.bool (mQ k t set))/\w=w':=by
 cases h5:(k==5)
 ·have HV:Hid (mQ k t set=false):=zh (by unfold mQ;rw[h5];rfl)
  go_in
  go_wp2_with fail
  go_ret
  exact⟨aA HV.out.symm,rfl⟩
 cases t with
 |nil=>
  have HV:Hid (mQ k [] set=false):=zh (by unfold mQ;simp)
  go_in
  go_wp2_with fail
  go_ret
  exact⟨aA HV.out.symm,rfl⟩
 |cons c r=>
  have HV:Hid (mQ k (c::r) set=decide (0<=Lib.indexByte set c)):=zh (by unfold mQ;rw[h5,wE];simp)
  go_in
  go_wp2_with fail
  refine(tX set c _).mono ?_;rintro e w' ⟨rfl,rfl⟩;generalize Lib.indexByte set c=i at *
  go_wp2_with fail
  all_goals
   go_ret
   exact⟨aA (by rw[HV.out]),rfl⟩
def TwoTok(w:World)(a b:RTok)(w':World):Prop:=Lies w' w.heap.size 64 a.cells/\Lies w' (w.heap.size+1) 64 b.cells/\Below w.heap.size w w'
theorem TwoTok.start(w:World)(a b:RTok):TwoTok w a b ((w.alloc (.cells a.cells 64)).alloc (.cells b.cells 64)) :=
 ⟨(Lies.new w _ _).alloc _,by have:=Lies.new (w.alloc (.cells a.cells 64)) 64 b.cells;simpa using this,((Below.refl _ w).alloc zr _).alloc (by simp) _⟩
theorem TwoTok.next{w w' w'':World}{a b:RTok}(h:TwoTok w a b w')(hb:Below w'.heap.size w' w''):TwoTok w a b w'' :=
 ⟨h.1.below hb,h.2.1.below hb,h.2.2.trans (hb.mono h.2.2.size)⟩
theorem TwoTok.seen{w w':World}{a b:RTok}(h:TwoTok w a b w'):w'.cell? ⟨w.heap.size,0,none⟩=some (vI a.kind)/\w'.cell? ⟨w.heap.size,1,none⟩=some (vT a.text)/\w'.cell? ⟨w.heap.size,2,none⟩=some (vI a.place) /\
  w'.cell? ⟨w.heap.size+1,0,none⟩=some (vI b.kind)/\w'.cell? ⟨w.heap.size+1,1,none⟩=some (vT b.text)/\w'.cell? ⟨w.heap.size+1,2,none⟩=some (vI b.place)/\w.heap.size+1<w'.heap.size :=
 ⟨h.1.cell 0,h.1.cell 1,h.1.cell 2,h.2.1.cell 0,h.2.1.cell 1,h.2.1.cell 2,h.2.1.lt⟩
theorem uEJ(a b:RTok)(w:World) :
  Calls Tryz.prog 54 #[.agg a.cells,.agg b.cells] w fun e w'=>e=.returned (.bool (gR a b))/\Below w.heap.size w w':=by
 have T0:=zh (TwoTok.start w a b);obtain⟨ka,ta,pa⟩:=a;obtain⟨kb,tb,pb⟩:=b;simp only[RTok.cells]at *;have CA:=zh (fun W=>tQ ka ta pa W);have CB:=zh (fun W=>tQ kb tb pb W);obtain⟨r,hr⟩:=zE (gR ⟨ka,ta,pa⟩ ⟨kb,tb,pb⟩)
 rw[hr];unfold gR at hr;simp only at hr;cases hw:gD ka
 ·rw[hw,if_neg (by decide)]at hr;rw[hw]at CA;have fin:∀ (x2 x5 y1 y2 y3:Bool),(ka==2)=x2->(ka != 5)=x5->(ta==[60])=y1->(ta==[62])=y2->(ta==[35])=y3 ->
    Hid ((if x2=true then kb==2 else if x5=true then false else if y1=true then mQ kb tb [61,62] else if y2=true then mQ kb tb [61] else if y3=true then kb==3 else false)=r) ->
    Calls Tryz.prog 54 #[.agg #[vI ka,vT ta,vI pa],.agg #[vI kb,vT tb,vI pb]] w fun e w'=>e=.returned (.bool r)/\Below w.heap.size w w':=by
   intro x2 x5 y1 y2 y3 e2 e5 f1 f2 f3 HR;clear hr hw CB;cases x2
   ·cases x5
    ·cases y1
     ·cases y2
      ·cases y3
       all_goals
        go_in
        go_wp2_with fail
        refine(CA.out _).mono ?_;rintro e w1 ⟨rfl,hb⟩;have T1:=zh (T0.out.next hb);clear hb T0;obtain⟨g0,g1,g2,g3,g4,g5,g6⟩:=TwoTok.seen T1.out;simp only at g0 g1 g2 g3 g4 g5
        go_wp2_with fail
        go_ret
        exact⟨aA HR.out,T1.out.2.2⟩
      go_in
      go_wp2_with fail
      refine(CA.out _).mono ?_;rintro e w1 ⟨rfl,hb⟩;have T1:=zh (T0.out.next hb);clear hb T0;obtain⟨g0,g1,g2,g3,g4,g5,g6⟩:=TwoTok.seen T1.out;simp only at g0 g1 g2 g3 g4 g5
      go_wp2_with fail
      refine(pP [61] _ _ _ _ g3 g4).mono ?_;rintro e w2 ⟨rfl,rfl⟩
      go_wp2_with fail
      go_ret
      exact⟨aA HR.out,T1.out.2.2⟩
     go_in
     go_wp2_with fail
     refine(CA.out _).mono ?_;rintro e w1 ⟨rfl,hb⟩;have T1:=zh (T0.out.next hb);clear hb T0;obtain⟨g0,g1,g2,g3,g4,g5,g6⟩:=TwoTok.seen T1.out;simp only at g0 g1 g2 g3 g4 g5
     go_wp2_with fail
     refine(pP [61,62] _ _ _ _ g3 g4).mono ?_;rintro e w2 ⟨rfl,rfl⟩
     go_wp2_with fail
     go_ret
     exact⟨aA HR.out,T1.out.2.2⟩
    go_in
    go_wp2_with fail
    refine(CA.out _).mono ?_;rintro e w1 ⟨rfl,hb⟩;have T1:=zh (T0.out.next hb);clear hb T0;obtain⟨g0,g1,g2,g3,g4,g5,g6⟩:=TwoTok.seen T1.out;simp only at g0 g1 g2 g3 g4 g5
    go_wp2_with fail
    go_ret
    exact⟨aA HR.out,T1.out.2.2⟩
   go_in
   go_wp2_with fail
   refine(CA.out _).mono ?_;rintro e w1 ⟨rfl,hb⟩;have T1:=zh (T0.out.next hb);clear hb T0;obtain⟨g0,g1,g2,g3,g4,g5,g6⟩:=TwoTok.seen T1.out;simp only at g0 g1 g2 g3 g4 g5
   go_wp2_with fail
   go_ret
   exact⟨aA HR.out,T1.out.2.2⟩
  exact fin _ _ _ _ _ rfl rfl rfl rfl rfl (zh hr)
 rw[hw,if_pos rfl]at hr;have HR:=zh hr;rw[hw]at CA;clear hr hw
 go_in
 go_wp2_with fail
 refine(CA.out _).mono ?_;rintro e w1 ⟨rfl,hb⟩;have T1:=zh (T0.out.next hb);clear hb T0;obtain⟨g0,g1,g2,g3,g4,g5,g6⟩:=TwoTok.seen T1.out;simp only at g0 g1 g2 g3 g4 g5
 go_wp2_with fail
 refine(CB.out _).mono ?_;rintro e w2 ⟨rfl,hb⟩;have T2:=zh (T1.out.next hb);clear hb T1 g0 g1 g2 g3 g4 g5 g6
 go_wp2_with fail
 go_ret
 exact⟨aA HR.out,T2.out.2.2⟩
theorem tW(B b k:Nat)(bs:List Value)(w:World)(h:Lib.IsBuilder 112 5 B b bs w)(hk:k≠b) :
  Calls Tryz.prog 107 #[vP b 0] w fun e w'=>e=.returned (.tuple #[])/\(Lib.BuilderAt 112 5 B b (vP b 0) bs w'/\Below B w w'/\w'.heap[k]?=w.heap[k]?/\w'.cell? ⟨b,1,none⟩=w.cell? ⟨b,1,none⟩):=by
 rcases h with h|h
 ·refine(kF b w h.cell0 h.shape h.frozen0).mono ?_;rintro e w' ⟨rfl,rfl⟩;exact⟨rfl,h.used _,(Below.refl B w).setCell (p:=⟨b,0,none⟩) h.1 _,Below.heap_setCell w ⟨b,0,none⟩ _ k hk,World.cell?_setCell_other w ⟨b,0,none⟩ ⟨b,1,none⟩ _ (by intro e;injection e with _ e;cases e)⟩
 refine(kP b w h.cell0).mono ?_;rintro e w' ⟨rfl,rfl⟩;exact⟨rfl,h,Below.refl B _,rfl,rfl⟩
theorem uG(B b k:Nat)(l:Bs)(c:UInt8)(w:World)(rv:k≠b)(vq:k<w.heap.size)(hkv:Hid (∀ v,w.cell? ⟨b,1,none⟩=some v->v.ownBlock≠some k))(h:Lib.IsBuilder 112 5 B b (Lib.byteCells l) w)(hlen:l.length+1<=140737488355328)(hBw:B<=w.heap.size) :
  Calls Tryz.prog 55 #[vP b 0,.int .u8 (c.toNat:Int)] w fun e w'=>e=.returned .nilIface/\(Lib.IsBuilder 112 5 B b (Lib.byteCells (l++[c])) w'/\Below B w w'/\w'.heap[k]?=w.heap[k]?):=by
 have s8:(Lib.byteCells l).length=l.length:=Lib.byteCells_length l;have e1:Lib.byteCells (l++[c])=Lib.byteCells l++[.int .u8 (c.toNat:Int)]:=by simp[Lib.byteCells]
 have hlen:(Lib.byteCells l).length+1<=140737488355328:=by omega
 have E1:=zh e1;clear s8 e1;generalize Lib.byteCells l=bs at *;obtain⟨i0,hi,my,i5,lm⟩:=info_parts rT
 go_in
 go_wp2_with (go_at_call 107;refine(tW B b k bs _ h rv).mono ?_)
 rintro e w1 ⟨rfl,h1,hb1,ec,du⟩;have HK1:=zh ec;have HC1:=zh du;clear ec du;obtain⟨hB,v,f7,ba,dg⟩:=h1;have c0:w1.cell? ⟨b,0,none⟩=some (vP b 0):=by rw[Lib.cell_of_heap f7];rfl
 have c1:w1.cell? ⟨b,1,none⟩=some v:=by rw[Lib.cell_of_heap f7];rfl
 go_wp2_with (at_builtin;refine wpList_append_own _ rfl _ _ 110 rfl B 5 i0 (.int .u8 0) 1 1 Tryz.underlying110 hi my i5 lm rfl (by decide) _ _ _ rfl (ba.alloc _) ⟨w1.heap.size,0,none⟩ 1 1 [.int .u8 (c.toNat:Int)] rfl rfl ?c1 ?c2 ?c3 ?c4 ?c5 ?_)
 case c1=>
  intro j u hj
  match j,hj with
  |0,hj=>simp at hj;subst hj;simp[Addr.add]
 case c2=>intro u hu;simp at hu;subst hu;rfl
 case c3=>unfold maxLen;omega
 case c4=>omega
 case c5=>have:=hb1.size;simp;omega
 intro v' w2 ej dr _;have hlt:b<w1.heap.size:=by
  rcases Nat.lt_or_ge b w1.heap.size with h'|h'
  ·exact h'
  simp[Array.getElem?_eq_none h']at f7
 have aw:w2.heap[b]?=some (.cells #[vP b 0,v] 112 (0,0)):=by
  rw[dr.block b (by simp;omega) (fun e=>dg e.symm),Lib.alloc_old w1 _ b hlt];exact f7
 have d0:w2.cell? ⟨b,0,none⟩=some (vP b 0):=by rw[Lib.cell_of_heap aw];rfl
 have d1:w2.cell? ⟨b,1,none⟩=some v:=by rw[Lib.cell_of_heap aw];rfl
 have f1:w2.frozen? ⟨b,1,none⟩=false:=Lib.frozen_of_heap aw 1;obtain⟨g,cap,rfl⟩:∃ g cap,v'=.slice (some ⟨g,0,none⟩) (bs.length+1) cap:=by
  rcases ej.2 with⟨_,h0⟩|⟨g,cap,cur,hv,_⟩
  ·omega
  exact⟨g,cap,hv⟩
 go_wp2
 go_ret
 refine⟨rfl,?_,?_,?_⟩
 ·rw[E1.out];exact .inr (Lib.BuilderAt.put (T:=112) (e:=5) hB aw (bs':=bs++[.int .u8 (c.toNat:Int)]) (by simpa using ej) (by decide))
 ·exact((hb1.alloc (by have:=hb1.size;omega) _).grown dr (by have:=hb1.size;simp;omega) (fun k hk=>(ba.lt k hk).1)).setCell (p:=⟨b,1,none⟩) hB _
 have hvk:v.ownBlock≠some k:=hkv.out v (by rw[<- HC1.out];exact c1);have hk1s:k<w1.heap.size:=yu vq hb1.size;rw[Below.heap_setCell _ ⟨b,1,none⟩ _ k rv,dr.block k (by simp;omega) (fun e=>hvk e.symm),Below.heap_alloc w1 _ k hk1s];exact HK1.out
theorem IsBuilder.notBuf{B b:Nat}{bs:List Value}{w w':World}(h:Lib.IsBuilder 112 5 B b bs w)(hb:Below w.heap.size w w'):∀ v,w'.cell? ⟨b,1,none⟩=some v->v.ownBlock≠some w.heap.size:=by
 have key:∀ p,Lib.BuilderAt 112 5 B b p bs w->∀ v,w'.cell? ⟨b,1,none⟩=some v->v.ownBlock≠some w.heap.size:=by
  rintro p ⟨_,u,f7,ba,_⟩ v hv hk;have hlt:b<w.heap.size:=(zk.1 f7).1;have h1:w.cell? ⟨b,1,none⟩=some u:=by rw[Lib.cell_of_heap f7];rfl
  rw[hb.cell (p:=⟨b,1,none⟩) hlt,h1]at hv;injection hv with hv;subst hv;have:=(ba.lt _ hk).2;omega
 rcases h with h|h
 ·exact key _ h
 exact key _ h
theorem IsBuilder.next{B b:Nat}{bs:List Value}{w w':World}(h:Lib.IsBuilder 112 5 B b bs w)(hb:Below w.heap.size w w'):Lib.IsBuilder 112 5 B b bs w':=by
 have key:∀ p,Lib.BuilderAt 112 5 B b p bs w->Lib.BuilderAt 112 5 B b p bs w':=by
  rintro p ⟨h1,u,f7,ba,h2⟩;have hlt:b<w.heap.size:=(zk.1 f7).1;exact⟨h1,u,(hb.block b hlt).trans f7,aD hb ba,h2⟩
 rcases h with h|h
 ·exact .inl (key _ h)
 exact .inr (key _ h)
theorem vC(l:Bs)(h:34∉l):bO l=l:=by
 induction l with
 |nil=>rfl
 |cons c l ih=>
  simp only[bO];rw[if_neg (fun e=>h (by rw[e];simp)),ih (fun hm=>h (by simp[hm]))]
theorem lG:∀ (k:Nat) (s:Bs),s.count 34=k->Lib.replaceK [34] [34,34] k s=bO s
 |0,s,h=>by
  rw[Lib.replaceK,vC s (List.count_eq_zero.1 h)]
 |k+1,s,h=>by
  have hm:34∈s:=List.count_pos_iff.1 (by omega);obtain⟨n,h1,h2,h3,h4⟩:=uDV s 34 (uDU s 34 hm);have hi:Lib.index s [34]=n:=by rw[Lib.index_one];exact h1
  rw[Lib.replaceK_hit [34] [34,34] k s n hi];have hc:(s.drop (n+1)).count 34=k:=by
   have:=congrArg (List.count 34) h4;rw[List.count_append,List.count_cons,List.count_eq_zero.2 h3]at this;simp at this;omega
  have hq:bO s=bO (s.take n)++(34::34::bO (s.drop (n+1))):=by
   have e:bO (34::s.drop (n+1))=34::34::bO (s.drop (n+1)):=by simp[bO]
   rw[<- e,<- sU,<- h4]
  rw[hq,vC _ h3,show n+([34]:Bs).length=n+1 from rfl,lG k _ hc];simp
theorem pC(s:Bs):Lib.replaceAll s [34] [34,34]=bO s:=by
 unfold Lib.replaceAll Lib.replace;rw[if_neg (by decide)];unfold Lib.replaceNum;rw[if_pos (.inl (by decide)),Lib.count_one];exact lG _ s rfl
theorem sZ(s:Bs)(w:World)(hs:s.length<=1000000)(hm:MaxVar w) :
  Calls Tryz.prog 57 #[vT s,vS #[34],vS #[34,34]] w fun e w'=>e=.returned (vT (bO s))/\Below w.heap.size w w':=by
 obtain⟨m,hm⟩:=hm;have aq:(ByteArray.mk s.toArray).size=s.length:=by simp[ByteArray.size]
 have hc:Lib.countB ⟨s.toArray⟩ ⟨#[34]⟩<=s.length+1:=Lib.count_le _ _;have h2:(ByteArray.mk #[34,34]).size=2:=rfl;refine(Tryz.strings_ReplaceAll ⟨s.toArray⟩ ⟨#[34]⟩ ⟨#[34,34]⟩ m w (by rw[aq];omega) hm (by decide) (by rw[aq,h2];omega)).mono ?_;rintro e w' ⟨rfl,hb⟩;exact⟨by rw[show (ByteArray.mk s.toArray).data.toList=s from rfl,show (ByteArray.mk #[34]).data.toList=[34] from rfl,show (ByteArray.mk #[34,34]).data.toList=[34,34] from rfl,pC],hb⟩
def sL(t:RTok):Bs:=if t.kind==2 then 34::(bO t.text++[34]) else t.text
def kA:Option RTok->RTok->Bs
 |none,_=>[]
 |some a,b=>if gR a b then [32] else []
def cO:Option RTok->List RTok->Bs
 |_,[]=>[]
 |p,t::r=>kA p t++(sL t++cO (some t) r)
def cC:Option RTok->List RTok->Option RTok
 |p,[]=>p
 |_,t::r=>cC (some t) r
theorem mV(t:RTok):∀ (l:List RTok) (p:Option RTok),cO p (l++[t])=cO p l++(kA (cC p l) t++sL t)
 | [],p=>by simp[cO,cC]
 |a::l,p=>by
  rw[yp,cO,cO,mV t l (some a),cC];simp
theorem pW(t:RTok):∀ (l:List RTok) (p:Option RTok),cC p (l++[t])=some t
 | [],p=>rfl
 |a::l,p=>by rw[yp,cC,pW t l]
def sH:Option RTok->RTok->Bool
 |none,_=>false
 |some a,b=>gR a b
theorem gP(p:Option RTok)(t:RTok):kA p t=if sH p t then [32] else []:=by cases p <;> rfl
theorem pX(ts:List RTok)(j:Nat)(h:j<ts.length):cC none (ts.take (j+1))=some ts[j]:=by
 rw[yw h,pW]
theorem outZ_len(t:RTok)(h:t.text.length<=1000):(sL t).length<=2002:=by
 unfold sL;have:=jW t.text
 split
 ·simp;omega
 omega
theorem oU:∀ (l:List RTok) (p:Option RTok),(∀ t∈l,t.text.length<=1000)->(cO p l).length<=l.length*2003
 | [],p,_=>zm _
 |t::l,p,h=>by
  have h1:=outZ_len t (h t (by simp));have h2:=oU l (some t) (fun x hx=>h x (by simp[hx]));have h3:(kA p t).length<=1:=by
   cases p with
   |none=>exact zm _
   |some a=>show (if gR a t then ([32]:Bs) else []).length<=1;split <;> decide
  rw[cO,yl,yl,yi];omega
def RIn(w:World)(A:Option Addr)(ts:List RTok):Prop:=0<ts.length->∃ g o,A=some ⟨g,o,none⟩/\g<w.heap.size /\
 ∀ j (h:j<ts.length),w.cell? ⟨g,o+j*3,none⟩=some (vI ts[j].kind)/\w.cell? ⟨g,o+j*3+1,none⟩=some (vS (ts[j].text.toArray))/\w.cell? ⟨g,o+j*3+2,none⟩=some (vI ts[j].place)
theorem join_any(A:Option Addr)(cap:Nat)(ts:List RTok)(w:World)(hn:ts.length<=2000)(po:∀ t∈ts,t.text.length<=1000)(rg:RIn w A ts)(hmx:MaxVar w) :
  Calls Tryz.prog 25 #[.slice A ts.length cap] w fun e w'=>e=.returned (vT (cO none ts))/\Below w.heap.size w w':=by
 have HIN:=zh rg;have HMX:=zh hmx;have xf:=zh po;clear rg hmx po
 go_in
 go_wp2_with fail
 go_loopg [8] (ts.length) (fun gk i wr=>∃ k:Nat,k<=ts.length/\gk=ts.length-k/\i=vI k/\Hid (Lib.IsBuilder 112 5 w.heap.size w.heap.size (Lib.byteCells (cO none (ts.take k))) wr)/\Hid (Below w.heap.size w wr))
 case atStart=>exact⟨0,zm _,rfl,rfl,zh (Lib.fresh_isBuilder _ _ w),zh ((Below.refl _ w).alloc zr _)⟩
 case round=>
  obtain⟨k,hk,hgk,rfl,HBU,mg⟩:=hrel;have HGK:=zh hgk;clear hgk;have hjl:=oU (ts.take k) none (fun t ht=>xf.out t (List.mem_of_mem_take ht));rw[zc,Nat.min_eq_left hk]at hjl;by_cases hlt:k<ts.length
  ·obtain⟨g,o,rfl,hg,hc⟩:=HIN.out (by omega);obtain⟨c0,c1,c2⟩:=hc k hlt;have d0:wr.cell? ⟨g,o+k*3,none⟩=some (vI ts[k].kind):=(mg.out.cell (p:=⟨g,_,none⟩) hg).trans c0;have d1:wr.cell? ⟨g,o+k*3+1,none⟩=some (vS (ts[k].text.toArray)):=(mg.out.cell (p:=⟨g,_,none⟩) hg).trans c1;have d2:wr.cell? ⟨g,o+k*3+2,none⟩=some (vI ts[k].place):=(mg.out.cell (p:=⟨g,_,none⟩) hg).trans c2;clear c0 c1 c2;have HC:=zh hc;clear hc;have gu:(0:Int)<=(k:Int):=Int.natCast_nonneg _;have ec:(k:Int)<(ts.length:Int):=by omega
   have vr:Hid (cO none (ts.take (k+1))=cO none (ts.take k)++(kA (cC none (ts.take k)) ts[k]++sL ts[k])):=zh (by rw[yw hlt,mV]);have hT:Hid (Lies (wr.alloc (.cells #[vI ts[k].kind,vS (ts[k].text.toArray),vI ts[k].place] 64)) wr.heap.size 64 #[vI ts[k].kind,vS (ts[k].text.toArray),vI ts[k].place]):=zh (Lies.new wr _ _);have hW:Hid (Below wr.heap.size wr (wr.alloc (.cells #[vI ts[k].kind,vS (ts[k].text.toArray),vI ts[k].place] 64))):=zh ((Below.refl _ wr).alloc zr _)
   go_wp2_with fail
   go_upto_region 6 with fail
   go_cut [23] (fun v wx=>v=.bool (sH (cC none (ts.take k)) ts[k])/\Hid (Below wr.heap.size wr wx)/\Hid (Lies wx wr.heap.size 64 #[vI ts[k].kind,vS (ts[k].text.toArray),vI ts[k].place]))
   case first=>
    cases k with
    |zero=>
     have hd:decide ((0:Int)<((0:Nat):Int))=false:=by decide
     go_quiet (fail)
     go_wp2_with fail
     go_meet
     exact⟨rfl,zh (zNq hW.out _),hT⟩
    |succ j=>
     have hjl:j<ts.length:=by omega
     obtain⟨c0,c1,c2⟩:=HC.out j hjl;have z0:wr.cell? ⟨g,o+j*3,none⟩=some (vI ts[j].kind):=(mg.out.cell (p:=⟨g,_,none⟩) hg).trans c0;have z1:wr.cell? ⟨g,o+j*3+1,none⟩=some (vS (ts[j].text.toArray)):=(mg.out.cell (p:=⟨g,_,none⟩) hg).trans c1;have z2:wr.cell? ⟨g,o+j*3+2,none⟩=some (vI ts[j].place):=(mg.out.cell (p:=⟨g,_,none⟩) hg).trans c2;clear c0 c1 c2 d0 d1 d2;have CAP:=zh (fun W=>uEJ ts[j] ts[j+1] W);simp only[RTok.cells]at CAP;have HN:Hid (sH (cC none (ts.take (j+1))) ts[j+1]=gR ts[j] ts[j+1]):=zh (by rw[pX ts j hjl];rfl);have aq:=mg.out.size;have u3q:g<wr.heap.size:=by omega
     clear HC xf vr;generalize ts[j]=a at *;generalize ts[j+1]=b at *;obtain⟨ka,ta,pa⟩:=a;obtain⟨kb,tb,pb⟩:=b;simp only at z0 z1 z2 CAP hT hW;have q0:=hT.out.cell 0;have q1:=hT.out.cell 1;have q2:=hT.out.cell 2;simp only[za,zb,zf]at q0 q1 q2;have p0:=(hW.out.cell (p:=⟨g,o+j*3,none⟩) u3q).trans z0;have p1:=(hW.out.cell (p:=⟨g,o+j*3+1,none⟩) u3q).trans z1;have p2:=(hW.out.cell (p:=⟨g,o+j*3+2,none⟩) u3q).trans z2;generalize hWW:wr.alloc (.cells #[vI kb,vT tb,vI pb] 64)=W at *;clear hWW z0 z1 z2;have hkW:wr.heap.size<W.heap.size:=hT.out.lt;have hgW:g<W.heap.size:=by omega
     have hd:decide ((0:Int)<((j+1:Nat):Int))=true:=by simp
     have hwj:IntKind.i64.wrap (((j+1:Nat):Int)-1)=(j:Int):=by rw[IntWalk.i64_in _ (by omega)];omega
     have hwj2:IntKind.i64.wrap (j:Int)=(j:Int):=IntWalk.i64_in _ (by omega);have hwj3:IntKind.i64.wrap ((j:Int)+1-1)=(j:Int):=by rw[IntWalk.i64_in _ (by omega)];omega
     have hj0:(0:Int)<=(j:Int):=Int.natCast_nonneg _;have hj1:(j:Int)<(ts.length:Int):=by omega
     go_region_held3 (fun w'=>w'.cell? ⟨g,o+j*3,none⟩=some (vI ka)/\w'.cell? ⟨g,o+j*3+1,none⟩=some (vT ta)/\w'.cell? ⟨g,o+j*3+2,none⟩=some (vI pa)/\w'.cell? ⟨wr.heap.size,0,none⟩=some (vI kb)/\w'.cell? ⟨wr.heap.size,1,none⟩=some (vT tb)/\w'.cell? ⟨wr.heap.size,2,none⟩=some (vI pb))
      (first|go_keep |(go_split_ands;exact⟨(hb.cell (p:=⟨g,_,none⟩) hgW).trans (by assumption),(hb.cell (p:=⟨g,_,none⟩) hgW).trans (by assumption),(hb.cell (p:=⟨g,_,none⟩) hgW).trans (by assumption),(hb.cell (p:=⟨wr.heap.size,_,none⟩) hkW).trans (by assumption),(hb.cell (p:=⟨wr.heap.size,_,none⟩) hkW).trans (by assumption),(hb.cell (p:=⟨wr.heap.size,_,none⟩) hkW).trans (by assumption)⟩))
      (first
       |(go_at_call 54;(with_reducible refine(CAP.out _).mono ?_);rintro e wx ⟨rfl,hb⟩))
     all_goals go_wp2_with fail
     all_goals go_meet
     all_goals exact⟨congrArg Value.bool HN.out.symm,zh (hW.out.drew.trans (hb.mono hW.out.size)),zh (Lies.below (w:=W.drew) hT.out hb)⟩
   case rest=>
    obtain⟨rfl,bk,dx⟩:=hcut;clear hT hW d0 d1 d2 HC;obtain⟨w5,hw5⟩:∃ w5:World,w5=wc:=⟨_,rfl⟩
    subst hw5
    go_upto_if 23 with fail
    go_cut [5] (fun v wx=>v=vP wr.heap.size 0/\Hid (Lib.IsBuilder 112 5 w.heap.size w.heap.size (Lib.byteCells (cO none (ts.take k)++kA (cC none (ts.take k)) ts[k])) wx)/\Hid (Lies wx wr.heap.size 64 #[vI ts[k].kind,vS (ts[k].text.toArray),vI ts[k].place])/\Hid (Below w.heap.size w wx))
    case first=>
     have ni:Hid (Below w.heap.size w w5):=zh (zU mg.out bk.out);cases hn:sH (cC none (ts.take k)) ts[k]
     ·have HSP:Hid (kA (cC none (ts.take k)) ts[k]=[]):=zh (by rw[gP,hn];rfl)
      go_wp2_with fail
      go_meet
      exact⟨rfl,zh (by rw[HSP.out,List.append_nil];exact IsBuilder.next HBU.out bk.out),dx,ni⟩
     have HSP:Hid (kA (cC none (ts.take k)) ts[k]=[32]):=zh (by rw[gP,hn];rfl);have dg:wr.heap.size≠w.heap.size:=by
      have h1:w.heap.size<wr.heap.size:=by
       rcases HBU.out with h|h
       ·obtain⟨_,u,hb,_⟩:=h;exact(zk.1 hb).1
       obtain⟨_,u,hb,_⟩:=h;exact(zk.1 hb).1
      omega
     go_wp2_with fail
     refine(uG w.heap.size w.heap.size wr.heap.size (cO none (ts.take k)) 32 _ dg dx.out.lt (zh (IsBuilder.notBuf HBU.out bk.out)) (IsBuilder.next HBU.out bk.out) (by omega) ni.out.size).mono ?_;rintro e w6 ⟨rfl,xh,mp,nj⟩;have HBU6:=zh xh;have m4:=zh (ni.out.trans mp);have cy:Hid (Lies w6 wr.heap.size 64 #[vI ts[k].kind,vS (ts[k].text.toArray),vI ts[k].place]):=zh (nj.trans dx.out);clear xh mp nj
     go_wp2_with fail
     go_meet
     exact⟨rfl,zh (by rw[HSP.out];exact HBU6.out),cy,m4⟩
    case rest=>
     obtain⟨rfl,vt,m6,m4⟩:=hcut;obtain⟨w7,hw7⟩:∃ w7:World,w7=wc:=⟨_,rfl⟩
     subst hw7;clear HBU bk dx mg;have q0:=m6.out.cell 0;have q1:=m6.out.cell 1;simp only[za,zb,zf]at q0 q1;have HX:=zh (HMX.out.next m4.out);have htl:=xf.out ts[k] (List.getElem_mem hlt);have hql:=jW ts[k].text;have HZ:Hid (sL ts[k]=if ts[k].kind==2 then 34::(bO ts[k].text++[34]) else ts[k].text):=zh rfl;have jd:(cO none (ts.take k)++kA (cC none (ts.take k)) ts[k]).length<=5000000:=by
      have:(kA (cC none (ts.take k)) ts[k]).length<=1:=by
       rw[gP]
       split <;> decide
      rw[yl];omega
     have HSN2:Hid (cO none (ts.take (k+1))=(cO none (ts.take k)++kA (cC none (ts.take k)) ts[k])++sL ts[k]):=zh (by rw[vr.out];simp);clear vr;generalize cO none (ts.take k)++kA (cC none (ts.take k)) ts[k]=acc at *;cases h2:(ts[k].kind==2)
     ·rw[h2]at HZ;have i9:Hid (sL ts[k]=ts[k].text):=zh (by rw[HZ.out];rfl);clear HZ
      go_wp2_with fail
      refine(kI w.heap.size w.heap.size acc ts[k].text _ vt.out (by omega) m4.out.size).mono ?_;rintro e w8 ⟨rfl,xh,mp⟩;have vu:=zh xh;have HB8:=zh (m4.out.trans mp);clear xh mp vt m4 m6 q0 q1
      go_wp2_with fail
      go_roundg (ts.length-(k+1))
      case rel=>exact⟨k+1,by omega,rfl,by go_num,zh (by rw[HSN2.out,i9.out];exact vu.out),HB8⟩
      case measure=>rw[HGK.out];omega
     rw[h2]at HZ;have i9:Hid (sL ts[k]=34::(bO ts[k].text++[34])):=zh (by rw[HZ.out];rfl);clear HZ
     go_wp2_with fail
     refine(sZ ts[k].text _ (by omega) HX.out).mono ?_;rintro e w8 ⟨rfl,hb⟩;have vu:=zh (IsBuilder.next vt.out hb);have HB8:=zT m4 hb;clear hb vt m4 m6 q0 q1
     go_wp2_with fail
     refine(kI w.heap.size w.heap.size acc (34::(bO ts[k].text++[34])) _ vu.out (by simp;omega) HB8.out.size).mono ?_;rintro e w9 ⟨rfl,xh,mp⟩;have HBU9:=zh xh;have iv:=zh (HB8.out.trans mp);clear xh mp vu HB8
     go_wp2_with fail
     go_roundg (ts.length-(k+1))
     case rel=>exact⟨k+1,by omega,rfl,by go_num,zh (by rw[HSN2.out,i9.out];exact HBU9.out),iv⟩
     case measure=>rw[HGK.out];omega
  have e:k=ts.length:=by omega
  have HE:Hid (ts.take k=ts):=zh (by rw[e,List.take_length]);have hd:decide ((k:Int)<(ts.length:Int))=false:=by rw[e];simp
  have o4:¬ k<ts.length:=hlt;clear e;rw[HE.out]at HBU
  go_wp2_with fail
  refine(Tryz.Builder_String_any w.heap.size w.heap.size (cO none ts) _ HBU.out mg.out.size).mono ?_;rintro e w2 ⟨rfl,aw⟩;have au:Hid (Below w.heap.size w w2):=zh (mg.out.trans aw);clear aw
  go_wp2_with fail
  go_ret
  exact⟨rfl,au.out⟩
theorem xU:(Tryz.prog.info? 85).map (fun i=>(i.zero,i.size,i.bytes))=some (some (.agg #[vI 0,vS #[],vI 0]),3,32):=by kernel_rfl
theorem rV:(Tryz.prog.info? 64).map (fun i=>(i.zero,i.size,i.bytes))=some (some (.agg #[vI 0,vS #[],vI 0]),3,32):=by kernel_rfl
def eW(t:RTok):List Value:=[vI t.kind,vT t.text,vI t.place]
theorem jL(t:RTok):∀ u∈eW t,u.oneCell'=true:=by
 intro u hu;simp only[eW,ym,List.not_mem_nil,or_false]at hu;rcases hu with rfl|rfl|rfl <;> rfl
def cL(ts:List RTok):List Value:=ts.flatMap eW
theorem pH(ts:List RTok)(t:RTok):cL (ts++[t])=cL ts++eW t:=by simp[cL]
theorem rowK_get(ts:List RTok)(j:Nat)(h:j<ts.length):(cL ts)[j*3]?=some (vI ts[j].kind)/\(cL ts)[j*3+1]?=some (vS (ts[j].text.toArray))/\(cL ts)[j*3+2]?=some (vI ts[j].place):=by
 induction ts generalizing j with
 |nil=>simp at h
 |cons t ts ih=>
  have e:cL (t::ts)=eW t++cL ts:=by simp[cL]
  have hl:(eW t).length=3:=rfl;cases j with
  |zero=>rw[e];exact⟨rfl,rfl,rfl⟩
  |succ j=>
   have:=ih j (by simpa using h);rw[e];rw[List.getElem?_append_right (by omega),List.getElem?_append_right (by omega),List.getElem?_append_right (by omega),hl];rw[show (j+1)*3-3=j*3 by omega,show (j+1)*3+1-3=j*3+1 by omega,show (j+1)*3+2-3=j*3+2 by omega];simpa using this
theorem yT(ts:List RTok):(cL ts).length=ts.length*3:=by
 induction ts with
 |nil=>rfl
 |cons t ts ih=>rw[show cL (t::ts)=eW t++cL ts by simp[cL],yl,ih];simp[eW];omega
theorem yI{w:World}{base:Nat}{e:TypeId}{A:Option Addr}{cap:Nat}{ts:List RTok}(h:w.ownsRow base e 3 (.slice A ts.length cap) ts.length (cL ts)):RIn w A ts:=by
 intro hp;rcases h.2 with⟨_,h0⟩|⟨g,ou,cur,hv,_⟩
 ·omega
 injection hv with hA hn hc;subst hA hc;have hlt:=(h.lt g rfl).2;refine⟨g,0,rfl,hlt,fun j hj=>?_⟩;obtain⟨h1,h2,h3⟩:=rowK_get ts j hj;refine⟨?_,?_,?_⟩
 ·rw[Nat.zero_add,h.cellAt _ (by omega)];exact h1
 ·rw[Nat.zero_add,h.cellAt _ (by omega)];exact h2
 rw[Nat.zero_add,h.cellAt _ (by omega)];exact h3
theorem qM:∀ (a b:List RTok),cL (a++b)=cL a++cL b:=fun a b=>by simp[cL]
theorem yU(ts:List RTok):∀ u∈cL ts,u.oneCell'=true:=by
 intro u hu;unfold cL at hu;obtain⟨t,_,ht⟩:=List.mem_flatMap.1 hu;exact jL t u ht
theorem aT{ops:Array Oper}{rest:List Oper}{o:Oper}{a:Act}{w:World}{Q:Exit->Act->World->Prop}(pm:o.guard=none)(s x:Operand)(ho:o.op=.call { callee:=.builtin .append,args:=#[s,x],argTypes:=#[81,81] })
  (base b2:Nat) (v1 v2:Value) (lg ev:List RTok) (hs:a.eval s=v1) (cq:w.ownsRow base 85 3 v1 lg.length (cL lg)) (hx:a.eval x=v2) (ie:w.ownsRow b2 85 3 v2 ev.length (cL ev)) (hn:lg.length+ev.length<=1000000) (dt:base<=w.heap.size)
  (h:∀ A' c' w',w'.ownsRow base 85 3 (.slice A' (lg++ev).length c') (lg++ev).length (cL (lg++ev))->w.grownBy w' v1.ownBlock->wpList Tryz.prog ops Q rest (a.put o.dst (.slice A' (lg++ev).length c')) w'):wpList Tryz.prog ops Q (o::rest) a w:=by
 obtain⟨i1,gi,gz0,gz1,gz2⟩:=info_parts xU;have e1:=qM lg ev;have e2:(lg++ev).length=lg.length+ev.length:=yl;rcases ie.2 with⟨rfl,h0⟩|⟨g,cap,cur,rfl,hb,hh,du,ig,rh,hc4⟩
 ·have po:ev=[]:=List.eq_nil_of_length_eq_zero h0;subst po;rw[List.append_nil]at h;obtain⟨A',c',rfl⟩:=aV cq;refine wpList_append_own_none (P:=Tryz.prog) pm s x 81 ho base 85 i1 3 Tryz.underlying81 gi _ _ _ hs cq hx ?_;exact h A' c' w cq ⟨rfl,rfl,rfl,zr,fun _ _ _=>rfl⟩
 refine wpList_append_own (P:=Tryz.prog) w pm s x 81 ho base 85 i1 (.agg #[vI 0,vS #[],vI 0]) 3 32 Tryz.underlying81 gi gz0 gz1 gz2 rfl (by decide) v1 lg.length (cL lg) hs cq ⟨g,0,none⟩ ev.length cap (cL ev) hx (yT ev) (fun j u hj=>?_) (yU ev) (by unfold maxLen;omega) (by omega) dt (fun v' w' k1 k2 _=>?_)
 ·have:=ie.cells (g:=g) rfl j u hj;exact this
 rw[<- e1,<- e2]at k1;obtain⟨A',c',rfl⟩:=aV k1;exact h A' c' w' k1 k2
end Go.Proofs.YtjfihpaeglpblaaGreatDoor
