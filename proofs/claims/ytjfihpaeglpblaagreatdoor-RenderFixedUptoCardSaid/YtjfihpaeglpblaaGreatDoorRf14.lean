/-
  Lemmas, part 14: RkD RkG.
-/
import Derived.Test.YtjfihpaeglpblaaGreatDoorRf13
set_option maxHeartbeats 100000000
set_option maxRecDepth 1000000
namespace Go.Proofs.YtjfihpaeglpblaaGreatDoor
open Go.RowKit
theorem oS:∀ (l:List Tree) (x:Tree),cD (l++[x])=max (cD l) x.depth
 | [],x=>by simp[cD]
 |t::l,x=>by rw[yp,cD,cD,oS l x];omega
theorem wO(l:List Tree)(k:Nat)(h:k<l.length):cD (l.take (k+1))=max (cD (l.take k)) l[k].depth:=by rw[yw h,oS]
mutual
theorem lR:∀ t:Tree,t.depth<=t.size
 | .mk _ l=>by rw[Tree.depth,Tree.size];have:=jS l;omega
theorem jS:∀ l:List Tree,cD l<=aM l
 | []=>zr
 |t::l=>by rw[cD,aM];have:=lR t;have:=jS l;omega
end
theorem wP(l:List Tree)(k:Nat):cD (l.take k)<=aM l:=by
 have h:∀ (l:List Tree) k,aM (l.take k)<=aM l:=fun l=>by
  induction l with
  |nil=>intro k;simp
  |cons t l ih=>intro k;cases k with
   |zero=>simp[aM]
   |succ k=>rw[List.take_succ_cons,aM,aM];have:=ih k;omega
 exact yv (jS _) (h l k)
theorem uBH:∀ (n:Nat),n<=1000000->∀ (t:Tree) (cs:Array Value) (w:World),t.size<=n->TreeIn w t cs->Calls Tryz.prog 37 #[.agg cs] w fun e w'=>e=.returned (vI (t.depth:Nat))/\Below w.heap.size w w':=by
 intro n
 induction n with
 |zero=>intro _ t _ _ hs;cases t;simp[Tree.size]at hs
 |succ n ih=>
 intro bg;rintro⟨h,l⟩ cs w hs ⟨A,cp,rfl,hk⟩;have IH:=zh (fun(i:Nat) (hi:i<l.length) cs W h1=>ih (by omega) (l[i]'hi) cs W (by have h9:(l[i]'hi).size<(Tree.mk h l).size:=eF (t:=.mk h l) (i:=i) hi;omega) h1);have fm:Hid (l.length<=1000000/\aM l<=1000000):=zh (by have h1:=bS l;have h2:aM l+1<=n+1:=hs;omega);clear ih;dsimp only[Tree.h,Tree.l]at hk ⊢;have HK:=zh hk;clear hk hs;have hS:(Tree.mk h l).depth=cD l+1:=by rw[Tree.depth]
 rw[hS];clear hS;generalize ir:(w.alloc (.cells (aH h A l.length cp) 34))=W1;have HL:Hid (Lies W1 w.heap.size 34 (aH h A l.length cp)):=zh (by rw[<- ir];exact Lies.new _ _ _);have HB:Hid (Below w.heap.size w W1):=zh (by rw[<- ir];exact zp _);have al:=zh ir;clear ir
 go_in
 go_upto_region 1 with fail
 rw[al.out];clear al;generalize hQ:w.heap.size=q at *
 go_wp2_with fail
 go_loopw [3,4] (fun d v wr=>∃ i:Nat,i<=l.length/\v=vI (i:Int)/\d=vI (cD (l.take i):Nat)/\Hid (Below W1.heap.size W1 wr)) (fun _ v _=>l.length-(intOf v).toNat)
 case atStart=>exact⟨0,zm _,rfl,rfl,zh zB⟩
 case round=>
  obtain⟨i,hi,rfl,rfl,j9⟩:=hrel;have hx:=(HL.out.next j9.out).cell 21;simp only[za,zb,zf]at hx;by_cases hlt:i<l.length
  ·obtain⟨g,og,ci,rfl,dw,dy⟩:=fU HK.out i hlt;have bi:Hid (Below w.heap.size w wr):=zh (by rw[hQ];exact HB.out.trans (j9.out.mono (by rw[<- hQ];exact HB.out.size)));obtain⟨xv,hti⟩:=dy wr (Kp.of_below bi.out);have HRA:=zh xv;have HC:=zh (IH.out i hlt ci.toArray wr hti);have HDS:=zh (wO l i hlt);have hdb:((l[i]'hlt).depth:Int)<=1000000:=by
    have h1:=lR (l[i]'hlt);have h2:(l[i]'hlt).size<(Tree.mk h l).size:=eF (t:=.mk h l) (i:=i) hlt;have h3:(Tree.mk h l).size=aM l+1:=by rw[Tree.size]
    have:=fm.out.2;omega
   generalize (l[i]'hlt).depth=dk at *;have zi:(Tryz.prog.info? 34).map (·.size)=some ci.length:=by rw[dw];exact bO
   clear dy xv hti;have tp:(i:Int)<(l.length:Int):=by omega
   have hib:(i:Int)<=1000000:=by have:=fm.out.1;omega
   go_wp2_with (first |(refine yr rfl 34 (.tmp 16) rfl g (og+i*22) rfl ci _ HRA.out Tryz.underlying34 rfl zi ?_))
   refine HC.out.mono ?_;rintro e w2 ⟨rfl,hb⟩;have bt:Hid (Below W1.heap.size W1 w2):=zT j9 hb;clear hb HC
   go_wp2_with fail
   go_roundw
   case rel=>exact⟨i+1,by omega,by go_num,by rw[HDS.out];exact congrArg _ (by omega),bt⟩
   case measure=>simp[intOf];omega
  have sq:¬ ((i:Int)<(l.length:Int)):=by omega
  have HDE:Hid (cD (l.take i)=cD l):=zh (by rw[List.take_of_length_le (by omega)]);have hdb:(cD (l.take i):Int)<=1000000:=by have h1:=wP l i;have:=fm.out.2;omega
  generalize cD (l.take i)=dd at *
  go_wp2_with fail
  go_ret
  refine⟨?_,?_⟩
  ·rw[<- HDE.out];rfl
  have h2:Below q w wr:=by have h3:=HB.out;exact h3.trans (j9.out.mono (by have:=h3.size;omega))
  first|exact h2 |(rw[hQ];exact h2)
mutual
def Tree.pre:Tree->List Tree
 | .mk h l=>.mk h l::rX l
def rX:List Tree->List Tree
 | []=>[]
 |t::r=>t.pre++rX r
end
theorem uI:∀ (l:List Tree) (x:Tree),rX (l++[x])=rX l++x.pre
 | [],x=>by simp[rX]
 |t::l,x=>by rw[yp,rX,rX,uI l x,List.append_assoc]
theorem uBR(l:List Tree)(k:Nat)(h:k<l.length):aM (l.take (k+1))=aM (l.take k)+l[k].size:=by rw[yw h,uBQ]
theorem uEY(l:List Tree)(k:Nat)(h:k<l.length):rX (l.take (k+1))=rX (l.take k)++l[k].pre:=by rw[yw h,uI]
theorem uBS(l:List Tree)(k:Nat):aM (l.take k)<=aM l:=by
 have h:∀ (l:List Tree) k,aM (l.take k)<=aM l:=fun l=>by
  induction l with
  |nil=>intro k;simp
  |cons t l ih=>intro k;cases k with
   |zero=>simp[aM]
   |succ k=>rw[List.take_succ_cons,aM,aM];have:=ih k;omega
 exact h l k
def PCells:List Value->List Tree->Prop
 |xs,[]=>xs=[]
 |xs,t::l=>∃ c r,xs=c++r/\c.length=22/\(∃ A cp,c.toArray=aH t.h A t.l.length cp)/\PCells r l
theorem PCells.app:∀ {xs ys:List Value} {l m:List Tree},PCells xs l->PCells ys m->PCells (xs++ys) (l++m)
 |xs,ys,[],m,h,h2=>by
  have h0:xs=[]:=h;subst h0;exact h2
 |xs,ys,t::l,m,⟨c,r,h1,h3,h4,h5⟩,h2=>⟨c,r++ys,by rw[h1,List.append_assoc],h3,h4,PCells.app h5 h2⟩
theorem uAL(h:NodeH)(A:Option Addr)(n c:Nat):(aH h A n c).all (·.oneCell')=true:=by simp[aH,Value.oneCell']
theorem PCells.one':∀ {xs:List Value} {l:List Tree},PCells xs l->∀ u∈xs,u.oneCell'=true
 |xs,[],h,u,hu=>by
  have h0:xs=[]:=h;subst h0;cases hu
 |xs,t::l,⟨c,r,h1,h3,⟨A,cp,h4⟩,h5⟩,u,hu=>by
  subst h1;rcases List.mem_append.1 hu with hu|hu
  ·have:=uAL t.h A t.l.length cp;rw[<- h4]at this;exact(Array.all_eq_true_iff_forall_mem.1 this) u (by simpa using hu)
  exact PCells.one' h5 u hu
theorem PCells.head{h:NodeH}{A:Option Addr}{n cp:Nat}(l:List Tree)(hl:l.length=n):PCells (aH h A n cp).toList [.mk h l]:=by
 refine⟨(aH h A n cp).toList,[],by simp,rfl,⟨A,cp,?_⟩,rfl⟩;rw[<- hl];rfl
theorem lB{ops:Array Oper}{rest:List Oper}{o:Oper}{a:Act}{w:World}{Q:Exit->Act->World->Prop}(sl:o.guard=none)(s x:Operand)(ho:o.op=.call { callee:=.builtin .append,args:=#[s,x],argTypes:=#[32,32] })
  (base n m:Nat) (v:Value) (xs:List Value) (hs:a.eval s=v) (az:w.ownsRow base 34 22 v n xs) (hn:n+m<=3000000) (fd:base<=w.heap.size)
  (v2:Value) (b2:Nat) (news:List Value) (hx:a.eval x=v2) (oh:w.ownsRow b2 34 22 v2 m news) (hm:0<m) (h1:∀ u∈news,u.oneCell'=true)
  (h:∀ A' c' w',w'.ownsRow base 34 22 (.slice A' (n+m) c') (n+m) (xs++news)->w.grownBy w' v.ownBlock->wpList Tryz.prog ops Q rest (a.put o.dst (.slice A' (n+m) c')) w'):wpList Tryz.prog ops Q (o::rest) a w:=by
 have hB:=uEJ;obtain⟨i,z,hi,ap,hz,hzc⟩:=nQ;rw[hi]at hB;simp at hB;obtain⟨g,cap,hv2,_,_,tz⟩:=fI oh hm;have t5:∀ j u,news[j]?=some u->w.cell? ((⟨g,0,none⟩:Addr).add j)=some u:=fun j u hj=>by
  have e:(⟨g,0,none⟩:Addr).add j=⟨g,j,none⟩:=by cases j <;> simp[Addr.add]
  rw[e];exact tz j u hj
 refine wpList_append_own (P:=Tryz.prog) w sl s x 32 ho base 34 i z 22 192 uBY hi hz ap hB.2 hzc (by decide) v n xs hs az ⟨g,0,none⟩ m cap news (by rw[hx,hv2]) oh.1 t5 h1 (by unfold maxLen;omega) (by omega) fd (fun v' w' k1 k2 _=>?_);obtain⟨A',c',rfl⟩:=aY k1;exact h A' c' w' k1 k2
theorem sB:∀ (n:Nat),n<=1000000->∀ (t:Tree) (cs:Array Value) (w:World),t.size<=n->TreeIn w t cs->Calls Tryz.prog 15 #[.agg cs] w fun e w'=>∃ A c xs,e=.returned (.slice A t.size c)/\w'.ownsRow w.heap.size 34 22 (.slice A t.size c) t.size xs/\PCells xs t.pre/\Below w.heap.size w w':=by
 intro n
 induction n with
 |zero=>intro _ t _ _ hs;cases t;simp[Tree.size]at hs
 |succ n ih=>
 intro bg;rintro⟨h,l⟩ cs w hs ⟨A,cp,rfl,hk⟩;have IH:=zh (fun(i:Nat) (hi:i<l.length) cs W h1=>ih (by omega) (l[i]'hi) cs W (by have h9:(l[i]'hi).size<(Tree.mk h l).size:=eF (t:=.mk h l) (i:=i) hi;omega) h1);have fm:Hid (l.length<=1000000/\aM l<=1000000):=zh (by have h1:=bS l;have h2:aM l+1<=n+1:=hs;omega);clear ih;dsimp only[Tree.h,Tree.l]at hk ⊢;have HK:=zh hk;clear hk hs;have hS:(Tree.mk h l).size=aM l+1:=by rw[Tree.size]
 have hP:(Tree.mk h l).pre=.mk h l::rX l:=by rw[Tree.pre]
 rw[hS,hP];clear hS hP;generalize ir:(w.alloc (.cells (aH h A l.length cp) 34))=W1;have HL:Hid (Lies W1 w.heap.size 34 (aH h A l.length cp)):=zh (by rw[<- ir];exact Lies.new _ _ _);have HB:Hid (Below w.heap.size w W1):=zh (by rw[<- ir];exact zp _);have al:=zh ir;clear ir;have ew:Hid (W1.heap.size=w.heap.size+1):=zh (by rw[<- al.out];simp);have HHD:=zh (PCells.head (h:=h) (A:=A) (cp:=cp) l rfl);have xf:Hid ((W1.alloc (.cells (aH h A l.length cp) 34)).ownsRow W1.heap.size 34 22 (.slice (some ⟨W1.heap.size,0,none⟩) 1 1) 1 (aH h A l.length cp).toList):=zh ⟨rfl,.inr ⟨_,1,_,rfl,zr,heap_alloc_new _ _,zr,by unfold maxLen;omega,rfl,rfl⟩⟩;have wu:Hid (Below W1.heap.size W1 (W1.alloc (.cells (aH h A l.length cp) 34))):=zh (zp _)
 go_in
 go_upto_region 1 with fail
 rw[al.out];clear al;generalize hQ:w.heap.size=q at *;have gy:=zh (HL.out.range);obtain⟨C,hC⟩:∃ C:List Value,C=(aH h A l.length cp).toList:=⟨_,rfl⟩
 have hCa:aH h A l.length cp=C.toArray:=by rw[hC]
 have ry:C.length=22:=by rw[hC];rfl
 rw[<- hC]at gy xf HHD;rw[hCa]at xf wu;have xw:(Tryz.prog.info? 34).map (·.size)=some C.length:=by rw[ry];exact bO
 generalize dx:W1.alloc (.cells C.toArray 34)=W2 at *
 go_wp2_with (first |(refine yr rfl 34 (.tmp 1) rfl q 0 rfl C _ gy.out Tryz.underlying34 rfl xw ?_) |(refine sS rfl (.tmp 5) rfl C rfl ry W1.heap.size rfl (some 6) rfl ?_;rw[dx]))
 have HBQ:Hid (q+1=W1.heap.size):=zh ew.out.symm;clear hC hCa xw gy
 go_loopw [3,4] (fun d v wr=>∃ (i:Nat) (A':Option Addr) (c':Nat) (xs:List Value),i<=l.length/\v=vI (i:Int)/\d=.slice A' (aM (l.take i)+1) c'/\Hid (wr.ownsRow W1.heap.size 34 22 (.slice A' (aM (l.take i)+1) c') (aM (l.take i)+1) xs)/\Hid (PCells xs (.mk h l::rX (l.take i)))/\Hid (Below W1.heap.size W1 wr)) (fun _ v _=>l.length-(intOf v).toNat)
 case atStart=>exact⟨0,_,_,_,zm _,rfl,rfl,xf,HHD,wu⟩
 case round=>
  obtain⟨i,A',c',xs,hi,rfl,rfl,HO,HP,j9⟩:=hrel;have hx:=(HL.out.next j9.out).cell 21;simp only[za,zb,zf]at hx;by_cases hlt:i<l.length
  ·obtain⟨g,og,ci,rfl,dw,dy⟩:=fU HK.out i hlt;have bi:Hid (Below w.heap.size w wr):=zh (by rw[hQ];exact HB.out.trans (j9.out.mono (by rw[<- hQ];exact HB.out.size)));obtain⟨xv,hti⟩:=dy wr (Kp.of_below bi.out);have HRA:=zh xv;have HC:=zh (IH.out i hlt ci.toArray wr hti);have bq:=zh (uBR l i hlt);have HPS:=zh (uEY l i hlt);have HDB:Hid ((l[i]'hlt).size<=1000000/\0<(l[i]'hlt).size/\aM (l.take i)<=1000000):=zh (by
    have h2:(l[i]'hlt).size<(Tree.mk h l).size:=eF (t:=.mk h l) (i:=i) hlt;have h3:(Tree.mk h l).size=aM l+1:=by rw[Tree.size]
    have h4:=uBS l i;have:=fm.out.2;refine⟨by omega,?_,by omega⟩;cases l[i]'hlt;exact Nat.succ_pos _)
   generalize (l[i]'hlt).size=dk at *;generalize (l[i]'hlt).pre=dp at *;generalize aM (l.take i)=sk at *;have zi:(Tryz.prog.info? 34).map (·.size)=some ci.length:=by rw[dw];exact bO
   clear dy xv hti;have tp:(i:Int)<(l.length:Int):=by omega
   have hib:(i:Int)<=1000000:=by have:=fm.out.1;omega
   go_wp2_with (first |(refine yr rfl 34 (.tmp 18) rfl g (og+i*22) rfl ci _ HRA.out Tryz.underlying34 rfl zi ?_))
   refine HC.out.mono ?_;rintro e w2 ⟨A2,c2,ys,rfl,ho2,hp2,hb⟩;have tf:=zh ho2;have HP2:=zh hp2;have HOa:=zh (HO.out.kept (lE hb none) (Classical.em _));have bt:Hid (Below W1.heap.size W1 w2):=zT j9 hb;have HON:=zh (HP2.out.one');have HSB:Hid (W1.heap.size<=w2.heap.size):=zh bt.out.size;clear hb HC ho2 hp2
   go_wp2_with (first |(refine lB rfl (.tmp 14) (.tmp 20) rfl W1.heap.size (sk+1) dk _ xs rfl HOa.out (by have:=HDB.out;omega) HSB.out _ _ ys rfl tf.out HDB.out.2.1 HON.out ?_;intro A3 c3 w3 k1 k2;have K1:=zh k1;have K2:=zh k2;clear k1 k2))
   have bk:Hid (Below W1.heap.size W1 w3):=zh (bt.out.grown K2.out HSB.out (fun k hk=>(HOa.out.lt k hk).1))
   go_roundw
   case rel=>exact⟨i+1,A3,c3,xs++ys,by omega,by go_num,by rw[bq.out,show sk+dk+1=sk+1+dk by omega],zh (by rw[bq.out,show sk+dk+1=sk+1+dk by omega];exact K1.out),zh (by rw[HPS.out];exact PCells.app HP.out HP2.out),bk⟩
   case measure=>simp[intOf];omega
  have sq:¬ ((i:Int)<(l.length:Int)):=by omega
  have e:l.take i=l:=List.take_of_length_le (by omega);rw[e]at HO HP ⊢;clear e
  go_wp2_with fail
  go_ret
  have h2:Below q w wr:=by have h3:=HB.out;exact h3.trans (j9.out.mono (by have:=h3.size;omega))
  have h4:=lU HO.out (show q<=W1.heap.size by have:=HBQ.out;omega);exact⟨A',c',rfl,xs,h4,HP.out,h2⟩
end Go.Proofs.YtjfihpaeglpblaaGreatDoor
