/-
  lex.Lex: the tokens of a text, in new memory, or the place of what is none.
-/
import Derived.Test.YtcgdeoldgnjdeaaDoorPlainL
namespace Go.Proofs.YtcgdeoldgnjdeaaDoor
open Go.RowKit

theorem infoTok : (Tryd.prog.info? 34).map (fun i => (i.zero, i.size, i.bytes)) = some (some (.agg #[.int .i64 0, .string ⟨#[]⟩, .int .i64 0]), 3, 32) := by kernel_rfl
theorem only_of_below {a w : World} (h : Below a.heap.size a w) (row : Option Nat) : a.grownBy w row := ⟨h.os, h.tape, h.output, h.size, fun i hi _ => h.block i hi⟩
theorem own_next {a w : World} (h : Below a.heap.size a w) {base : Nat} {e : TypeId} {size : Nat} {v : Value} {n : Nat} {xs : List Value} (ho : a.ownsRow base e size v n xs) : w.ownsRow base e size v n xs := by
  refine ho.kept (only_of_below h none) ?_
  cases hv : v.ownBlock with
  | none => exact .inl rfl
  | some k => exact .inr (by simp)
/-- what Lex leaves -/
def LexPost (w : World) (n : Nat) (r : Except Nat (List Tok)) (e : Ending) (w' : World) : Prop :=
  match r with
  | .error k => e = .returned (.tuple #[.slice none 0 0, .int .i64 k, .int .i64 7]) ∧ Below w.heap.size w w'
  | .ok ts => ∃ v, e = .returned (.tuple #[v, .int .i64 0, .int .i64 0]) ∧ w'.ownsRow w.heap.size 34 3 v (ts.length + 1) (rowCells (ts ++ [endTok n])) ∧ Below w.heap.size w w'
theorem tok_news {w : World} (t : Tok) : ∀ j u, (tokCells t)[j]? = some u → (w.alloc (.cells #[.int .i64 t.kind, .string ⟨t.text.toArray⟩, .int .i64 t.place] 34)).cell? ((⟨w.heap.size, 0, none⟩ : Addr).add j) = some u := by
  intro j u hj
  match j, hj with
  | 0, hj => simp [tokCells] at hj; subst hj; simp [Addr.add]
  | 1, hj => simp [tokCells] at hj; subst hj; simp [Addr.add]
  | 2, hj => simp [tokCells] at hj; subst hj; simp [Addr.add]
theorem tok_one (t : Tok) : ∀ u ∈ tokCells t, u.oneCell' = true := by
  intro u hu
  simp [tokCells] at hu
  rcases hu with rfl | rfl | rfl <;> rfl

set_option maxHeartbeats 1600000 in
theorem lex_any (l : Bs) (w : World) (hs : l.length ≤ 1000000) (ht : Tab w) :
    Calls Tryd.prog 19 #[.string ⟨l.toArray⟩] w fun e w' => LexPost w l.length (pLex l) e w' := by
  obtain ⟨i0, hi, hz0, hz1, hz2⟩ := info_parts infoTok
  have HT := Lib.hid ht
  clear ht
  have HP := Lib.hid (LInv.start l)
  go_enter Tryd.func19, Tryd.ntmps19
  go_wp2_with fail
  go_loopw [5, 6] (fun v i wr => ∃ (k : Nat) (a : List Tok), i = .int .i64 k ∧ Hid (LInv l a k) ∧ Hid (wr.ownsRow w.heap.size 34 3 v a.length (rowCells a)) ∧ Hid (Below w.heap.size w wr)) (fun _ i _ => l.length - (intOf i).toNat)
  case atStart => exact ⟨0, [], rfl, HP, Lib.hid (World.ownsRow_nil _ _ _ _), Lib.hid (Below.refl _ _)⟩
  case round =>
    obtain ⟨k, a, rfl, hq, hown, hbel⟩ := hrel
    rename_i v
    clear HP
    have hk1 := hq.out.1
    have hk2 := hq.out.2.1
    have HT2 : Hid (Tab wr) := Lib.hid (HT.out.next hbel.out)
    by_cases hlt : k < l.length
    · have e32 := at_beq l k 32 32 rfl hlt
      cases h32 : atIs l k 32
      · rw [h32] at e32
        have hdp : 0 < (l.drop k).length := by rw [List.length_drop]; omega
        have hdl : (l.drop k).length ≤ 140737488351232 := by rw [List.length_drop]; omega
        have hle := pToken_le (l.drop k) hdp
        rw [List.length_drop] at hle
        go_wp2_with fail
        refine (token_any (l.drop k) _ hdp hdl HT2.out).mono ?_
        rintro e w1 ⟨rfl, hb1⟩
        have HB1 : Hid (Below w.heap.size w w1) := Lib.hid (hbel.out.trans (hb1.mono hbel.out.size))
        have HO1 := Lib.hid (own_next hb1 hown.out)
        clear hb1 hown hbel
        have hbad := Lib.hid (hq.out.bad hlt h32)
        have htok := Lib.hid (hq.out.tok hlt h32)
        generalize pToken (l.drop k) = x at *
        obtain ⟨kind, text, size⟩ := x
        by_cases h0 : size = 0
        · have hres := Lib.hid (hbad.out h0)
          clear hbad htok
          subst h0
          go_wp2_with fail
          go_ret3
          rw [hres.out]
          exact ⟨rfl, HB1.out⟩
        · have hres := Lib.hid (htok.out h0)
          clear hbad htok
          have b0 : ((size : Int) == 0) = false := by rw [beq_eq_false_iff_ne]; omega
          go_wp2_with (at_builtin; refine wpList_append_own _ rfl _ _ 23 rfl w.heap.size 34 i0 (.agg #[.int .i64 0, .string ⟨#[]⟩, .int .i64 0]) 3 32 Tryd.underlying23 hi hz0 hz1 hz2 rfl (by decide) _ _ _ rfl (HO1.out.alloc _) ⟨w1.heap.size, 0, none⟩ 1 1 (tokCells ⟨kind, text, k⟩) rfl rfl ?c1 ?c2 ?c3 ?c4 ?c5 ?_)
          case c1 => exact tok_news ⟨kind, text, k⟩
          case c2 => exact tok_one _
          case c3 => unfold maxLen; omega
          case c4 => omega
          case c5 => have := HB1.out.size; simp; omega
          intro v' w2 hown' hgrow _
          have HO2 : Hid (w2.ownsRow w.heap.size 34 3 v' (a ++ [(⟨kind, text, k⟩ : Tok)]).length (rowCells (a ++ [⟨kind, text, k⟩]))) := Lib.hid (by rw [rowCells_snoc]; simpa using hown')
          have HB2 : Hid (Below w.heap.size w w2) := Lib.hid ((HB1.out.alloc HB1.out.size _).grown hgrow (by have := HB1.out.size; simp; omega) (fun j hj => (HO1.out.lt j hj).1))
          clear hown' hgrow HO1 HB1
          go_wp2_with fail
          go_roundw
          case rel => exact ⟨k + size, _, by go_num, hres, HO2, HB2⟩
          case measure => simp [intOf]; omega
      · rw [h32] at e32
        have hres := Lib.hid (hq.out.blank h32)
        go_wp2_with fail
        go_roundw
        case rel => exact ⟨k + 1, a, by go_num, hres, hown, hbel⟩
        case measure => simp [intOf]; omega
    · have hres := Lib.hid (hq.out.done hlt)
      go_wp2_with (at_builtin; refine wpList_append_own _ rfl _ _ 23 rfl w.heap.size 34 i0 (.agg #[.int .i64 0, .string ⟨#[]⟩, .int .i64 0]) 3 32 Tryd.underlying23 hi hz0 hz1 hz2 rfl (by decide) _ _ _ rfl (hown.out.alloc _) ⟨wr.heap.size, 0, none⟩ 1 1 (tokCells (endTok l.length)) rfl rfl ?d1 ?d2 ?d3 ?d4 ?d5 ?_)
      case d1 => exact tok_news (endTok l.length)
      case d2 => exact tok_one _
      case d3 => unfold maxLen; omega
      case d4 => omega
      case d5 => have := hbel.out.size; simp; omega
      intro v' w2 hown' hgrow _
      have HO2 : Hid (w2.ownsRow w.heap.size 34 3 v' (a.length + 1) (rowCells (a ++ [endTok l.length]))) := Lib.hid (by rw [rowCells_snoc]; exact hown')
      have HB2 : Hid (Below w.heap.size w w2) := Lib.hid ((hbel.out.alloc hbel.out.size _).grown hgrow (by have := hbel.out.size; simp; omega) (fun j hj => (hown.out.lt j hj).1))
      clear hown' hgrow
      go_wp2_with fail
      go_ret3
      rw [hres.out]
      exact ⟨v', rfl, HO2.out, HB2.out⟩
end Go.Proofs.YtcgdeoldgnjdeaaDoor
