/-
  counterpaneref05.Lex: the document's tokens are the program's.
-/
import Derived.Test.YtcgdeoldgnjdeaaDoorRef7
import Derived.Test.YtcgdeoldgnjdeaaDoorLexO
namespace Go.Proofs.YtcgdeoldgnjdeaaDoor
open Go.RowKit

/-- what the document's Lex leaves -/
def RLexPost (w : World) (n : Nat) (r : Except Nat (List Tok)) (e : Ending) (w' : World) : Prop :=
  match r with
  | .error k => e = .returned (.tuple #[.slice none 0 0, .int .i64 k, .bool false]) ∧ Below w.heap.size w w'
  | .ok ts => ∃ v, e = .returned (.tuple #[v, .int .i64 0, .bool true]) ∧ w'.ownsRow w.heap.size 54 3 v (ts.length + 1) (rowCells (ts ++ [endTok n])) ∧ Below w.heap.size w w'

set_option maxRecDepth 100000 in
set_option maxHeartbeats 1600000 in
theorem rlex_any (l : Bs) (w : World) (hs : l.length ≤ 1000000) :
    Calls Tryd.prog 20 #[.string ⟨l.toArray⟩] w fun e w' => RLexPost w l.length (pLex l) e w' := by
  obtain ⟨i0, hi, hz0, hz1, hz2⟩ := info_parts infoRef
  have HP := Lib.hid (LInv.start l)
  go_enter Tryd.func20, Tryd.ntmps20
  go_wp2_with fail
  go_loopw [5, 6] (fun v i wr => ∃ (k : Nat) (a : List Tok), i = .int .i64 k ∧ Hid (LInv l a k) ∧ Hid (wr.ownsRow w.heap.size 54 3 v a.length (rowCells a)) ∧ Hid (Below w.heap.size w wr)) (fun _ i _ => l.length - (intOf i).toNat)
  case atStart => exact ⟨0, [], rfl, HP, Lib.hid (World.ownsRow_nil _ _ _ _), Lib.hid (Below.refl _ _)⟩
  case round =>
    obtain ⟨k, a, rfl, hq, hown, hbel⟩ := hrel
    clear HP
    have hk1 := hq.out.1
    have hk2 := hq.out.2.1
    by_cases hlt : k < l.length
    · have e32 := at_beq l k 32 32 rfl hlt
      cases h32 : atIs l k 32
      · rw [h32] at e32
        have hdp : 0 < (l.drop k).length := by rw [List.length_drop]; omega
        have hdl : (l.drop k).length ≤ 1000000 := by rw [List.length_drop]; omega
        have hle := pToken_le (l.drop k) hdp
        rw [List.length_drop] at hle
        go_wp2_with fail
        refine (rNext_any (l.drop k) _ hdp hdl).mono ?_
        rintro e w1 ⟨kind, text, size, rfl, hnx, hb1⟩
        have hb1s := hb1.size
        have HB1 : Hid (Below w.heap.size w w1) := Lib.hid (hbel.out.trans (hb1.mono hbel.out.size))
        have HO1 := Lib.hid (own_next hb1 hown.out)
        have hsz := HB1.out.size
        clear hb1 hown hbel
        have hbad := Lib.hid (hq.out.bad hlt h32)
        have htok := Lib.hid (hq.out.tok hlt h32)
        obtain ⟨hn1, hn2⟩ := hnx
        have HN2 := Lib.hid hn2
        rw [← hn1] at hbad htok hle
        clear hn2 hn1
        by_cases h0 : size = 0
        · have hres := Lib.hid (hbad.out h0)
          clear hbad htok HN2
          subst h0
          go_wp2_with fail
          go_ret3
          rw [hres.out]
          exact ⟨rfl, HB1.out.alloc hsz _⟩
        · obtain ⟨hk, ht⟩ := HN2.out h0
          have hres := Lib.hid (htok.out h0)
          rw [← hk, ← ht] at hres
          clear hbad htok HN2 hk ht
          have b0 : ((size : Int) == 0) = false := by rw [beq_eq_false_iff_ne]; omega
          go_wp2_with (at_builtin; refine wpList_append_own _ rfl _ _ 27 rfl w.heap.size 54 i0 (.agg #[.int .i64 0, .string ⟨#[]⟩, .int .i64 0]) 3 32 Tryd.underlying27 hi hz0 hz1 hz2 rfl (by decide) _ _ _ rfl ((HO1.out.alloc _).alloc _) ⟨w1.heap.size + 1, 0, none⟩ 1 1 (tokCells ⟨kind, text, k⟩) rfl rfl ?c1 ?c2 ?c3 ?c4 ?c5 ?_)
          case c1 =>
            intro j u hj
            have := ref_news (w := w1.alloc (.cells #[.int .i64 kind, .string ⟨text.toArray⟩, .int .i64 k] 54)) ⟨kind, text, k⟩ j u hj
            simpa using this
          case c2 => exact tok_one _
          case c3 => unfold maxLen; omega
          case c4 => omega
          case c5 => simp; omega
          intro v' w2 hown' hgrow _
          have HO2 : Hid (w2.ownsRow w.heap.size 54 3 v' (a ++ [(⟨kind, text, k⟩ : Tok)]).length (rowCells (a ++ [⟨kind, text, k⟩]))) := Lib.hid (by rw [rowCells_snoc]; simpa using hown')
          have HB2 : Hid (Below w.heap.size w w2) := Lib.hid (((HB1.out.alloc hsz _).alloc (by simp; omega) _).grown hgrow (by simp; omega) (fun j hj => (HO1.out.lt j hj).1))
          clear hown' hgrow HO1 HB1
          go_wp2_with fail
          go_roundw
          case rel => exact ⟨k + size, _, by go_num, hres, HO2, HB2⟩
          case measure => simp [intOf]; omega
      · rw [h32] at e32
        have hres := Lib.hid (hq.out.blank h32)
        go_wp2_with fail
        go_roundw
        case rel => exact ⟨k + 1, a, by go_num, hres, hown, hbel⟩
        case measure => simp [intOf]; omega
    · have hres := Lib.hid (hq.out.done hlt)
      go_wp2_with (at_builtin; refine wpList_append_own _ rfl _ _ 27 rfl w.heap.size 54 i0 (.agg #[.int .i64 0, .string ⟨#[]⟩, .int .i64 0]) 3 32 Tryd.underlying27 hi hz0 hz1 hz2 rfl (by decide) _ _ _ rfl (hown.out.alloc _) ⟨wr.heap.size, 0, none⟩ 1 1 (tokCells (endTok l.length)) rfl rfl ?d1 ?d2 ?d3 ?d4 ?d5 ?_)
      case d1 => exact ref_news (endTok l.length)
      case d2 => exact tok_one _
      case d3 => unfold maxLen; omega
      case d4 => omega
      case d5 => have := hbel.out.size; simp; omega
      intro v' w2 hown' hgrow _
      have HO2 : Hid (w2.ownsRow w.heap.size 54 3 v' (a.length + 1) (rowCells (a ++ [endTok l.length]))) := Lib.hid (by rw [rowCells_snoc]; exact hown')
      have HB2 : Hid (Below w.heap.size w w2) := Lib.hid ((hbel.out.alloc hbel.out.size _).grown hgrow (by have := hbel.out.size; simp; omega) (fun j hj => (hown.out.lt j hj).1))
      clear hown' hgrow
      go_wp2_with fail
      go_ret3
      rw [hres.out]
      exact ⟨v', rfl, HO2.out, HB2.out⟩
end Go.Proofs.YtcgdeoldgnjdeaaDoor
