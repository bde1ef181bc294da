/-
  counterpanelaw05.LexAgain: the walk.
-/
import Derived.Test.YtcgdeoldgnjdeaaDoorLexO
import Derived.Test.YtcgdeoldgnjdeaaDoorLexA
import Derived.Test.YtcgdeoldgnjdeaaDoorJoin2
namespace Go.Proofs.YtcgdeoldgnjdeaaDoor
open Go.RowKit

def toR (t : Tok) : RTok := ⟨t.kind, t.text, t.place⟩
theorem outZ_toR (t : Tok) : outZ (toR t) = outB (kt t) := by
  unfold outZ outB toR kt
  simp only
  by_cases h : t.kind = 2
  · rw [h]; rfl
  · rw [if_neg h, if_neg]
    rw [beq_iff_eq]
    omega
theorem apartZ_toR (a b : Tok) : apartZ (toR a) (toR b) = apartB (kt a) (kt b) := apartZ_nat _ _ _ _ _ _
theorem joinB_cons (a : Tok) : ∀ (r : List Tok), joinB (kt a :: r.map kt) = outB (kt a) ++ joinF (some (toR a)) (r.map toR)
  | [] => by simp [joinB, joinF]
  | b :: r => by
    have e : sepZ (some (toR a)) (toR b) = if apartB (kt a) (kt b) then [32] else [] := by
      show (if apartZ (toR a) (toR b) then ([32] : Bs) else []) = _
      rw [apartZ_toR]
    rw [List.map_cons, List.map_cons, joinB, joinF, joinB_cons b r, outZ_toR, e]
theorem joinF_toR (ts : List Tok) : joinF none (ts.map toR) = joinB (ts.map kt) := by
  cases ts with
  | nil => rfl
  | cons a r =>
    rw [List.map_cons, List.map_cons, joinB_cons, joinF, outZ_toR]
    rfl
theorem apart_end (a : Nat × Bs) : apartB a (0, []) = false := by
  unfold apartB begK wordK
  simp
theorem joinB_end : ∀ (ts : List (Nat × Bs)), joinB (ts ++ [(0, [])]) = joinB ts
  | [] => rfl
  | [a] => by
    show outB a ++ ((if apartB a (0, []) then [32] else []) ++ outB (0, [])) = outB a
    rw [apart_end]
    simp [outB]
  | a :: b :: r => by
    have := joinB_end (b :: r)
    rw [List.cons_append] at this
    rw [List.cons_append, List.cons_append, joinB, joinB, this]
theorem join_toks (ts : List Tok) (n : Nat) : joinF none ((ts ++ [endTok n]).map toR) = joinB (ts.map kt) := by
  rw [joinF_toR, List.map_append]
  exact joinB_end _
theorem outLen_mem (ts : List (Nat × Bs)) (t : Nat × Bs) (h : t ∈ ts) : (outB t).length ≤ outLen ts := by
  induction ts with
  | nil => simp at h
  | cons a r ih =>
    have e : outLen (a :: r) = (outB a).length + outLen r := rfl
    rcases List.mem_cons.1 h with rfl | h
    · omega
    · have := ih h; omega
theorem quoteB_ge (l : Bs) : l.length ≤ (quoteB l).length := by
  induction l with
  | nil => exact Nat.le_refl _
  | cons c l ih => simp only [quoteB]; split <;> simp only [List.length_cons] <;> omega
theorem text_out (t : Nat × Bs) : t.2.length ≤ (outB t).length := by
  unfold outB
  have := quoteB_ge t.2
  split
  · simp; omega
  · exact Nat.le_refl _
theorem lex_may (s : Bs) (ts : List Tok) (h : pLex s = .ok ts) : (∀ t ∈ ts, MayT (kt t)) ∧ outLen (ts.map kt) ≤ s.length := lexGo_may s.length s 0 ts (Nat.le_refl _) h
theorem text_le (s : Bs) (ts : List Tok) (h : pLex s = .ok ts) : ∀ t ∈ ts, t.text.length ≤ s.length := by
  intro t ht
  have h1 := (lex_may s ts h).2
  have h2 := outLen_mem (ts.map kt) (kt t) (List.mem_map_of_mem ht)
  have h3 := text_out (kt t)
  have h4 : (kt t).2.length = t.text.length := rfl
  omega
/-- what a text's tokens are joined to has the same tokens -/
theorem again (s : Bs) (ts : List Tok) (h : pLex s = .ok ts) : ∃ us, pLex (joinB (ts.map kt)) = .ok us ∧ us.map kt = ts.map kt ∧ (joinB (ts.map kt)).length ≤ 2 * s.length := by
  obtain ⟨h1, h2⟩ := lex_may s ts h
  have hm : ∀ t ∈ ts.map kt, MayT t := fun t ht => by obtain ⟨u, hu, rfl⟩ := List.mem_map.1 ht; exact h1 u hu
  obtain ⟨us, h3, h4⟩ := lex_join (ts.map kt) 0 hm
  exact ⟨us, h3, h4, by have := joinB_len _ hm; omega⟩
theorem same_kt (ts us : List Tok) (n m : Nat) (h : us.map kt = ts.map kt) : SameToks false (ts ++ [endTok n]) (us ++ [endTok m]) := by
  have hl : us.length = ts.length := by have := congrArg List.length h; simpa using this
  refine ⟨by simp [hl], fun j h1 h2 => ?_⟩
  have e : (us ++ [endTok m]).map kt = (ts ++ [endTok n]).map kt := by rw [List.map_append, List.map_append, h]; rfl
  have e2 := congrArg (fun l : List (Nat × Bs) => l[j]?) e
  simp only [List.getElem?_map, List.getElem?_eq_getElem h1, List.getElem?_eq_getElem h2, Option.map_some] at e2
  injection e2 with e2
  have e3 := congrArg Prod.fst e2
  have e4 := congrArg Prod.snd e2
  exact ⟨e3, e4, fun h => by cases h⟩
theorem rIn_tok {w : World} {A : Option Addr} {ts : List Tok} (h : TokIn w A ts) : RIn w A (ts.map toR) := by
  intro hp
  obtain ⟨g, o, hA, hg, hc⟩ := h (by simpa using hp)
  refine ⟨g, o, hA, hg, fun j hj => ?_⟩
  have := hc j (by simpa using hj)
  simpa [toR] using this
theorem join_tok (A : Option Addr) (n cap : Nat) (ts : List Tok) (m : Nat) (w : World) (hn : ts.length + 1 = n) (hl : n ≤ 1000) (hts : ∀ t ∈ ts, t.text.length ≤ 1000) (hin : TokIn w A (ts ++ [endTok m])) (hmx : MaxVar w) :
    Calls Tryd.prog 47 #[.slice A n cap] w fun e w' => e = .returned (.string ⟨(joinB (ts.map kt)).toArray⟩) ∧ Below w.heap.size w w' := by
  have hlen : ((ts ++ [endTok m]).map toR).length = n := by simp [hn]
  have := join_any A cap ((ts ++ [endTok m]).map toR) w (by omega) (fun t ht => by
    obtain ⟨u, hu, rfl⟩ := List.mem_map.1 ht
    rcases List.mem_append.1 hu with hu | hu
    · exact hts u hu
    · rw [List.mem_singleton.1 hu]; exact Nat.zero_le _) (rIn_tok hin) hmx
  rw [join_toks, hlen] at this
  exact this
set_option maxRecDepth 100000 in
set_option maxHeartbeats 1600000 in
theorem lexAgain_great (s : Bs) (w : World) (hs : 200 < s.length) (ht : Tab w) :
    Calls Tryd.prog 12 #[.string ⟨s.toArray⟩] w fun e w' => e = .returned (.bool true) ∧ Below w.heap.size w w' := by
  have HT := Lib.hid ht
  clear ht
  go_enter Tryd.func12, Tryd.ntmps12
  go_wp2_with fail
  refine (awake_any _ HT.out).mono ?_
  rintro e w1 ⟨rfl, hb1⟩
  have HB1 := Lib.hid hb1
  have HT1 : Hid (Tab w1) := Lib.hid (HT.out.next hb1)
  clear hb1
  go_wp2_with fail
  refine (awake_any _ HT1.out).mono ?_
  rintro e w2 ⟨rfl, hb2⟩
  have HB2 : Hid (Below w.heap.size w w2) := Lib.hid (HB1.out.trans (hb2.mono HB1.out.size))
  clear hb2
  go_wp2_with fail
  go_ret
  exact ⟨rfl, HB2.out⟩
set_option maxRecDepth 100000 in
set_option maxHeartbeats 3200000 in
theorem lexAgain_small (s : Bs) (w : World) (hs : s.length ≤ 200) (ht : Tab w) (hmx : MaxVar w) :
    Calls Tryd.prog 12 #[.string ⟨s.toArray⟩] w fun e w' => e = .returned (.bool true) ∧ Below w.heap.size w w' := by
  have HT := Lib.hid ht
  have HX := Lib.hid hmx
  clear ht hmx
  have hsd : decide (200 < (s.length : Int)) = false := decide_eq_false (by omega)
  cases hL : pLex s with
  | error k =>
    have CB := Lib.hid (fun W (h : Tab W) => lex_bad s k W (by omega) h hL)
    clear hL
    go_enter Tryd.func12, Tryd.ntmps12
    go_wp2_with fail
    refine (awake_any _ HT.out).mono ?_
    rintro e w1 ⟨rfl, hb1⟩
    have HB1 := Lib.hid hb1
    have HT1 : Hid (Tab w1) := Lib.hid (HT.out.next hb1)
    clear hb1
    go_wp2_with fail
    refine (CB.out _ HT1.out).mono ?_
    rintro e w2 ⟨rfl, hb2⟩
    have HB2 : Hid (Below w.heap.size w w2) := Lib.hid (HB1.out.trans (hb2.mono HB1.out.size))
    clear hb2
    go_wp2_with fail
    go_ret
    exact ⟨rfl, HB2.out⟩
  | ok ts =>
    obtain ⟨us, hU, hkt, hJ⟩ := again s ts hL
    have htl := text_le s ts hL
    have hn := pLex_len s ts hL
    have hul : us.length = ts.length := by have := congrArg List.length hkt; simpa using this
    have htu : ∀ t ∈ us, t.text.length ≤ 1000 := by
      intro t ht
      have hm : kt t ∈ ts.map kt := by rw [← hkt]; exact List.mem_map_of_mem ht
      obtain ⟨u, hu, he⟩ := List.mem_map.1 hm
      have h1 := htl u hu
      have h2 : t.text = u.text := (congrArg Prod.snd he).symm
      rw [h2]
      omega
    have htt : ∀ t ∈ ts, t.text.length ≤ 1000 := fun t ht => by have := htl t ht; omega
    have CL := Lib.hid (fun W (h : Tab W) => lex_ok s ts W (by omega) h hL)
    have CJ := Lib.hid (fun A c W (h1 : TokIn W A (ts ++ [endTok s.length])) (h2 : MaxVar W) => join_tok A (ts.length + 1) c ts s.length W rfl (by omega) htt h1 h2)
    have CM := Lib.hid (fun W (h : Tab W) => lex_ok (joinB (ts.map kt)) us W (by omega) h hU)
    have CK := Lib.hid (fun A c W (h1 : TokIn W A (us ++ [endTok (joinB (ts.map kt)).length])) (h2 : MaxVar W) => join_tok A (ts.length + 1) c us _ W (by omega) (by omega) htu h1 h2)
    have HSame := Lib.hid (same_kt ts us s.length (joinB (ts.map kt)).length hkt)
    have hl1 : Hid ((ts ++ [endTok s.length]).length = ts.length + 1) := Lib.hid (by simp)
    have hl2 : Hid ((us ++ [endTok (joinB (ts.map kt)).length]).length = ts.length + 1) := Lib.hid (by simp [hul])
    rw [hul] at CM
    rw [hkt] at CK
    have hlen : ts.length + 1 ≤ 1000000 := by omega
    clear hL hU hkt htl hul htu htt hn
    generalize joinB (ts.map kt) = J at *
    have hJJ : (J == J) = true := by simp
    have hle : decide ((J.length : Int) ≤ 2 * (s.length : Int) + 1) = true := decide_eq_true (by omega)
    go_enter Tryd.func12, Tryd.ntmps12
    go_wp2_with fail
    refine (awake_any _ HT.out).mono ?_
    rintro e w1 ⟨rfl, hb⟩
    have HB1 := Lib.hid hb
    have HT1 : Hid (Tab w1) := Lib.hid (HT.out.next hb)
    have HX1 := Lib.hid (HX.out.next hb)
    clear hb HT HX
    go_wp2_with fail
    refine (CL.out _ HT1.out).mono ?_
    rintro e w2 ⟨g, cap, rfl, hown, hb⟩
    have T2 := Lib.hid (tokIn_own (by rw [hl1.out]; exact hown) : TokIn w2 (some ⟨g, 0, none⟩) (ts ++ [endTok s.length]))
    have HB2 : Hid (Below w.heap.size w w2) := Lib.hid (HB1.out.trans (hb.mono HB1.out.size))
    have HT2 : Hid (Tab w2) := Lib.hid (HT1.out.next hb)
    have HX2 := Lib.hid (HX1.out.next hb)
    clear hb HT1 HX1 HB1 hown
    go_wp2_with fail
    refine (CJ.out _ _ _ T2.out HX2.out).mono ?_
    rintro e w3 ⟨rfl, hb⟩
    have T3 := Lib.hid (T2.out.next hb)
    have HB3 : Hid (Below w.heap.size w w3) := Lib.hid (HB2.out.trans (hb.mono HB2.out.size))
    have HT3 : Hid (Tab w3) := Lib.hid (HT2.out.next hb)
    have HX3 := Lib.hid (HX2.out.next hb)
    clear hb HT2 HX2 HB2 T2
    go_wp2_with fail
    refine (CM.out _ HT3.out).mono ?_
    rintro e w4 ⟨g2, cap2, rfl, hown, hb⟩
    have U4 := Lib.hid (tokIn_own (by rw [hl2.out]; exact hown) : TokIn w4 (some ⟨g2, 0, none⟩) (us ++ [endTok J.length]))
    have T4 := Lib.hid (T3.out.next hb)
    have HB4 : Hid (Below w.heap.size w w4) := Lib.hid (HB3.out.trans (hb.mono HB3.out.size))
    have HX4 := Lib.hid (HX3.out.next hb)
    clear hb HT3 HX3 HB3 T3 hown
    go_wp2_with fail
    refine (of_at _ _ _ (ts ++ [endTok s.length]) _ hl1.out hlen T4.out).mono ?_
    rintro e w5 ⟨A5, c5, rfl, t5, hb⟩
    have T5 := Lib.hid t5
    have U5 := Lib.hid (U4.out.next hb)
    have HB5 : Hid (Below w.heap.size w w5) := Lib.hid (HB4.out.trans (hb.mono HB4.out.size))
    have HX5 := Lib.hid (HX4.out.next hb)
    clear hb HX4 HB4 T4 U4 t5
    go_wp2_with fail
    refine (of_at _ _ _ (us ++ [endTok J.length]) _ hl2.out hlen U5.out).mono ?_
    rintro e w6 ⟨A6, c6, rfl, t6, hb⟩
    have V6 := Lib.hid t6
    have T6 := Lib.hid (T5.out.next hb)
    have U6 := Lib.hid (U5.out.next hb)
    have HB6 : Hid (Below w.heap.size w w6) := Lib.hid (HB5.out.trans (hb.mono HB5.out.size))
    have HX6 := Lib.hid (HX5.out.next hb)
    clear hb HX5 HB5 T5 U5 t6
    go_wp2_with fail
    refine (same_at A5 A6 (ts.length + 1) c5 c6 (ts ++ [endTok s.length]) (us ++ [endTok J.length]) false _ hl1.out hl2.out hlen T6.out V6.out HSame.out).mono ?_
    rintro e w7 ⟨rfl, hb⟩
    have U7 := Lib.hid (U6.out.next hb)
    have HB7 : Hid (Below w.heap.size w w7) := Lib.hid (HB6.out.trans (hb.mono HB6.out.size))
    have HX7 := Lib.hid (HX6.out.next hb)
    clear hb HX6 HB6 T6 U6 V6
    go_wp2_with fail
    refine (CK.out _ _ _ U7.out HX7.out).mono ?_
    rintro e w8 ⟨rfl, hb⟩
    have HB8 : Hid (Below w.heap.size w w8) := Lib.hid (HB7.out.trans (hb.mono HB7.out.size))
    clear hb HX7 HB7 U7
    go_wp2_with fail
    go_ret
    exact ⟨rfl, HB8.out⟩
theorem lexAgain_any (s : Bs) (w : World) (ht : Tab w) (hmx : MaxVar w) :
    Calls Tryd.prog 12 #[.string ⟨s.toArray⟩] w fun e w' => e = .returned (.bool true) ∧ Below w.heap.size w w' := by
  rcases Nat.lt_or_ge 200 s.length with h | h
  · exact lexAgain_great s w h ht
  · exact lexAgain_small s w h ht hmx
end Go.Proofs.YtcgdeoldgnjdeaaDoor
