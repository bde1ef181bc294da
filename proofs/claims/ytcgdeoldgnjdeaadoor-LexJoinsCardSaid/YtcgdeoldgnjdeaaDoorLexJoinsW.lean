/-
  counterpanelaw05.LexJoins: the walk.
-/
import Derived.Test.YtcgdeoldgnjdeaaDoorLexAgainW
import Derived.Test.YtcgdeoldgnjdeaaDoorJoin3
import Derived.Test.YtcgdeoldgnjdeaaDoorJoin6
import Derived.Test.YtcgdeoldgnjdeaaDoorJoin7
namespace Go.Proofs.YtcgdeoldgnjdeaaDoor
open Go.RowKit

def ktZ (t : RTok) : Nat × Bs := (t.kind.toNat, t.text)
theorem apartZ_kt (a b : RTok) (ha : 0 ≤ a.kind) (hb : 0 ≤ b.kind) : apartZ a b = apartB (ktZ a) (ktZ b) := by
  obtain ⟨ka, ta, pa⟩ := a
  obtain ⟨kb, tb, pb⟩ := b
  obtain ⟨m, rfl⟩ := Int.eq_ofNat_of_zero_le ha
  obtain ⟨n, rfl⟩ := Int.eq_ofNat_of_zero_le hb
  exact apartZ_nat m n ta tb pa pb
theorem outZ_kt (t : RTok) (h : 0 ≤ t.kind) : outZ t = outB (ktZ t) := by
  obtain ⟨k, tx, p⟩ := t
  obtain ⟨n, rfl⟩ := Int.eq_ofNat_of_zero_le h
  unfold outZ outB ktZ
  simp only [Int.toNat_natCast]
  by_cases h : n = 2
  · rw [h]; rfl
  · rw [if_neg h, if_neg]
    rw [beq_iff_eq]
    omega
theorem joinZ_cons (a : RTok) (ha : 0 ≤ a.kind) : ∀ (r : List RTok), (∀ t ∈ r, 0 ≤ t.kind) → joinB (ktZ a :: r.map ktZ) = outB (ktZ a) ++ joinF (some a) r
  | [], _ => by simp [joinB, joinF]
  | b :: r, h => by
    have hb := h b (by simp)
    have e : sepZ (some a) b = if apartB (ktZ a) (ktZ b) then [32] else [] := by
      show (if apartZ a b then ([32] : Bs) else []) = _
      rw [apartZ_kt a b ha hb]
    rw [List.map_cons, joinB, joinF, joinZ_cons b hb r (fun t ht => h t (by simp [ht])), outZ_kt b hb, e]
theorem joinZ_eq (ts : List RTok) (h : ∀ t ∈ ts, 0 ≤ t.kind) : joinF none ts = joinB (ts.map ktZ) := by
  cases ts with
  | nil => rfl
  | cons a r =>
    rw [List.map_cons, joinZ_cons a (h a (by simp)) r (fun t ht => h t (by simp [ht])), joinF, outZ_kt a (h a (by simp))]
    rfl
theorem inL_mem (s : Bs) (l : List Bs) (h : inL s l = true) : s ∈ l ∧ s ≠ [] := by
  unfold inL at h
  simp only [Bool.and_eq_true, List.any_eq_true, beq_iff_eq, Bool.not_eq_true'] at h
  obtain ⟨⟨x, hx, rfl⟩, h2⟩ := h
  exact ⟨hx, fun e => by rw [e] at h2; cases h2⟩
/-- a token that stands not at the end -/
theorem step_mid (t : RTok) (h : stepZ false t = true) : MayT (ktZ t) ∧ 0 ≤ t.kind := by
  unfold stepZ okZ at h
  obtain ⟨k, tx, p⟩ := t
  simp only [Bool.and_eq_true, Bool.or_eq_true, beq_iff_eq, Bool.and_false, Bool.false_and, Bool.not_false, and_true, Bool.false_eq_true, false_or] at h
  unfold MayT ktZ
  simp only
  rcases h with ((((⟨rfl, h⟩ | rfl) | ⟨rfl, h⟩) | ⟨rfl, h⟩) | ⟨rfl, h⟩) | ⟨rfl, h⟩
  · exact ⟨.inl ⟨rfl, h⟩, by decide⟩
  · exact ⟨.inr (.inl rfl), by decide⟩
  · exact ⟨.inr (.inr (.inl ⟨rfl, h⟩)), by decide⟩
  · exact ⟨.inr (.inr (.inr (.inl ⟨rfl, h⟩))), by decide⟩
  · exact ⟨.inr (.inr (.inr (.inr (.inl ⟨rfl, (inL_mem _ _ h).1⟩)))), by decide⟩
  · refine ⟨.inr (.inr (.inr (.inr (.inr ⟨rfl, ?_⟩)))), by decide⟩
    obtain ⟨h1, h2⟩ := inL_mem _ _ h
    unfold faultsL at h1
    obtain ⟨i, hi, he⟩ := List.mem_map.1 h1
    have hi' := List.mem_range.1 hi
    refine ⟨i, ?_, hi', he.symm⟩
    rcases Nat.eq_zero_or_pos i with e | e
    · rw [e] at he
      exact absurd he.symm h2
    · exact e
theorem step_end (t : RTok) (h : stepZ true t = true) : t.kind = 0 ∧ t.text = [] := by
  unfold stepZ okZ at h
  obtain ⟨k, tx, p⟩ := t
  simp only [Bool.and_eq_true, Bool.true_and, Bool.not_eq_true', bne_eq_false_iff_eq] at h
  obtain ⟨h1, rfl⟩ := h
  refine ⟨rfl, ?_⟩
  simpa using h1
/-- tokens that may be: those ahead of the end may be, the end is one -/
theorem may_parts (ts : List RTok) (h0 : 0 < ts.length) (h : ∀ j (h : j < ts.length), stepZ (decide (j + 1 = ts.length)) ts[j] = true) :
    ∃ (us : List RTok) (e : RTok), ts = us ++ [e] ∧ e.kind = 0 ∧ e.text = [] ∧ ∀ t ∈ us, MayT (ktZ t) ∧ 0 ≤ t.kind := by
  have hne : ts ≠ [] := by intro e; rw [e] at h0; simp at h0
  refine ⟨ts.dropLast, ts.getLast hne, (List.dropLast_concat_getLast hne).symm, ?_⟩
  have hl := h (ts.length - 1) (by omega)
  rw [decide_eq_true (by omega)] at hl
  have hg : ts.getLast hne = ts[ts.length - 1] := List.getLast_eq_getElem hne
  rw [hg]
  obtain ⟨e1, e2⟩ := step_end _ hl
  refine ⟨e1, e2, fun t ht => ?_⟩
  obtain ⟨j, hj, rfl⟩ := List.getElem_of_mem ht
  rw [List.length_dropLast] at hj
  have hj2 := h j (by omega)
  rw [decide_eq_false (by omega)] at hj2
  rw [List.getElem_dropLast]
  exact step_mid _ hj2
/-- the joins of tokens that may be are read again as they were -/
theorem joins_law (ts : List RTok) (h0 : 0 < ts.length) (h : ∀ j (h : j < ts.length), stepZ (decide (j + 1 = ts.length)) ts[j] = true) :
    ∃ us : List Tok, pLex (joinF none ts) = .ok us ∧ us.length + 1 = ts.length ∧ SameZ ((us ++ [endTok (joinF none ts).length]).map toR) ts ∧ ∀ t ∈ ts, t.kind = 5 → t.text ≠ [] := by
  obtain ⟨ms, e, rfl, e1, e2, hm⟩ := may_parts ts h0 h
  have hk : ∀ t ∈ ms ++ [e], 0 ≤ t.kind := fun t ht => by
    rcases List.mem_append.1 ht with ht | ht
    · exact (hm t ht).2
    · rw [List.mem_singleton.1 ht, e1]; exact Int.le_refl _
  have hJ : joinF none (ms ++ [e]) = joinB (ms.map ktZ) := by
    rw [joinZ_eq _ hk, List.map_append]
    have : [e].map ktZ = [(0, [])] := by simp [ktZ, e1, e2]
    rw [this, joinB_end]
  have hm2 : ∀ t ∈ ms.map ktZ, MayT t := fun t ht => by obtain ⟨u, hu, rfl⟩ := List.mem_map.1 ht; exact (hm u hu).1
  obtain ⟨us, h3, h4⟩ := lex_join (ms.map ktZ) 0 hm2
  have hl : us.length = ms.length := by have := congrArg List.length h4; simpa using this
  refine ⟨us, by rw [hJ]; exact h3, by simp [hl], ?_, ?_⟩
  · generalize (joinF none (ms ++ [e])).length = n
    refine ⟨by simp [hl], fun j g1 g2 => ?_⟩
    rw [List.length_append, List.length_singleton] at g2
    rcases Nat.lt_or_ge j ms.length with hj | hj
    · have e4 := congrArg (fun l : List (Nat × Bs) => l[j]?) h4
      have hju : j < us.length := by omega
      simp only [List.getElem?_map, List.getElem?_eq_getElem hj, List.getElem?_eq_getElem hju, Option.map_some] at e4
      injection e4 with e4
      have e5 := congrArg Prod.fst e4
      have e6 := congrArg Prod.snd e4
      simp only [ktZ] at e5 e6
      have hnn := (hm ms[j] (List.getElem_mem hj)).2
      rw [List.getElem_append_left hj, List.getElem_map, List.getElem_append_left hju]
      refine ⟨?_, e6.symm⟩
      show ms[j].kind = ((us[j].kind : Nat) : Int)
      omega
    · obtain rfl : j = ms.length := by omega
      have : (ms ++ [e])[ms.length]'(by simp) = e := by simp
      rw [this, List.getElem_map]
      have hE : (us ++ [endTok n])[ms.length]'(by simp [hl]) = endTok n := by
        rw [List.getElem_append_right (by omega)]
        simp
      rw [hE, e1, e2]
      exact ⟨rfl, rfl⟩
  · intro t ht h5
    rcases List.mem_append.1 ht with ht | ht
    · intro he
      have := (hm t ht).1
      unfold MayT ktZ at this
      simp only [h5, he] at this
      rcases this with ⟨h, _⟩ | h | ⟨h, _⟩ | ⟨h, _⟩ | ⟨_, h⟩ | ⟨h, _⟩
      all_goals first | (revert h; decide)
    · rw [List.mem_singleton.1 ht, e1] at h5
      omega
def sumT (ts : List RTok) : Nat := (ts.map fun t => t.text.length).sum
theorem sumT_take (ts : List RTok) (k : Nat) (h : k < ts.length) : sumT (ts.take (k + 1)) = sumT (ts.take k) + ts[k].text.length := by
  rw [List.take_succ_eq_append_getElem h]
  unfold sumT
  rw [List.map_append, List.sum_append]
  rfl
theorem sumT_mem (ts : List RTok) (t : RTok) (h : t ∈ ts) : t.text.length ≤ sumT ts := by
  induction ts with
  | nil => simp at h
  | cons a r ih =>
    have e : sumT (a :: r) = a.text.length + sumT r := rfl
    rcases List.mem_cons.1 h with rfl | h
    · omega
    · have := ih h; omega
set_option maxRecDepth 100000 in
set_option maxHeartbeats 1600000 in
theorem lexJoins_great (A : Option Addr) (cap : Nat) (ts : List RTok) (w : World) (hs : 200 < ts.length) (ht : Tab w) :
    Calls Tryd.prog 11 #[.slice A ts.length cap] w fun e w' => e = .returned (.bool true) ∧ Below w.heap.size w w' := by
  have HT := Lib.hid ht
  clear ht
  go_enter Tryd.func11, Tryd.ntmps11
  go_wp2_with fail
  refine (awake_any _ HT.out).mono ?_
  rintro e w1 ⟨rfl, hb1⟩
  have HB1 := Lib.hid hb1
  have HT1 : Hid (Tab w1) := Lib.hid (HT.out.next hb1)
  clear hb1
  go_wp2_with fail
  refine (awake_any _ HT1.out).mono ?_
  rintro e w2 ⟨rfl, hb2⟩
  have HB2 : Hid (Below w.heap.size w w2) := Lib.hid (HB1.out.trans (hb2.mono HB1.out.size))
  clear hb2
  go_wp2_with fail
  go_ret
  exact ⟨rfl, HB2.out⟩
set_option maxRecDepth 100000 in
set_option maxHeartbeats 3200000 in
theorem lexJoins_small (A : Option Addr) (cap : Nat) (ts : List RTok) (w : World) (hs : ts.length ≤ 200) (hts : ∀ t ∈ ts, t.text.length ≤ 140737488351232) (hin : RIn w A ts) (ht : Tab w) (hmx : MaxVar w) :
    Calls Tryd.prog 11 #[.slice A ts.length cap] w fun e w' => e = .returned (.bool true) ∧ Below w.heap.size w w' := by
  have HT := Lib.hid ht
  have HX := Lib.hid hmx
  have HIN := Lib.hid hin
  have HTS := Lib.hid hts
  have hsd : decide (200 < (ts.length : Int)) = false := decide_eq_false (by omega)
  clear ht hmx hin hts
  go_enter Tryd.func11, Tryd.ntmps11
  go_wp2_with fail
  refine (awake_any _ HT.out).mono ?_
  rintro e w1 ⟨rfl, hb⟩
  have HB1 := Lib.hid hb
  have HT1 : Hid (Tab w1) := Lib.hid (HT.out.next hb)
  have HX1 := Lib.hid (HX.out.next hb)
  have HIN1 := Lib.hid (HIN.out.next hb)
  clear hb HT HX HIN
  go_wp2_with fail
  refine (may_any A cap ts _ (by omega) (fun t ht => by have := HTS.out t ht; omega) HIN1.out).mono ?_
  rintro e w2 ⟨b, rfl, hmay, hb⟩
  have HB2 : Hid (Below w.heap.size w w2) := Lib.hid (HB1.out.trans (hb.mono HB1.out.size))
  have HT2 : Hid (Tab w2) := Lib.hid (HT1.out.next hb)
  have HX2 := Lib.hid (HX1.out.next hb)
  have HIN2 := Lib.hid (HIN1.out.next hb)
  have HM := Lib.hid hmay
  clear hb HT1 HX1 HIN1 HB1 hmay
  cases b
  · go_wp2_with fail
    refine (awake_any _ HT2.out).mono ?_
    rintro e w3 ⟨rfl, hb⟩
    have HB3 : Hid (Below w.heap.size w w3) := Lib.hid (HB2.out.trans (hb.mono HB2.out.size))
    clear hb
    go_wp2_with fail
    go_ret
    exact ⟨rfl, HB3.out⟩
  obtain ⟨us, hU, hul, hsame, h5⟩ := joins_law ts (HM.out rfl).1 (HM.out rfl).2
  have HU := Lib.hid hU
  have HUL := Lib.hid hul
  have HSA := Lib.hid hsame
  have H5 := Lib.hid h5
  clear hU hul hsame h5 HM
  go_wp2_with fail
  go_loop [3, 4] (fun n i => ∃ k : Nat, k ≤ ts.length ∧ i = .int .i64 k ∧ n = .int .i64 (sumT (ts.take k)) ∧ sumT (ts.take k) ≤ 800) (fun _ i => ts.length - (intOf i).toNat)
  case atStart => exact ⟨0, Nat.zero_le _, rfl, rfl, Nat.zero_le _⟩
  case round =>
    obtain ⟨k, hk, rfl, rfl, h800⟩ := hrel
    by_cases hlt : k < ts.length
    · obtain ⟨g, o, rfl, hg, hc⟩ := HIN2.out (by omega)
      obtain ⟨c0, c1, c2⟩ := hc k hlt
      clear hc c0 c2
      have hk0 : (0 : Int) ≤ (k : Int) := Int.natCast_nonneg _
      have hk1 : (k : Int) < (ts.length : Int) := by omega
      have htl := HTS.out ts[k] (List.getElem_mem hlt)
      have HST := Lib.hid (sumT_take ts k hlt)
      by_cases hbig : 800 < sumT (ts.take k) + ts[k].text.length
      · go_wp2_with fail
        all_goals
          go_ret
          exact ⟨rfl, HB2.out⟩
      · go_wp2_with fail
        all_goals
          go_round
          case rel => exact ⟨k + 1, by omega, by go_num, by rw [HST.out]; go_num, by rw [HST.out]; omega⟩
          case measure => simp [intOf]; omega
    · have e : k = ts.length := by omega
      have h800' : sumT ts ≤ 800 := by rw [e, List.take_length] at h800; exact h800
      have HK : Hid (∀ t ∈ ts, t.text.length ≤ 1000) := Lib.hid (fun t ht => by have := sumT_mem ts t ht; omega)
      have hjl := joinF_len ts none HK.out
      clear h800 h800' HTS
      have hlen : ts.length ≤ 1000000 := by omega
      have hl2 : Hid (((us ++ [endTok (joinF none ts).length]).map toR).length = ts.length) := Lib.hid (by simp [HUL.out])
      have hl3 : Hid ((us ++ [endTok (joinF none ts).length]).length = ts.length) := Lib.hid (by simp [HUL.out])
      have CJ := Lib.hid (fun A c W (h : RIn W A ts) (h2 : MaxVar W) => join_any A c ts W (by omega) HK.out h h2)
      have CR := Lib.hid (fun W (h : RIn W A ts) => rjoin_any A cap ts W (by omega) HK.out H5.out h)
      have CM := Lib.hid (fun W (h : Tab W) => lex_ok (joinF none ts) us W (by omega) h HU.out)
      rw [HUL.out] at CM
      clear HU HUL
      generalize joinF none ts = J at *
      have hJJ : (J == J) = true := by simp
      clear e
      have hkd : decide ((k : Int) < (ts.length : Int)) = false := decide_eq_false (by omega)
      go_wp2_with fail
      refine (back_at A cap ts _ hlen HIN2.out).mono ?_
      rintro e w3 ⟨A3, c3, rfl, t3, hb⟩
      have T3 := Lib.hid t3
      have HIN3 := Lib.hid (HIN2.out.next hb)
      have HB3 : Hid (Below w.heap.size w w3) := Lib.hid (HB2.out.trans (hb.mono HB2.out.size))
      have HT3 : Hid (Tab w3) := Lib.hid (HT2.out.next hb)
      have HX3 := Lib.hid (HX2.out.next hb)
      clear hb HT2 HX2 HB2 HIN2 t3
      go_wp2_with fail
      refine (CJ.out _ _ _ T3.out HX3.out).mono ?_
      rintro e w4 ⟨rfl, hb⟩
      have HIN4 := Lib.hid (HIN3.out.next hb)
      have HB4 : Hid (Below w.heap.size w w4) := Lib.hid (HB3.out.trans (hb.mono HB3.out.size))
      have HT4 : Hid (Tab w4) := Lib.hid (HT3.out.next hb)
      clear hb HT3 HX3 HB3 HIN3 T3
      go_wp2_with fail
      refine (CM.out _ HT4.out).mono ?_
      rintro e w5 ⟨g2, cap2, rfl, hown, hb⟩
      have U5 := Lib.hid (tokIn_own (by rw [hl3.out]; exact hown) : TokIn w5 (some ⟨g2, 0, none⟩) (us ++ [endTok J.length]))
      have HIN5 := Lib.hid (HIN4.out.next hb)
      have HB5 : Hid (Below w.heap.size w w5) := Lib.hid (HB4.out.trans (hb.mono HB4.out.size))
      clear hb HT4 HB4 HIN4 hown
      go_wp2_with fail
      refine (CR.out _ HIN5.out).mono ?_
      rintro e w6 ⟨rfl, hb⟩
      have U6 := Lib.hid (U5.out.next hb)
      have HIN6 := Lib.hid (HIN5.out.next hb)
      have HB6 : Hid (Below w.heap.size w w6) := Lib.hid (HB5.out.trans (hb.mono HB5.out.size))
      clear hb HB5 HIN5 U5
      go_wp2_with fail
      refine (of_at _ _ _ (us ++ [endTok J.length]) _ hl3.out hlen U6.out).mono ?_
      rintro e w7 ⟨A7, c7, rfl, t7, hb⟩
      have V7 := Lib.hid (rIn_tok t7)
      have HIN7 := Lib.hid (HIN6.out.next hb)
      have HB7 : Hid (Below w.heap.size w w7) := Lib.hid (HB6.out.trans (hb.mono HB6.out.size))
      clear hb HB6 HIN6 U6 t7
      go_wp2_with fail
      refine (sameR_at A7 A ts.length c7 cap ((us ++ [endTok J.length]).map toR) ts _ hl2.out rfl hlen V7.out HIN7.out HSA.out).mono ?_
      rintro e w8 ⟨rfl, hb⟩
      have HB8 : Hid (Below w.heap.size w w8) := Lib.hid (HB7.out.trans (hb.mono HB7.out.size))
      clear hb
      go_wp2_with fail
      go_ret
      exact ⟨rfl, HB8.out⟩
theorem lexJoins_any (A : Option Addr) (cap : Nat) (ts : List RTok) (w : World) (hts : ∀ t ∈ ts, t.text.length ≤ 140737488351232) (hin : RIn w A ts) (ht : Tab w) (hmx : MaxVar w) :
    Calls Tryd.prog 11 #[.slice A ts.length cap] w fun e w' => e = .returned (.bool true) ∧ Below w.heap.size w w' := by
  rcases Nat.lt_or_ge 200 ts.length with h | h
  · exact lexJoins_great A cap ts w h ht
  · exact lexJoins_small A cap ts w h hts hin ht hmx
end Go.Proofs.YtcgdeoldgnjdeaaDoor
