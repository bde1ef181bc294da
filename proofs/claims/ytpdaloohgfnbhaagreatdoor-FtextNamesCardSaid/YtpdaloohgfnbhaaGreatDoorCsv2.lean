/-
  csv.quoted, next, line; strings.ReplaceAll, IndexAny of any bytes.
-/
import Derived.Test.YtpdaloohgfnbhaaGreatDoorPlainX
import Derived.Test.YtpdaloohgfnbhaaGreatDoorShelfB
import Derived.Test.YtpdaloohgfnbhaaGreatDoorNum10
import Derived.Test.YtpdaloohgfnbhaaGreatDoorPlC1
import Derived.Test.YtpdaloohgfnbhaaGreatDoorBuild1
import Derived.Test.YtpdaloohgfnbhaaGreatDoorBuild2
import Derived.Test.YtpdaloohgfnbhaaGreatDoorLex8
import Derived.Lib.RuneCountTail
import Derived.Lib.TrimU
import Derived.Lib.SpaceUEq
import Derived.Lib.IndexAny
import Derived.Lib.QuoteLoop
import Derived.Laws.OwnMore
namespace Go.Proofs.YtpdaloohgfnbhaaGreatDoor
open Go.RowKit

theorem quoteB_no (l : Bs) (h : 34 ∉ l) : quoteB l = l := by
  induction l with
  | nil => rfl
  | cons c l ih =>
    simp only [quoteB]
    rw [if_neg (fun e => h (by rw [e]; simp)), ih (fun hm => h (by simp [hm]))]
theorem replaceK_quote : ∀ (k : Nat) (s : Bs), s.count 34 = k → Lib.replaceK [34] [34, 34] k s = quoteB s
  | 0, s, h => by
    rw [Lib.replaceK, quoteB_no s (List.count_eq_zero.1 h)]
  | k + 1, s, h => by
    have hm : 34 ∈ s := List.count_pos_iff.1 (by omega)
    obtain ⟨n, h1, h2, h3, h4⟩ := idx_yes s 34 (idx_mem s 34 hm)
    have hi : Lib.index s [34] = n := by rw [Lib.index_one]; exact h1
    rw [Lib.replaceK_hit [34] [34, 34] k s n hi]
    have hc : (s.drop (n + 1)).count 34 = k := by
      have := congrArg (List.count 34) h4
      rw [List.count_append, List.count_cons, List.count_eq_zero.2 h3] at this
      simp at this
      omega
    have hq : quoteB s = quoteB (s.take n) ++ (34 :: 34 :: quoteB (s.drop (n + 1))) := by
      have e : quoteB (34 :: s.drop (n + 1)) = 34 :: 34 :: quoteB (s.drop (n + 1)) := by simp [quoteB]
      rw [← e, ← quoteB_app, ← h4]
    rw [hq, quoteB_no _ h3, show n + ([34] : Bs).length = n + 1 from rfl, replaceK_quote k _ hc]
    simp
theorem replaceAll_quote (s : Bs) : Lib.replaceAll s [34] [34, 34] = quoteB s := by
  unfold Lib.replaceAll Lib.replace
  rw [if_neg (by decide)]
  unfold Lib.replaceNum
  rw [if_pos (.inl (by decide)), Lib.count_one]
  exact replaceK_quote _ s rfl
theorem replaceAll_any (s : Bs) (w : World) (hs : s.length ≤ 1000000) (hm : MaxVar w) :
    Calls Tryz.prog 75 #[.string ⟨s.toArray⟩, .string ⟨#[34]⟩, .string ⟨#[34, 34]⟩] w fun e w' => e = .returned (.string ⟨(quoteB s).toArray⟩) ∧ Below w.heap.size w w' := by
  obtain ⟨m, hm⟩ := hm
  have hsz : (ByteArray.mk s.toArray).size = s.length := by simp [ByteArray.size]
  have hc : Lib.countB ⟨s.toArray⟩ ⟨#[34]⟩ ≤ s.length + 1 := Lib.count_le _ _
  have h2 : (ByteArray.mk #[34, 34]).size = 2 := rfl
  refine (Tryz.strings_ReplaceAll ⟨s.toArray⟩ ⟨#[34]⟩ ⟨#[34, 34]⟩ m w (by rw [hsz]; omega) hm (by decide) (by rw [hsz, h2]; omega)).mono ?_
  rintro e w' ⟨rfl, hb⟩
  exact ⟨by rw [show (ByteArray.mk s.toArray).data.toList = s from rfl, show (ByteArray.mk #[34]).data.toList = [34] from rfl, show (ByteArray.mk #[34, 34]).data.toList = [34, 34] from rfl, replaceAll_quote], hb⟩
theorem idxc_is {t : Bs} {k : Nat} {c : UInt8} (h : t[k]? = some c) (hb : ∀ j, j < k → t[j]? ≠ some c) : Lib.indexByte t c = (k : Int) := by
  by_cases h0 : 0 ≤ Lib.indexByte t c
  · obtain ⟨o, ho⟩ : ∃ o : Nat, Lib.indexByte t c = o := ⟨(Lib.indexByte t c).toNat, by omega⟩
    obtain ⟨h1, h2⟩ := Lib.indexByte_some ho
    rw [ho]
    rcases Nat.lt_trichotomy o k with g | g | g
    · exact absurd h1 (hb o g)
    · rw [g]
    · exact absurd h (h2 k g)
  · have hge := Lib.indexByte_ge t c
    exact absurd h (Lib.indexByte_none (by omega) k)
theorem idxc_app (c : UInt8) (A B : Bs) (hA : c ∉ A) : Lib.indexByte (A ++ c :: B) c = (A.length : Int) :=
  idxc_is (by rw [List.getElem?_append_right (Nat.le_refl _), Nat.sub_self]; rfl) (fun j hj => by
    rw [List.getElem?_append_left hj]
    intro e
    exact hA (List.mem_of_getElem? e))
theorem cut34_yes (A B : Bs) (hA : (34 : UInt8) ∉ A) : Lib.cut (A ++ 34 :: B) [34] = (A, B, true) := by
  unfold Lib.cut
  rw [Lib.index_one, idxc_app 34 A B hA, if_pos (by omega)]
  have h1 : (A.length : Int).toNat = A.length := by omega
  rw [h1, List.take_left']
  · congr 1
    congr 1
    rw [← List.drop_drop, List.drop_left']
    · rfl
    · rfl
  · rfl
theorem cut34_no (A : Bs) (hA : (34 : UInt8) ∉ A) : Lib.cut A [34] = (A, [], false) := by
  have h : Lib.indexByte A 34 = -1 := by
    have hge := Lib.indexByte_ge A 34
    by_cases h0 : 0 ≤ Lib.indexByte A 34
    · obtain ⟨n, h1, h2, h3, h4⟩ := idx_yes A 34 h0
      exact absurd (by rw [h4]; simp) hA
    · omega
  unfold Lib.cut
  rw [Lib.index_one, h]
  rfl
theorem split34 (l : Bs) (h : (34 : UInt8) ∈ l) : ∃ A B, l = A ++ 34 :: B ∧ (34 : UInt8) ∉ A := by
  by_cases h0 : 0 ≤ Lib.indexByte l 34
  · obtain ⟨n, h1, h2, h3, h4⟩ := idx_yes l 34 h0
    exact ⟨_, _, h4, h3⟩
  · exact absurd h (idx_no l 34 (by omega))
def fieldOut (x : Bs × Bs × Int) : Value := .tuple #[.string ⟨x.1.toArray⟩, .string ⟨x.2.1.toArray⟩, .int .i64 x.2.2]
def lenOf (v : Value) : Nat := match v with | .string s => s.size | _ => 0
theorem lenOf_mk (l : Bs) : lenOf (.string ⟨l.toArray⟩) = l.length := by simp [lenOf, ByteArray.size]
def uIdx (l : Bs) : Int := if uLen l < l.length then (uLen l : Int) else -1
theorem sep_mem (c : UInt8) : ([44, 34, 10, 13] : Bs).contains c = isSep c := by
  simp only [isSep, List.contains_cons, List.contains_nil, Bool.or_false, Bool.or_assoc]
theorem any_uIdx : ∀ l : Bs, Lib.indexAny l [44, 34, 10, 13] = uIdx l
  | [] => rfl
  | c :: t => by
    have ih := any_uIdx t
    unfold Lib.indexAny
    rw [sep_mem, ih]
    unfold uIdx uLen
    have hle := runP_le (fun c => !isSep c) t
    cases hc : isSep c
    · have e : runP (fun c => !isSep c) (c :: t) = runP (fun c => !isSep c) t + 1 := by simp [runP, hc]
      rw [e, List.length_cons, if_neg (by decide)]
      by_cases hlt : runP (fun c => !isSep c) t < t.length
      · rw [if_pos hlt, if_neg (by rw [beq_iff_eq]; omega), if_pos (by omega)]
        omega
      · rw [if_neg hlt, if_pos (by rfl), if_neg (by omega)]
    · have e : runP (fun c => !isSep c) (c :: t) = 0 := by simp [runP, hc]
      rw [e, List.length_cons, if_pos rfl, if_pos (by omega)]
      rfl
theorem uLen_is (l : Bs) (n : Nat) (hn : n ≤ l.length) (hb : ∀ j (h : j < l.length), j < n → isSep l[j] = false) (hs : ∀ h : n < l.length, isSep l[n] = true) : uLen l = n := by
  have hle := uLen_le l
  rcases Nat.lt_trichotomy (uLen l) n with g | g | g
  · have h1 := uLen_at l (by omega)
    rw [hb _ (by omega) g] at h1
    cases h1
  · exact g
  · have h1 := runP_lt (fun c => !isSep c) l n g (by omega)
    rw [Bool.not_eq_true'] at h1
    rw [hs (by omega)] at h1
    cases h1
theorem inBlock_ret (id : Nat) (Q : Exit → Act → World → Prop) (a : Act) (w : World) : Exit.inBlock id Q .ret a w = Q .ret a w := rfl
theorem then_ret (K : Act → World → Prop) (Q : Exit → Act → World → Prop) (a : Act) (w : World) : Exit.then K Q .ret a w = Q .ret a w := rfl
def sep4 : ByteArray := ⟨#[44, 34, 10, 13]⟩
theorem dec4 : ∀ pos, pos < 4 → (Utf8.decode sep4 pos).2 = 1 ∧ (Utf8.decode sep4 pos).1 < 128 := by decide +kernel
theorem enc_bytes (r : Int) (h1 : 128 ≤ r) (hv : Lib.validRune r = true) : ∃ e : Bs, Utf8.encode r = ⟨e.toArray⟩ ∧ ((∃ a b, e = [a, b] ∧ 128 ≤ b.toNat) ∨ (∃ a b c, e = [a, b, c] ∧ 128 ≤ c.toNat) ∨ (∃ a b c d, e = [a, b, c, d] ∧ 128 ≤ d.toNat)) := by
  have hv' : Utf8.valid r = true := by
    unfold Lib.validRune at hv
    unfold Utf8.valid
    rw [decide_eq_true_iff] at hv
    simp only [Bool.or_eq_true, Bool.and_eq_true, decide_eq_true_eq]
    omega
  have hc : ¬ r.toNat < 128 := by omega
  unfold Utf8.encode
  simp only [hv', if_true, hc, if_false]
  split
  · exact ⟨_, rfl, .inl ⟨_, _, rfl, by simp; omega⟩⟩
  · split
    · exact ⟨_, rfl, .inr (.inl ⟨_, _, _, rfl, by simp; omega⟩)⟩
    · exact ⟨_, rfl, .inr (.inr ⟨_, _, _, _, rfl, by simp; omega⟩)⟩
theorem getB (l : Bs) (j : Nat) : (ByteArray.mk l.toArray).get! j = l.getD j 0 := by rw [← Lib.getD_get!']
theorem hi_rune (n b0 b1 b2 b3 : Nat) (h : 128 ≤ b0) : 128 ≤ (Lib.decodeN n b0 b1 b2 b3).1 := by
  unfold Lib.decodeN
  repeat' split
  all_goals (simp only; omega)
theorem dec_low (l : Bs) (pos : Nat) (h : pos < l.length) (hb : l[pos].toNat < 128) : Utf8.decode ⟨l.toArray⟩ pos = (l[pos].toNat, 1) := by
  rw [Lib.decode_at, getB, List.getD, List.getElem?_eq_getElem h]
  unfold Lib.decodeN
  rw [if_pos (by simpa using hb)]
  rfl
theorem dec_hi (l : Bs) (pos : Nat) (h : pos < l.length) (hb : 128 ≤ l[pos].toNat) : 128 ≤ (Utf8.decode ⟨l.toArray⟩ pos).1 ∧ Lib.validRune ((Utf8.decode ⟨l.toArray⟩ pos).1 : Int) = true ∧ 1 ≤ (Utf8.decode ⟨l.toArray⟩ pos).2 ∧ pos + (Utf8.decode ⟨l.toArray⟩ pos).2 ≤ l.length ∧ ∀ j (hj : j < l.length), pos ≤ j → j < pos + (Utf8.decode ⟨l.toArray⟩ pos).2 → 128 ≤ l[j].toNat := by
  have hsz : (ByteArray.mk l.toArray).size = l.length := by simp [ByteArray.size]
  have hg : ∀ j (hj : j < l.length), ((ByteArray.mk l.toArray).get! j).toNat = l[j].toNat := fun j hj => by
    rw [getB, List.getD, List.getElem?_eq_getElem hj]; rfl
  rw [Lib.decode_at, hsz, hg pos h]
  obtain ⟨c1, c2, c3, c4⟩ := Lib.decodeN_conts (l.length - pos) l[pos].toNat ((ByteArray.mk l.toArray).get! (pos + 1)).toNat ((ByteArray.mk l.toArray).get! (pos + 2)).toNat ((ByteArray.mk l.toArray).get! (pos + 3)).toNat
  have v1 := Lib.decodeN_valid (l.length - pos) l[pos].toNat ((ByteArray.mk l.toArray).get! (pos + 1)).toNat ((ByteArray.mk l.toArray).get! (pos + 2)).toNat ((ByteArray.mk l.toArray).get! (pos + 3)).toNat l[pos].toNat_lt
  have v2 := hi_rune (l.length - pos) l[pos].toNat ((ByteArray.mk l.toArray).get! (pos + 1)).toNat ((ByteArray.mk l.toArray).get! (pos + 2)).toNat ((ByteArray.mk l.toArray).get! (pos + 3)).toNat hb
  have v3 := Lib.decodeN_ge1 (l.length - pos) l[pos].toNat ((ByteArray.mk l.toArray).get! (pos + 1)).toNat ((ByteArray.mk l.toArray).get! (pos + 2)).toNat ((ByteArray.mk l.toArray).get! (pos + 3)).toNat
  have g1 : ∀ hj : pos + 1 < l.length, ((ByteArray.mk l.toArray).get! (pos + 1)).toNat = l[pos + 1].toNat := hg (pos + 1)
  have g2 : ∀ hj : pos + 2 < l.length, ((ByteArray.mk l.toArray).get! (pos + 2)).toNat = l[pos + 2].toNat := hg (pos + 2)
  have g3 : ∀ hj : pos + 3 < l.length, ((ByteArray.mk l.toArray).get! (pos + 3)).toNat = l[pos + 3].toNat := hg (pos + 3)
  generalize ((ByteArray.mk l.toArray).get! (pos + 1)).toNat = b1 at *
  generalize ((ByteArray.mk l.toArray).get! (pos + 2)).toNat = b2 at *
  generalize ((ByteArray.mk l.toArray).get! (pos + 3)).toNat = b3 at *
  generalize Lib.decodeN (l.length - pos) l[pos].toNat b1 b2 b3 = x at *
  refine ⟨v2, ?_, v3, ?_, fun j hj h1 h2 => ?_⟩
  · unfold Lib.validRune
    rw [decide_eq_true_iff]
    omega
  · by_cases k4 : 4 ≤ x.2
    · have := c3 k4; omega
    · by_cases k3 : 3 ≤ x.2
      · have := c2 k3; omega
      · by_cases k2 : 2 ≤ x.2
        · have := c1 k2; omega
        · omega
  · rcases (by omega : j = pos ∨ j = pos + 1 ∨ j = pos + 2 ∨ j = pos + 3) with rfl | rfl | rfl | rfl
    · exact hb
    · have := c1 (by omega); rw [← g1 hj]; omega
    · have := c2 (by omega); rw [← g2 hj]; omega
    · have := c3 (by omega); rw [← g3 hj]; omega
theorem sep_low (c : UInt8) (h : isSep c = true) : c.toNat < 128 := by
  unfold isSep at h
  simp only [Bool.or_eq_true, beq_iff_eq] at h
  rcases h with ((h | h) | h) | h <;> (subst h; decide)
theorem idx_sep (c : UInt8) : (isSep c = true → 0 ≤ Lib.indexByte [44, 34, 10, 13] c) ∧ (isSep c = false → Lib.indexByte [44, 34, 10, 13] c < 0) := by
  constructor
  · intro h
    unfold isSep at h
    simp only [Bool.or_eq_true, beq_iff_eq] at h
    rcases h with ((h | h) | h) | h <;> (subst h; decide)
  · intro h
    rcases Int.lt_or_le (Lib.indexByte [44, 34, 10, 13] c) 0 with g | g
    · exact g
    · obtain ⟨n, _, _, _, h4⟩ := idx_yes _ _ g
      have hm : c ∈ ([44, 34, 10, 13] : Bs) := by rw [h4]; simp
      have : isSep c = true := by rw [← sep_mem]; simpa using hm
      rw [this] at h; cases h
abbrev wordV (b : Bs) : Value := .string ⟨b.toArray⟩
theorem infoString : (Tryz.prog.info? 9).map (fun i => (i.zero, i.size, i.bytes)) = some (some (.string ⟨#[]⟩), 1, 16) := by kernel_rfl
def LinePost (R : List Bs × Bs × Int) (w : World) (e : Ending) (w' : World) : Prop :=
  ∃ v, e = .returned (.tuple #[v, .string ⟨R.2.1.toArray⟩, .int .i64 R.2.2]) ∧ w'.ownsRow w.heap.size 9 1 v R.1.length (R.1.map wordV) ∧ Below w.heap.size w w'
end Go.Proofs.YtpdaloohgfnbhaaGreatDoor
