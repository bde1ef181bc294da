/-
  csv.quoted, next, line; strings.ReplaceAll, IndexAny of any bytes.
-/
import Derived.Test.YteccjdclkcipbaaGreatDoorPlainX
import Derived.Test.YteccjdclkcipbaaGreatDoorShelfB
import Derived.Test.YteccjdclkcipbaaGreatDoorNum10
import Derived.Test.YteccjdclkcipbaaGreatDoorPlC1
import Derived.Test.YteccjdclkcipbaaGreatDoorBuild1
import Derived.Test.YteccjdclkcipbaaGreatDoorBuild2
import Derived.Test.YteccjdclkcipbaaGreatDoorLex8
import Derived.Lib.RuneCountTail
import Derived.Lib.TrimU
import Derived.Lib.SpaceUEq
import Derived.Lib.IndexAny
import Derived.Lib.QuoteLoop
import Derived.Laws.OwnMore
namespace Go.Proofs.YteccjdclkcipbaaGreatDoor
open Go.RowKit

theorem quoteB_no (l : Bs) (h : 34 ∉ l) : quoteB l = l := by
  induction l with
  | nil => rfl
  | cons c l ih =>
    simp only [quoteB]
    rw [if_neg (fun e => h (by rw [e]; simp)), ih (fun hm => h (by simp [hm]))]
theorem replaceK_quote : ∀ (k : Nat) (s : Bs), s.count 34 = k → Lib.replaceK [34] [34, 34] k s = quoteB s
  | 0, s, h => by
    rw [Lib.replaceK, quoteB_no s (List.count_eq_zero.1 h)]
  | k + 1, s, h => by
    have hm : 34 ∈ s := List.count_pos_iff.1 (by omega)
    obtain ⟨n, h1, h2, h3, h4⟩ := idx_yes s 34 (idx_mem s 34 hm)
    have hi : Lib.index s [34] = n := by rw [Lib.index_one]; exact h1
    rw [Lib.replaceK_hit [34] [34, 34] k s n hi]
    have hc : (s.drop (n + 1)).count 34 = k := by
      have := congrArg (List.count 34) h4
      rw [List.count_append, List.count_cons, List.count_eq_zero.2 h3] at this
      simp at this
      omega
    have hq : quoteB s = quoteB (s.take n) ++ (34 :: 34 :: quoteB (s.drop (n + 1))) := by
      have e : quoteB (34 :: s.drop (n + 1)) = 34 :: 34 :: quoteB (s.drop (n + 1)) := by simp [quoteB]
      rw [← e, ← quoteB_app, ← h4]
    rw [hq, quoteB_no _ h3, show n + ([34] : Bs).length = n + 1 from rfl, replaceK_quote k _ hc]
    simp
theorem replaceAll_quote (s : Bs) : Lib.replaceAll s [34] [34, 34] = quoteB s := by
  unfold Lib.replaceAll Lib.replace
  rw [if_neg (by decide)]
  unfold Lib.replaceNum
  rw [if_pos (.inl (by decide)), Lib.count_one]
  exact replaceK_quote _ s rfl
theorem replaceAll_any (s : Bs) (w : World) (hs : s.length ≤ 1000000) (hm : MaxVar w) :
    Calls Tryz.prog 31 #[.string ⟨s.toArray⟩, .string ⟨#[34]⟩, .string ⟨#[34, 34]⟩] w fun e w' => e = .returned (.string ⟨(quoteB s).toArray⟩) ∧ Below w.heap.size w w' := by
  obtain ⟨m, hm⟩ := hm
  have hsz : (ByteArray.mk s.toArray).size = s.length := by simp [ByteArray.size]
  have hc : Lib.countB ⟨s.toArray⟩ ⟨#[34]⟩ ≤ s.length + 1 := Lib.count_le _ _
  have h2 : (ByteArray.mk #[34, 34]).size = 2 := rfl
  refine (Tryz.strings_ReplaceAll ⟨s.toArray⟩ ⟨#[34]⟩ ⟨#[34, 34]⟩ m w (by rw [hsz]; omega) hm (by decide) (by rw [hsz, h2]; omega)).mono ?_
  rintro e w' ⟨rfl, hb⟩
  exact ⟨by rw [show (ByteArray.mk s.toArray).data.toList = s from rfl, show (ByteArray.mk #[34]).data.toList = [34] from rfl, show (ByteArray.mk #[34, 34]).data.toList = [34, 34] from rfl, replaceAll_quote], hb⟩
theorem idxc_is {t : Bs} {k : Nat} {c : UInt8} (h : t[k]? = some c) (hb : ∀ j, j < k → t[j]? ≠ some c) : Lib.indexByte t c = (k : Int) := by
  by_cases h0 : 0 ≤ Lib.indexByte t c
  · obtain ⟨o, ho⟩ : ∃ o : Nat, Lib.indexByte t c = o := ⟨(Lib.indexByte t c).toNat, by omega⟩
    obtain ⟨h1, h2⟩ := Lib.indexByte_some ho
    rw [ho]
    rcases Nat.lt_trichotomy o k with g | g | g
    · exact absurd h1 (hb o g)
    · rw [g]
    · exact absurd h (h2 k g)
  · have hge := Lib.indexByte_ge t c
    exact absurd h (Lib.indexByte_none (by omega) k)
theorem idxc_app (c : UInt8) (A B : Bs) (hA : c ∉ A) : Lib.indexByte (A ++ c :: B) c = (A.length : Int) :=
  idxc_is (by rw [List.getElem?_append_right (Nat.le_refl _), Nat.sub_self]; rfl) (fun j hj => by
    rw [List.getElem?_append_left hj]
    intro e
    exact hA (List.mem_of_getElem? e))
theorem cut34_yes (A B : Bs) (hA : (34 : UInt8) ∉ A) : Lib.cut (A ++ 34 :: B) [34] = (A, B, true) := by
  unfold Lib.cut
  rw [Lib.index_one, idxc_app 34 A B hA, if_pos (by omega)]
  have h1 : (A.length : Int).toNat = A.length := by omega
  rw [h1, List.take_left']
  · congr 1
    congr 1
    rw [← List.drop_drop, List.drop_left']
    · rfl
    · rfl
  · rfl
theorem cut34_no (A : Bs) (hA : (34 : UInt8) ∉ A) : Lib.cut A [34] = (A, [], false) := by
  have h : Lib.indexByte A 34 = -1 := by
    have hge := Lib.indexByte_ge A 34
    by_cases h0 : 0 ≤ Lib.indexByte A 34
    · obtain ⟨n, h1, h2, h3, h4⟩ := idx_yes A 34 h0
      exact absurd (by rw [h4]; simp) hA
    · omega
  unfold Lib.cut
  rw [Lib.index_one, h]
  rfl
theorem split34 (l : Bs) (h : (34 : UInt8) ∈ l) : ∃ A B, l = A ++ 34 :: B ∧ (34 : UInt8) ∉ A := by
  by_cases h0 : 0 ≤ Lib.indexByte l 34
  · obtain ⟨n, h1, h2, h3, h4⟩ := idx_yes l 34 h0
    exact ⟨_, _, h4, h3⟩
  · exact absurd h (idx_no l 34 (by omega))
theorem ccut_any (t : Bs) (w : World) (ht : t.length ≤ 1000000) (hm : MaxVar w) :
    Calls Tryz.prog 107 #[.string ⟨t.toArray⟩, .string ⟨#[34]⟩] w fun e w' => e = .returned (.tuple #[.string ⟨(Lib.cut t [34]).1.toArray⟩, .string ⟨(Lib.cut t [34]).2.1.toArray⟩, .bool (Lib.cut t [34]).2.2]) ∧ Below w.heap.size w w' := by
  obtain ⟨m, hm⟩ := hm
  refine (Tryz.strings_Cut ⟨t.toArray⟩ ⟨#[34]⟩ m w (by simp [ByteArray.size]; omega) hm).mono ?_
  rintro e w' ⟨rfl, n, rfl⟩
  exact ⟨rfl, below_drewN (Below.refl _ _) n⟩
def fieldOut (x : Bs × Bs × Int) : Value := .tuple #[.string ⟨x.1.toArray⟩, .string ⟨x.2.1.toArray⟩, .int .i64 x.2.2]
def lenOf (v : Value) : Nat := match v with | .string s => s.size | _ => 0
theorem lenOf_mk (l : Bs) : lenOf (.string ⟨l.toArray⟩) = l.length := by simp [lenOf, ByteArray.size]
set_option maxRecDepth 100000 in
set_option maxHeartbeats 6400000 in
theorem quoted32_any (l : Bs) (w : World) (hl : l.length ≤ 1000000) (hm : MaxVar w) :
    Calls Tryz.prog 89 #[.string ⟨l.toArray⟩] w fun e w' => e = .returned (fieldOut (qRun [] l)) ∧ Below w.heap.size w w' := by
  obtain ⟨R, hR⟩ : ∃ R, qRun [] l = R := ⟨_, rfl⟩
  rw [hR]
  have HR := Lib.hid hR
  have HM := Lib.hid hm
  clear hR hm
  go_enter Tryz.func89, Tryz.ntmps89
  go_wp2_with fail
  go_loopw [0] (fun v wr => ∃ (cur acc : Bs), v = .string ⟨cur.toArray⟩ ∧ acc.length + cur.length ≤ l.length ∧ Hid (qRun acc cur = R) ∧ Hid (Lib.IsBuilder 42 5 w.heap.size w.heap.size (Lib.byteCells acc) wr) ∧ Hid (Below w.heap.size w wr)) (fun v _ => lenOf v)
  case atStart => exact ⟨l, [], rfl, by simp, HR, Lib.hid (Lib.fresh_isBuilder _ _ w), Lib.hid ((Below.refl _ w).alloc (Nat.le_refl _) _)⟩
  case round =>
    obtain ⟨cur, acc, rfl, hlen, hq, hB, hbel⟩ := hrel
    clear HR
    by_cases h34 : (34 : UInt8) ∈ cur
    · obtain ⟨A, B, rfl, hA⟩ := split34 cur h34
      have CC := Lib.hid (fun W h => ccut_any (A ++ 34 :: B) W (by omega) h)
      rw [cut34_yes A B hA] at CC
      dsimp only at CC
      have hq2 : Hid (qRun (acc ++ A) (34 :: B) = R) := Lib.hid (by rw [← hq.out, qRun_app A acc (34 :: B) hA])
      rw [List.length_append, List.length_cons] at hlen
      have hsz := Lib.hid (lenOf_mk (A ++ 34 :: B))
      clear hq h34 hA
      go_wp2_with fail
      refine (CC.out _ (HM.out.next hbel.out)).mono ?_
      rintro e w1 ⟨rfl, hb⟩
      have hB1 := Lib.hid (IsBuilder.next hB.out hb)
      have hbel1 := Lib.hid (hbel.out.trans (hb.mono hbel.out.size))
      clear hb hB hbel CC
      go_wp2_with fail
      refine (writeString_any w.heap.size w.heap.size acc A _ hB1.out (by omega) hbel1.out.size).mono ?_
      rintro e w2 ⟨rfl, hb1, hb2⟩
      have HB2 := Lib.hid hb1
      have HW2 : Hid (Below w.heap.size w w2) := Lib.hid (hbel1.out.trans hb2)
      clear hb1 hb2 hB1 hbel1
      cases B with
      | nil =>
        have hr : Hid (R = ([], [], 13)) := Lib.hid (by rw [← hq2.out, qRun_end])
        clear hq2
        go_wp2_with fail
        go_ret3
        exact ⟨by rw [hr.out]; rfl, HW2.out⟩
      | cons d r =>
        rw [qRun_quote] at hq2
        rw [List.length_cons] at hlen
        by_cases h34 : d = 34
        · subst h34
          rw [if_pos rfl] at hq2
          go_wp2_with fail
          refine (writeByte_any w.heap.size w.heap.size (acc ++ A) 34 _ HB2.out (by rw [List.length_append]; omega) HW2.out.size).mono ?_
          rintro e w3 ⟨rfl, hb1, hb2⟩
          have HB3 := Lib.hid hb1
          have HW3 : Hid (Below w.heap.size w w3) := Lib.hid (HW2.out.trans hb2)
          clear hb1 hb2 HB2 HW2
          go_wp2_with fail
          go_roundw
          case rel => exact ⟨r, acc ++ A ++ [34], rfl, by simp; omega, hq2, HB3, HW3⟩
          case measure => rw [hsz.out]; simp [lenOf, ByteArray.size]; omega
        · rw [if_neg h34] at hq2
          have e34 := u8_bne d 34 34 rfl
          have e44 := u8_beq d 44 44 rfl
          have e10 := u8_beq d 10 10 rfl
          have hb34 : (d == 34) = false := by rw [beq_eq_false_iff_ne]; exact h34
          rw [hb34] at e34
          by_cases h44 : d = 44
          · subst h44
            rw [if_pos (.inl rfl)] at hq2
            go_wp2_with fail
            refine (Tryz.Builder_String_any w.heap.size w.heap.size (acc ++ A) _ HB2.out HW2.out.size).mono ?_
            rintro e w3 ⟨rfl, hb⟩
            have HW3 : Hid (Below w.heap.size w w3) := Lib.hid (HW2.out.trans hb)
            clear hb
            go_wp2_with fail
            go_ret3
            exact ⟨by rw [← hq2.out]; rfl, HW3.out⟩
          · have hb44 : (d == 44) = false := by rw [beq_eq_false_iff_ne]; exact h44
            rw [hb44] at e44
            by_cases h10 : d = 10
            · subst h10
              rw [if_pos (.inr rfl)] at hq2
              go_wp2_with fail
              refine (Tryz.Builder_String_any w.heap.size w.heap.size (acc ++ A) _ HB2.out HW2.out.size).mono ?_
              rintro e w3 ⟨rfl, hb⟩
              have HW3 : Hid (Below w.heap.size w w3) := Lib.hid (HW2.out.trans hb)
              clear hb
              go_wp2_with fail
              go_ret3
              exact ⟨by rw [← hq2.out]; rfl, HW3.out⟩
            · have hb10 : (d == 10) = false := by rw [beq_eq_false_iff_ne]; exact h10
              rw [hb10] at e10
              rw [if_neg (by rintro (h | h); exact h44 h; exact h10 h)] at hq2
              clear hb34 hb44 hb10 h34 h44 h10
              go_wp2_with fail
              go_ret3
              exact ⟨by rw [← hq2.out]; rfl, HW2.out⟩
    · have CC := Lib.hid (fun W h => ccut_any cur W (by omega) h)
      rw [cut34_no cur h34] at CC
      dsimp only at CC
      have hr : Hid (R = ([], [], 13)) := Lib.hid (by rw [← hq.out, qRun_none cur acc h34])
      clear hq h34
      go_wp2_with fail
      refine (CC.out _ (HM.out.next hbel.out)).mono ?_
      rintro e w1 ⟨rfl, hb⟩
      have hbel1 := Lib.hid (hbel.out.trans (hb.mono hbel.out.size))
      clear hb hB hbel CC
      go_wp2_with fail
      go_ret3
      exact ⟨by rw [hr.out]; rfl, hbel1.out⟩
def uIdx (l : Bs) : Int := if uLen l < l.length then (uLen l : Int) else -1
theorem sep_mem (c : UInt8) : ([44, 34, 10, 13] : Bs).contains c = isSep c := by
  simp only [isSep, List.contains_cons, List.contains_nil, Bool.or_false, Bool.or_assoc]
theorem any_uIdx : ∀ l : Bs, Lib.indexAny l [44, 34, 10, 13] = uIdx l
  | [] => rfl
  | c :: t => by
    have ih := any_uIdx t
    unfold Lib.indexAny
    rw [sep_mem, ih]
    unfold uIdx uLen
    have hle := runP_le (fun c => !isSep c) t
    cases hc : isSep c
    · have e : runP (fun c => !isSep c) (c :: t) = runP (fun c => !isSep c) t + 1 := by simp [runP, hc]
      rw [e, List.length_cons, if_neg (by decide)]
      by_cases hlt : runP (fun c => !isSep c) t < t.length
      · rw [if_pos hlt, if_neg (by rw [beq_iff_eq]; omega), if_pos (by omega)]
        omega
      · rw [if_neg hlt, if_pos (by rfl), if_neg (by omega)]
    · have e : runP (fun c => !isSep c) (c :: t) = 0 := by simp [runP, hc]
      rw [e, List.length_cons, if_pos rfl, if_pos (by omega)]
      rfl
theorem uLen_is (l : Bs) (n : Nat) (hn : n ≤ l.length) (hb : ∀ j (h : j < l.length), j < n → isSep l[j] = false) (hs : ∀ h : n < l.length, isSep l[n] = true) : uLen l = n := by
  have hle := uLen_le l
  rcases Nat.lt_trichotomy (uLen l) n with g | g | g
  · have h1 := uLen_at l (by omega)
    rw [hb _ (by omega) g] at h1
    cases h1
  · exact g
  · have h1 := runP_lt (fun c => !isSep c) l n g (by omega)
    rw [Bool.not_eq_true'] at h1
    rw [hs (by omega)] at h1
    cases h1
theorem inBlock_ret (id : Nat) (Q : Exit → Act → World → Prop) (a : Act) (w : World) : Exit.inBlock id Q .ret a w = Q .ret a w := rfl
theorem then_ret (K : Act → World → Prop) (Q : Exit → Act → World → Prop) (a : Act) (w : World) : Exit.then K Q .ret a w = Q .ret a w := rfl
def sep4 : ByteArray := ⟨#[44, 34, 10, 13]⟩
theorem dec4 : ∀ pos, pos < 4 → (Utf8.decode sep4 pos).2 = 1 ∧ (Utf8.decode sep4 pos).1 < 128 := by decide +kernel
theorem enc_bytes (r : Int) (h1 : 128 ≤ r) (hv : Lib.validRune r = true) : ∃ e : Bs, Utf8.encode r = ⟨e.toArray⟩ ∧ ((∃ a b, e = [a, b] ∧ 128 ≤ b.toNat) ∨ (∃ a b c, e = [a, b, c] ∧ 128 ≤ c.toNat) ∨ (∃ a b c d, e = [a, b, c, d] ∧ 128 ≤ d.toNat)) := by
  have hv' : Utf8.valid r = true := by
    unfold Lib.validRune at hv
    unfold Utf8.valid
    rw [decide_eq_true_iff] at hv
    simp only [Bool.or_eq_true, Bool.and_eq_true, decide_eq_true_eq]
    omega
  have hc : ¬ r.toNat < 128 := by omega
  unfold Utf8.encode
  simp only [hv', if_true, hc, if_false]
  split
  · exact ⟨_, rfl, .inl ⟨_, _, rfl, by simp; omega⟩⟩
  · split
    · exact ⟨_, rfl, .inr (.inl ⟨_, _, _, rfl, by simp; omega⟩)⟩
    · exact ⟨_, rfl, .inr (.inr ⟨_, _, _, _, rfl, by simp; omega⟩)⟩
set_option maxRecDepth 100000 in
set_option maxHeartbeats 6400000 in
theorem idxRune_bad (w : World) :
    Calls Tryz.prog 71 #[.string ⟨#[44, 34, 10, 13]⟩, .int .i32 65533] w fun e w' => e = .returned (.int .i64 (-1)) ∧ Below w.heap.size w w' := by
  have HI0 : Hid ((w.iter sep4 0).heap[w.heap.size]? = some (.stringIter sep4 0)) := Lib.hid (World.iter_heap w sep4 0)
  have HB0 : Hid (Below w.heap.size w (w.iter sep4 0)) := Lib.hid ((Below.refl _ w).alloc (Nat.le_refl _) _)
  go_enter Tryz.func71, Tryz.ntmps71
  go_wp2_with fail
  go_loopw [5, 6] (fun _ _ wr => ∃ pos : Nat, pos ≤ 4 ∧ Hid (wr.heap[w.heap.size]? = some (.stringIter sep4 pos)) ∧ Hid (Below w.heap.size w wr)) (fun _ _ wr => 4 - wr.iterPos w.heap.size)
  case atStart => exact ⟨0, by omega, HI0, HB0⟩
  case round =>
    obtain ⟨pos, hp, hit, hbel⟩ := hrel
    clear HI0 HB0
    have hp1 : Hid (wr.iterPos w.heap.size = pos) := Lib.hid (by unfold World.iterPos; rw [hit.out])
    by_cases hlt : pos < 4
    · obtain ⟨d1, d2⟩ := dec4 pos hlt
      have hnx : ∀ ty, (Instr.next (.pointer (some ⟨w.heap.size, 0, none⟩)) true ty).run Tryz.prog wr = .ok (.tuple #[.bool true, .int .i64 pos, .int .i32 ((Utf8.decode sep4 pos).1 : Int)]) (wr.iterAt w.heap.size sep4 (pos + (Utf8.decode sep4 pos).2)) :=
        fun ty => Lib.run_next_any_at (P := Tryz.prog) wr w.heap.size sep4 pos ty hit.out hlt
      rw [d1] at hnx
      generalize (Utf8.decode sep4 pos).1 = r at *
      have hb : ((r : Int) == 65533) = false := by rw [beq_eq_false_iff_ne]; omega
      have hit2 : Hid ((wr.iterAt w.heap.size sep4 (pos + 1)).heap[w.heap.size]? = some (.stringIter sep4 (pos + 1))) := Lib.hid (Lib.iterAt_heap wr w.heap.size sep4 pos (pos + 1) hit.out)
      have hb2 : Hid (Below w.heap.size w (wr.iterAt w.heap.size sep4 (pos + 1))) := Lib.hid (Lib.below_iterAt hbel.out (Nat.le_refl _) sep4 (pos + 1))
      have hp2 : Hid ((wr.iterAt w.heap.size sep4 (pos + 1)).iterPos w.heap.size = pos + 1) := Lib.hid (by unfold World.iterPos; rw [hit2.out])
      clear hit hbel d1 d2
      go_wp2_with fail
      go_roundw
      case rel => exact ⟨pos + 1, by omega, hit2, hb2⟩
      case measure => rw [hp2.out, hp1.out]; omega
    · have hnx : ∀ ty, (Instr.next (.pointer (some ⟨w.heap.size, 0, none⟩)) true ty).run Tryz.prog wr = .ok (.tuple #[.bool false]) wr :=
        fun ty => Lib.run_next_end_at (P := Tryz.prog) wr w.heap.size sep4 pos ty hit.out (fun h => hlt h)
      clear hit
      go_wp2_with fail
      go_ret
      exact ⟨rfl, hbel.out⟩
set_option maxRecDepth 100000 in
set_option maxHeartbeats 6400000 in
theorem idxRune_far (r : Int) (w : World) (h1 : 128 ≤ r) (hv : Lib.validRune r = true) (hn : r ≠ 65533) :
    Calls Tryz.prog 71 #[.string ⟨#[44, 34, 10, 13]⟩, .int .i32 r] w fun e w' => e = .returned (.int .i64 (-1)) ∧ Below w.heap.size w w' := by
  obtain ⟨e, he, hcs⟩ := enc_bytes r h1 hv
  have b1 : (r == 65533) = false := by rw [beq_eq_false_iff_ne]; exact hn
  have b2 : ¬ r < 128 := by omega
  have CV := Lib.hid (fun W => Tryz.utf8_ValidRune r W)
  rw [hv] at CV
  clear hv hn
  rcases hcs with ⟨a, b, rfl, hb⟩ | ⟨a, b, c, rfl, hb⟩ | ⟨a, b, c, d, rfl, hb⟩
  · have nb : ((34 : Int) != (b.toNat : Int)) = true := by rw [bne_iff_ne]; omega
    have hz : Hid (Lib.indexByte [10, 13] b = -1) := Lib.hid (by
      have hge := Lib.indexByte_ge [10, 13] b
      by_cases h0 : 0 ≤ Lib.indexByte [10, 13] b
      · obtain ⟨n, _, _, _, h4⟩ := idx_yes _ _ h0
        have hm : b ∈ ([10, 13] : Bs) := by rw [h4]; simp
        exfalso
        simp at hm
        rcases hm with rfl | rfl <;> exact absurd hb (by decide)
      · omega)
    have CI := Lib.hid (fun W => indexByte_any [10, 13] b W)
    rw [hz.out] at CI
    go_enter Tryz.func71, Tryz.ntmps71
    go_wp2_with fail
    refine (CV.out _).mono ?_
    rintro z w' ⟨rfl, rfl⟩
    go_wp2_with fail
    go_step3
    go_wp2_with fail
    go_loopw [9] (fun v9 wr => v9 = .int .i64 1 ∧ w' = wr) (fun _ _ => 0)
    case atStart => exact ⟨rfl, rfl⟩
    case round =>
      obtain ⟨rfl, rfl⟩ := hrel
      go_wp2_with fail
      go_step3
      go_wp2_with fail
      go_quiet (fail)
      have HB1 : Hid (Below w'.heap.size w' (w'.drewN nq)) := Lib.hid (below_drewN (Below.refl _ _) nq)
      generalize w'.drewN nq = W1 at *
      go_wp2_with fail
      go_quiet ((go_at_call 90; exact quiet_left (CI.out _)))
      go_wp2_with fail
      simp (config := { zetaDelta := true }) only [Exit.noGoto_ret, inBlock_ret, then_ret]
      go_ret
      exact ⟨rfl, below_drewN HB1.out nq⟩
  · have nb : ((10 : Int) != (c.toNat : Int)) = true := by rw [bne_iff_ne]; omega
    have hz : Hid (Lib.indexByte [13] c = -1) := Lib.hid (by
      have hge := Lib.indexByte_ge [13] c
      by_cases h0 : 0 ≤ Lib.indexByte [13] c
      · obtain ⟨n, _, _, _, h4⟩ := idx_yes _ _ h0
        have hm : c ∈ ([13] : Bs) := by rw [h4]; simp
        exfalso
        simp at hm
        subst hm; exact absurd hb (by decide)
      · omega)
    have CI := Lib.hid (fun W => indexByte_any [13] c W)
    rw [hz.out] at CI
    go_enter Tryz.func71, Tryz.ntmps71
    go_wp2_with fail
    refine (CV.out _).mono ?_
    rintro z w' ⟨rfl, rfl⟩
    go_wp2_with fail
    go_step3
    go_wp2_with fail
    go_loopw [9] (fun v9 wr => v9 = .int .i64 2 ∧ w' = wr) (fun _ _ => 0)
    case atStart => exact ⟨rfl, rfl⟩
    case round =>
      obtain ⟨rfl, rfl⟩ := hrel
      go_wp2_with fail
      go_step3
      go_wp2_with fail
      go_quiet (fail)
      have HB1 : Hid (Below w'.heap.size w' (w'.drewN nq)) := Lib.hid (below_drewN (Below.refl _ _) nq)
      generalize w'.drewN nq = W1 at *
      go_wp2_with fail
      go_quiet ((go_at_call 90; exact quiet_left (CI.out _)))
      go_wp2_with fail
      simp (config := { zetaDelta := true }) only [Exit.noGoto_ret, inBlock_ret, then_ret]
      go_ret
      exact ⟨rfl, below_drewN HB1.out nq⟩
  · have nb : ((13 : Int) != (d.toNat : Int)) = true := by rw [bne_iff_ne]; omega
    have hz : Hid (Lib.indexByte [] d = -1) := Lib.hid (by
      have hge := Lib.indexByte_ge [] d
      by_cases h0 : 0 ≤ Lib.indexByte [] d
      · obtain ⟨n, _, _, _, h4⟩ := idx_yes _ _ h0
        have hm : d ∈ ([] : Bs) := by rw [h4]; simp
        exfalso
        cases hm
      · omega)
    have CI := Lib.hid (fun W => indexByte_any [] d W)
    rw [hz.out] at CI
    go_enter Tryz.func71, Tryz.ntmps71
    go_wp2_with fail
    refine (CV.out _).mono ?_
    rintro z w' ⟨rfl, rfl⟩
    go_wp2_with fail
    go_step3
    go_wp2_with fail
    go_loopw [9] (fun v9 wr => v9 = .int .i64 3 ∧ w' = wr) (fun _ _ => 0)
    case atStart => exact ⟨rfl, rfl⟩
    case round =>
      obtain ⟨rfl, rfl⟩ := hrel
      go_wp2_with fail
      go_step3
      go_wp2_with fail
      go_quiet (fail)
      have HB1 : Hid (Below w'.heap.size w' (w'.drewN nq)) := Lib.hid (below_drewN (Below.refl _ _) nq)
      generalize w'.drewN nq = W1 at *
      go_wp2_with fail
      go_quiet ((go_at_call 90; exact quiet_left (CI.out _)))
      go_wp2_with fail
      simp (config := { zetaDelta := true }) only [Exit.noGoto_ret, inBlock_ret, then_ret]
      go_ret
      exact ⟨rfl, below_drewN HB1.out nq⟩
theorem getB (l : Bs) (j : Nat) : (ByteArray.mk l.toArray).get! j = l.getD j 0 := by rw [← Lib.getD_get!']
theorem hi_rune (n b0 b1 b2 b3 : Nat) (h : 128 ≤ b0) : 128 ≤ (Lib.decodeN n b0 b1 b2 b3).1 := by
  unfold Lib.decodeN
  repeat' split
  all_goals (simp only; omega)
theorem dec_low (l : Bs) (pos : Nat) (h : pos < l.length) (hb : l[pos].toNat < 128) : Utf8.decode ⟨l.toArray⟩ pos = (l[pos].toNat, 1) := by
  rw [Lib.decode_at, getB, List.getD, List.getElem?_eq_getElem h]
  unfold Lib.decodeN
  rw [if_pos (by simpa using hb)]
  rfl
theorem dec_hi (l : Bs) (pos : Nat) (h : pos < l.length) (hb : 128 ≤ l[pos].toNat) : 128 ≤ (Utf8.decode ⟨l.toArray⟩ pos).1 ∧ Lib.validRune ((Utf8.decode ⟨l.toArray⟩ pos).1 : Int) = true ∧ 1 ≤ (Utf8.decode ⟨l.toArray⟩ pos).2 ∧ pos + (Utf8.decode ⟨l.toArray⟩ pos).2 ≤ l.length ∧ ∀ j (hj : j < l.length), pos ≤ j → j < pos + (Utf8.decode ⟨l.toArray⟩ pos).2 → 128 ≤ l[j].toNat := by
  have hsz : (ByteArray.mk l.toArray).size = l.length := by simp [ByteArray.size]
  have hg : ∀ j (hj : j < l.length), ((ByteArray.mk l.toArray).get! j).toNat = l[j].toNat := fun j hj => by
    rw [getB, List.getD, List.getElem?_eq_getElem hj]; rfl
  rw [Lib.decode_at, hsz, hg pos h]
  obtain ⟨c1, c2, c3, c4⟩ := Lib.decodeN_conts (l.length - pos) l[pos].toNat ((ByteArray.mk l.toArray).get! (pos + 1)).toNat ((ByteArray.mk l.toArray).get! (pos + 2)).toNat ((ByteArray.mk l.toArray).get! (pos + 3)).toNat
  have v1 := Lib.decodeN_valid (l.length - pos) l[pos].toNat ((ByteArray.mk l.toArray).get! (pos + 1)).toNat ((ByteArray.mk l.toArray).get! (pos + 2)).toNat ((ByteArray.mk l.toArray).get! (pos + 3)).toNat l[pos].toNat_lt
  have v2 := hi_rune (l.length - pos) l[pos].toNat ((ByteArray.mk l.toArray).get! (pos + 1)).toNat ((ByteArray.mk l.toArray).get! (pos + 2)).toNat ((ByteArray.mk l.toArray).get! (pos + 3)).toNat hb
  have v3 := Lib.decodeN_ge1 (l.length - pos) l[pos].toNat ((ByteArray.mk l.toArray).get! (pos + 1)).toNat ((ByteArray.mk l.toArray).get! (pos + 2)).toNat ((ByteArray.mk l.toArray).get! (pos + 3)).toNat
  have g1 : ∀ hj : pos + 1 < l.length, ((ByteArray.mk l.toArray).get! (pos + 1)).toNat = l[pos + 1].toNat := hg (pos + 1)
  have g2 : ∀ hj : pos + 2 < l.length, ((ByteArray.mk l.toArray).get! (pos + 2)).toNat = l[pos + 2].toNat := hg (pos + 2)
  have g3 : ∀ hj : pos + 3 < l.length, ((ByteArray.mk l.toArray).get! (pos + 3)).toNat = l[pos + 3].toNat := hg (pos + 3)
  generalize ((ByteArray.mk l.toArray).get! (pos + 1)).toNat = b1 at *
  generalize ((ByteArray.mk l.toArray).get! (pos + 2)).toNat = b2 at *
  generalize ((ByteArray.mk l.toArray).get! (pos + 3)).toNat = b3 at *
  generalize Lib.decodeN (l.length - pos) l[pos].toNat b1 b2 b3 = x at *
  refine ⟨v2, ?_, v3, ?_, fun j hj h1 h2 => ?_⟩
  · unfold Lib.validRune
    rw [decide_eq_true_iff]
    omega
  · by_cases k4 : 4 ≤ x.2
    · have := c3 k4; omega
    · by_cases k3 : 3 ≤ x.2
      · have := c2 k3; omega
      · by_cases k2 : 2 ≤ x.2
        · have := c1 k2; omega
        · omega
  · rcases (by omega : j = pos ∨ j = pos + 1 ∨ j = pos + 2 ∨ j = pos + 3) with rfl | rfl | rfl | rfl
    · exact hb
    · have := c1 (by omega); rw [← g1 hj]; omega
    · have := c2 (by omega); rw [← g2 hj]; omega
    · have := c3 (by omega); rw [← g3 hj]; omega
theorem idxRune_hi (r : Int) (w : World) (h1 : 128 ≤ r) (hv : Lib.validRune r = true) :
    Calls Tryz.prog 71 #[.string ⟨#[44, 34, 10, 13]⟩, .int .i32 r] w fun e w' => e = .returned (.int .i64 (-1)) ∧ Below w.heap.size w w' := by
  by_cases hn : r = 65533
  · subst hn; exact idxRune_bad w
  · exact idxRune_far r w h1 hv hn
theorem sep_low (c : UInt8) (h : isSep c = true) : c.toNat < 128 := by
  unfold isSep at h
  simp only [Bool.or_eq_true, beq_iff_eq] at h
  rcases h with ((h | h) | h) | h <;> (subst h; decide)
theorem idx_sep (c : UInt8) : (isSep c = true → 0 ≤ Lib.indexByte [44, 34, 10, 13] c) ∧ (isSep c = false → Lib.indexByte [44, 34, 10, 13] c < 0) := by
  constructor
  · intro h
    unfold isSep at h
    simp only [Bool.or_eq_true, beq_iff_eq] at h
    rcases h with ((h | h) | h) | h <;> (subst h; decide)
  · intro h
    rcases Int.lt_or_le (Lib.indexByte [44, 34, 10, 13] c) 0 with g | g
    · exact g
    · obtain ⟨n, _, _, _, h4⟩ := idx_yes _ _ g
      have hm : c ∈ ([44, 34, 10, 13] : Bs) := by rw [h4]; simp
      have : isSep c = true := by rw [← sep_mem]; simpa using hm
      rw [this] at h; cases h
set_option maxRecDepth 100000 in
set_option maxHeartbeats 6400000 in
theorem idx4_any (l : Bs) (w : World) (hl : l.length ≤ 1000000) :
    Calls Tryz.prog 49 #[.string ⟨l.toArray⟩, .string ⟨#[44, 34, 10, 13]⟩] w fun e w' => e = .returned (.int .i64 (uIdx l)) ∧ Below w.heap.size w w' := by
  have hsz : (ByteArray.mk l.toArray).size = l.length := by simp [ByteArray.size]
  by_cases h8 : 8 < l.length
  · refine (Tryz.strings_IndexAny_long (by intro w; kernel_rfl) ⟨l.toArray⟩ ⟨#[44, 34, 10, 13]⟩ w (by decide) (by rw [hsz]; exact h8) (by rw [hsz]; omega) (by decide) (fun j b hb => ?_)).mono ?_
    · have : b ∈ ([44, 34, 10, 13] : Bs) := List.mem_of_getElem? hb
      simp at this
      rcases this with rfl | rfl | rfl | rfl <;> decide
    · rintro e w' ⟨rfl, rfl⟩
      exact ⟨by rw [show (ByteArray.mk l.toArray).data.toList = l from rfl, show (ByteArray.mk #[44, 34, 10, 13]).data.toList = [44, 34, 10, 13] from rfl, any_uIdx], ((Below.refl _ w).alloc (Nat.le_refl _) _).alloc (by simp) _⟩
  have HS := Lib.hid hsz
  have HI0 : Hid ((w.iter ⟨l.toArray⟩ 0).heap[w.heap.size]? = some (.stringIter ⟨l.toArray⟩ 0)) := Lib.hid (World.iter_heap w ⟨l.toArray⟩ 0)
  have HB0 : Hid (Below w.heap.size w (w.iter ⟨l.toArray⟩ 0)) := Lib.hid ((Below.refl _ w).alloc (Nat.le_refl _) _)
  have CU := Lib.hid (fun n W => Tryz.strings_shouldUseASCIISet n W)
  have h8i : ¬ 8 < (l.length : Int) := by omega
  clear hsz
  go_enter Tryz.func49, Tryz.ntmps49
  go_wp2_with fail
  refine (CU.out _ _).mono ?_
  rintro e w' ⟨rfl, rfl⟩
  go_wp2_with fail
  have hbw := HI0.out
  go_loopw [9, 10] (fun _ _ wr => ∃ pos : Nat, pos ≤ l.length ∧ Hid (∀ j (h : j < l.length), j < pos → isSep l[j] = false) ∧ Hid (wr.heap[w'.heap.size]? = some (.stringIter ⟨l.toArray⟩ pos)) ∧ Hid (Below w'.heap.size w' wr)) (fun _ _ wr => l.length - wr.iterPos w'.heap.size)
  case atStart => exact ⟨0, by omega, Lib.hid (fun j _ h => by omega), HI0, HB0⟩
  case round =>
    obtain ⟨pos, hp, hno, hit, hbel⟩ := hrel
    clear HI0 HB0 hbw CU
    have hp1 : Hid (wr.iterPos w'.heap.size = pos) := Lib.hid (by unfold World.iterPos; rw [hit.out])
    by_cases hlt : pos < l.length
    · have hnx : ∀ ty, (Instr.next (.pointer (some ⟨w'.heap.size, 0, none⟩)) true ty).run Tryz.prog wr = .ok (.tuple #[.bool true, .int .i64 pos, .int .i32 ((Utf8.decode ⟨l.toArray⟩ pos).1 : Int)]) (wr.iterAt w'.heap.size ⟨l.toArray⟩ (pos + (Utf8.decode ⟨l.toArray⟩ pos).2)) :=
        fun ty => Lib.run_next_any_at (P := Tryz.prog) wr w'.heap.size ⟨l.toArray⟩ pos ty hit.out (by rw [HS.out]; exact hlt)
      by_cases hb : l[pos].toNat < 128
      · rw [dec_low l pos hlt hb] at hnx
        dsimp only at hnx
        have CI := Lib.hid (fun W => Tryz.strings_IndexRune_ascii ⟨#[44, 34, 10, 13]⟩ (l[pos].toNat : Int) W (by omega) (by omega))
        rw [show (ByteArray.mk #[44, 34, 10, 13]).data.toList = [44, 34, 10, 13] from rfl, u8_back] at CI
        have hit2 : Hid ((wr.iterAt w'.heap.size ⟨l.toArray⟩ (pos + 1)).heap[w'.heap.size]? = some (.stringIter ⟨l.toArray⟩ (pos + 1))) := Lib.hid (Lib.iterAt_heap wr w'.heap.size ⟨l.toArray⟩ pos (pos + 1) hit.out)
        have hb2 : Hid (Below w'.heap.size w' (wr.iterAt w'.heap.size ⟨l.toArray⟩ (pos + 1))) := Lib.hid (Lib.below_iterAt hbel.out (Nat.le_refl _) ⟨l.toArray⟩ (pos + 1))
        have hp2 : Hid ((wr.iterAt w'.heap.size ⟨l.toArray⟩ (pos + 1)).iterPos w'.heap.size = pos + 1) := Lib.hid (by unfold World.iterPos; rw [hit2.out])
        obtain ⟨k1, k2⟩ := idx_sep l[pos]
        cases hs : isSep l[pos]
        · have hi := k2 hs
          have hno2 : Hid (∀ j (h : j < l.length), j < pos + 1 → isSep l[j] = false) := Lib.hid (fun j h hj => by
            rcases (by omega : j < pos ∨ j = pos) with g | rfl
            · exact hno.out j h g
            · exact hs)
          generalize Lib.indexByte [44, 34, 10, 13] l[pos] = ix at *
          have hi2 : ¬ 0 ≤ ix := by omega
          clear k1 k2 hs hno hit hbel hi
          go_wp2_with fail
          refine (CI.out _).mono ?_
          rintro e w2 ⟨rfl, rfl⟩
          go_wp2_with fail
          go_roundw
          case rel => exact ⟨pos + 1, by omega, hno2, hit2, hb2⟩
          case measure => rw [hp2.out, hp1.out]; omega
        · have hi := k1 hs
          have hr : Hid (uIdx l = (pos : Int)) := Lib.hid (by
            have := uLen_is l pos hp (fun j h g => hno.out j h g) (fun _ => hs)
            unfold uIdx
            rw [this, if_pos hlt])
          generalize Lib.indexByte [44, 34, 10, 13] l[pos] = ix at *
          clear k1 k2 hs hno hit hbel
          go_wp2_with fail
          refine (CI.out _).mono ?_
          rintro e w2 ⟨rfl, rfl⟩
          go_wp2_with fail
          go_ret
          exact ⟨by rw [hr.out]; rfl, hb2.out⟩
      · obtain ⟨q1, q2, q3, q4, q5⟩ := dec_hi l pos hlt (by omega)
        have Q5 := Lib.hid q5
        have Q2 := Lib.hid q2
        generalize (Utf8.decode ⟨l.toArray⟩ pos).1 = r at *
        generalize (Utf8.decode ⟨l.toArray⟩ pos).2 = d at *
        have CI := Lib.hid (fun W => idxRune_hi (r : Int) W (by omega) Q2.out)
        have hit2 : Hid ((wr.iterAt w'.heap.size ⟨l.toArray⟩ (pos + d)).heap[w'.heap.size]? = some (.stringIter ⟨l.toArray⟩ (pos + d))) := Lib.hid (Lib.iterAt_heap wr w'.heap.size ⟨l.toArray⟩ pos (pos + d) hit.out)
        have hb2 : Hid (Below w'.heap.size w' (wr.iterAt w'.heap.size ⟨l.toArray⟩ (pos + d))) := Lib.hid (Lib.below_iterAt hbel.out (Nat.le_refl _) ⟨l.toArray⟩ (pos + d))
        have hno2 : Hid (∀ j (h : j < l.length), j < pos + d → isSep l[j] = false) := Lib.hid (fun j h hj => by
          rcases (by omega : j < pos ∨ pos ≤ j) with g | g
          · exact hno.out j h g
          · have := Q5.out j h g hj
            rw [Bool.eq_false_iff]
            intro e
            have := sep_low _ e
            omega)
        clear q5 q2 Q2 Q5 hno hit hbel hb
        go_wp2_with fail
        refine (CI.out _).mono ?_
        rintro e w2 ⟨rfl, hbb⟩
        have hlt2 := (Array.getElem?_eq_some_iff.1 hit2.out).1
        have hit3 : Hid (w2.heap[w'.heap.size]? = some (.stringIter ⟨l.toArray⟩ (pos + d))) := Lib.hid ((hbb.block _ hlt2).trans hit2.out)
        have hp2 : Hid (w2.iterPos w'.heap.size = pos + d) := Lib.hid (by unfold World.iterPos; rw [hit3.out])
        have hb3 := Lib.hid (hb2.out.trans (hbb.mono hb2.out.size))
        clear hbb hit2 hb2 hlt2
        go_wp2_with fail
        go_roundw
        case rel => exact ⟨pos + d, q4, hno2, hit3, hb3⟩
        case measure => rw [hp2.out, hp1.out]; omega
    · have hnx : ∀ ty, (Instr.next (.pointer (some ⟨w'.heap.size, 0, none⟩)) true ty).run Tryz.prog wr = .ok (.tuple #[.bool false]) wr :=
        fun ty => Lib.run_next_end_at (P := Tryz.prog) wr w'.heap.size ⟨l.toArray⟩ pos ty hit.out (by rw [HS.out]; exact hlt)
      have hr : Hid (uIdx l = -1) := Lib.hid (by
        have := uLen_is l l.length (Nat.le_refl _) (fun j h _ => hno.out j h (by omega)) (fun h => absurd h (by omega))
        unfold uIdx
        rw [this, if_neg (by omega)])
      clear hit hno
      go_wp2_with fail
      go_ret
      exact ⟨by rw [hr.out]; rfl, hbel.out⟩
theorem prefix1_any (l : Bs) (c : UInt8) (w : World) :
    Calls Tryz.prog 41 #[.string ⟨l.toArray⟩, .string ⟨#[c]⟩] w fun e w' => e = .returned (.tuple #[.string ⟨(if atIs l 0 c = true then l.drop 1 else l).toArray⟩, .bool (atIs l 0 c)]) ∧ w = w' := by
  have hp : Lib.hasPrefix l [c] = atIs l 0 c := by
    cases l with
    | nil => rfl
    | cons d r =>
      rw [hasPrefix_one]
      unfold atIs
      rw [List.getElem?_cons_zero, Bool.eq_iff_iff]
      simp
  refine (cutPrefix_any l [c] w).mono ?_
  rintro e w' ⟨rfl, rfl⟩
  refine ⟨?_, rfl⟩
  unfold Lib.trimPrefix
  rw [hp]
  rfl
theorem contains4_any (l : Bs) (w : World) (hl : l.length ≤ 1000000) :
    Calls Tryz.prog 30 #[.string ⟨l.toArray⟩, .string ⟨#[44, 34, 10, 13]⟩] w fun e w' => e = .returned (.bool (decide (uLen l < l.length))) ∧ Below w.heap.size w w' := by
  have C := Lib.hid (fun W => idx4_any l W hl)
  have hu : Hid (decide (0 ≤ uIdx l) = decide (uLen l < l.length)) := Lib.hid (by
    unfold uIdx
    rw [decide_eq_decide]
    split
    · rename_i h; exact ⟨fun _ => h, fun _ => by omega⟩
    · rename_i h; exact ⟨fun g => absurd g (by decide), fun g => absurd g h⟩)
  go_enter Tryz.func30, Tryz.ntmps30
  go_wp2_with fail
  refine (C.out _).mono ?_
  rintro e w1 ⟨rfl, hb⟩
  have HB := Lib.hid hb
  clear hb
  generalize uIdx l = i at *
  go_wp2_with fail
  go_ret
  exact ⟨ret_bool hu.out, HB.out⟩
set_option maxRecDepth 100000 in
set_option maxHeartbeats 3200000 in
theorem next32_any (l : Bs) (w : World) (hl : l.length ≤ 1000000) (hm : MaxVar w) :
    Calls Tryz.prog 67 #[.string ⟨l.toArray⟩] w fun e w' => e = .returned (fieldOut (cField l)) ∧ Below w.heap.size w w' := by
  obtain ⟨R, hR⟩ : ∃ R, cField l = R := ⟨_, rfl⟩
  rw [hR]
  have HR := Lib.hid hR
  have HM := Lib.hid hm
  have CP := Lib.hid (fun W => prefix1_any l 34 W)
  clear hR hm
  unfold cField at HR
  cases h34 : atIs l 0 34
  · rw [h34] at CP HR
    rw [if_neg (by decide)] at HR CP
    have CI := Lib.hid (fun W => idx4_any l W hl)
    unfold uIdx at CI
    have hle := uLen_le l
    generalize uLen l = n at *
    by_cases hn : n = l.length
    · rw [if_pos hn] at HR
      rw [if_neg (by omega)] at CI
      clear h34 hn
      go_enter Tryz.func67, Tryz.ntmps67
      go_wp2_with fail
      refine (CP.out _).mono ?_
      rintro e w1 ⟨rfl, rfl⟩
      go_wp2_with fail
      refine (CI.out _).mono ?_
      rintro e w2 ⟨rfl, hb⟩
      have HB := Lib.hid hb
      clear hb
      go_wp2_with fail
      go_ret3
      exact ⟨by rw [← HR.out]; rfl, HB.out⟩
    · have hlt : n < l.length := by omega
      rw [if_neg hn] at HR
      rw [if_pos hlt] at CI
      have e34 := at_beq l n 34 34 rfl hlt
      have e13 := at_beq l n 13 13 rfl hlt
      clear h34 hn
      cases k34 : atIs l n 34
      · rw [k34] at e34 HR
        cases k13 : atIs l n 13
        · rw [k13] at e13 HR
          rw [if_neg (by decide)] at HR
          clear k34 k13
          go_enter Tryz.func67, Tryz.ntmps67
          go_wp2_with fail
          refine (CP.out _).mono ?_
          rintro e w1 ⟨rfl, rfl⟩
          go_wp2_with fail
          refine (CI.out _).mono ?_
          rintro e w2 ⟨rfl, hb⟩
          have HB := Lib.hid hb
          clear hb
          go_wp2_with fail
          go_quiet (fail)
          go_wp2_with fail
          go_ret3
          exact ⟨by rw [← HR.out]; simp [fieldOut], below_drewN HB.out nq⟩
        · rw [k13] at e13 HR
          rw [if_pos (.inr rfl)] at HR
          clear k34 k13
          go_enter Tryz.func67, Tryz.ntmps67
          go_wp2_with fail
          refine (CP.out _).mono ?_
          rintro e w1 ⟨rfl, rfl⟩
          go_wp2_with fail
          refine (CI.out _).mono ?_
          rintro e w2 ⟨rfl, hb⟩
          have HB := Lib.hid hb
          clear hb
          go_wp2_with fail
          go_ret3
          exact ⟨by rw [← HR.out]; rfl, HB.out⟩
      · rw [k34] at e34 HR
        rw [if_pos (.inl rfl)] at HR
        clear k34
        go_enter Tryz.func67, Tryz.ntmps67
        go_wp2_with fail
        refine (CP.out _).mono ?_
        rintro e w1 ⟨rfl, rfl⟩
        go_wp2_with fail
        refine (CI.out _).mono ?_
        rintro e w2 ⟨rfl, hb⟩
        have HB := Lib.hid hb
        clear hb
        go_wp2_with fail
        go_ret3
        exact ⟨by rw [← HR.out]; rfl, HB.out⟩
  · rw [h34] at CP HR
    rw [if_pos rfl] at HR CP
    have CQ := Lib.hid (fun W h => quoted32_any (l.drop 1) W (by rw [List.length_drop]; omega) h)
    rw [HR.out] at CQ
    clear h34 HR
    generalize l.drop 1 = t at *
    go_enter Tryz.func67, Tryz.ntmps67
    go_wp2_with fail
    refine (CP.out _).mono ?_
    rintro e w1 ⟨rfl, rfl⟩
    go_wp2_with fail
    refine (CQ.out _ HM.out).mono ?_
    rintro e w2 ⟨rfl, hb⟩
    have HB := Lib.hid hb
    clear hb
    unfold fieldOut
    go_wp2_with fail
    go_ret3
    exact ⟨rfl, HB.out⟩
abbrev wordV (b : Bs) : Value := .string ⟨b.toArray⟩
theorem infoString : (Tryz.prog.info? 9).map (fun i => (i.zero, i.size, i.bytes)) = some (some (.string ⟨#[]⟩), 1, 16) := by kernel_rfl
def LinePost (R : List Bs × Bs × Int) (w : World) (e : Ending) (w' : World) : Prop :=
  ∃ v, e = .returned (.tuple #[v, .string ⟨R.2.1.toArray⟩, .int .i64 R.2.2]) ∧ w'.ownsRow w.heap.size 9 1 v R.1.length (R.1.map wordV) ∧ Below w.heap.size w w'
set_option maxRecDepth 100000 in
set_option maxHeartbeats 3200000 in
theorem line32_any (l : Bs) (w : World) (hl : l.length ≤ 1000000) (hm : MaxVar w) :
    Calls Tryz.prog 40 #[.string ⟨l.toArray⟩] w (LinePost (cLine l []) w) := by
  obtain ⟨i0, hi, hz0, hz1, hz2⟩ := info_parts infoString
  obtain ⟨R, hR⟩ : ∃ R, cLine l [] = R := ⟨_, rfl⟩
  rw [hR]
  have HR := Lib.hid hR
  have HM := Lib.hid hm
  clear hR hm
  go_enter Tryz.func40, Tryz.ntmps40
  go_wp2_with fail
  go_loopw [0, 5] (fun v0 v5 wr => ∃ (cur : Bs) (ws : List Bs), v0 = .string ⟨cur.toArray⟩ ∧ cur.length ≤ l.length ∧ ws.length + cur.length ≤ l.length ∧ Hid (cLine cur ws = R) ∧ wr.ownsRow w.heap.size 9 1 v5 ws.length (ws.map wordV) ∧ Hid (Below w.heap.size w wr)) (fun v _ _ => lenOf v)
  case atStart => exact ⟨l, [], rfl, Nat.le_refl _, by simp, HR, World.ownsRow_nil _ _ _ _, Lib.hid (Below.refl _ _)⟩
  case round =>
    obtain ⟨cur, ws, rfl, hcl, hwl, hq, hown, hbel⟩ := hrel
    have HO := Lib.hid hown
    clear HR hown
    have CN := Lib.hid (fun W h => next32_any cur W (by omega) h)
    obtain ⟨k1, k2⟩ := cField_ok cur
    have hst := Lib.hid (cLine_step cur ws)
    rw [hq.out] at hst
    have hsz := Lib.hid (lenOf_mk cur)
    clear hq
    generalize cField cur = x at *
    obtain ⟨wd, rest, er⟩ := x
    dsimp only at k1 k2 hst
    unfold fieldOut at CN
    dsimp only at CN
    by_cases h0 : er = 0
    · subst h0
      obtain ⟨c, r, rfl, hc⟩ := k2 rfl
      rw [if_neg (by decide)] at hst
      rw [List.length_cons] at k1
      clear k2
      go_wp2_with fail
      refine (CN.out _ (HM.out.next hbel.out)).mono ?_
      rintro e w1 ⟨rfl, hb⟩
      have HO1 := Lib.hid (own_next hb HO.out)
      have hbel1 := Lib.hid (hbel.out.trans (hb.mono hbel.out.size))
      clear hb HO hbel CN
      go_wp2_with (at_builtin; refine wpList_append_own _ rfl _ _ 56 rfl w.heap.size 9 i0 (.string ⟨#[]⟩) 1 16 Tryz.underlying56 hi hz0 hz1 hz2 rfl (by decide) _ _ _ rfl (HO1.out.alloc _) ⟨w1.heap.size, 0, none⟩ 1 1 [.string ⟨wd.toArray⟩] rfl rfl ?c1 ?c2 ?c3 ?c4 ?c5 ?_)
      case c1 =>
        intro j u hj
        match j, hj with
        | 0, hj => simp at hj; subst hj; simp [Addr.add]
      case c2 => intro u hu; simp at hu; subst hu; rfl
      case c3 => unfold maxLen; omega
      case c4 => omega
      case c5 => have := hbel1.out.size; simp; omega
      intro v' w2 hown' hgrow _
      have HO2 : Hid (w2.ownsRow w.heap.size 9 1 v' (ws ++ [wd]).length ((ws ++ [wd]).map wordV)) := Lib.hid (by simpa using hown')
      have hbel2 := Lib.hid ((hbel1.out.alloc hbel1.out.size (.cells #[.string ⟨wd.toArray⟩] 9)).grown hgrow (by have := hbel1.out.size; simp; omega) (fun k hk => (HO1.out.lt k hk).1))
      clear hown' hgrow HO1 hbel1
      rcases hc with rfl | rfl
      · have hq2 : Hid (cLine r (ws ++ [wd]) = R) := Lib.hid (by rw [hst.out]; rfl)
        clear hst
        go_wp2_with fail
        go_roundw
        case rel => exact ⟨r, ws ++ [wd], rfl, by omega, by simp; omega, hq2, HO2.out, hbel2⟩
        case measure => rw [hsz.out]; simp [lenOf, ByteArray.size]; omega
      · have hr : Hid (R = (ws ++ [wd], r, 0)) := Lib.hid (by rw [hst.out]; rfl)
        clear hst
        go_wp2_with fail
        go_ret3
        exact ⟨v', by rw [hr.out]; rfl, by rw [hr.out]; exact HO2.out, hbel2.out⟩
    · have hr : Hid (R = ([], [], er)) := Lib.hid (by rw [hst.out, if_pos h0])
      have b0 : (er != 0) = true := by rw [bne_iff_ne]; exact h0
      clear hst k1 k2 h0
      go_wp2_with fail
      refine (CN.out _ (HM.out.next hbel.out)).mono ?_
      rintro e w1 ⟨rfl, hb⟩
      have hbel1 := Lib.hid (hbel.out.trans (hb.mono hbel.out.size))
      clear hb HO hbel CN
      go_wp2_with fail
      go_ret3
      exact ⟨.slice none 0 0, by rw [hr.out]; rfl, by rw [hr.out]; exact World.ownsRow_nil _ _ _ _, hbel1.out⟩
end Go.Proofs.YteccjdclkcipbaaGreatDoor
