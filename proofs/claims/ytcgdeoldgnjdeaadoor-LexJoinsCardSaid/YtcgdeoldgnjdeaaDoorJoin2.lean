/-
  lex.Join: what it returns.
-/
import Derived.Test.YtcgdeoldgnjdeaaDoorJoin1
import Derived.Test.YtcgdeoldgnjdeaaDoorBuild2
import Derived.Test.YtcgdeoldgnjdeaaDoorShelfB
namespace Go.Proofs.YtcgdeoldgnjdeaaDoor
open Go.RowKit

/-- the library's variable holds a number -/
def MaxVar (w : World) : Prop := ∃ m, w.cell? ⟨1, 0, none⟩ = some (.int .i64 m)
theorem cell_lt {w : World} {b o : Nat} {v : Value} (h : w.cell? ⟨b, o, none⟩ = some v) : b < w.heap.size := by
  rcases Nat.lt_or_ge b w.heap.size with h1 | h1
  · exact h1
  · simp [World.cell?, Array.getElem?_eq_none h1] at h
theorem MaxVar.next {w w' : World} (h : MaxVar w) (hb : Below w.heap.size w w') : MaxVar w' := by
  obtain ⟨m, hm⟩ := h
  exact ⟨m, (hb.cell (p := ⟨_, _, none⟩) (cell_lt hm)).trans hm⟩
theorem quoteB_no (l : Bs) (h : 34 ∉ l) : quoteB l = l := by
  induction l with
  | nil => rfl
  | cons c l ih =>
    simp only [quoteB]
    rw [if_neg (fun e => h (by rw [e]; simp)), ih (fun hm => h (by simp [hm]))]
theorem replaceK_quote : ∀ (k : Nat) (s : Bs), s.count 34 = k → Lib.replaceK [34] [34, 34] k s = quoteB s
  | 0, s, h => by
    rw [Lib.replaceK, quoteB_no s (List.count_eq_zero.1 h)]
  | k + 1, s, h => by
    have hm : 34 ∈ s := List.count_pos_iff.1 (by omega)
    obtain ⟨n, h1, h2, h3, h4⟩ := idx_yes s 34 (idx_mem s 34 hm)
    have hi : Lib.index s [34] = n := by rw [Lib.index_one]; exact h1
    rw [Lib.replaceK_hit [34] [34, 34] k s n hi]
    have hc : (s.drop (n + 1)).count 34 = k := by
      have := congrArg (List.count 34) h4
      rw [List.count_append, List.count_cons, List.count_eq_zero.2 h3] at this
      simp at this
      omega
    have hq : quoteB s = quoteB (s.take n) ++ (34 :: 34 :: quoteB (s.drop (n + 1))) := by
      have e : quoteB (34 :: s.drop (n + 1)) = 34 :: 34 :: quoteB (s.drop (n + 1)) := by simp [quoteB]
      rw [← e, ← quoteB_app, ← h4]
    rw [hq, quoteB_no _ h3, show n + ([34] : Bs).length = n + 1 from rfl, replaceK_quote k _ hc]
    simp
theorem replaceAll_quote (s : Bs) : Lib.replaceAll s [34] [34, 34] = quoteB s := by
  unfold Lib.replaceAll Lib.replace
  rw [if_neg (by decide)]
  unfold Lib.replaceNum
  rw [if_pos (.inl (by decide)), Lib.count_one]
  exact replaceK_quote _ s rfl
theorem replaceAll_any (s : Bs) (w : World) (hs : s.length ≤ 1000000) (hm : MaxVar w) :
    Calls Tryd.prog 87 #[.string ⟨s.toArray⟩, .string ⟨#[34]⟩, .string ⟨#[34, 34]⟩] w fun e w' => e = .returned (.string ⟨(quoteB s).toArray⟩) ∧ Below w.heap.size w w' := by
  obtain ⟨m, hm⟩ := hm
  have hsz : (ByteArray.mk s.toArray).size = s.length := by simp [ByteArray.size]
  have hc : Lib.countB ⟨s.toArray⟩ ⟨#[34]⟩ ≤ s.length + 1 := Lib.count_le _ _
  have h2 : (ByteArray.mk #[34, 34]).size = 2 := rfl
  refine (Tryd.strings_ReplaceAll ⟨s.toArray⟩ ⟨#[34]⟩ ⟨#[34, 34]⟩ m w (by rw [hsz]; omega) hm (by decide) (by rw [hsz, h2]; omega)).mono ?_
  rintro e w' ⟨rfl, hb⟩
  exact ⟨by rw [show (ByteArray.mk s.toArray).data.toList = s from rfl, show (ByteArray.mk #[34]).data.toList = [34] from rfl, show (ByteArray.mk #[34, 34]).data.toList = [34, 34] from rfl, replaceAll_quote], hb⟩
/-- tokens as they came in, joined -/
def outZ (t : RTok) : Bs := if t.kind == 2 then 34 :: (quoteB t.text ++ [34]) else t.text
def sepZ : Option RTok → RTok → Bs
  | none, _ => []
  | some a, b => if apartZ a b then [32] else []
def joinF : Option RTok → List RTok → Bs
  | _, [] => []
  | p, t :: r => sepZ p t ++ (outZ t ++ joinF (some t) r)
def lastOr : Option RTok → List RTok → Option RTok
  | p, [] => p
  | _, t :: r => lastOr (some t) r
theorem joinF_snoc (t : RTok) : ∀ (l : List RTok) (p : Option RTok), joinF p (l ++ [t]) = joinF p l ++ (sepZ (lastOr p l) t ++ outZ t)
  | [], p => by simp [joinF, lastOr]
  | a :: l, p => by
    rw [List.cons_append, joinF, joinF, joinF_snoc t l (some a), lastOr]
    simp
theorem lastOr_snoc (t : RTok) : ∀ (l : List RTok) (p : Option RTok), lastOr p (l ++ [t]) = some t
  | [], p => rfl
  | a :: l, p => by rw [List.cons_append, lastOr, lastOr_snoc t l]
def needZ : Option RTok → RTok → Bool
  | none, _ => false
  | some a, b => apartZ a b
theorem sepZ_need (p : Option RTok) (t : RTok) : sepZ p t = if needZ p t then [32] else [] := by cases p <;> rfl
theorem lastOr_take (ts : List RTok) (j : Nat) (h : j < ts.length) : lastOr none (ts.take (j + 1)) = some ts[j] := by
  rw [List.take_succ_eq_append_getElem h, lastOr_snoc]
theorem outZ_len (t : RTok) (h : t.text.length ≤ 1000) : (outZ t).length ≤ 2002 := by
  unfold outZ
  have := quoteB_len t.text
  split
  · simp; omega
  · omega
theorem joinF_len : ∀ (l : List RTok) (p : Option RTok), (∀ t ∈ l, t.text.length ≤ 1000) → (joinF p l).length ≤ l.length * 2003
  | [], p, _ => Nat.zero_le _
  | t :: l, p, h => by
    have h1 := outZ_len t (h t (by simp))
    have h2 := joinF_len l (some t) (fun x hx => h x (by simp [hx]))
    have h3 : (sepZ p t).length ≤ 1 := by
      cases p with
      | none => exact Nat.zero_le _
      | some a => show (if apartZ a t then ([32] : Bs) else []).length ≤ 1; split <;> decide
    rw [joinF, List.length_append, List.length_append, List.length_cons]
    omega
/-- tokens that lie in memory, as they came in -/
def RIn (w : World) (A : Option Addr) (ts : List RTok) : Prop := 0 < ts.length → ∃ g o, A = some ⟨g, o, none⟩ ∧ g < w.heap.size ∧
  ∀ j (h : j < ts.length), w.cell? ⟨g, o + j * 3, none⟩ = some (.int .i64 ts[j].kind) ∧ w.cell? ⟨g, o + j * 3 + 1, none⟩ = some (.string ⟨ts[j].text.toArray⟩) ∧ w.cell? ⟨g, o + j * 3 + 2, none⟩ = some (.int .i64 ts[j].place)
theorem RIn.next {w w' : World} {A : Option Addr} {ts : List RTok} (h : RIn w A ts) (hb : Below w.heap.size w w') : RIn w' A ts := by
  intro hp
  obtain ⟨g, o, hA, hg, hc⟩ := h hp
  refine ⟨g, o, hA, by have := hb.size; omega, fun j hj => ?_⟩
  obtain ⟨h1, h2, h3⟩ := hc j hj
  exact ⟨(hb.cell (p := ⟨g, _, none⟩) hg).trans h1, (hb.cell (p := ⟨g, _, none⟩) hg).trans h2, (hb.cell (p := ⟨g, _, none⟩) hg).trans h3⟩
set_option maxRecDepth 100000 in
set_option maxHeartbeats 3200000 in
theorem join_any (A : Option Addr) (cap : Nat) (ts : List RTok) (w : World) (hn : ts.length ≤ 1000) (hts : ∀ t ∈ ts, t.text.length ≤ 1000) (hin : RIn w A ts) (hmx : MaxVar w) :
    Calls Tryd.prog 47 #[.slice A ts.length cap] w fun e w' => e = .returned (.string ⟨(joinF none ts).toArray⟩) ∧ Below w.heap.size w w' := by
  have HIN := Lib.hid hin
  have HMX := Lib.hid hmx
  have HTS := Lib.hid hts
  clear hin hmx hts
  go_enter Tryd.func47, Tryd.ntmps47
  go_wp2_with fail
  go_loopg [8] (ts.length) (fun gk i wr => ∃ k : Nat, k ≤ ts.length ∧ gk = ts.length - k ∧ i = .int .i64 k ∧ Hid (Lib.IsBuilder 93 5 w.heap.size w.heap.size (Lib.byteCells (joinF none (ts.take k))) wr) ∧ Hid (Below w.heap.size w wr))
  case atStart => exact ⟨0, Nat.zero_le _, rfl, rfl, Lib.hid (Lib.fresh_isBuilder _ _ w), Lib.hid ((Below.refl _ w).alloc (Nat.le_refl _) _)⟩
  case round =>
    obtain ⟨k, hk, hgk, rfl, HBU, HBE⟩ := hrel
    have HGK := Lib.hid hgk
    clear hgk
    have hjl := joinF_len (ts.take k) none (fun t ht => HTS.out t (List.mem_of_mem_take ht))
    rw [List.length_take, Nat.min_eq_left hk] at hjl
    by_cases hlt : k < ts.length
    · obtain ⟨g, o, rfl, hg, hc⟩ := HIN.out (by omega)
      obtain ⟨c0, c1, c2⟩ := hc k hlt
      have d0 : wr.cell? ⟨g, o + k * 3, none⟩ = some (.int .i64 ts[k].kind) := (HBE.out.cell (p := ⟨g, _, none⟩) hg).trans c0
      have d1 : wr.cell? ⟨g, o + k * 3 + 1, none⟩ = some (.string ⟨ts[k].text.toArray⟩) := (HBE.out.cell (p := ⟨g, _, none⟩) hg).trans c1
      have d2 : wr.cell? ⟨g, o + k * 3 + 2, none⟩ = some (.int .i64 ts[k].place) := (HBE.out.cell (p := ⟨g, _, none⟩) hg).trans c2
      clear c0 c1 c2
      have HC := Lib.hid hc
      clear hc
      have hk0 : (0 : Int) ≤ (k : Int) := Int.natCast_nonneg _
      have hk1 : (k : Int) < (ts.length : Int) := by omega
      have HSN : Hid (joinF none (ts.take (k + 1)) = joinF none (ts.take k) ++ (sepZ (lastOr none (ts.take k)) ts[k] ++ outZ ts[k])) := Lib.hid (by rw [List.take_succ_eq_append_getElem hlt, joinF_snoc])
      have hT : Hid (Lies (wr.alloc (.cells #[.int .i64 ts[k].kind, .string ⟨ts[k].text.toArray⟩, .int .i64 ts[k].place] 34)) wr.heap.size 34 #[.int .i64 ts[k].kind, .string ⟨ts[k].text.toArray⟩, .int .i64 ts[k].place]) := Lib.hid (Lies.new wr _ _)
      have hW : Hid (Below wr.heap.size wr (wr.alloc (.cells #[.int .i64 ts[k].kind, .string ⟨ts[k].text.toArray⟩, .int .i64 ts[k].place] 34))) := Lib.hid ((Below.refl _ wr).alloc (Nat.le_refl _) _)
      go_wp2_with fail
      go_upto_region 6 with fail
      go_cut [23] (fun v wx => v = .bool (needZ (lastOr none (ts.take k)) ts[k]) ∧ Hid (Below wr.heap.size wr wx) ∧ Hid (Lies wx wr.heap.size 34 #[.int .i64 ts[k].kind, .string ⟨ts[k].text.toArray⟩, .int .i64 ts[k].place]))
      case first =>
        cases k with
        | zero =>
          have hd : decide ((0 : Int) < ((0 : Nat) : Int)) = false := by decide
          go_quiet (fail)
          go_wp2_with fail
          go_meet
          exact ⟨rfl, Lib.hid (below_drewN hW.out _), hT⟩
        | succ j =>
          have hjl : j < ts.length := by omega
          obtain ⟨c0, c1, c2⟩ := HC.out j hjl
          have z0 : wr.cell? ⟨g, o + j * 3, none⟩ = some (.int .i64 ts[j].kind) := (HBE.out.cell (p := ⟨g, _, none⟩) hg).trans c0
          have z1 : wr.cell? ⟨g, o + j * 3 + 1, none⟩ = some (.string ⟨ts[j].text.toArray⟩) := (HBE.out.cell (p := ⟨g, _, none⟩) hg).trans c1
          have z2 : wr.cell? ⟨g, o + j * 3 + 2, none⟩ = some (.int .i64 ts[j].place) := (HBE.out.cell (p := ⟨g, _, none⟩) hg).trans c2
          clear c0 c1 c2 d0 d1 d2
          have CAP := Lib.hid (fun W => apart_any ts[j] ts[j + 1] W)
          simp only [RTok.cells] at CAP
          have HN : Hid (needZ (lastOr none (ts.take (j + 1))) ts[j + 1] = apartZ ts[j] ts[j + 1]) := Lib.hid (by rw [lastOr_take ts j hjl]; rfl)
          have hsz := HBE.out.size
          have hgw : g < wr.heap.size := by omega
          clear HC HTS HSN
          generalize ts[j] = a at *
          generalize ts[j + 1] = b at *
          obtain ⟨ka, ta, pa⟩ := a
          obtain ⟨kb, tb, pb⟩ := b
          simp only at z0 z1 z2 CAP hT hW
          have q0 := hT.out.cell 0
          have q1 := hT.out.cell 1
          have q2 := hT.out.cell 2
          simp only [List.getElem?_toArray, List.getElem?_cons_zero, List.getElem?_cons_succ] at q0 q1 q2
          have p0 := (hW.out.cell (p := ⟨g, o + j * 3, none⟩) hgw).trans z0
          have p1 := (hW.out.cell (p := ⟨g, o + j * 3 + 1, none⟩) hgw).trans z1
          have p2 := (hW.out.cell (p := ⟨g, o + j * 3 + 2, none⟩) hgw).trans z2
          generalize hWW : wr.alloc (.cells #[.int .i64 kb, .string ⟨tb.toArray⟩, .int .i64 pb] 34) = W at *
          clear hWW z0 z1 z2
          have hkW : wr.heap.size < W.heap.size := hT.out.lt
          have hgW : g < W.heap.size := by omega
          have hd : decide ((0 : Int) < ((j + 1 : Nat) : Int)) = true := by simp
          have hwj : IntKind.i64.wrap (((j + 1 : Nat) : Int) - 1) = (j : Int) := by rw [IntWalk.i64_in _ (by omega)]; omega
          have hwj2 : IntKind.i64.wrap (j : Int) = (j : Int) := IntWalk.i64_in _ (by omega)
          have hwj3 : IntKind.i64.wrap ((j : Int) + 1 - 1) = (j : Int) := by rw [IntWalk.i64_in _ (by omega)]; omega
          have hj0 : (0 : Int) ≤ (j : Int) := Int.natCast_nonneg _
          have hj1 : (j : Int) < (ts.length : Int) := by omega
          go_region_held3 (fun w' => w'.cell? ⟨g, o + j * 3, none⟩ = some (.int .i64 ka) ∧ w'.cell? ⟨g, o + j * 3 + 1, none⟩ = some (.string ⟨ta.toArray⟩) ∧ w'.cell? ⟨g, o + j * 3 + 2, none⟩ = some (.int .i64 pa) ∧ w'.cell? ⟨wr.heap.size, 0, none⟩ = some (.int .i64 kb) ∧ w'.cell? ⟨wr.heap.size, 1, none⟩ = some (.string ⟨tb.toArray⟩) ∧ w'.cell? ⟨wr.heap.size, 2, none⟩ = some (.int .i64 pb))
            (first | go_keep | (go_split_ands; exact ⟨(hb.cell (p := ⟨g, _, none⟩) hgW).trans (by assumption), (hb.cell (p := ⟨g, _, none⟩) hgW).trans (by assumption), (hb.cell (p := ⟨g, _, none⟩) hgW).trans (by assumption), (hb.cell (p := ⟨wr.heap.size, _, none⟩) hkW).trans (by assumption), (hb.cell (p := ⟨wr.heap.size, _, none⟩) hkW).trans (by assumption), (hb.cell (p := ⟨wr.heap.size, _, none⟩) hkW).trans (by assumption)⟩))
            (first
              | (go_at_call 84; (with_reducible refine (CAP.out _).mono ?_); rintro e wx ⟨rfl, hb⟩))
          all_goals go_wp2_with fail
          all_goals go_meet
          all_goals exact ⟨congrArg Value.bool HN.out.symm, Lib.hid (hW.out.drew.trans (hb.mono hW.out.size)), Lib.hid (Lies.below (w := W.drew) hT.out hb)⟩
      case rest =>
        obtain ⟨rfl, HB5, HL5⟩ := hcut
        clear hT hW d0 d1 d2 HC
        obtain ⟨w5, hw5⟩ : ∃ w5 : World, w5 = wc := ⟨_, rfl⟩
        subst hw5
        go_upto_if 23 with fail
        go_cut [5] (fun v wx => v = .pointer (some ⟨wr.heap.size, 0, none⟩) ∧ Hid (Lib.IsBuilder 93 5 w.heap.size w.heap.size (Lib.byteCells (joinF none (ts.take k) ++ sepZ (lastOr none (ts.take k)) ts[k])) wx) ∧ Hid (Lies wx wr.heap.size 34 #[.int .i64 ts[k].kind, .string ⟨ts[k].text.toArray⟩, .int .i64 ts[k].place]) ∧ Hid (Below w.heap.size w wx))
        case first =>
          have HB6 : Hid (Below w.heap.size w w5) := Lib.hid (HBE.out.trans (HB5.out.mono HBE.out.size))
          cases hn : needZ (lastOr none (ts.take k)) ts[k]
          · have HSP : Hid (sepZ (lastOr none (ts.take k)) ts[k] = []) := Lib.hid (by rw [sepZ_need, hn]; rfl)
            go_wp2_with fail
            go_meet
            exact ⟨rfl, Lib.hid (by rw [HSP.out, List.append_nil]; exact IsBuilder.next HBU.out HB5.out), HL5, HB6⟩
          · have HSP : Hid (sepZ (lastOr none (ts.take k)) ts[k] = [32]) := Lib.hid (by rw [sepZ_need, hn]; rfl)
            have hne : wr.heap.size ≠ w.heap.size := by
              have h1 : w.heap.size < wr.heap.size := by
                rcases HBU.out with h | h
                · obtain ⟨_, u, hb, _⟩ := h; exact (Array.getElem?_eq_some_iff.1 hb).1
                · obtain ⟨_, u, hb, _⟩ := h; exact (Array.getElem?_eq_some_iff.1 hb).1
              omega
            go_wp2_with fail
            refine (writeByte_box w.heap.size w.heap.size wr.heap.size (joinF none (ts.take k)) 32 _ hne HL5.out.lt (Lib.hid (IsBuilder.notBuf HBU.out HB5.out)) (IsBuilder.next HBU.out HB5.out) (by omega) HB6.out.size).mono ?_
            rintro e w6 ⟨rfl, hbu, hbl, hkk⟩
            have HBU6 := Lib.hid hbu
            have HB7 := Lib.hid (HB6.out.trans hbl)
            have HL6 : Hid (Lies w6 wr.heap.size 34 #[.int .i64 ts[k].kind, .string ⟨ts[k].text.toArray⟩, .int .i64 ts[k].place]) := Lib.hid (hkk.trans HL5.out)
            clear hbu hbl hkk
            go_wp2_with fail
            go_meet
            exact ⟨rfl, Lib.hid (by rw [HSP.out]; exact HBU6.out), HL6, HB7⟩
        case rest =>
          obtain ⟨rfl, HBU7, HL7, HB7⟩ := hcut
          obtain ⟨w7, hw7⟩ : ∃ w7 : World, w7 = wc := ⟨_, rfl⟩
          subst hw7
          clear HBU HB5 HL5 HBE
          have q0 := HL7.out.cell 0
          have q1 := HL7.out.cell 1
          simp only [List.getElem?_toArray, List.getElem?_cons_zero, List.getElem?_cons_succ] at q0 q1
          have HX := Lib.hid (HMX.out.next HB7.out)
          have htl := HTS.out ts[k] (List.getElem_mem hlt)
          have hql := quoteB_len ts[k].text
          have HZ : Hid (outZ ts[k] = if ts[k].kind == 2 then 34 :: (quoteB ts[k].text ++ [34]) else ts[k].text) := Lib.hid rfl
          have hsl : (joinF none (ts.take k) ++ sepZ (lastOr none (ts.take k)) ts[k]).length ≤ 3000000 := by
            have : (sepZ (lastOr none (ts.take k)) ts[k]).length ≤ 1 := by
              rw [sepZ_need]
              split <;> decide
            rw [List.length_append]
            omega
          have HSN2 : Hid (joinF none (ts.take (k + 1)) = (joinF none (ts.take k) ++ sepZ (lastOr none (ts.take k)) ts[k]) ++ outZ ts[k]) := Lib.hid (by rw [HSN.out]; simp)
          clear HSN
          generalize joinF none (ts.take k) ++ sepZ (lastOr none (ts.take k)) ts[k] = acc at *
          cases h2 : (ts[k].kind == 2)
          · rw [h2] at HZ
            have HZ2 : Hid (outZ ts[k] = ts[k].text) := Lib.hid (by rw [HZ.out]; rfl)
            clear HZ
            go_wp2_with fail
            refine (writeString_any w.heap.size w.heap.size acc ts[k].text _ HBU7.out (by omega) HB7.out.size).mono ?_
            rintro e w8 ⟨rfl, hbu, hbl⟩
            have HBU8 := Lib.hid hbu
            have HB8 := Lib.hid (HB7.out.trans hbl)
            clear hbu hbl HBU7 HB7 HL7 q0 q1
            go_wp2_with fail
            go_roundg (ts.length - (k + 1))
            case rel => exact ⟨k + 1, by omega, rfl, by go_num, Lib.hid (by rw [HSN2.out, HZ2.out]; exact HBU8.out), HB8⟩
            case measure => rw [HGK.out]; omega
          · rw [h2] at HZ
            have HZ2 : Hid (outZ ts[k] = 34 :: (quoteB ts[k].text ++ [34])) := Lib.hid (by rw [HZ.out]; rfl)
            clear HZ
            go_wp2_with fail
            refine (replaceAll_any ts[k].text _ (by omega) HX.out).mono ?_
            rintro e w8 ⟨rfl, hb⟩
            have HBU8 := Lib.hid (IsBuilder.next HBU7.out hb)
            have HB8 := Lib.hid (HB7.out.trans (hb.mono HB7.out.size))
            clear hb HBU7 HB7 HL7 q0 q1
            go_wp2_with fail
            refine (writeString_any w.heap.size w.heap.size acc (34 :: (quoteB ts[k].text ++ [34])) _ HBU8.out (by simp; omega) HB8.out.size).mono ?_
            rintro e w9 ⟨rfl, hbu, hbl⟩
            have HBU9 := Lib.hid hbu
            have HB9 := Lib.hid (HB8.out.trans hbl)
            clear hbu hbl HBU8 HB8
            go_wp2_with fail
            go_roundg (ts.length - (k + 1))
            case rel => exact ⟨k + 1, by omega, rfl, by go_num, Lib.hid (by rw [HSN2.out, HZ2.out]; exact HBU9.out), HB9⟩
            case measure => rw [HGK.out]; omega
    · have e : k = ts.length := by omega
      have HE : Hid (ts.take k = ts) := Lib.hid (by rw [e, List.take_length])
      have hd : decide ((k : Int) < (ts.length : Int)) = false := by rw [e]; simp
      have hd2 : ¬ k < ts.length := hlt
      clear e
      rw [HE.out] at HBU
      go_wp2_with fail
      refine (Tryd.Builder_String_any w.heap.size w.heap.size (joinF none ts) _ HBU.out HBE.out.size).mono ?_
      rintro e w2 ⟨rfl, hb2⟩
      have HB2 : Hid (Below w.heap.size w w2) := Lib.hid (HBE.out.trans hb2)
      clear hb2
      go_wp2_with fail
      go_ret
      exact ⟨rfl, HB2.out⟩
end Go.Proofs.YtcgdeoldgnjdeaaDoor
