/-
  ftext: textSplit, joined, concat, textJoin; change, upper, lower, repeat, substitute.
-/
import Derived.Test.YtpdaloohgfnbhaaGreatDoorPl1
import Derived.Lib.Split
import Derived.Lib.Join
import Derived.Lib.IndexMore
import Derived.Lib.IndexLaws
import Derived.Lib.CountLaws
import Derived.Test.YtpdaloohgfnbhaaGreatDoorFt12
import Derived.Lib.SplitLaws
namespace Go.Proofs.YtpdaloohgfnbhaaGreatDoor
open Go.RowKit

/-- the pieces between the places where b stands -/
def sp (b : UInt8) : Bs → List Bs
  | [] => [[]]
  | c :: t => if c = b then [] :: sp b t else match sp b t with
    | [] => [[c]]
    | p :: r => (c :: p) :: r
theorem sp_ne (b : UInt8) : ∀ t, sp b t ≠ []
  | [] => by simp [sp]
  | c :: t => by
    unfold sp
    split
    · simp
    · split <;> simp
theorem sp_none (b : UInt8) : ∀ t, ∀ p ∈ sp b t, b ∉ p
  | [], p, h => by
    simp [sp] at h
    subst h
    simp
  | c :: t, p, h => by
    unfold sp at h
    split at h
    · rcases List.mem_cons.1 h with rfl | h
      · simp
      · exact sp_none b t p h
    · next hc =>
      split at h
      · next he => exact absurd he (sp_ne b t)
      · next q r he =>
        rcases List.mem_cons.1 h with rfl | h
        · intro hm
          rcases List.mem_cons.1 hm with e | hm
          · exact hc e.symm
          · exact sp_none b t q (by rw [he]; exact List.mem_cons_self ..) hm
        · exact sp_none b t p (by rw [he]; exact List.mem_cons_of_mem _ h)
/-- pieces with b between -/
def jn (b : UInt8) : List Bs → Bs
  | [] => []
  | [p] => p
  | p :: q :: r => p ++ b :: jn b (q :: r)
theorem jn_cons (b : UInt8) (p q : Bs) (r : List Bs) : jn b (p :: q :: r) = p ++ b :: jn b (q :: r) := rfl
theorem jn_sp (b : UInt8) : ∀ t, jn b (sp b t) = t
  | [] => rfl
  | c :: t => by
    have ih := jn_sp b t
    unfold sp
    split
    · next hc =>
      cases hs : sp b t with
      | nil => exact absurd hs (sp_ne b t)
      | cons p r =>
        rw [jn_cons, ← hs, ih, hc]
        rfl
    · split
      · next he => exact absurd he (sp_ne b t)
      · next p r he =>
        rw [he] at ih
        cases r with
        | nil =>
          have e : p = t := ih
          rw [← e]
          rfl
        | cons q r =>
          rw [jn_cons] at ih ⊢
          rw [← ih]
          rfl
theorem sp_app (b : UInt8) : ∀ (p t : Bs), b ∉ p → sp b (p ++ b :: t) = p :: sp b t
  | [], t, _ => by
    show (if b = b then [] :: sp b t else _) = _
    rw [if_pos rfl]
  | c :: p, t, h => by
    have hc : c ≠ b := fun e => h (by rw [e]; exact List.mem_cons_self ..)
    have ih := sp_app b p t (fun hm => h (List.mem_cons_of_mem _ hm))
    rw [List.cons_append, sp, if_neg hc, ih]
theorem sp_one (b : UInt8) : ∀ p : Bs, b ∉ p → sp b p = [p]
  | [], _ => rfl
  | c :: p, h => by
    have hc : c ≠ b := fun e => h (by rw [e]; exact List.mem_cons_self ..)
    rw [sp, if_neg hc, sp_one b p (fun hm => h (List.mem_cons_of_mem _ hm))]
/-- joined pieces are split into the same pieces -/
theorem sp_jn (b : UInt8) : ∀ l : List Bs, l ≠ [] → (∀ p ∈ l, b ∉ p) → sp b (jn b l) = l
  | [], h, _ => absurd rfl h
  | [p], _, h => sp_one b p (h p (List.mem_cons_self ..))
  | p :: q :: r, _, h => by
    rw [jn_cons, sp_app b p _ (h p (List.mem_cons_self ..)), sp_jn b (q :: r) (by simp) (fun x hx => h x (List.mem_cons_of_mem _ hx))]
/-- a text trimmed: its words, one blank between -/
def trimB (t : Bs) : Bs := jn 32 ((sp 32 t).filter (fun p => decide (p ≠ [])))
theorem trimB_words (t : Bs) : ∀ p ∈ (sp 32 t).filter (fun p => decide (p ≠ [])), p ≠ [] ∧ (32 : UInt8) ∉ p := fun p hp => by
  rw [List.mem_filter] at hp
  exact ⟨of_decide_eq_true hp.2, sp_none 32 t p hp.1⟩
theorem trimB_trim (t : Bs) : trimB (trimB t) = trimB t := by
  have hw := trimB_words t
  unfold trimB
  generalize (sp 32 t).filter (fun p => decide (p ≠ [])) = l at *
  by_cases h : l = []
  · subst h; rfl
  · rw [sp_jn 32 l h (fun p hp => (hw p hp).2), List.filter_eq_self.2 (fun p hp => decide_eq_true (hw p hp).1)]
theorem jn_len (b : UInt8) : ∀ l : List Bs, (jn b l).length + 1 ≤ (l.map (fun p => p.length + 1)).sum + (if l = [] then 1 else 0)
  | [] => by simp [jn]
  | [p] => by simp [jn]
  | p :: q :: r => by
    have ih := jn_len b (q :: r)
    rw [if_neg (by simp)] at ih ⊢
    rw [jn_cons, List.length_append, List.length_cons, List.map_cons, List.sum_cons]
    omega
theorem sp_sum (b : UInt8) : ∀ t : Bs, ((sp b t).map (fun p => p.length + 1)).sum = t.length + 1
  | [] => rfl
  | c :: t => by
    have ih := sp_sum b t
    unfold sp
    split
    · rw [List.map_cons, List.sum_cons, ih, List.length_cons, List.length_nil]; omega
    · split
      · next he => exact absurd he (sp_ne b t)
      · next p r he =>
        rw [he, List.map_cons, List.sum_cons] at ih
        rw [List.map_cons, List.sum_cons, List.length_cons, List.length_cons]
        omega
theorem filter_sum (f : Bs → Nat) (g : Bs → Bool) : ∀ l : List Bs, ((l.filter g).map f).sum ≤ (l.map f).sum
  | [] => by simp
  | p :: l => by
    have ih := filter_sum f g l
    rw [List.filter_cons]
    split
    · rw [List.map_cons, List.sum_cons, List.map_cons, List.sum_cons]; omega
    · rw [List.map_cons, List.sum_cons]; omega
theorem trimB_len (t : Bs) : (trimB t).length ≤ t.length := by
  unfold trimB
  have h1 := jn_len 32 ((sp 32 t).filter (fun p => decide (p ≠ [])))
  have h2 := filter_sum (fun p => p.length + 1) (fun p => decide (p ≠ [])) (sp 32 t)
  have h3 := sp_sum 32 t
  split at h1
  · next h =>
    rw [h]
    simp [jn]
  · omega
/-- no blank at an end, nor two beside one another -/
def Tight (s : Bs) : Prop := ∀ (i : Nat) (h : i < s.length), s[i] = 32 → 0 < i ∧ i + 1 < s.length ∧ s[i - 1]? ≠ some 32
theorem tight_word {p : Bs} (h : (32 : UInt8) ∉ p) : Tight p := fun _ hi e => absurd (e ▸ List.getElem_mem hi) h
theorem tight_join : ∀ l : List Bs, (∀ p ∈ l, p ≠ [] ∧ (32 : UInt8) ∉ p) → Tight (jn 32 l) ∧ (l ≠ [] → jn 32 l ≠ [] ∧ (jn 32 l)[0]? ≠ some 32)
  | [], _ => ⟨fun i hi => by simp [jn] at hi, fun h => absurd rfl h⟩
  | [p], h => by
    obtain ⟨h1, h2⟩ := h p (List.mem_cons_self ..)
    refine ⟨tight_word h2, fun _ => ⟨h1, fun e => ?_⟩⟩
    exact h2 (List.mem_of_getElem? e)
  | p :: q :: r, h => by
    obtain ⟨h1, h2⟩ := h p (List.mem_cons_self ..)
    obtain ⟨i1, i2⟩ := tight_join (q :: r) (fun x hx => h x (List.mem_cons_of_mem _ hx))
    obtain ⟨j1, j2⟩ := i2 (by simp)
    have hp : 0 < p.length := List.length_pos_iff.2 h1
    have hj : 0 < (jn 32 (q :: r)).length := List.length_pos_iff.2 j1
    rw [jn_cons]
    generalize jn 32 (q :: r) = u at *
    refine ⟨fun i hi e => ?_, fun _ => ⟨by simp, fun e => ?_⟩⟩
    · rw [List.length_append, List.length_cons] at hi ⊢
      rcases Nat.lt_trichotomy i p.length with hlt | rfl | hgt
      · rw [List.getElem_append_left hlt] at e
        exact absurd (e ▸ List.getElem_mem hlt) h2
      · refine ⟨hp, by omega, fun e2 => ?_⟩
        rw [List.getElem?_append_left (by omega)] at e2
        exact h2 (List.mem_of_getElem? e2)
      · obtain ⟨k, rfl⟩ : ∃ k, i = p.length + 1 + k := ⟨i - p.length - 1, by omega⟩
        have hk : k < u.length := by omega
        have e3 : u[k] = 32 := by
          rw [List.getElem_append_right (by omega)] at e
          simp only [show p.length + 1 + k - p.length = k + 1 by omega, List.getElem_cons_succ] at e
          exact e
        obtain ⟨k1, k2, k3⟩ := i1 k hk e3
        refine ⟨by omega, by omega, fun e2 => k3 ?_⟩
        rw [List.getElem?_append_right (by omega), show p.length + 1 + k - 1 - p.length = (k - 1) + 1 by omega, List.getElem?_cons_succ] at e2
        exact e2
    · rw [List.getElem?_append_left hp] at e
      exact h2 (List.mem_of_getElem? e)
theorem trimB_tight (t : Bs) : Tight (trimB t) := (tight_join _ (trimB_words t)).1
theorem occ_app {s p : Bs} {i : Nat} : Lib.occAt s p i = true ↔ ∃ r, s.drop i = p ++ r := by
  unfold Lib.occAt
  rw [List.isPrefixOf_iff_prefix]
  exact ⟨fun ⟨r, h⟩ => ⟨r, h.symm⟩, fun ⟨r, h⟩ => ⟨r, h.symm⟩⟩
theorem occ_drop {s p : Bs} {i : Nat} (h : Lib.occAt s p i = true) : s.drop i = p ++ s.drop (i + p.length) := by
  obtain ⟨r, hr⟩ := occ_app.1 h
  have e : s.drop (i + p.length) = r := by rw [← List.drop_drop, hr, List.drop_left]
  rw [e, hr]
theorem occ_room {s p : Bs} {i : Nat} (hi : i ≤ s.length) (h : Lib.occAt s p i = true) : i + p.length ≤ s.length := by
  have := congrArg List.length (occ_drop h)
  rw [List.length_drop, List.length_append, List.length_drop] at this
  omega
theorem occ_take {s p : Bs} {i k : Nat} (hp : p ≠ []) (h : Lib.occAt (s.take k) p i = true) (hi : i ≤ (s.take k).length) : i < k ∧ Lib.occAt s p i = true := by
  have hr := occ_room hi h
  have hl : 0 < p.length := List.length_pos_iff.2 hp
  rw [List.length_take] at hr hi
  refine ⟨by omega, ?_⟩
  obtain ⟨r, hr⟩ := occ_app.1 h
  refine occ_app.2 ⟨r ++ (s.drop k), ?_⟩
  rw [← List.append_assoc, ← hr]
  have e : s.drop i = (s.take k ++ s.drop k).drop i := by rw [List.take_append_drop]
  rw [e, List.drop_append_of_le_length (by rw [List.length_take]; omega)]
theorem join_cons2 (x y : Bs) (r : List Bs) (sep : Bs) : Lib.join (x :: y :: r) sep = x ++ (sep ++ Lib.join (y :: r) sep) := by
  rw [Lib.join_cons, Lib.join_cons]
  simp [Lib.joinTail]
theorem join_consne (x : Bs) (r : List Bs) (hr : r ≠ []) (sep : Bs) : Lib.join (x :: r) sep = x ++ (sep ++ Lib.join r sep) := by
  cases r with
  | nil => exact absurd rfl hr
  | cons y r => exact join_cons2 x y r sep
theorem splitK_ne (sep : Bs) : ∀ k s, Lib.splitK sep 0 k s ≠ []
  | 0, s => by simp [Lib.splitK]
  | k + 1, s => by unfold Lib.splitK; split <;> simp
theorem join_splitK (sep : Bs) : ∀ k s, Lib.join (Lib.splitK sep 0 k s) sep = s
  | 0, s => Lib.join_one s sep
  | k + 1, s => by
    unfold Lib.splitK
    split
    · exact Lib.join_one s sep
    · next h =>
      rcases Lib.index_spec s sep with ⟨hm, _⟩ | ⟨i, hi, hl, ho, _⟩
      · rw [hm] at h; exact absurd rfl h
      · rw [join_consne _ _ (splitK_ne sep k _), join_splitK sep k, hi, Nat.add_zero]
        show s.take (i : Int).toNat ++ (sep ++ s.drop ((i : Int).toNat + sep.length)) = s
        rw [Int.toNat_natCast, ← occ_drop ho, List.take_append_drop]
theorem join_split (s sep : Bs) : Lib.join (Lib.split s sep) sep = s := join_splitK sep _ s
theorem split_ne (s sep : Bs) : Lib.split s sep ≠ [] := splitK_ne sep _ s
theorem split_none (sep : Bs) (hs : sep ≠ []) : ∀ (n : Nat) (s : Bs), s.length ≤ n → ∀ p ∈ Lib.split s sep, Lib.index p sep = -1 := by
  have hl : 0 < sep.length := List.length_pos_iff.2 hs
  intro n
  induction n with
  | zero =>
    intro s h p hp
    have e : s = [] := List.eq_nil_of_length_eq_zero (by omega)
    subst e
    have hm : Lib.index [] sep = -1 := Lib.index_none (fun j hj => by
      have : j = 0 := by simpa using hj
      subst this
      cases sep with
      | nil => exact absurd rfl hs
      | cons a r => rfl)
    rw [Lib.split, Lib.count_miss hm] at hp
    simp [Lib.splitK] at hp
    rw [hp]; exact hm
  | succ n ih =>
    intro s h p hp
    rcases Lib.index_spec s sep with ⟨hm, _⟩ | ⟨i, hi, hil, ho, hno⟩
    · rw [Lib.split, Lib.count_miss hm] at hp
      simp [Lib.splitK] at hp
      rw [hp]; exact hm
    · rw [Lib.split, Lib.count_hit hs hi, Nat.add_comm, Lib.splitK, if_neg (by rw [hi]; simp), hi, Int.toNat_natCast, Nat.add_zero] at hp
      rcases List.mem_cons.1 hp with rfl | hp
      · refine Lib.index_none (fun j hj => ?_)
        rw [Bool.eq_false_iff]
        intro hc
        obtain ⟨hji, hc'⟩ := occ_take hs hc hj
        rw [hno j hji] at hc'
        cases hc'
      · exact ih (s.drop (i + sep.length)) (by rw [List.length_drop]; omega) p hp
theorem split_len (sep : Bs) (hs : sep ≠ []) (s : Bs) : (Lib.split s sep).length ≤ s.length + 1 := by
  have hl : 0 < sep.length := List.length_pos_iff.2 hs
  have e := join_split s sep
  cases h : Lib.split s sep with
  | nil => simp
  | cons x r =>
    rw [h] at e
    have := congrArg List.length e
    rw [Lib.join_length] at this
    have h2 : r.length ≤ sep.length * r.length := Nat.le_mul_of_pos_left _ hl
    rw [List.length_cons]
    omega
theorem le_sum_mem : ∀ {l : List Nat} {n : Nat}, n ∈ l → n ≤ l.sum
  | a :: l, n, h => by
    rw [List.sum_cons]
    rcases List.mem_cons.1 h with rfl | h
    · omega
    · have := le_sum_mem h
      omega
/-- a piece is no longer than the text -/
theorem split_piece (sep s : Bs) : ∀ p ∈ Lib.split s sep, p.length ≤ s.length := by
  intro p hp
  have e := congrArg List.length (join_split s sep)
  cases h : Lib.split s sep with
  | nil => rw [h] at hp; cases hp
  | cons x r =>
    rw [h] at e hp
    rw [Lib.join_length] at e
    have : p.length ≤ Lib.lens (x :: r) := by
      unfold Lib.lens
      exact le_sum_mem (List.mem_map_of_mem hp)
    omega
/-- strings.Split at one byte -/
theorem split_sp (b : UInt8) : ∀ (n : Nat) (s : Bs), s.length ≤ n → Lib.split s [b] = sp b s := by
  intro n s _
  have h1 : sp b (jn b (Lib.split s [b])) = Lib.split s [b] := sp_jn b _ (split_ne s [b]) (fun p hp hm => by
    have hi := split_none [b] (by simp) _ s (Nat.le_refl _) p hp
    rw [Lib.index_one] at hi
    obtain ⟨k, hk, e⟩ := List.getElem_of_mem hm
    exact Lib.indexByte_none hi k (by rw [List.getElem?_eq_getElem hk, e]))
  have hj : ∀ l : List Bs, jn b l = Lib.join l [b] := by
    intro l
    induction l with
    | nil => rfl
    | cons x r ih =>
      cases r with
      | nil => exact (Lib.join_one x [b]).symm
      | cons y r => rw [jn_cons, join_cons2, ih]; rfl
  rw [hj, join_split] at h1
  exact h1.symm
theorem jn_join (b : UInt8) : ∀ l : List Bs, jn b l = Lib.join l [b]
  | [] => rfl
  | [x] => (Lib.join_one x [b]).symm
  | x :: y :: r => by rw [jn_cons, join_cons2, jn_join b (y :: r)]; rfl
/-- texts in memory -/
def SBk (W : World) (b : Nat) (l : List Bs) : Prop := Lies W b 9 (l.map (fun p => Value.string ⟨p.toArray⟩)).toArray
theorem SBk.next {W W' : World} {b : Nat} {l : List Bs} (h : SBk W b l) (hb : Below W.heap.size W W') : SBk W' b l := Lies.next h hb
theorem SBk.cell {W : World} {b : Nat} {l : List Bs} (h : SBk W b l) (k : Nat) (hk : k < l.length) : W.cell? ⟨b, k, none⟩ = some (.string ⟨l[k].toArray⟩) := by
  unfold SBk at h
  rw [h.cell k]
  simp [hk]
theorem split_any (t sep : Bs) (w : World) (hM : MaxVar w) (ht : t.length ≤ 1000000) (h1 : sep ≠ []) :
    Calls Tryz.prog 72 #[.string ⟨t.toArray⟩, .string ⟨sep.toArray⟩] w fun e w' => e = .returned (.slice (some ⟨w.heap.size, 0, none⟩) (Lib.split t sep).length (Lib.split t sep).length) ∧ SBk w' w.heap.size (Lib.split t sep) ∧ Below w.heap.size w w' := by
  obtain ⟨m, hm⟩ := hM
  have hp : 1 ≤ sep.length := List.length_pos_iff.2 h1
  refine (Tryz.strings_Split ⟨t.toArray⟩ ⟨sep.toArray⟩ m w (by simp [ByteArray.size]; omega) hm (by simpa [ByteArray.size] using hp)).mono ?_
  rintro e w' ⟨rfl, rfl⟩
  have hd := Lib.splitB_data ⟨sep.toArray⟩ 0 (Lib.countB ⟨t.toArray⟩ ⟨sep.toArray⟩) ⟨t.toArray⟩
  have hc : Lib.countB ⟨t.toArray⟩ ⟨sep.toArray⟩ = Lib.count t sep := rfl
  have hs : Lib.splitK sep 0 (Lib.count t sep) t = Lib.split t sep := rfl
  have hln := Lib.splitB_all ⟨sep.toArray⟩ (by simpa [ByteArray.size] using hp) 0 _ ⟨t.toArray⟩ rfl
  rw [hc] at hd hln ⊢
  dsimp only at hd
  rw [hs] at hd
  generalize Lib.splitB ⟨sep.toArray⟩ 0 (Lib.count t sep) ⟨t.toArray⟩ = L at *
  rw [← hd, List.length_map, hln]
  refine ⟨rfl, ?_, (Below.refl _ w).alloc (Nat.le_refl _) _⟩
  have e : (L.map (·.data.toList)).map (fun p => Value.string ⟨p.toArray⟩) = L.map Value.string := by
    rw [List.map_map]
    rfl
  unfold SBk
  rw [e]
  exact Lies.new w _ _
theorem vText_tV {t : Bs} (h : t.length ≤ 255) : vText t = tV t := by unfold vText; rw [if_neg (by omega)]
theorem take_vcells (L : List Bs) (k : Nat) (hk : k < L.length) : vcells ((L.map tV).take (k + 1)) = vcells ((L.map tV).take k) ++ [.int .i64 2, .int .i64 0, .int .i64 0, .string ⟨L[k].toArray⟩, .bool false, .int .i64 0] := by
  rw [List.take_succ_eq_append_getElem (by simpa using hk), List.getElem_map]
  unfold vcells
  rw [List.flatMap_append]
  rfl
set_option maxRecDepth 100000 in
set_option maxHeartbeats 6400000 in
theorem textSplit_any (t sep : Bs) (b cap : Nat) (w : World) (hP : PowTab w) (hM : MaxVar w) (ht : t.length ≤ 255) (h0 : sep ≠ []) (ha : Args w b [arr1 (tV t), arr1 (tV sep)]) :
    Calls Tryz.prog 47 #[.slice (some ⟨b, 0, none⟩) 2 cap] w (ArrPost ⟨1, (Lib.split t sep).length, (Lib.split t sep).map tV⟩ w) := by
  have hsp : sep.isEmpty = false := by cases sep with | nil => exact absurd rfl h0 | cons => rfl
  obtain ⟨g1, c1, -, -, a2, v1⟩ := ha.2 0 (by simp)
  obtain ⟨g2, c2, -, -, b2, v2⟩ := ha.2 1 (by simp)
  have hbw := ha.1
  have A2 : Hid (w.cell? ⟨b, 2, none⟩ = some (.slice (some ⟨g1, 0, none⟩) 1 c1)) := Lib.hid a2
  have B2 : Hid (w.cell? ⟨b, 5, none⟩ = some (.slice (some ⟨g2, 0, none⟩) 1 c2)) := Lib.hid b2
  have V1 : Hid (VP w g1 [tV t]) := Lib.hid v1
  have V2 : Hid (VP w g2 [tV sep]) := Lib.hid v2
  have CT := Lib.hid (fun (s : Bs) W (h : Below w.heap.size w W) => toText_any (tV s) W (hP.next h) (by simp) (by simp) (fun h => absurd h (by simp)))
  have CS := Lib.hid (fun W (h : Below w.heap.size w W) => split_any t sep W (hM.next h) (by omega) h0)
  have CX := Lib.hid (fun (p : Bs) W (h : p ∈ Lib.split t sep) => text_any p W (by have := split_piece sep t p h; omega))
  have HT := Lib.hid (fun (p : Bs) (h : p ∈ Lib.split t sep) => vText_tV (t := p) (by have := split_piece sep t p h; omega))
  have HNE := Lib.hid (List.length_pos_iff.2 (split_ne t sep))
  have HLN := Lib.hid (Nat.le_trans (split_len sep h0 t) (Nat.succ_le_succ ht))
  simp only [tV_text] at CT
  have HB1 : Hid (Below w.heap.size w (w.alloc (.cells #[.int .i64 0, .int .i64 0, .slice none 0 0] 25))) := Lib.hid ((Below.refl _ w).alloc (Nat.le_refl _) _)
  have HR1 : Hid (Lies (w.alloc (.cells #[.int .i64 0, .int .i64 0, .slice none 0 0] 25)) w.heap.size 25 #[.int .i64 0, .int .i64 0, .slice none 0 0]) := Lib.hid (Lies.new w _ _)
  dsimp only [valV, valC] at CT
  clear ha a2 v1 b2 v2 hP hM ht h0
  generalize Lib.split t sep = L at *
  obtain ⟨n, hn⟩ : ∃ n, n = L.length := ⟨_, rfl⟩
  have HN := Lib.hid hn
  rw [← hn] at CS HNE HLN ⊢
  have hln : n ≤ 256 := HLN.out
  clear hn
  go_enter Tryz.func47, Tryz.ntmps47
  go_upto_region 1 with fail
  generalize w.alloc (.cells #[.int .i64 0, .int .i64 0, .slice none 0 0] 25) = W1 at *
  have hg1 := V1.out.lt
  have hg2 := V2.out.lt
  generalize hqe : w.heap.size = q at *
  have HQ := Lib.hid hqe
  clear hqe
  have a2 := (HB1.out.cell (p := ⟨b, 2, none⟩) hbw).trans A2.out
  have y0 : W1.cell? ⟨g1, 0, none⟩ = some (.int .i64 2) := (HB1.out.cell (p := ⟨g1, 0, none⟩) hg1).trans (V1.out.cell 0 (by simp) 0 (by decide))
  have y1 : W1.cell? ⟨g1, 1, none⟩ = some (.int .i64 0) := (HB1.out.cell (p := ⟨g1, 1, none⟩) hg1).trans (V1.out.cell 0 (by simp) 1 (by decide))
  have y2 : W1.cell? ⟨g1, 2, none⟩ = some (.int .i64 0) := (HB1.out.cell (p := ⟨g1, 2, none⟩) hg1).trans (V1.out.cell 0 (by simp) 2 (by decide))
  have y3 : W1.cell? ⟨g1, 3, none⟩ = some (.string ⟨t.toArray⟩) := (HB1.out.cell (p := ⟨g1, 3, none⟩) hg1).trans (V1.out.cell 0 (by simp) 3 (by decide))
  have y4 : W1.cell? ⟨g1, 4, none⟩ = some (.bool false) := (HB1.out.cell (p := ⟨g1, 4, none⟩) hg1).trans (V1.out.cell 0 (by simp) 4 (by decide))
  have y5 : W1.cell? ⟨g1, 5, none⟩ = some (.int .i64 0) := (HB1.out.cell (p := ⟨g1, 5, none⟩) hg1).trans (V1.out.cell 0 (by simp) 5 (by decide))
  go_wp2_with fail
  refine (CT.out t _ HB1.out).mono ?_
  rintro x w2 ⟨rfl, hb⟩
  have hqs : q < W1.heap.size := HR1.out.lt
  have HB2 := Lib.hid (HB1.out.trans (hb.mono (Nat.le_of_lt hqs)))
  have HR2 := Lib.hid (HR1.out.next hb)
  clear a2 y0 y1 y2 y3 y4 y5 hb HB1 HR1 hqs
  have a2 := (HB2.out.cell (p := ⟨b, 5, none⟩) hbw).trans B2.out
  have y0 : w2.cell? ⟨g2, 0, none⟩ = some (.int .i64 2) := (HB2.out.cell (p := ⟨g2, 0, none⟩) hg2).trans (V2.out.cell 0 (by simp) 0 (by decide))
  have y1 : w2.cell? ⟨g2, 1, none⟩ = some (.int .i64 0) := (HB2.out.cell (p := ⟨g2, 1, none⟩) hg2).trans (V2.out.cell 0 (by simp) 1 (by decide))
  have y2 : w2.cell? ⟨g2, 2, none⟩ = some (.int .i64 0) := (HB2.out.cell (p := ⟨g2, 2, none⟩) hg2).trans (V2.out.cell 0 (by simp) 2 (by decide))
  have y3 : w2.cell? ⟨g2, 3, none⟩ = some (.string ⟨sep.toArray⟩) := (HB2.out.cell (p := ⟨g2, 3, none⟩) hg2).trans (V2.out.cell 0 (by simp) 3 (by decide))
  have y4 : w2.cell? ⟨g2, 4, none⟩ = some (.bool false) := (HB2.out.cell (p := ⟨g2, 4, none⟩) hg2).trans (V2.out.cell 0 (by simp) 4 (by decide))
  have y5 : w2.cell? ⟨g2, 5, none⟩ = some (.int .i64 0) := (HB2.out.cell (p := ⟨g2, 5, none⟩) hg2).trans (V2.out.cell 0 (by simp) 5 (by decide))
  go_wp2_with fail
  refine (CT.out sep _ HB2.out).mono ?_
  rintro x w3 ⟨rfl, hb⟩
  have hqs : q < w2.heap.size := HR2.out.lt
  have HB3 := Lib.hid (HB2.out.trans (hb.mono (Nat.le_of_lt hqs)))
  have HR3 := Lib.hid (HR2.out.next hb)
  clear a2 y0 y1 y2 y3 y4 y5 hb HB2 HR2 hqs hbw hg1 hg2
  go_wp2_with fail
  refine (CS.out _ HB3.out).mono ?_
  rintro x w4 ⟨rfl, hs, hb⟩
  have hqs : q < w3.heap.size := HR3.out.lt
  have HB4 := Lib.hid (HB3.out.trans (hb.mono (Nat.le_of_lt hqs)))
  have HR4 := Lib.hid (HR3.out.next hb)
  have HS := Lib.hid hs
  generalize w3.heap.size = g at *
  have hqs4 : q < w4.heap.size := HR4.out.lt
  have HO4 : Hid (w4.ownsRow w4.heap.size 35 6 (.slice none 0 0) 0 (vcells ((L.map tV).take 0))) := Lib.hid (World.ownsRow_nil _ _ _ _)
  clear hb hs HB3 HR3 CS CT hqs
  obtain ⟨i1, gi, gz0, gz1, gz2⟩ := info_parts infoVal
  go_wp2_with fail
  go_loopw [44, 6] (fun v44 v6 wx => ∃ k : Nat, v44 = .int .i64 (k : Int) ∧ k ≤ n ∧ Hid (Below q w wx) ∧ Hid (Below w4.heap.size w4 wx) ∧ Hid (wx.ownsRow w4.heap.size 35 6 v6 k (vcells ((L.map tV).take k)))) (fun v44 _ _ => n - (intOf v44).toNat)
  case atStart => exact ⟨0, rfl, Nat.zero_le _, HB4, Lib.hid (Below.refl _ _), HO4⟩
  case round =>
    obtain ⟨k, rfl, hk, hb, hb4, ho⟩ := hrel
    rename_i v6
    clear HB4 HO4
    have hgl : g < w4.heap.size := HS.out.lt
    have hqs : q < wr.heap.size := Nat.lt_of_lt_of_le hqs4 hb4.out.size
    by_cases hlt : k < n
    · have hkl : k < L.length := by rw [← HN.out]; exact hlt
      have c0 : wr.cell? ⟨g, k, none⟩ = some (.string ⟨L[k].toArray⟩) := (hb4.out.cell (p := ⟨g, k, none⟩) hgl).trans (HS.out.cell k hkl)
      have CXk := Lib.hid (fun W => CX.out L[k] W (List.getElem_mem hkl))
      rw [HT.out L[k] (List.getElem_mem hkl)] at CXk
      have HTk := Lib.hid (take_vcells L k hkl)
      generalize L[k] = p at *
      dsimp only [valV, valC] at CXk
      go_wp2_with fail
      refine (CXk.out _).mono ?_
      rintro x w5 ⟨rfl, hb5⟩
      have HB5 := Lib.hid (hb.out.trans (hb5.mono (Nat.le_of_lt hqs)))
      have HB54 := Lib.hid (hb4.out.trans (hb5.mono hb4.out.size))
      have HO5 := Lib.hid (own_next hb5 ho.out)
      have hsz5 := hb5.size
      clear hb hb4 ho hb5 CXk c0
      go_wp2_with (at_builtin; refine wpList_append_own _ rfl _ _ 23 rfl w4.heap.size 35 i1 (.agg (valC ⟨0, 0, 0, [], false, 0⟩)) 6 56 Tryz.underlying23 gi gz0 gz1 gz2 rfl (by decide) _ _ _ rfl (World.ownsRow.alloc HO5.out _) ⟨w5.heap.size, 0, none⟩ 1 1 [.int .i64 2, .int .i64 0, .int .i64 0, .string ⟨p.toArray⟩, .bool false, .int .i64 0] rfl rfl ?c1 ?c2 ?c3 ?c4 ?c5 ?_)
      try
        case c1 =>
          intro j u hj
          match j, hj with
          | 0, hj => simp at hj; subst hj; simp [Addr.add]
          | 1, hj => simp at hj; subst hj; simp [Addr.add]
          | 2, hj => simp at hj; subst hj; simp [Addr.add]
          | 3, hj => simp at hj; subst hj; simp [Addr.add]
          | 4, hj => simp at hj; subst hj; simp [Addr.add]
          | 5, hj => simp at hj; subst hj; simp [Addr.add]
          | j + 6, hj => simp at hj
      try
        case c2 =>
          intro u hu
          simp at hu
          rcases hu with rfl | rfl | rfl | rfl | rfl | rfl <;> rfl
      case c3 => have := HLN.out; unfold maxLen; omega
      case c4 => have := HLN.out; omega
      case c5 => have := HB54.out.size; rw [World.size_alloc]; omega
      intro v' W6 hown' hgrow _
      have HB6 : Hid (Below q w W6) := Lib.hid ((HB5.out.alloc (by omega) _).grown hgrow (by rw [World.size_alloc]; omega) (fun r e => by have := ((World.ownsRow.alloc HO5.out (.cells #[.int .i64 2, .int .i64 0, .int .i64 0, .string ⟨p.toArray⟩, .bool false, .int .i64 0] 35)).lt _ e).1; omega))
      have HB64 : Hid (Below w4.heap.size w4 W6) := Lib.hid ((HB54.out.alloc HB54.out.size _).grown hgrow (by rw [World.size_alloc]; have := HB54.out.size; omega) (fun r e => (World.ownsRow.alloc HO5.out (.cells #[.int .i64 2, .int .i64 0, .int .i64 0, .string ⟨p.toArray⟩, .bool false, .int .i64 0] 35)).lt _ e |>.1))
      have HO6 : Hid (W6.ownsRow w4.heap.size 35 6 v' (k + 1) (vcells ((L.map tV).take (k + 1)))) := Lib.hid (by rw [HTk.out]; exact hown')
      clear hown' hgrow HB5 HB54 HO5
      go_wp2_with fail
      go_roundw
      case rel => exact ⟨k + 1, by go_num, by omega, HB6, HB64, HO6⟩
      case measure => simp [intOf]; omega
    · obtain rfl : n = k := by omega
      obtain ⟨g', c', rfl, hc', hvp⟩ := VP.own (vs := L.map tV) (by
        have h := ho.out
        rw [List.take_of_length_le (by rw [List.length_map, ← HN.out]; exact Nat.le_refl _)] at h
        exact h) (by rw [List.length_map, ← HN.out]) HNE.out
      have HVP := Lib.hid hvp
      have HR6 := Lib.hid (HR4.out.next hb4.out)
      have x0 := HR6.out.cell 0
      have x1 := HR6.out.cell 1
      have x2 := HR6.out.cell 2
      have f0 := HR6.out.frozen 0
      have f1 := HR6.out.frozen 1
      have f2 := HR6.out.frozen 2
      simp only [List.getElem?_toArray, List.getElem?_cons_zero, List.getElem?_cons_succ] at x0 x1 x2
      clear hvp ho hb4
      go_wp2_with fail
      refine bodyPost_ret (v := .agg #[.int .i64 1, .int .i64 n, .slice (some ⟨g', 0, none⟩) n c']) (by simp [results, Tryz.results47, go_sem, x0, x1, x2]) rfl ?_
      refine ⟨_, rfl, ⟨g', c', by rw [List.length_map, ← HN.out], ?_⟩, ?_⟩
      · exact ((HVP.out.put (by decide) HR6.out 0 _).put (by decide) (HR6.out.put 0 _) 1 _).put (by decide) ((HR6.out.put 0 _).put 1 _) 2 _
      · rw [HQ.out]
        exact below_set (below_set (below_set hb.out (Nat.le_refl _) 0 _) (Nat.le_refl _) 1 _) (Nat.le_refl _) 2 _
set_option maxRecDepth 100000 in
set_option maxHeartbeats 3200000 in
theorem one_any (v : Val) (w : World) (hr : vRight v = true) (hs : v.sane) : Calls Tryz.prog 48 #[valV v] w (ArrPost (arr1 v) w) := by
  obtain ⟨W2, hW2⟩ : ∃ W2, W2 = (w.alloc (.cells (valC v) 35)).alloc (.cells #[.int .i64 0, .int .i64 0, .slice none 0 0] 25) := ⟨_, rfl⟩
  have HB2 : Hid (Below w.heap.size w W2) := Lib.hid (by rw [hW2]; exact ((Below.refl _ w).alloc (Nat.le_refl _) _).alloc (by rw [World.size_alloc]; omega) _)
  have HL1 : Hid (Lies W2 w.heap.size 35 (valC v)) := Lib.hid (by rw [hW2]; exact (Lies.new w _ _).alloc _)
  have HL2 : Hid (Lies W2 (w.heap.size + 1) 25 #[.int .i64 0, .int .i64 0, .slice none 0 0]) := Lib.hid (by
    rw [hW2]
    have h := Lies.new (w.alloc (.cells (valC v) 35)) 25 #[.int .i64 0, .int .i64 0, .slice none 0 0]
    rw [World.size_alloc] at h
    exact h)
  have HW := Lib.hid hW2
  have CR := Lib.hid (fun W => vvRight_any v W hs.1 hs.2.1 (by have := hs.2.2; omega))
  rw [hr] at CR
  clear hW2 hr hs
  obtain ⟨k, m, e, t, tr, f⟩ := v
  dsimp only [valV, valC] at CR HW HL1 ⊢
  have y0 := HL1.out.cell 0
  have y1 := HL1.out.cell 1
  have y2 := HL1.out.cell 2
  have y3 := HL1.out.cell 3
  have y4 := HL1.out.cell 4
  have y5 := HL1.out.cell 5
  simp only [List.getElem?_toArray, List.getElem?_cons_zero, List.getElem?_cons_succ] at y0 y1 y2 y3 y4 y5
  go_enter Tryz.func48, Tryz.ntmps48
  go_upto_region 1 with fail
  rw [← HW.out]
  generalize hqe : w.heap.size = q at *
  have HQ := Lib.hid hqe
  clear hqe
  go_wp2_with fail
  refine (CR.out _).mono ?_
  rintro x w3 ⟨rfl, hb⟩
  have hq2 : q + 1 < W2.heap.size := HL2.out.lt
  have HB3 := Lib.hid (HB2.out.trans (hb.mono (by omega)))
  have HL3 := Lib.hid (HL1.out.next hb)
  have HR3 := Lib.hid (HL2.out.next hb)
  have hq3 : q + 1 < w3.heap.size := HR3.out.lt
  clear hb HL1 HL2 HB2 CR y0 y1 y2 y3 y4 y5
  have y0 := HL3.out.cell 0
  have y1 := HL3.out.cell 1
  have y2 := HL3.out.cell 2
  have y3 := HL3.out.cell 3
  have y4 := HL3.out.cell 4
  have y5 := HL3.out.cell 5
  have x0 := HR3.out.cell 0
  have x1 := HR3.out.cell 1
  have x2 := HR3.out.cell 2
  have f0 := HR3.out.frozen 0
  have f1 := HR3.out.frozen 1
  have f2 := HR3.out.frozen 2
  simp only [List.getElem?_toArray, List.getElem?_cons_zero, List.getElem?_cons_succ] at x0 x1 x2 y0 y1 y2 y3 y4 y5
  have HF := Lib.hid ((((HR3.out.put 0 (.int .i64 1)).put 1 (.int .i64 1)).put 2 (.slice (some ⟨w3.heap.size, 0, none⟩) 1 1)).alloc (.cells #[.int .i64 k, .int .i64 m, .int .i64 e, .string ⟨t.toArray⟩, .bool tr, .int .i64 f] 35))
  have z0 : ((((w3.setCell ⟨q + 1, 0, none⟩ (.int .i64 1)).setCell ⟨q + 1, 1, none⟩ (.int .i64 1)).setCell ⟨q + 1, 2, none⟩ (.slice (some ⟨w3.heap.size, 0, none⟩) 1 1)).alloc (.cells #[.int .i64 k, .int .i64 m, .int .i64 e, .string ⟨t.toArray⟩, .bool tr, .int .i64 f] 35)).cell? ⟨q + 1, 0, none⟩ = some (.int .i64 1) := HF.out.cell 0
  have z1 : ((((w3.setCell ⟨q + 1, 0, none⟩ (.int .i64 1)).setCell ⟨q + 1, 1, none⟩ (.int .i64 1)).setCell ⟨q + 1, 2, none⟩ (.slice (some ⟨w3.heap.size, 0, none⟩) 1 1)).alloc (.cells #[.int .i64 k, .int .i64 m, .int .i64 e, .string ⟨t.toArray⟩, .bool tr, .int .i64 f] 35)).cell? ⟨q + 1, 1, none⟩ = some (.int .i64 1) := HF.out.cell 1
  have z2 : ((((w3.setCell ⟨q + 1, 0, none⟩ (.int .i64 1)).setCell ⟨q + 1, 1, none⟩ (.int .i64 1)).setCell ⟨q + 1, 2, none⟩ (.slice (some ⟨w3.heap.size, 0, none⟩) 1 1)).alloc (.cells #[.int .i64 k, .int .i64 m, .int .i64 e, .string ⟨t.toArray⟩, .bool tr, .int .i64 f] 35)).cell? ⟨q + 1, 2, none⟩ = some (.slice (some ⟨w3.heap.size, 0, none⟩) 1 1) := HF.out.cell 2
  have Z0 := Lib.hid z0
  have Z1 := Lib.hid z1
  have Z2 := Lib.hid z2
  clear z0 z1 z2
  go_wp2_with fail
  refine bodyPost_ret (v := .agg #[.int .i64 1, .int .i64 1, .slice (some ⟨w3.heap.size, 0, none⟩) 1 1]) (by simp [results, Tryz.results48, go_sem, Z0.out, Z1.out, Z2.out]) rfl ?_
  refine ⟨_, rfl, ⟨w3.heap.size, 1, rfl, ?_⟩, ?_⟩
  · have h := VP.new (((w3.setCell ⟨q + 1, 0, none⟩ (.int .i64 1)).setCell ⟨q + 1, 1, none⟩ (.int .i64 1)).setCell ⟨q + 1, 2, none⟩ (.slice (some ⟨w3.heap.size, 0, none⟩) 1 1)) ⟨k, m, e, t, tr, f⟩
    simp only [World.size_setCell] at h
    exact h
  · rw [HQ.out]
    exact (below_set (below_set (below_set HB3.out (Nat.le_succ _) 0 _) (Nat.le_succ _) 1 _) (Nat.le_succ _) 2 _).alloc (by simp only [World.size_setCell]; omega) _
/-- texts behind texts, joined -/
theorem join_snoc (sep : Bs) : ∀ (D : List Bs) (p : Bs), D ≠ [] → Lib.join (D ++ [p]) sep = Lib.join D sep ++ (sep ++ p)
  | [], _, h => absurd rfl h
  | [x], p, _ => by rw [List.singleton_append, join_cons2, Lib.join_one, Lib.join_one]
  | x :: y :: r, p, _ => by
    have ih := join_snoc sep (y :: r) p (by simp)
    rw [List.cons_append, join_consne x _ (by simp), ih, join_cons2]
    simp
theorem join_pre (sep : Bs) (A B : List Bs) : (Lib.join A sep).length ≤ (Lib.join (A ++ B) sep).length := by
  induction A with
  | nil => exact Nat.zero_le _
  | cons x r ih =>
    cases r with
    | nil =>
      cases B with
      | nil => simp
      | cons y B => rw [List.singleton_append, join_cons2, Lib.join_one, List.length_append]; omega
    | cons y r =>
      rw [List.cons_append, join_cons2, join_consne x ((y :: r) ++ B) (by simp)]
      rw [List.length_append, List.length_append, List.length_append, List.length_append]
      omega
theorem join_step (sep : Bs) (D : List Bs) (p : Bs) : Lib.join (D ++ [p]) sep = if D.isEmpty then p else Lib.join D sep ++ sep ++ p := by
  cases D with
  | nil => exact Lib.join_one p sep
  | cons x r => rw [join_snoc sep _ p (by simp)]; simp
/-- arrays of texts in memory -/
def TArr (W : World) (b off : Nat) (PP : List (List Bs)) : Prop := b < W.heap.size ∧ ∀ j (h : j < PP.length), ∃ g cap r c, W.cell? ⟨b, off + j * 3, none⟩ = some (.int .i64 r) ∧ W.cell? ⟨b, off + j * 3 + 1, none⟩ = some (.int .i64 c) ∧ W.cell? ⟨b, off + j * 3 + 2, none⟩ = some (.slice (some ⟨g, 0, none⟩) PP[j].length cap) ∧ VP W g (PP[j].map tV)
theorem TArr.next {W W' : World} {b off : Nat} {PP : List (List Bs)} (h : TArr W b off PP) (hb : Below W.heap.size W W') : TArr W' b off PP := by
  refine ⟨Nat.lt_of_lt_of_le h.1 hb.size, fun j hj => ?_⟩
  obtain ⟨g, cap, r, c, h1, h2, h3, h4⟩ := h.2 j hj
  exact ⟨g, cap, r, c, (hb.cell (p := ⟨b, off + j * 3, none⟩) h.1).trans h1, (hb.cell (p := ⟨b, off + j * 3 + 1, none⟩) h.1).trans h2, (hb.cell (p := ⟨b, off + j * 3 + 2, none⟩) h.1).trans h3, h4.next hb⟩
theorem flat_take (PP : List (List Bs)) (j : Nat) (hj : j < PP.length) : (PP.take (j + 1)).flatten = (PP.take j).flatten ++ PP[j] := by
  rw [List.take_succ_eq_append_getElem hj, List.flatten_append]
  simp
theorem flat_pre (PP : List (List Bs)) (j k : Nat) (hj : j < PP.length) : ∃ B, PP.flatten = ((PP.take j).flatten ++ PP[j].take k) ++ B := by
  refine ⟨PP[j].drop k ++ (PP.drop (j + 1)).flatten, ?_⟩
  rw [List.append_assoc, ← List.append_assoc (PP[j].take k), List.take_append_drop, ← List.append_assoc, ← flat_take PP j hj, ← List.flatten_append, List.take_append_drop]
set_option maxRecDepth 100000 in
set_option maxHeartbeats 6400000 in
theorem joined_any (PP : List (List Bs)) (sep : Bs) (b off cap : Nat) (w : World) (hP : PowTab w) (ha : TArr w b off PP) (hn : PP.length ≤ 100) (hl : ∀ p ∈ PP, p.length ≤ 4096) (hj : (Lib.join PP.flatten sep).length ≤ 255) (hsep : sep.length ≤ 255) :
    Calls Tryz.prog 79 #[.slice (some ⟨b, off, none⟩) PP.length cap, .string ⟨sep.toArray⟩, .bool false] w (ArrPost (arr1 (tV (Lib.join PP.flatten sep))) w) := by
  have HA := Lib.hid ha
  have HL := Lib.hid hl
  have CT := Lib.hid (fun (s : Bs) W (h : Below w.heap.size w W) => toText_any (tV s) W (hP.next h) (by simp) (by simp) (fun h => absurd h (by simp)))
  simp only [tV_text] at CT
  dsimp only [valV, valC] at CT
  have CX := Lib.hid (fun W => text_any (Lib.join PP.flatten sep) W (by omega))
  rw [vText_tV hj] at CX
  have CO := Lib.hid (fun W => one_any (tV (Lib.join PP.flatten sep)) W (by simp [vRight, hj]) ⟨by simp, by simp, by simp; omega⟩)
  dsimp only [valV, valC] at CX CO
  have HJ : Hid (∀ j k, (h : j < PP.length) → (Lib.join ((PP.take j).flatten ++ PP[j].take k) sep).length ≤ 255) := Lib.hid (fun j k h => by
    obtain ⟨B, hB⟩ := flat_pre PP j k h
    have := join_pre sep ((PP.take j).flatten ++ PP[j].take k) B
    rw [← hB] at this
    omega)
  have HPF : Hid (∀ j, j = PP.length → Lib.join (PP.take j).flatten sep = Lib.join PP.flatten sep) := Lib.hid (fun j h => by rw [List.take_of_length_le (by omega)])
  obtain ⟨W1, hW1⟩ : ∃ W1, W1 = w.alloc (.cells #[.int .i64 0, .int .i64 0, .slice none 0 0] 25) := ⟨_, rfl⟩
  have HB1 : Hid (Below w.heap.size w W1) := Lib.hid (by rw [hW1]; exact (Below.refl _ w).alloc (Nat.le_refl _) _)
  have HR1 : Hid (Lies W1 w.heap.size 25 #[.int .i64 0, .int .i64 0, .slice none 0 0]) := Lib.hid (by rw [hW1]; exact Lies.new w _ _)
  have HW := Lib.hid hW1
  have hz1 : W1.heap.size = w.heap.size + 1 := by rw [hW1, World.size_alloc]
  have HZ1 := Lib.hid hz1
  clear hz1
  clear ha hl hP hW1
  obtain ⟨n, hnn⟩ : ∃ n, n = PP.length := ⟨_, rfl⟩
  have HN := Lib.hid hnn
  rw [← hnn] at hn ⊢
  clear hnn hj
  have HS := Lib.hid hsep
  clear hsep
  generalize hJ : Lib.join PP.flatten sep = out at *
  go_enter Tryz.func79, Tryz.ntmps79
  go_upto_region 2 with fail
  rw [← HW.out]
  clear HW
  generalize hqe : w.heap.size = q at *
  have HQ := Lib.hid hqe
  clear hqe
  have hbq : b < q := by rw [← HQ.out]; exact HA.out.1
  go_wp2_with fail
  go_loopw [17, 8] (fun v17 v8 wx => ∃ j : Nat, v17 = .int .i64 (j : Int) ∧ j ≤ n ∧ v8 = .bool (!(PP.take j).flatten.isEmpty) ∧ Hid (Lib.IsBuilder 125 5 (q + 1) (q + 1) (Lib.byteCells (Lib.join (PP.take j).flatten sep)) wx) ∧ Hid (Below (q + 1) W1 wx)) (fun v17 _ _ => n - (intOf v17).toNat)
  case atStart => exact ⟨0, rfl, Nat.zero_le _, rfl, Lib.hid (by rw [← HZ1.out]; exact Lib.fresh_isBuilder _ _ W1), Lib.hid ((Below.refl _ W1).alloc (Nat.le_of_eq HZ1.out.symm) _)⟩
  case round =>
    obtain ⟨wo, rfl⟩ : ∃ wo : World, wo = wr := ⟨_, rfl⟩
    obtain ⟨j, rfl, hj, rfl, hB, hbel⟩ := hrel
    by_cases hlt : j < n
    · have hjv : j < PP.length := by rw [← HN.out]; exact hlt
      obtain ⟨g, cA, ar, ac, a0, a1, a2, hvp⟩ := HA.out.2 j hjv
      have hbB : Below q w wo := HB1.out.trans (hbel.out.mono (Nat.le_succ _))
      have b0 := (hbB.cell (p := ⟨b, off + j * 3, none⟩) hbq).trans a0
      have b1 := (hbB.cell (p := ⟨b, off + j * 3 + 1, none⟩) hbq).trans a1
      have b2 := (hbB.cell (p := ⟨b, off + j * 3 + 2, none⟩) hbq).trans a2
      have HJj := Lib.hid (fun k => HJ.out j k hjv)
      have HFl := Lib.hid (flat_take PP j hjv)
      have HV := Lib.hid hvp
      have hg : g < q := by rw [← HQ.out]; exact hvp.lt
      have hpl : PP[j].length ≤ 4096 := HL.out _ (List.getElem_mem hjv)
      generalize PP[j] = ps at *
      generalize hD : (PP.take j).flatten = D at *
      clear a0 a1 a2 hvp hjv hD
      go_wp2_with fail
      go_loopw [24, 8] (fun v24 v8 wx => ∃ k : Nat, v24 = .int .i64 (k : Int) ∧ k ≤ ps.length ∧ v8 = .bool (!(D ++ ps.take k).isEmpty) ∧ Hid (Lib.IsBuilder 125 5 (q + 1) (q + 1) (Lib.byteCells (Lib.join (D ++ ps.take k) sep)) wx) ∧ Hid (Below (q + 1) W1 wx)) (fun v24 _ _ => ps.length - (intOf v24).toNat)
      case atStart => exact ⟨0, rfl, Nat.zero_le _, by simp, Lib.hid (by
          rw [List.take_zero, List.append_nil]
          exact IsBuilder.next hB.out ((Below.refl _ wo).alloc (Nat.le_refl _) _)), Lib.hid (hbel.out.alloc (Nat.le_trans (Nat.le_of_eq HZ1.out.symm) hbel.out.size) _)⟩
      case round =>
        obtain ⟨k, rfl, hk, rfl, hB2, hbel2⟩ := hrel
        clear b0 b1 b2 hB hbel hbB
        have hws : q + 1 ≤ wr.heap.size := Nat.le_trans (Nat.le_of_eq HZ1.out.symm) hbel2.out.size
        by_cases hkt : k < ps.length
        · have hbB : Below q w wr := HB1.out.trans (hbel2.out.mono (Nat.le_succ _))
          have y0 : wr.cell? ⟨g, k * 6, none⟩ = some (.int .i64 2) := (hbB.cell (p := ⟨g, k * 6, none⟩) hg).trans (by have h := HV.out.cell k (by simpa using hkt) 0 (by decide); rw [List.getElem_map] at h; exact h)
          have y1 : wr.cell? ⟨g, k * 6 + 1, none⟩ = some (.int .i64 0) := (hbB.cell (p := ⟨g, k * 6 + 1, none⟩) hg).trans (by have h := HV.out.cell k (by simpa using hkt) 1 (by decide); rw [List.getElem_map] at h; exact h)
          have y2 : wr.cell? ⟨g, k * 6 + 2, none⟩ = some (.int .i64 0) := (hbB.cell (p := ⟨g, k * 6 + 2, none⟩) hg).trans (by have h := HV.out.cell k (by simpa using hkt) 2 (by decide); rw [List.getElem_map] at h; exact h)
          have y3 : wr.cell? ⟨g, k * 6 + 3, none⟩ = some (.string ⟨ps[k].toArray⟩) := (hbB.cell (p := ⟨g, k * 6 + 3, none⟩) hg).trans (by have h := HV.out.cell k (by simpa using hkt) 3 (by decide); rw [List.getElem_map] at h; exact h)
          have y4 : wr.cell? ⟨g, k * 6 + 4, none⟩ = some (.bool false) := (hbB.cell (p := ⟨g, k * 6 + 4, none⟩) hg).trans (by have h := HV.out.cell k (by simpa using hkt) 4 (by decide); rw [List.getElem_map] at h; exact h)
          have y5 : wr.cell? ⟨g, k * 6 + 5, none⟩ = some (.int .i64 0) := (hbB.cell (p := ⟨g, k * 6 + 5, none⟩) hg).trans (by have h := HV.out.cell k (by simpa using hkt) 5 (by decide); rw [List.getElem_map] at h; exact h)
          have HTk := Lib.hid (List.take_succ_eq_append_getElem hkt)
          have HSt := Lib.hid (join_step sep (D ++ ps.take k) ps[k])
          have HJk := HJj.out k
          have HJk1 := HJj.out (k + 1)
          rw [HTk.out, ← List.append_assoc] at HJk1
          rw [HSt.out] at HJk1
          have CTk := Lib.hid (fun W h => CT.out ps[k] W h)
          have HNe : Hid ((D ++ ps.take (k + 1)).isEmpty = false) := Lib.hid (by rw [HTk.out, ← List.append_assoc]; cases D ++ ps.take k <;> rfl)
          have HSn : Hid (Lib.join (D ++ ps.take (k + 1)) sep = if (D ++ ps.take k).isEmpty then ps[k] else Lib.join (D ++ ps.take k) sep ++ sep ++ ps[k]) := Lib.hid (by rw [HTk.out, ← List.append_assoc]; exact HSt.out)
          generalize ps[k] = p at *
          have HAc : Hid ((D ++ ps.take k).isEmpty = true → Lib.join (D ++ ps.take k) sep = []) := Lib.hid (fun h => by rw [List.isEmpty_iff.1 h]; rfl)
          generalize Lib.join (D ++ ps.take k) sep = acc at *
          clear HTk HSt
          have CL := Lib.hid (fun W (h : Lib.IsBuilder 125 5 (q + 1) (q + 1) (Lib.byteCells acc) W) => Tryz.Builder_Len (q + 1) (q + 1) (Lib.byteCells acc) W h)
          rw [Lib.byteCells_length] at CL
          go_wp2_with fail
          refine (CTk.out _ (hbB.alloc (by omega) _)).mono ?_
          rintro x w5 ⟨rfl, hb5⟩
          have HB5 := Lib.hid (IsBuilder.next (IsBuilder.next hB2.out ((Below.refl _ wr).alloc (Nat.le_refl _) _)) hb5)
          have HW5 := Lib.hid (hbel2.out.trans (((Below.refl _ wr).alloc (Nat.le_refl _) _).trans (hb5.mono (by rw [World.size_alloc]; exact Nat.le_succ _)) |>.mono hws))
          have hle : (acc.length : Int) ≤ 255 := by omega
          have hss := HS.out
          clear hB2 hbel2 hbB y0 y1 y2 y3 y4 y5 hb5 hws CTk
          go_wp2_with fail
          refine (CL.out _ HB5.out).mono ?_
          rintro x w6 ⟨rfl, rfl⟩
          cases hE : (D ++ ps.take k).isEmpty
          · rw [hE] at HSn HJk1
            rw [if_neg (by simp)] at HSn HJk1
            rw [List.length_append, List.length_append] at HJk1
            go_wp2_with fail
            refine (writeString_any (q + 1) (q + 1) acc sep _ HB5.out (by omega) (Nat.le_trans (Nat.le_of_eq HZ1.out.symm) HW5.out.size)).mono ?_
            rintro e w7 ⟨rfl, hb1, hb2⟩
            have HB7 := Lib.hid hb1
            have HW7 := Lib.hid (HW5.out.trans hb2)
            clear hb1 hb2 HB5 HW5
            go_wp2_with fail
            refine (writeString_any (q + 1) (q + 1) (acc ++ sep) p _ HB7.out (by rw [List.length_append]; omega) (Nat.le_trans (Nat.le_of_eq HZ1.out.symm) HW7.out.size)).mono ?_
            rintro e w8 ⟨rfl, hb1, hb2⟩
            have HB8 := Lib.hid hb1
            have HW8 := Lib.hid (HW7.out.trans hb2)
            clear hb1 hb2 HB7 HW7
            go_wp2_with fail
            go_roundw
            case rel => exact ⟨k + 1, by go_num, by omega, by rw [HNe.out]; rfl, Lib.hid (by rw [HSn.out]; exact HB8.out), HW8⟩
            case measure => simp [intOf]; omega
          · rw [hE] at HSn HJk1
            rw [if_pos rfl] at HSn HJk1
            go_wp2_with fail
            refine (writeString_any (q + 1) (q + 1) acc p _ HB5.out (by omega) (Nat.le_trans (Nat.le_of_eq HZ1.out.symm) HW5.out.size)).mono ?_
            rintro e w8 ⟨rfl, hb1, hb2⟩
            have HB8 := Lib.hid hb1
            have HW8 := Lib.hid (HW5.out.trans hb2)
            clear hb1 hb2 HB5 HW5
            go_wp2_with fail
            go_roundw
            case rel => exact ⟨k + 1, by go_num, by omega, by rw [HNe.out]; rfl, Lib.hid (by rw [HSn.out]; have h := HB8.out; rw [HAc.out hE, List.nil_append] at h; exact h), HW8⟩
            case measure => simp [intOf]; omega
        · obtain rfl : k = ps.length := by omega
          have HFe : Hid (D ++ ps.take ps.length = (PP.take (j + 1)).flatten) := Lib.hid (by rw [HFl.out, List.take_of_length_le (Nat.le_refl _)])
          rw [HFe.out] at hB2
          have HE := Lib.hid HFe.out
          go_wp2_with fail
          go_roundw
          case rel => exact ⟨j + 1, by go_num, by omega, by rw [← HE.out, List.take_length], hB2, hbel2⟩
          case measure => simp [intOf]; omega
    · have hjn : j = n := by omega
      rw [HPF.out j (by rw [hjn]; exact HN.out)] at hB
      have HRo : Hid (Lies wo q 25 #[.int .i64 0, .int .i64 0, .slice none 0 0]) := Lib.hid ((hbel.out.block q (Nat.lt_succ_self q)).trans HR1.out)
      have HBo := Lib.hid (HB1.out.trans (hbel.out.mono (Nat.le_succ _)))
      have hws : q + 1 ≤ wo.heap.size := Nat.le_trans (Nat.le_of_eq HZ1.out.symm) hbel.out.size
      go_wp2_with fail
      refine (Tryz.Builder_String_any (q + 1) (q + 1) out _ hB.out hws).mono ?_
      rintro x w5 ⟨rfl, hb5⟩
      have HR5 : Hid (Lies w5 q 25 #[.int .i64 0, .int .i64 0, .slice none 0 0]) := Lib.hid ((hb5.block q (Nat.lt_succ_self q)).trans HRo.out)
      have HB5 := Lib.hid (HBo.out.trans (hb5.mono (Nat.le_succ _)))
      clear hb5 HRo HBo hB hbel
      go_wp2_with fail
      refine (CX.out _).mono ?_
      rintro x w6 ⟨rfl, hb6⟩
      have hq5 : q < w5.heap.size := HR5.out.lt
      have HR6 := Lib.hid (HR5.out.next hb6)
      have HB6 := Lib.hid (HB5.out.trans (hb6.mono (Nat.le_of_lt hq5)))
      clear hb6 HR5 HB5
      go_wp2_with fail
      refine (CO.out _).mono ?_
      rintro x w7 ⟨v, rfl, ⟨g, cA, rfl, hvp⟩, hb7⟩
      have hq6 : q < w6.heap.size := HR6.out.lt
      have HR7 := Lib.hid (HR6.out.next hb7)
      have HB7 := Lib.hid (HB6.out.trans (hb7.mono (Nat.le_of_lt hq6)))
      have HVP := Lib.hid hvp
      have x0 := HR7.out.cell 0
      have x1 := HR7.out.cell 1
      have x2 := HR7.out.cell 2
      have f0 := HR7.out.frozen 0
      have f1 := HR7.out.frozen 1
      have f2 := HR7.out.frozen 2
      simp only [List.getElem?_toArray, List.getElem?_cons_zero, List.getElem?_cons_succ] at x0 x1 x2
      clear hb7 hvp HR6 HB6
      dsimp only [arr1, List.length_cons, List.length_nil]
      go_wp2_with fail
      refine bodyPost_ret (v := .agg #[.int .i64 1, .int .i64 1, .slice (some ⟨g, 0, none⟩) 1 cA]) (by simp [results, Tryz.results79, go_sem, x0, x1, x2]) rfl ?_
      refine ⟨_, rfl, ⟨g, cA, rfl, ?_⟩, ?_⟩
      · exact ((HVP.out.put (by decide) HR7.out 0 _).put (by decide) (HR7.out.put 0 _) 1 _).put (by decide) ((HR7.out.put 0 _).put 1 _) 2 _
      · rw [HQ.out]
        exact below_set (below_set (below_set HB7.out (Nat.le_refl _) 0 _) (Nat.le_refl _) 1 _) (Nat.le_refl _) 2 _
theorem Args.tarr {W : World} {b : Nat} (ar : List Arr) (PP : List (List Bs)) (off : Nat) (h : Args W b ar) (ho : off + PP.length = ar.length) (hp : ∀ j (h1 : j < PP.length) (h2 : off + j < ar.length), ar[off + j].vs = PP[j].map tV) : TArr W b (off * 3) PP := by
  refine ⟨h.1, fun j hj => ?_⟩
  have h2 : off + j < ar.length := by omega
  obtain ⟨g, cap, h1, h3, h4, h5⟩ := h.2 (off + j) h2
  rw [hp j hj h2] at h4 h5
  rw [Nat.add_mul] at h1 h3 h4
  exact ⟨g, cap, _, _, h1, h3, by simpa using h4, h5⟩
set_option maxRecDepth 100000 in
set_option maxHeartbeats 3200000 in
theorem concat_any (PP : List (List Bs)) (b cap : Nat) (w : World) (hP : PowTab w) (ha : TArr w b 0 PP) (hn : PP.length ≤ 100) (hl : ∀ p ∈ PP, p.length ≤ 4096) (hj : (Lib.join PP.flatten []).length ≤ 255) :
    Calls Tryz.prog 45 #[.slice (some ⟨b, 0, none⟩) PP.length cap] w (ArrPost (arr1 (tV (Lib.join PP.flatten []))) w) := by
  have HB1 : Hid (Below w.heap.size w (w.alloc (.cells #[.int .i64 0, .int .i64 0, .slice none 0 0] 25))) := Lib.hid ((Below.refl _ w).alloc (Nat.le_refl _) _)
  have HR1 : Hid (Lies (w.alloc (.cells #[.int .i64 0, .int .i64 0, .slice none 0 0] 25)) w.heap.size 25 #[.int .i64 0, .int .i64 0, .slice none 0 0]) := Lib.hid (Lies.new w _ _)
  have CJ := Lib.hid (joined_any PP [] b 0 cap _ (hP.next HB1.out) (ha.next HB1.out) hn hl hj (by simp))
  clear hP ha hn hl hj
  generalize PP.length = n at *
  generalize Lib.join PP.flatten [] = o at *
  go_enter Tryz.func45, Tryz.ntmps45
  go_upto_region 1 with fail
  generalize w.alloc (.cells #[.int .i64 0, .int .i64 0, .slice none 0 0] 25) = W1 at *
  generalize hqe : w.heap.size = q at *
  have HQ := Lib.hid hqe
  clear hqe
  go_wp2_with fail
  refine CJ.out.mono ?_
  rintro x w9 ⟨v, rfl, ⟨g, cA, rfl, hvp⟩, hb9⟩
  have HR9 := Lib.hid (HR1.out.next hb9)
  have HB9 := Lib.hid (HB1.out.trans (hb9.mono (Nat.le_of_lt HR1.out.lt)))
  have HVP := Lib.hid hvp
  have x0 := HR9.out.cell 0
  have x1 := HR9.out.cell 1
  have x2 := HR9.out.cell 2
  have f0 := HR9.out.frozen 0
  have f1 := HR9.out.frozen 1
  have f2 := HR9.out.frozen 2
  simp only [List.getElem?_toArray, List.getElem?_cons_zero, List.getElem?_cons_succ] at x0 x1 x2
  clear hb9 hvp HR1 HB1
  dsimp only [arr1, List.length_cons, List.length_nil]
  go_wp2_with fail
  refine bodyPost_ret (v := .agg #[.int .i64 1, .int .i64 1, .slice (some ⟨g, 0, none⟩) 1 cA]) (by simp [results, Tryz.results45, go_sem, x0, x1, x2]) rfl ?_
  refine ⟨_, rfl, ⟨g, cA, rfl, ?_⟩, ?_⟩
  · exact ((HVP.out.put (by decide) HR9.out 0 _).put (by decide) (HR9.out.put 0 _) 1 _).put (by decide) ((HR9.out.put 0 _).put 1 _) 2 _
  · rw [HQ.out]
    exact below_set (below_set (below_set HB9.out (Nat.le_refl _) 0 _) (Nat.le_refl _) 1 _) (Nat.le_refl _) 2 _
def falseB : Bs := [70, 65, 76, 83, 69]
set_option maxRecDepth 100000 in
set_option maxHeartbeats 3200000 in
theorem textJoin_any (L : List Bs) (r c : Int) (sep : Bs) (b : Nat) (w : World) (hP : PowTab w) (ha : Args w b [arr1 (tV sep), arr1 (tV falseB), ⟨r, c, L.map tV⟩]) (hl : L.length ≤ 4096) (hs : sep.length ≤ 255) (hj : (Lib.join L sep).length ≤ 255) :
    Calls Tryz.prog 46 #[.slice (some ⟨b, 0, none⟩) 3 3] w (ArrPost (arr1 (tV (Lib.join L sep))) w) := by
  have hbw := ha.1
  obtain ⟨g1, c1, -, -, a2, v1⟩ := ha.2 0 (by simp)
  obtain ⟨g2, c2, -, -, b2, v2⟩ := ha.2 1 (by simp)
  have A2 : Hid (w.cell? ⟨b, 2, none⟩ = some (.slice (some ⟨g1, 0, none⟩) 1 c1)) := Lib.hid a2
  have B2 : Hid (w.cell? ⟨b, 5, none⟩ = some (.slice (some ⟨g2, 0, none⟩) 1 c2)) := Lib.hid b2
  have V1 : Hid (VP w g1 [tV sep]) := Lib.hid v1
  have V2 : Hid (VP w g2 [tV falseB]) := Lib.hid v2
  have CT := Lib.hid (fun W (h : Below w.heap.size w W) => toText_any (tV sep) W (hP.next h) (by simp) (by simp) (fun h => absurd h (by simp)))
  have CB := Lib.hid (fun W => toTruth_any (tV falseB) W (by decide))
  have eF : vToTruth (tV falseB) = (false, 0) := by decide +kernel
  rw [eF] at CB
  have HT := ha.tarr _ [L] 2 (by simp) (fun j h1 h2 => by
    have : j = 0 := by simpa using h1
    subst this
    rfl)
  have CJ := Lib.hid (fun W (h : Below w.heap.size w W) => joined_any [L] sep b 6 1 W (hP.next h) (HT.next h) (by simp) (by simpa using hl) (by simpa using hj) hs)
  simp only [List.flatten_cons, List.flatten_nil, List.append_nil, List.length_cons, List.length_nil, Nat.zero_add, tV_text] at CJ CT
  dsimp only [valV, valC] at CT CB
  have HB1 : Hid (Below w.heap.size w (w.alloc (.cells #[.int .i64 0, .int .i64 0, .slice none 0 0] 25))) := Lib.hid ((Below.refl _ w).alloc (Nat.le_refl _) _)
  have HR1 : Hid (Lies (w.alloc (.cells #[.int .i64 0, .int .i64 0, .slice none 0 0] 25)) w.heap.size 25 #[.int .i64 0, .int .i64 0, .slice none 0 0]) := Lib.hid (Lies.new w _ _)
  clear ha a2 b2 v1 v2 hP HT eF hl hs hj
  generalize Lib.join L sep = o at *
  go_enter Tryz.func46, Tryz.ntmps46
  go_upto_region 1 with fail
  generalize w.alloc (.cells #[.int .i64 0, .int .i64 0, .slice none 0 0] 25) = W1 at *
  generalize hqe : w.heap.size = q at *
  have HQ := Lib.hid hqe
  clear hqe
  have hbq : b < q := hbw
  have a2 := (HB1.out.cell (p := ⟨b, 2, none⟩) hbq).trans A2.out
  have hg := V1.out.lt
  rw [HQ.out] at hg
  have y0 : W1.cell? ⟨g1, 0, none⟩ = some (.int .i64 2) := (HB1.out.cell (p := ⟨g1, 0, none⟩) hg).trans (V1.out.cell 0 (by simp) 0 (by decide))
  have y1 : W1.cell? ⟨g1, 1, none⟩ = some (.int .i64 0) := (HB1.out.cell (p := ⟨g1, 1, none⟩) hg).trans (V1.out.cell 0 (by simp) 1 (by decide))
  have y2 : W1.cell? ⟨g1, 2, none⟩ = some (.int .i64 0) := (HB1.out.cell (p := ⟨g1, 2, none⟩) hg).trans (V1.out.cell 0 (by simp) 2 (by decide))
  have y3 : W1.cell? ⟨g1, 3, none⟩ = some (.string ⟨sep.toArray⟩) := (HB1.out.cell (p := ⟨g1, 3, none⟩) hg).trans (V1.out.cell 0 (by simp) 3 (by decide))
  have y4 : W1.cell? ⟨g1, 4, none⟩ = some (.bool false) := (HB1.out.cell (p := ⟨g1, 4, none⟩) hg).trans (V1.out.cell 0 (by simp) 4 (by decide))
  have y5 : W1.cell? ⟨g1, 5, none⟩ = some (.int .i64 0) := (HB1.out.cell (p := ⟨g1, 5, none⟩) hg).trans (V1.out.cell 0 (by simp) 5 (by decide))
  go_wp2_with fail
  refine (CT.out _ HB1.out).mono ?_
  rintro x w2 ⟨rfl, hb⟩
  have HB2 := Lib.hid (HB1.out.trans (hb.mono (Nat.le_of_lt HR1.out.lt)))
  have HR2 := Lib.hid (HR1.out.next hb)
  clear a2 y0 y1 y2 y3 y4 y5 hb HB1 HR1 CT hg
  have b2 := (HB2.out.cell (p := ⟨b, 5, none⟩) hbq).trans B2.out
  have hg := V2.out.lt
  rw [HQ.out] at hg
  have y0 : w2.cell? ⟨g2, 0, none⟩ = some (.int .i64 2) := (HB2.out.cell (p := ⟨g2, 0, none⟩) hg).trans (V2.out.cell 0 (by simp) 0 (by decide))
  have y1 : w2.cell? ⟨g2, 1, none⟩ = some (.int .i64 0) := (HB2.out.cell (p := ⟨g2, 1, none⟩) hg).trans (V2.out.cell 0 (by simp) 1 (by decide))
  have y2 : w2.cell? ⟨g2, 2, none⟩ = some (.int .i64 0) := (HB2.out.cell (p := ⟨g2, 2, none⟩) hg).trans (V2.out.cell 0 (by simp) 2 (by decide))
  have y3 : w2.cell? ⟨g2, 3, none⟩ = some (.string ⟨falseB.toArray⟩) := (HB2.out.cell (p := ⟨g2, 3, none⟩) hg).trans (V2.out.cell 0 (by simp) 3 (by decide))
  have y4 : w2.cell? ⟨g2, 4, none⟩ = some (.bool false) := (HB2.out.cell (p := ⟨g2, 4, none⟩) hg).trans (V2.out.cell 0 (by simp) 4 (by decide))
  have y5 : w2.cell? ⟨g2, 5, none⟩ = some (.int .i64 0) := (HB2.out.cell (p := ⟨g2, 5, none⟩) hg).trans (V2.out.cell 0 (by simp) 5 (by decide))
  generalize falseB = fb at *
  go_wp2_with fail
  refine (CB.out _).mono ?_
  rintro x w3 ⟨rfl, hb⟩
  have HB3 := Lib.hid (HB2.out.trans (hb.mono (Nat.le_of_lt HR2.out.lt)))
  have HR3 := Lib.hid (HR2.out.next hb)
  clear b2 y0 y1 y2 y3 y4 y5 hb HB2 HR2 CB hg
  go_wp2_with fail
  refine (CJ.out _ HB3.out).mono ?_
  rintro x w9 ⟨v, rfl, ⟨g, cA, rfl, hvp⟩, hb9⟩
  have HR9 := Lib.hid (HR3.out.next hb9)
  have HB9 := Lib.hid (HB3.out.trans (hb9.mono (Nat.le_of_lt HR3.out.lt)))
  have HVP := Lib.hid hvp
  have x0 := HR9.out.cell 0
  have x1 := HR9.out.cell 1
  have x2 := HR9.out.cell 2
  have f0 := HR9.out.frozen 0
  have f1 := HR9.out.frozen 1
  have f2 := HR9.out.frozen 2
  simp only [List.getElem?_toArray, List.getElem?_cons_zero, List.getElem?_cons_succ] at x0 x1 x2
  clear hb9 hvp HR3 HB3
  dsimp only [arr1, List.length_cons, List.length_nil]
  go_wp2_with fail
  refine bodyPost_ret (v := .agg #[.int .i64 1, .int .i64 1, .slice (some ⟨g, 0, none⟩) 1 cA]) (by simp [results, Tryz.results46, go_sem, x0, x1, x2]) rfl ?_
  refine ⟨_, rfl, ⟨g, cA, rfl, ?_⟩, ?_⟩
  · exact ((HVP.out.put (by decide) HR9.out 0 _).put (by decide) (HR9.out.put 0 _) 1 _).put (by decide) ((HR9.out.put 0 _).put 1 _) 2 _
  · rw [HQ.out]
    exact below_set (below_set (below_set HB9.out (Nat.le_refl _) 0 _) (Nat.le_refl _) 1 _) (Nat.le_refl _) 2 _
/-- letters turned, so far -/
def halfG (f : UInt8 → UInt8) (l : Bs) (k : Nat) : Bs := (l.take k).map f ++ l.drop k
theorem halfG_len (f : UInt8 → UInt8) (l : Bs) (k : Nat) : (halfG f l k).length = l.length := by simp [halfG]; omega
theorem halfG_get (f : UInt8 → UInt8) (l : Bs) (k : Nat) (h : k < l.length) (h' : k < (halfG f l k).length) : (halfG f l k)[k] = l[k] := by
  have h2 : (halfG f l k)[k]? = l[k]? := by
    unfold halfG
    rw [List.getElem?_append_right (by simp; omega), List.length_map, List.length_take, Nat.min_eq_left (Nat.le_of_lt h), Nat.sub_self, List.getElem?_drop]
    rfl
  rw [List.getElem?_eq_getElem h', List.getElem?_eq_getElem h] at h2
  exact Option.some.inj h2
theorem halfG_set (f : UInt8 → UInt8) (l : Bs) (k : Nat) (h : k < l.length) : (halfG f l k).set k (f l[k]) = halfG f l (k + 1) := by
  have e : ((l.take k).map f).length = k := by rw [List.length_map, List.length_take]; omega
  unfold halfG
  rw [List.set_append_right (h := by omega), e, Nat.sub_self, List.drop_eq_getElem_cons h, List.set_cons_zero, List.take_succ_eq_append_getElem h, List.map_append, List.append_assoc]
  rfl
theorem halfG_same (f : UInt8 → UInt8) (l : Bs) (k : Nat) (h : k < l.length) (hu : f l[k] = l[k]) : halfG f l k = halfG f l (k + 1) := by
  have h' : k < (halfG f l k).length := by rw [halfG_len]; exact h
  rw [← halfG_set f l k h, hu, ← halfG_get f l k h h']
  exact (List.set_getElem_self h').symm
theorem halfG_all (f : UInt8 → UInt8) (l : Bs) : halfG f l l.length = l.map f := by simp [halfG]
def chg (lo hi : Nat) (g : UInt8 → UInt8) (c : UInt8) : UInt8 := if lo ≤ c.toNat ∧ c.toNat ≤ hi then g c else c
set_option maxRecDepth 100000 in
set_option maxHeartbeats 6400000 in
theorem change_any (f : Nat) (g : UInt8 → UInt8) (lo hi : Nat) (t : Bs) (w : World) (ht : t.length ≤ 100000) (hef : ∀ args W, (callFunc f args).run Tryz.prog W = .ok (.enter f args) W)
    (hc : ∀ c : UInt8, lo ≤ c.toNat → c.toNat ≤ hi → ∀ W, Calls Tryz.prog f #[.int .u8 (c.toNat : Int)] W fun e w' => e = .returned (.int .u8 ((g c).toNat : Int)) ∧ w' = W) :
    Calls Tryz.prog 69 #[.string ⟨t.toArray⟩, .int .u8 (lo : Int), .int .u8 (hi : Int), .func (.func f) #[] #[]] w fun x w' => x = .returned (valV (vText (t.map (chg lo hi g)))) ∧ Below w.heap.size w w' := by
  have HB1 : Hid (Below w.heap.size w (w.alloc (.cells #[.int .i64 0, .int .i64 0, .int .i64 0, .string ⟨#[]⟩, .bool false, .int .i64 0] 35))) := Lib.hid ((Below.refl _ w).alloc (Nat.le_refl _) _)
  have HR1 : Hid (Lies (w.alloc (.cells #[.int .i64 0, .int .i64 0, .int .i64 0, .string ⟨#[]⟩, .bool false, .int .i64 0] 35)) w.heap.size 35 #[.int .i64 0, .int .i64 0, .int .i64 0, .string ⟨#[]⟩, .bool false, .int .i64 0]) := Lib.hid (Lies.new w _ _)
  have HC := Lib.hid hc
  have CX := Lib.hid (fun W => text_any (t.map (chg lo hi g)) W (by rw [List.length_map]; omega))
  obtain ⟨cap, W2, hconv, hrow, hbel⟩ := conv_bytes t (w.alloc (.cells #[.int .i64 0, .int .i64 0, .int .i64 0, .string ⟨#[]⟩, .bool false, .int .i64 0] 35))
  have HRo : Hid (Row W2 (w.heap.size + 1) (halfG (chg lo hi g) t 0)) := Lib.hid (by
    have h := hrow
    rw [World.size_alloc] at h
    exact h)
  have HB2 := Lib.hid (HB1.out.trans (hbel.mono (by rw [World.size_alloc]; exact Nat.le_succ _)))
  have HR2 := Lib.hid (HR1.out.next hbel)
  clear hrow hbel hc
  rw [World.size_alloc] at hconv
  obtain ⟨tt, htt⟩ : ∃ tt, t.map (chg lo hi g) = tt := ⟨_, rfl⟩
  rw [htt] at CX ⊢
  have HTT := Lib.hid htt
  have HTl := Lib.hid (show tt.length = t.length by rw [← htt, List.length_map])
  clear htt
  go_enter Tryz.func69, Tryz.ntmps69
  go_upto_region 2 with fail
  clear HB1 HR1 hconv
  generalize hqe : w.heap.size = q at *
  have HQ := Lib.hid hqe
  clear hqe
  go_wp2_with fail
  go_loopw [16] (fun i wr => ∃ k : Nat, k ≤ t.length ∧ i = .int .i64 k ∧ Hid (Row wr (q + 1) (halfG (chg lo hi g) t k)) ∧ Hid (Below q w wr) ∧ Hid (Lies wr q 35 #[.int .i64 0, .int .i64 0, .int .i64 0, .string ⟨#[]⟩, .bool false, .int .i64 0])) (fun i _ => t.length - (intOf i).toNat)
  case atStart => exact ⟨0, Nat.zero_le _, rfl, HRo, HB2, HR2⟩
  case round =>
    obtain ⟨k, hk, rfl, hr, hb, hres⟩ := hrel
    clear HRo HB2 HR2
    by_cases hlt : k < t.length
    · have hlen : k < (halfG (chg lo hi g) t k).length := by rw [halfG_len]; exact hlt
      have hcx := (hr.out k hlen).1
      have hf := (hr.out k hlen).2
      rw [halfG_get _ t k hlt hlen] at hcx
      by_cases hin : lo ≤ t[k].toNat ∧ t[k].toNat ≤ hi
      · have hch : chg lo hi g t[k] = g t[k] := by unfold chg; rw [if_pos hin]
        have HU := Lib.hid (halfG_set (chg lo hi g) t k hlt)
        rw [hch] at HU
        have HCk := Lib.hid (HC.out t[k] hin.1 hin.2)
        obtain ⟨h1, h2⟩ := hin
        have h1' : (lo : Int) ≤ (t[k].toNat : Int) := by omega
        have h2' : (t[k].toNat : Int) ≤ (hi : Int) := by omega
        generalize t[k] = c at *
        clear hch
        go_wp2_with fail
        refine (HCk.out _).mono ?_
        rintro x w5 ⟨rfl, rfl⟩
        go_wp2_with fail
        go_roundw
        case rel => exact ⟨k + 1, by omega, by go_num, by rw [← HU.out]; exact Lib.hid (hr.out.set k _), Lib.hid (below_set hb.out (Nat.le_succ _) k _), Lib.hid (lies_off hres.out (Nat.ne_of_lt (Nat.lt_succ_self q)) k _)⟩
        case measure => simp [intOf]; omega
      · have hsame := Lib.hid (halfG_same (chg lo hi g) t k hlt (by unfold chg; rw [if_neg hin]))
        have hno : ¬ ((lo : Int) ≤ (t[k].toNat : Int) ∧ (t[k].toNat : Int) ≤ (hi : Int)) := fun h => hin ⟨by omega, by omega⟩
        generalize t[k] = c at *
        clear hin
        go_wp2_with fail
        all_goals go_roundw
        all_goals first
          | exact ⟨k + 1, by omega, by go_num, by rw [← hsame.out]; exact hr, hb, hres⟩
          | (simp [intOf]; omega)
    · have hk' : k = t.length := by omega
      have hr2 : Row wr (q + 1) tt := by rw [← HTT.out, ← halfG_all, ← hk']; exact hr.out
      have hback := conv_back tt wr (q + 1) cap t.length HTl.out hr2
      clear hr2 hr hk'
      go_wp2_with fail
      refine (CX.out _).mono ?_
      rintro x w9 ⟨rfl, hb9⟩
      have HR9 := Lib.hid (hres.out.next hb9)
      have HB9 := Lib.hid (hb.out.trans (hb9.mono (Nat.le_of_lt hres.out.lt)))
      clear hb9 hres hb 
      obtain ⟨r, hr⟩ : ∃ r, (vText tt) = r := ⟨_, rfl⟩
      rw [hr]
      obtain ⟨rk, rm, re, rt, rtr, rf⟩ := r
      have x0 := HR9.out.cell 0
      have x1 := HR9.out.cell 1
      have x2 := HR9.out.cell 2
      have x3 := HR9.out.cell 3
      have x4 := HR9.out.cell 4
      have x5 := HR9.out.cell 5
      have f0 := HR9.out.frozen 0
      have f1 := HR9.out.frozen 1
      have f2 := HR9.out.frozen 2
      have f3 := HR9.out.frozen 3
      have f4 := HR9.out.frozen 4
      have f5 := HR9.out.frozen 5
      simp only [List.getElem?_toArray, List.getElem?_cons_zero, List.getElem?_cons_succ] at x0 x1 x2 x3 x4 x5
      dsimp only [valV, valC]
      go_wp2_with fail
      refine bodyPost_ret (v := .agg #[.int .i64 rk, .int .i64 rm, .int .i64 re, .string ⟨rt.toArray⟩, .bool rtr, .int .i64 rf]) (by simp [results, Tryz.results69, go_sem, x0, x1, x2, x3, x4, x5]) rfl ?_
      refine ⟨by first | rfl | rw [hr], ?_⟩
      rw [HQ.out]
      exact st6_below (i := 0) (x := ⟨rk, rm, re, rt, rtr, rf⟩) HB9.out (Nat.le_refl _)
theorem up_in (c : UInt8) (h1 : 97 ≤ c.toNat) (h2 : c.toNat ≤ 122) : ((c - 32).toNat : Int) = (c.toNat : Int) - 97 + 65 := by
  rw [UInt8.toNat_sub_of_le _ _ (by rw [UInt8.le_iff_toNat_le]; exact Nat.le_trans (by decide) h1)]
  have : (32 : UInt8).toNat = 32 := rfl
  omega
theorem low_in (c : UInt8) (h1 : 65 ≤ c.toNat) (h2 : c.toNat ≤ 90) : ((c + 32).toNat : Int) = (c.toNat : Int) - 65 + 97 := by
  have : (32 : UInt8).toNat = 32 := rfl
  rw [UInt8.toNat_add, this, Nat.mod_eq_of_lt (by omega)]
  omega
set_option maxRecDepth 100000 in
theorem upper1_any (c : UInt8) (h1 : 97 ≤ c.toNat) (h2 : c.toNat ≤ 122) (W : World) : Calls Tryz.prog 70 #[.int .u8 (c.toNat : Int)] W fun e w' => e = .returned (.int .u8 ((c - 32).toNat : Int)) ∧ w' = W := by
  have e := Lib.hid (up_in c h1 h2)
  have g1 : (97 : Int) ≤ (c.toNat : Int) ∧ (c.toNat : Int) ≤ 122 := by omega
  generalize (c.toNat : Int) = z at *
  clear h1 h2
  rw [e.out]
  clear e
  go_enter Tryz.func70, Tryz.ntmps70
  go_wp2_with fail
  go_ret
  exact ⟨rfl, rfl⟩
set_option maxRecDepth 100000 in
set_option maxHeartbeats 3200000 in
theorem fupper_any (t : Bs) (ht : t.length ≤ 100000) (B : Nat) (w : World) (hI : IBk w B [tIt t]) :
    Calls Tryz.prog 36 #[.slice (some ⟨B, 0, none⟩) 1 1] w fun x w' => x = .returned (valV (vText (t.map (chg 97 122 (· - 32))))) ∧ Below w.heap.size w w' := by
  have HB1 : Hid (Below w.heap.size w (w.alloc (.cells #[.int .i64 0, .int .i64 0, .int .i64 0, .string ⟨#[]⟩, .bool false, .int .i64 0] 35))) := Lib.hid ((Below.refl _ w).alloc (Nat.le_refl _) _)
  have HR1 : Hid (Lies (w.alloc (.cells #[.int .i64 0, .int .i64 0, .int .i64 0, .string ⟨#[]⟩, .bool false, .int .i64 0] 35)) w.heap.size 35 #[.int .i64 0, .int .i64 0, .int .i64 0, .string ⟨#[]⟩, .bool false, .int .i64 0]) := Lib.hid (Lies.new w _ _)
  have HI := Lib.hid (hI.next ((Below.refl _ w).alloc (Nat.le_refl _) (.cells #[.int .i64 0, .int .i64 0, .int .i64 0, .string ⟨#[]⟩, .bool false, .int .i64 0] 35)))
  have CC := Lib.hid (fun W => change_any 70 (· - 32) 97 122 t W ht (enters_of Tryz.func70 (by kernel_rfl) rfl) (fun c h1 h2 W => upper1_any c h1 h2 W))
  clear ht
  generalize t.map (chg 97 122 (· - 32)) = tt at *
  clear hI
  go_enter Tryz.func36, Tryz.ntmps36
  go_upto_region 1 with fail
  generalize w.alloc (.cells #[.int .i64 0, .int .i64 0, .int .i64 0, .string ⟨#[]⟩, .bool false, .int .i64 0] 35) = W1 at *
  generalize hqe : w.heap.size = q at *
  have HQ := Lib.hid hqe
  clear hqe
  have c0 : W1.cell? ⟨B, 0, none⟩ = some (.string ⟨t.toArray⟩) := HI.out.cell 0 (by simp) 0 (by decide)
  go_wp2_with fail
  refine (CC.out _).mono ?_
  rintro x w9 ⟨rfl, hb9⟩
  have HR9 := Lib.hid (HR1.out.next hb9)
  have HB9 := Lib.hid (HB1.out.trans (hb9.mono (Nat.le_of_lt HR1.out.lt)))
  clear hb9 HR1 HB1 
  obtain ⟨r, hr⟩ : ∃ r, (vText tt) = r := ⟨_, rfl⟩
  rw [hr]
  obtain ⟨rk, rm, re, rt, rtr, rf⟩ := r
  have x0 := HR9.out.cell 0
  have x1 := HR9.out.cell 1
  have x2 := HR9.out.cell 2
  have x3 := HR9.out.cell 3
  have x4 := HR9.out.cell 4
  have x5 := HR9.out.cell 5
  have f0 := HR9.out.frozen 0
  have f1 := HR9.out.frozen 1
  have f2 := HR9.out.frozen 2
  have f3 := HR9.out.frozen 3
  have f4 := HR9.out.frozen 4
  have f5 := HR9.out.frozen 5
  simp only [List.getElem?_toArray, List.getElem?_cons_zero, List.getElem?_cons_succ] at x0 x1 x2 x3 x4 x5
  dsimp only [valV, valC]
  go_wp2_with fail
  refine bodyPost_ret (v := .agg #[.int .i64 rk, .int .i64 rm, .int .i64 re, .string ⟨rt.toArray⟩, .bool rtr, .int .i64 rf]) (by simp [results, Tryz.results36, go_sem, x0, x1, x2, x3, x4, x5]) rfl ?_
  refine ⟨by first | rfl | rw [hr], ?_⟩
  rw [HQ.out]
  exact st6_below (i := 0) (x := ⟨rk, rm, re, rt, rtr, rf⟩) HB9.out (Nat.le_refl _)
set_option maxRecDepth 100000 in
theorem lower1_any (c : UInt8) (h1 : 65 ≤ c.toNat) (h2 : c.toNat ≤ 90) (W : World) : Calls Tryz.prog 71 #[.int .u8 (c.toNat : Int)] W fun e w' => e = .returned (.int .u8 ((c + 32).toNat : Int)) ∧ w' = W := by
  have e := Lib.hid (low_in c h1 h2)
  have g1 : (65 : Int) ≤ (c.toNat : Int) ∧ (c.toNat : Int) ≤ 90 := by omega
  generalize (c.toNat : Int) = z at *
  clear h1 h2
  rw [e.out]
  clear e
  go_enter Tryz.func71, Tryz.ntmps71
  go_wp2_with fail
  go_ret
  exact ⟨rfl, rfl⟩
set_option maxRecDepth 100000 in
set_option maxHeartbeats 3200000 in
theorem flower_any (t : Bs) (ht : t.length ≤ 100000) (B : Nat) (w : World) (hI : IBk w B [tIt t]) :
    Calls Tryz.prog 37 #[.slice (some ⟨B, 0, none⟩) 1 1] w fun x w' => x = .returned (valV (vText (t.map (chg 65 90 (· + 32))))) ∧ Below w.heap.size w w' := by
  have HB1 : Hid (Below w.heap.size w (w.alloc (.cells #[.int .i64 0, .int .i64 0, .int .i64 0, .string ⟨#[]⟩, .bool false, .int .i64 0] 35))) := Lib.hid ((Below.refl _ w).alloc (Nat.le_refl _) _)
  have HR1 : Hid (Lies (w.alloc (.cells #[.int .i64 0, .int .i64 0, .int .i64 0, .string ⟨#[]⟩, .bool false, .int .i64 0] 35)) w.heap.size 35 #[.int .i64 0, .int .i64 0, .int .i64 0, .string ⟨#[]⟩, .bool false, .int .i64 0]) := Lib.hid (Lies.new w _ _)
  have HI := Lib.hid (hI.next ((Below.refl _ w).alloc (Nat.le_refl _) (.cells #[.int .i64 0, .int .i64 0, .int .i64 0, .string ⟨#[]⟩, .bool false, .int .i64 0] 35)))
  have CC := Lib.hid (fun W => change_any 71 (· + 32) 65 90 t W ht (enters_of Tryz.func71 (by kernel_rfl) rfl) (fun c h1 h2 W => lower1_any c h1 h2 W))
  clear ht
  generalize t.map (chg 65 90 (· + 32)) = tt at *
  clear hI
  go_enter Tryz.func37, Tryz.ntmps37
  go_upto_region 1 with fail
  generalize w.alloc (.cells #[.int .i64 0, .int .i64 0, .int .i64 0, .string ⟨#[]⟩, .bool false, .int .i64 0] 35) = W1 at *
  generalize hqe : w.heap.size = q at *
  have HQ := Lib.hid hqe
  clear hqe
  have c0 : W1.cell? ⟨B, 0, none⟩ = some (.string ⟨t.toArray⟩) := HI.out.cell 0 (by simp) 0 (by decide)
  go_wp2_with fail
  refine (CC.out _).mono ?_
  rintro x w9 ⟨rfl, hb9⟩
  have HR9 := Lib.hid (HR1.out.next hb9)
  have HB9 := Lib.hid (HB1.out.trans (hb9.mono (Nat.le_of_lt HR1.out.lt)))
  clear hb9 HR1 HB1 
  obtain ⟨r, hr⟩ : ∃ r, (vText tt) = r := ⟨_, rfl⟩
  rw [hr]
  obtain ⟨rk, rm, re, rt, rtr, rf⟩ := r
  have x0 := HR9.out.cell 0
  have x1 := HR9.out.cell 1
  have x2 := HR9.out.cell 2
  have x3 := HR9.out.cell 3
  have x4 := HR9.out.cell 4
  have x5 := HR9.out.cell 5
  have f0 := HR9.out.frozen 0
  have f1 := HR9.out.frozen 1
  have f2 := HR9.out.frozen 2
  have f3 := HR9.out.frozen 3
  have f4 := HR9.out.frozen 4
  have f5 := HR9.out.frozen 5
  simp only [List.getElem?_toArray, List.getElem?_cons_zero, List.getElem?_cons_succ] at x0 x1 x2 x3 x4 x5
  dsimp only [valV, valC]
  go_wp2_with fail
  refine bodyPost_ret (v := .agg #[.int .i64 rk, .int .i64 rm, .int .i64 re, .string ⟨rt.toArray⟩, .bool rtr, .int .i64 rf]) (by simp [results, Tryz.results37, go_sem, x0, x1, x2, x3, x4, x5]) rfl ?_
  refine ⟨by first | rfl | rw [hr], ?_⟩
  rw [HQ.out]
  exact st6_below (i := 0) (x := ⟨rk, rm, re, rt, rtr, rf⟩) HB9.out (Nat.le_refl _)
set_option maxRecDepth 100000 in
set_option maxHeartbeats 3200000 in
theorem frepeat_any (t : Bs) (n : Nat) (hn : n ≤ 1000) (ht : t.length * n ≤ 255) (ht0 : 0 < t.length) (ht1 : t.length ≤ 255) (B : Nat) (w : World) (hI : IBk w B [tIt t, nIt n]) :
    Calls Tryz.prog 41 #[.slice (some ⟨B, 0, none⟩) 2 2] w fun x w' => x = .returned (valV (vText (Lib.repeatL t n))) ∧ Below w.heap.size w w' := by
  have HB1 : Hid (Below w.heap.size w (w.alloc (.cells #[.int .i64 0, .int .i64 0, .int .i64 0, .string ⟨#[]⟩, .bool false, .int .i64 0] 35))) := Lib.hid ((Below.refl _ w).alloc (Nat.le_refl _) _)
  have HR1 : Hid (Lies (w.alloc (.cells #[.int .i64 0, .int .i64 0, .int .i64 0, .string ⟨#[]⟩, .bool false, .int .i64 0] 35)) w.heap.size 35 #[.int .i64 0, .int .i64 0, .int .i64 0, .string ⟨#[]⟩, .bool false, .int .i64 0]) := Lib.hid (Lies.new w _ _)
  have HI := Lib.hid (hI.next ((Below.refl _ w).alloc (Nat.le_refl _) (.cells #[.int .i64 0, .int .i64 0, .int .i64 0, .string ⟨#[]⟩, .bool false, .int .i64 0] 35)))
  have CR := Lib.hid (fun W => Tryz.strings_Repeat ⟨t.toArray⟩ n W (by omega) (by have := Nat.mul_comm n t.length; simp only [ByteArray.size, List.size_toArray]; omega))
  have CC := Lib.hid (fun W => text_any (Lib.repeatL t n) W (by rw [Lib.repeatL_length]; have := Nat.mul_comm n t.length; omega))
  dsimp only at CR
  have hne : t.isEmpty = false := by cases t with | nil => exact absurd ht0 (Nat.lt_irrefl _) | cons => rfl
  have hq : ¬ 255 / (t.length : Int) < (n : Int) := by
    rw [Int.not_lt, Int.le_ediv_iff_mul_le (by omega)]
    have : ((t.length * n : Nat) : Int) = (n : Int) * (t.length : Int) := by simp [Int.mul_comm]
    omega
  have hz : ¬ (t.length : Int) = 0 := by omega
  have hn0 : ¬ (n : Int) < 0 := by omega
  generalize Lib.repeatL t n = tt at *
  clear hI
  go_enter Tryz.func41, Tryz.ntmps41
  go_upto_region 1 with fail
  generalize w.alloc (.cells #[.int .i64 0, .int .i64 0, .int .i64 0, .string ⟨#[]⟩, .bool false, .int .i64 0] 35) = W1 at *
  generalize hqe : w.heap.size = q at *
  have HQ := Lib.hid hqe
  clear hqe
  have c0 : W1.cell? ⟨B, 0, none⟩ = some (.string ⟨t.toArray⟩) := HI.out.cell 0 (by simp) 0 (by decide)
  have c1 : W1.cell? ⟨B, 5, none⟩ = some (.int .i64 (n : Nat)) := HI.out.cell 1 (by simp) 1 (by decide)
  have HB2 : Hid (Below q w W1.drew) := Lib.hid HB1.out.drew
  have HR2 : Hid (Lies W1.drew q 35 #[.int .i64 0, .int .i64 0, .int .i64 0, .string ⟨#[]⟩, .bool false, .int .i64 0]) := Lib.hid HR1.out
  go_upto_region 1 with fail
  go_region
  go_wp2_with fail
  refine (CR.out _).mono ?_
  rintro x w3 ⟨rfl, hb⟩
  have HR3 := Lib.hid (HR2.out.next hb)
  have HB3 := Lib.hid (HB2.out.trans (hb.mono (Nat.le_of_lt HR2.out.lt)))
  clear hb HR2 HB2 HR1 HB1
  go_wp2_with fail
  refine (CC.out _).mono ?_
  rintro x w9 ⟨rfl, hb9⟩
  have HR9 := Lib.hid (HR3.out.next hb9)
  have HB9 := Lib.hid (HB3.out.trans (hb9.mono (Nat.le_of_lt HR3.out.lt)))
  clear hb9 HR3 HB3 
  obtain ⟨r, hr⟩ : ∃ r, (vText tt) = r := ⟨_, rfl⟩
  rw [hr]
  obtain ⟨rk, rm, re, rt, rtr, rf⟩ := r
  have x0 := HR9.out.cell 0
  have x1 := HR9.out.cell 1
  have x2 := HR9.out.cell 2
  have x3 := HR9.out.cell 3
  have x4 := HR9.out.cell 4
  have x5 := HR9.out.cell 5
  have f0 := HR9.out.frozen 0
  have f1 := HR9.out.frozen 1
  have f2 := HR9.out.frozen 2
  have f3 := HR9.out.frozen 3
  have f4 := HR9.out.frozen 4
  have f5 := HR9.out.frozen 5
  simp only [List.getElem?_toArray, List.getElem?_cons_zero, List.getElem?_cons_succ] at x0 x1 x2 x3 x4 x5
  dsimp only [valV, valC]
  go_wp2_with fail
  refine bodyPost_ret (v := .agg #[.int .i64 rk, .int .i64 rm, .int .i64 re, .string ⟨rt.toArray⟩, .bool rtr, .int .i64 rf]) (by simp [results, Tryz.results41, go_sem, x0, x1, x2, x3, x4, x5]) rfl ?_
  refine ⟨by first | rfl | rw [hr], ?_⟩
  rw [HQ.out]
  exact st6_below (i := 0) (x := ⟨rk, rm, re, rt, rtr, rf⟩) HB9.out (Nat.le_refl _)
set_option maxRecDepth 100000 in
set_option maxHeartbeats 3200000 in
theorem frepeat0_any (n : Nat) (B : Nat) (w : World) (hI : IBk w B [tIt [], nIt n]) :
    Calls Tryz.prog 41 #[.slice (some ⟨B, 0, none⟩) 2 2] w fun x w' => x = .returned (valV (vText [])) ∧ Below w.heap.size w w' := by
  have HB1 : Hid (Below w.heap.size w (w.alloc (.cells #[.int .i64 0, .int .i64 0, .int .i64 0, .string ⟨#[]⟩, .bool false, .int .i64 0] 35))) := Lib.hid ((Below.refl _ w).alloc (Nat.le_refl _) _)
  have HR1 : Hid (Lies (w.alloc (.cells #[.int .i64 0, .int .i64 0, .int .i64 0, .string ⟨#[]⟩, .bool false, .int .i64 0] 35)) w.heap.size 35 #[.int .i64 0, .int .i64 0, .int .i64 0, .string ⟨#[]⟩, .bool false, .int .i64 0]) := Lib.hid (Lies.new w _ _)
  have HI := Lib.hid (hI.next ((Below.refl _ w).alloc (Nat.le_refl _) (.cells #[.int .i64 0, .int .i64 0, .int .i64 0, .string ⟨#[]⟩, .bool false, .int .i64 0] 35)))
  have CC := Lib.hid (fun W => text_any [] W (by simp))
  have hn0 : ¬ (n : Int) < 0 := by omega
  clear hI
  go_enter Tryz.func41, Tryz.ntmps41
  go_upto_region 1 with fail
  generalize w.alloc (.cells #[.int .i64 0, .int .i64 0, .int .i64 0, .string ⟨#[]⟩, .bool false, .int .i64 0] 35) = W1 at *
  generalize hqe : w.heap.size = q at *
  have HQ := Lib.hid hqe
  clear hqe
  have c0 : W1.cell? ⟨B, 0, none⟩ = some (.string ⟨#[]⟩) := HI.out.cell 0 (by simp) 0 (by decide)
  have c1 : W1.cell? ⟨B, 5, none⟩ = some (.int .i64 (n : Nat)) := HI.out.cell 1 (by simp) 1 (by decide)
  have HB2 : Hid (Below q w W1.drew) := Lib.hid HB1.out.drew
  have HR2 : Hid (Lies W1.drew q 35 #[.int .i64 0, .int .i64 0, .int .i64 0, .string ⟨#[]⟩, .bool false, .int .i64 0]) := Lib.hid HR1.out
  go_upto_region 1 with fail
  go_region
  go_wp2_with fail
  refine (CC.out _).mono ?_
  rintro x w9 ⟨rfl, hb9⟩
  have HR9 := Lib.hid (HR2.out.next hb9)
  have HB9 := Lib.hid (HB2.out.trans (hb9.mono (Nat.le_of_lt HR2.out.lt)))
  clear hb9 HR2 HB2 
  obtain ⟨r, hr⟩ : ∃ r, (vText []) = r := ⟨_, rfl⟩
  rw [hr]
  obtain ⟨rk, rm, re, rt, rtr, rf⟩ := r
  have x0 := HR9.out.cell 0
  have x1 := HR9.out.cell 1
  have x2 := HR9.out.cell 2
  have x3 := HR9.out.cell 3
  have x4 := HR9.out.cell 4
  have x5 := HR9.out.cell 5
  have f0 := HR9.out.frozen 0
  have f1 := HR9.out.frozen 1
  have f2 := HR9.out.frozen 2
  have f3 := HR9.out.frozen 3
  have f4 := HR9.out.frozen 4
  have f5 := HR9.out.frozen 5
  simp only [List.getElem?_toArray, List.getElem?_cons_zero, List.getElem?_cons_succ] at x0 x1 x2 x3 x4 x5
  dsimp only [valV, valC]
  go_wp2_with fail
  refine bodyPost_ret (v := .agg #[.int .i64 rk, .int .i64 rm, .int .i64 re, .string ⟨rt.toArray⟩, .bool rtr, .int .i64 rf]) (by simp [results, Tryz.results41, go_sem, x0, x1, x2, x3, x4, x5]) rfl ?_
  refine ⟨by first | rfl | rw [hr], ?_⟩
  rw [HQ.out]
  exact st6_below (i := 0) (x := ⟨rk, rm, re, rt, rtr, rf⟩) HB9.out (Nat.le_refl _)
set_option maxRecDepth 100000 in
set_option maxHeartbeats 3200000 in
theorem fsubstitute_any (t s : Bs) (ht : t.length ≤ 255) (hs : s.length ≤ 255) (B : Nat) (w : World) (hM : MaxVar w) (hI : IBk w B [tIt t, tIt s, tIt s]) :
    Calls Tryz.prog 40 #[.slice (some ⟨B, 0, none⟩) 3 3] w fun x w' => x = .returned (valV (vText t)) ∧ Below w.heap.size w w' := by
  have HB1 : Hid (Below w.heap.size w (w.alloc (.cells #[.int .i64 0, .int .i64 0, .int .i64 0, .string ⟨#[]⟩, .bool false, .int .i64 0] 35))) := Lib.hid ((Below.refl _ w).alloc (Nat.le_refl _) _)
  have HR1 : Hid (Lies (w.alloc (.cells #[.int .i64 0, .int .i64 0, .int .i64 0, .string ⟨#[]⟩, .bool false, .int .i64 0] 35)) w.heap.size 35 #[.int .i64 0, .int .i64 0, .int .i64 0, .string ⟨#[]⟩, .bool false, .int .i64 0]) := Lib.hid (Lies.new w _ _)
  have HI := Lib.hid (hI.next ((Below.refl _ w).alloc (Nat.le_refl _) (.cells #[.int .i64 0, .int .i64 0, .int .i64 0, .string ⟨#[]⟩, .bool false, .int .i64 0] 35)))
  obtain ⟨m, hm⟩ := hM
  have CR : Hid (s ≠ [] → ∀ W, Below w.heap.size w W → Calls Tryz.prog 75 #[.string ⟨t.toArray⟩, .string ⟨s.toArray⟩, .string ⟨s.toArray⟩] W fun e w' => e = .returned (.string ⟨t.toArray⟩) ∧ Below W.heap.size W w') := Lib.hid (fun h W hb => by
    have hp : 1 ≤ s.length := List.length_pos_iff.2 h
    have hcl : Lib.countB ⟨t.toArray⟩ ⟨s.toArray⟩ ≤ t.length := by
      have := Lib.countB_le ⟨s.toArray⟩ (by simpa [ByteArray.size] using hp) _ ⟨t.toArray⟩ (Nat.le_refl _)
      simpa [ByteArray.size] using this
    have h := Tryz.strings_ReplaceAll ⟨t.toArray⟩ ⟨s.toArray⟩ ⟨s.toArray⟩ m W (by simp [ByteArray.size]; omega) ((hb.cell (p := ⟨_, 0, none⟩) (cell_lt hm)).trans hm) (by simpa [ByteArray.size] using hp) (by
      have := Nat.mul_le_mul hcl hs
      have h2 := Nat.mul_le_mul ht (Nat.le_refl 255)
      simp only [ByteArray.size, List.size_toArray]
      omega)
    have e : Lib.replaceAll t s s = t := by unfold Lib.replaceAll Lib.replace; rw [if_pos (by simp)]
    dsimp only at h
    rw [e] at h
    exact h)
  have CC := Lib.hid (fun W => text_any t W (by omega))
  clear hI
  go_enter Tryz.func40, Tryz.ntmps40
  go_upto_region 1 with fail
  generalize w.alloc (.cells #[.int .i64 0, .int .i64 0, .int .i64 0, .string ⟨#[]⟩, .bool false, .int .i64 0] 35) = W1 at *
  generalize hqe : w.heap.size = q at *
  have HQ := Lib.hid hqe
  clear hqe
  have c0 : W1.cell? ⟨B, 0, none⟩ = some (.string ⟨t.toArray⟩) := HI.out.cell 0 (by simp) 0 (by decide)
  have c1 : W1.cell? ⟨B, 4, none⟩ = some (.string ⟨s.toArray⟩) := HI.out.cell 1 (by simp) 0 (by decide)
  have c2 : W1.cell? ⟨B, 8, none⟩ = some (.string ⟨s.toArray⟩) := HI.out.cell 2 (by simp) 0 (by decide)
  have HB2 : Hid (Below q w W1.drew) := Lib.hid HB1.out.drew
  have HR2 : Hid (Lies W1.drew q 35 #[.int .i64 0, .int .i64 0, .int .i64 0, .string ⟨#[]⟩, .bool false, .int .i64 0]) := Lib.hid HR1.out
  cases hE : s.isEmpty
  · have CRR := Lib.hid (CR.out (fun h => by rw [h] at hE; cases hE))
    clear CR
    go_upto_region 1 with fail
    go_region
    go_wp2_with fail
    refine (CRR.out _ HB2.out).mono ?_
    rintro x w3 ⟨rfl, hb⟩
    have HR3 := Lib.hid (HR2.out.next hb)
    have HB3 := Lib.hid (HB2.out.trans (hb.mono (Nat.le_of_lt HR2.out.lt)))
    clear hb HR2 HB2 HR1 HB1
    go_wp2_with fail
    refine (CC.out _).mono ?_
    rintro x w9 ⟨rfl, hb9⟩
    have HR9 := Lib.hid (HR3.out.next hb9)
    have HB9 := Lib.hid (HB3.out.trans (hb9.mono (Nat.le_of_lt HR3.out.lt)))
    clear hb9 HR3 HB3 
    obtain ⟨r, hr⟩ : ∃ r, (vText t) = r := ⟨_, rfl⟩
    rw [hr]
    obtain ⟨rk, rm, re, rt, rtr, rf⟩ := r
    have x0 := HR9.out.cell 0
    have x1 := HR9.out.cell 1
    have x2 := HR9.out.cell 2
    have x3 := HR9.out.cell 3
    have x4 := HR9.out.cell 4
    have x5 := HR9.out.cell 5
    have f0 := HR9.out.frozen 0
    have f1 := HR9.out.frozen 1
    have f2 := HR9.out.frozen 2
    have f3 := HR9.out.frozen 3
    have f4 := HR9.out.frozen 4
    have f5 := HR9.out.frozen 5
    simp only [List.getElem?_toArray, List.getElem?_cons_zero, List.getElem?_cons_succ] at x0 x1 x2 x3 x4 x5
    dsimp only [valV, valC]
    go_wp2_with fail
    refine bodyPost_ret (v := .agg #[.int .i64 rk, .int .i64 rm, .int .i64 re, .string ⟨rt.toArray⟩, .bool rtr, .int .i64 rf]) (by simp [results, Tryz.results40, go_sem, x0, x1, x2, x3, x4, x5]) rfl ?_
    refine ⟨by first | rfl | rw [hr], ?_⟩
    rw [HQ.out]
    exact st6_below (i := 0) (x := ⟨rk, rm, re, rt, rtr, rf⟩) HB9.out (Nat.le_refl _)
  · clear CR
    go_upto_region 1 with fail
    go_region
    go_wp2_with fail
    refine (CC.out _).mono ?_
    rintro x w9 ⟨rfl, hb9⟩
    have HR9 := Lib.hid (HR2.out.next hb9)
    have HB9 := Lib.hid (HB2.out.trans (hb9.mono (Nat.le_of_lt HR2.out.lt)))
    clear hb9 HR2 HB2 
    obtain ⟨r, hr⟩ : ∃ r, (vText t) = r := ⟨_, rfl⟩
    rw [hr]
    obtain ⟨rk, rm, re, rt, rtr, rf⟩ := r
    have x0 := HR9.out.cell 0
    have x1 := HR9.out.cell 1
    have x2 := HR9.out.cell 2
    have x3 := HR9.out.cell 3
    have x4 := HR9.out.cell 4
    have x5 := HR9.out.cell 5
    have f0 := HR9.out.frozen 0
    have f1 := HR9.out.frozen 1
    have f2 := HR9.out.frozen 2
    have f3 := HR9.out.frozen 3
    have f4 := HR9.out.frozen 4
    have f5 := HR9.out.frozen 5
    simp only [List.getElem?_toArray, List.getElem?_cons_zero, List.getElem?_cons_succ] at x0 x1 x2 x3 x4 x5
    dsimp only [valV, valC]
    go_wp2_with fail
    refine bodyPost_ret (v := .agg #[.int .i64 rk, .int .i64 rm, .int .i64 re, .string ⟨rt.toArray⟩, .bool rtr, .int .i64 rf]) (by simp [results, Tryz.results40, go_sem, x0, x1, x2, x3, x4, x5]) rfl ?_
    refine ⟨by first | rfl | rw [hr], ?_⟩
    rw [HQ.out]
    exact st6_below (i := 0) (x := ⟨rk, rm, re, rt, rtr, rf⟩) HB9.out (Nat.le_refl _)
end Go.Proofs.YtpdaloohgfnbhaaGreatDoor
