/-
  lex.apart: what it returns.
-/
import Derived.Test.YtcgdeoldgnjdeaaDoorPlainZ2
import Derived.Test.YtcgdeoldgnjdeaaDoorLex5
import Derived.Test.YtcgdeoldgnjdeaaDoorNum11
namespace Go.Proofs.YtcgdeoldgnjdeaaDoor
open Go.RowKit

/-- a token as it came in -/
structure RTok where
  kind : Int
  text : Bs
  place : Int
def RTok.cells (t : RTok) : Array Value := #[.int .i64 t.kind, .string ⟨t.text.toArray⟩, .int .i64 t.place]
def wordZ (k : Int) : Bool := k == 1 || k == 3 || k == 4
def begZ (k : Int) (t set : Bs) : Bool := k == 5 && !t.isEmpty && set.contains (t.headD 0)
def apartZ (a b : RTok) : Bool :=
  if wordZ a.kind then wordZ b.kind else if a.kind == 2 then b.kind == 2 else if a.kind != 5 then false
  else if a.text == [60] then begZ b.kind b.text [61, 62] else if a.text == [62] then begZ b.kind b.text [61] else if a.text == [35] then b.kind == 3 else false
theorem wordZ_nat (k : Nat) : wordZ (k : Int) = wordK k := by
  unfold wordZ wordK
  rw [Bool.eq_iff_iff]
  simp only [Bool.or_eq_true, beq_iff_eq]
  omega
theorem beqZ (k n : Nat) : ((k : Int) == (n : Int)) = (k == n) := by
  rw [Bool.eq_iff_iff]
  simp only [beq_iff_eq]
  omega
theorem apartZ_nat (k1 k2 : Nat) (t1 t2 : Bs) (p1 p2 : Int) : apartZ ⟨k1, t1, p1⟩ ⟨k2, t2, p2⟩ = apartB (k1, t1) (k2, t2) := by
  unfold apartZ apartB begZ begK
  have e := beqZ
  have e2 := e k1 2
  have e3 := e k2 2
  have e5 := e k1 5
  have e6 := e k2 5
  have e7 := e k2 3
  simp only [wordZ_nat, bne]
  simp only [show ((2 : Nat) : Int) = 2 from rfl, show ((5 : Nat) : Int) = 5 from rfl, show ((3 : Nat) : Int) = 3 from rfl] at e2 e3 e5 e6 e7
  rw [e2, e3, e5, e6, e7]
set_option maxRecDepth 100000 in
theorem wordy1_any (k : Int) (t : Bs) (p : Int) (w : World) :
    Calls Tryd.prog 126 #[.agg #[.int .i64 k, .string ⟨t.toArray⟩, .int .i64 p]] w fun e w' => e = .returned (.bool (wordZ k)) ∧ Below w.heap.size w w' := by
  obtain ⟨r, hr⟩ : ∃ r, wordZ k = r := ⟨_, rfl⟩
  have HR := Lib.hid hr
  rw [hr]
  clear hr
  cases h1 : (k == 1) <;> cases h3 : (k == 3) <;> cases h4 : (k == 4)
  all_goals
    have HV := Lib.hid HR.out
    rw [wordZ, h1, h3, h4] at HV
    go_enter Tryd.func126, Tryd.ntmps126
    go_wp2_with fail
    go_ret
    exact ⟨ret_bool (HV.out.symm ▸ rfl), (Below.refl _ w).alloc (Nat.le_refl _) _⟩
theorem contains_idx (set : Bs) (c : UInt8) : decide (0 ≤ Lib.indexByte set c) = set.contains c := by
  rw [Bool.eq_iff_iff, decide_eq_true_eq, List.contains_iff_mem]
  exact ⟨mem_idx set c, idx_mem set c⟩
set_option maxRecDepth 100000 in
set_option maxHeartbeats 800000 in
theorem begins1_any (set : Bs) (b : Nat) (k : Int) (t : Bs) (w : World) (h0 : w.cell? ⟨b, 0, none⟩ = some (.int .i64 k)) (h1 : w.cell? ⟨b, 1, none⟩ = some (.string ⟨t.toArray⟩)) :
    Calls Tryd.prog 127 #[.string ⟨set.toArray⟩, .pointer (some ⟨b, 0, none⟩)] w fun e w' => e = .returned (.bool (begZ k t set)) ∧ w = w' := by
  cases h5 : (k == 5)
  · have HV : Hid (begZ k t set = false) := Lib.hid (by unfold begZ; rw [h5]; rfl)
    go_enter Tryd.func127, Tryd.ntmps127
    go_wp2_with fail
    go_ret
    exact ⟨ret_bool HV.out.symm, rfl⟩
  · cases t with
    | nil =>
      have HV : Hid (begZ k [] set = false) := Lib.hid (by unfold begZ; simp)
      go_enter Tryd.func127, Tryd.ntmps127
      go_wp2_with fail
      go_ret
      exact ⟨ret_bool HV.out.symm, rfl⟩
    | cons c r =>
      have HV : Hid (begZ k (c :: r) set = decide (0 ≤ Lib.indexByte set c)) := Lib.hid (by unfold begZ; rw [h5, contains_idx]; simp)
      go_enter Tryd.func127, Tryd.ntmps127
      go_wp2_with fail
      refine (indexByte_any set c _).mono ?_
      rintro e w' ⟨rfl, rfl⟩
      generalize Lib.indexByte set c = i at *
      go_wp2_with fail
      all_goals
        go_ret
        exact ⟨ret_bool (by rw [HV.out]), rfl⟩
/-- two tokens in boxes of the call's own -/
def TwoTok (w : World) (a b : RTok) (w' : World) : Prop := Lies w' w.heap.size 34 a.cells ∧ Lies w' (w.heap.size + 1) 34 b.cells ∧ Below w.heap.size w w'
theorem TwoTok.start (w : World) (a b : RTok) : TwoTok w a b ((w.alloc (.cells a.cells 34)).alloc (.cells b.cells 34)) :=
  ⟨(Lies.new w _ _).alloc _, by have := Lies.new (w.alloc (.cells a.cells 34)) 34 b.cells; simpa using this, ((Below.refl _ w).alloc (Nat.le_refl _) _).alloc (by simp) _⟩
theorem TwoTok.next {w w' w'' : World} {a b : RTok} (h : TwoTok w a b w') (hb : Below w'.heap.size w' w'') : TwoTok w a b w'' :=
  ⟨h.1.below hb, h.2.1.below hb, h.2.2.trans (hb.mono h.2.2.size)⟩
theorem TwoTok.seen {w w' : World} {a b : RTok} (h : TwoTok w a b w') : w'.cell? ⟨w.heap.size, 0, none⟩ = some (.int .i64 a.kind) ∧ w'.cell? ⟨w.heap.size, 1, none⟩ = some (.string ⟨a.text.toArray⟩) ∧ w'.cell? ⟨w.heap.size, 2, none⟩ = some (.int .i64 a.place) ∧
    w'.cell? ⟨w.heap.size + 1, 0, none⟩ = some (.int .i64 b.kind) ∧ w'.cell? ⟨w.heap.size + 1, 1, none⟩ = some (.string ⟨b.text.toArray⟩) ∧ w'.cell? ⟨w.heap.size + 1, 2, none⟩ = some (.int .i64 b.place) ∧ w.heap.size + 1 < w'.heap.size :=
  ⟨h.1.cell 0, h.1.cell 1, h.1.cell 2, h.2.1.cell 0, h.2.1.cell 1, h.2.1.cell 2, h.2.1.lt⟩
set_option maxRecDepth 100000 in
set_option maxHeartbeats 1600000 in
theorem apart_any (a b : RTok) (w : World) :
    Calls Tryd.prog 84 #[.agg a.cells, .agg b.cells] w fun e w' => e = .returned (.bool (apartZ a b)) ∧ Below w.heap.size w w' := by
  have T0 := Lib.hid (TwoTok.start w a b)
  obtain ⟨ka, ta, pa⟩ := a
  obtain ⟨kb, tb, pb⟩ := b
  simp only [RTok.cells] at *
  have CA := Lib.hid (fun W => wordy1_any ka ta pa W)
  have CB := Lib.hid (fun W => wordy1_any kb tb pb W)
  obtain ⟨r, hr⟩ : ∃ r, apartZ ⟨ka, ta, pa⟩ ⟨kb, tb, pb⟩ = r := ⟨_, rfl⟩
  rw [hr]
  unfold apartZ at hr
  simp only at hr
  cases hw : wordZ ka
  · rw [hw, if_neg (by decide)] at hr
    rw [hw] at CA
    have fin : ∀ (x2 x5 y1 y2 y3 : Bool), (ka == 2) = x2 → (ka != 5) = x5 → (ta == [60]) = y1 → (ta == [62]) = y2 → (ta == [35]) = y3 →
        Hid ((if x2 = true then kb == 2 else if x5 = true then false else if y1 = true then begZ kb tb [61, 62] else if y2 = true then begZ kb tb [61] else if y3 = true then kb == 3 else false) = r) →
        Calls Tryd.prog 84 #[.agg #[.int .i64 ka, .string ⟨ta.toArray⟩, .int .i64 pa], .agg #[.int .i64 kb, .string ⟨tb.toArray⟩, .int .i64 pb]] w fun e w' => e = .returned (.bool r) ∧ Below w.heap.size w w' := by
      intro x2 x5 y1 y2 y3 e2 e5 f1 f2 f3 HR
      clear hr hw CB
      cases x2
      · cases x5
        · cases y1
          · cases y2
            · cases y3
              all_goals
                go_enter Tryd.func84, Tryd.ntmps84
                go_wp2_with fail
                refine (CA.out _).mono ?_
                rintro e w1 ⟨rfl, hb⟩
                have T1 := Lib.hid (T0.out.next hb)
                clear hb T0
                obtain ⟨g0, g1, g2, g3, g4, g5, g6⟩ := TwoTok.seen T1.out
                simp only at g0 g1 g2 g3 g4 g5
                go_wp2_with fail
                go_ret
                exact ⟨ret_bool HR.out, T1.out.2.2⟩
            · go_enter Tryd.func84, Tryd.ntmps84
              go_wp2_with fail
              refine (CA.out _).mono ?_
              rintro e w1 ⟨rfl, hb⟩
              have T1 := Lib.hid (T0.out.next hb)
              clear hb T0
              obtain ⟨g0, g1, g2, g3, g4, g5, g6⟩ := TwoTok.seen T1.out
              simp only at g0 g1 g2 g3 g4 g5
              go_wp2_with fail
              refine (begins1_any [61] _ _ _ _ g3 g4).mono ?_
              rintro e w2 ⟨rfl, rfl⟩
              go_wp2_with fail
              go_ret
              exact ⟨ret_bool HR.out, T1.out.2.2⟩
          · go_enter Tryd.func84, Tryd.ntmps84
            go_wp2_with fail
            refine (CA.out _).mono ?_
            rintro e w1 ⟨rfl, hb⟩
            have T1 := Lib.hid (T0.out.next hb)
            clear hb T0
            obtain ⟨g0, g1, g2, g3, g4, g5, g6⟩ := TwoTok.seen T1.out
            simp only at g0 g1 g2 g3 g4 g5
            go_wp2_with fail
            refine (begins1_any [61, 62] _ _ _ _ g3 g4).mono ?_
            rintro e w2 ⟨rfl, rfl⟩
            go_wp2_with fail
            go_ret
            exact ⟨ret_bool HR.out, T1.out.2.2⟩
        · go_enter Tryd.func84, Tryd.ntmps84
          go_wp2_with fail
          refine (CA.out _).mono ?_
          rintro e w1 ⟨rfl, hb⟩
          have T1 := Lib.hid (T0.out.next hb)
          clear hb T0
          obtain ⟨g0, g1, g2, g3, g4, g5, g6⟩ := TwoTok.seen T1.out
          simp only at g0 g1 g2 g3 g4 g5
          go_wp2_with fail
          go_ret
          exact ⟨ret_bool HR.out, T1.out.2.2⟩
      · go_enter Tryd.func84, Tryd.ntmps84
        go_wp2_with fail
        refine (CA.out _).mono ?_
        rintro e w1 ⟨rfl, hb⟩
        have T1 := Lib.hid (T0.out.next hb)
        clear hb T0
        obtain ⟨g0, g1, g2, g3, g4, g5, g6⟩ := TwoTok.seen T1.out
        simp only at g0 g1 g2 g3 g4 g5
        go_wp2_with fail
        go_ret
        exact ⟨ret_bool HR.out, T1.out.2.2⟩
    exact fin _ _ _ _ _ rfl rfl rfl rfl rfl (Lib.hid hr)
  · rw [hw, if_pos rfl] at hr
    have HR := Lib.hid hr
    rw [hw] at CA
    clear hr hw
    go_enter Tryd.func84, Tryd.ntmps84
    go_wp2_with fail
    refine (CA.out _).mono ?_
    rintro e w1 ⟨rfl, hb⟩
    have T1 := Lib.hid (T0.out.next hb)
    clear hb T0
    obtain ⟨g0, g1, g2, g3, g4, g5, g6⟩ := TwoTok.seen T1.out
    simp only at g0 g1 g2 g3 g4 g5
    go_wp2_with fail
    refine (CB.out _).mono ?_
    rintro e w2 ⟨rfl, hb⟩
    have T2 := Lib.hid (T1.out.next hb)
    clear hb T1 g0 g1 g2 g3 g4 g5 g6
    go_wp2_with fail
    go_ret
    exact ⟨ret_bool HR.out, T2.out.2.2⟩
end Go.Proofs.YtcgdeoldgnjdeaaDoor
