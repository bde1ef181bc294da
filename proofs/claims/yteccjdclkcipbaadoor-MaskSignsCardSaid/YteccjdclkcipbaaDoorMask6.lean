/-
  mask.section.add: what it does; mask.Parse's invariant.
-/
import Derived.Test.YteccjdclkcipbaaDoorMask4
import Derived.Test.YteccjdclkcipbaaDoorLex8
import Derived.Deep.AppendLies
import Derived.Laws.OwnMore
import Derived.Test.YteccjdclkcipbaaDoorPlMa
namespace Go.Proofs.YteccjdclkcipbaaDoor
open Go.RowKit

def secC (v : Value) (s : MS) : List Value := [v, .int .i64 s.percents, .bool s.number]
def partsC (L : List MP) : List Value := L.flatMap fun p => (partC p).toList
theorem partsC_snoc (L : List MP) (p : MP) : partsC (L ++ [p]) = partsC L ++ (partC p).toList := by simp [partsC]
/-- all blocks but one, and a row, are as they were -/
structure Only (w w' : World) (g : Nat) (row : Option Nat) : Prop where
  os : w'.os = w.os
  tape : w'.tape = w.tape
  output : w'.output = w.output
  size : w.heap.size ≤ w'.heap.size
  block : ∀ k, k < w.heap.size → k ≠ g → some k ≠ row → w'.heap[k]? = w.heap[k]?
theorem Only.of_below {w w' : World} {g : Nat} {row : Option Nat} (h : Below w.heap.size w w') : Only w w' g row := ⟨h.os, h.tape, h.output, h.size, fun k hk _ _ => h.block k hk⟩
theorem Only.set {w w' : World} {g : Nat} {row : Option Nat} (h : Only w w' g row) (k : Nat) (u : Value) : Only w (w'.setCell ⟨g, k, none⟩ u) g row :=
  ⟨h.os, h.tape, h.output, by simpa [World.setCell] using h.size, fun j hj hg hr => by
    rw [← h.block j hj hg hr]
    simp [World.setCell, Array.getElem?_modify, Ne.symm hg]⟩
theorem Only.grown {w w1 w' : World} {g : Nat} {row : Option Nat} (h : Only w w1 g none) (hg : w1.grownBy w' row) : Only w w' g row :=
  ⟨hg.os.trans h.os, hg.tape.trans h.tape, hg.output.trans h.output, Nat.le_trans h.size hg.size, fun k hk hkg hr => (hg.block k (Nat.lt_of_lt_of_le hk h.size) hr).trans (h.block k hk hkg (by simp))⟩
theorem Only.below {w w' : World} {g B : Nat} {row : Option Nat} (h : Only w w' g row) (hB : B ≤ w.heap.size) (hg : B ≤ g) (hr : ∀ k, row = some k → B ≤ k) : Below B w w' :=
  ⟨h.os, h.tape, h.output, h.size, fun k hk => h.block k (by omega) (by omega) (fun e => by have := hr k e.symm; omega)⟩
/-- rows of different types lie in different blocks -/
theorem own_apart {w : World} {b1 b2 : Nat} {e1 e2 : TypeId} {z1 z2 : Nat} {v1 v2 : Value} {n1 n2 : Nat} {x1 x2 : List Value} (h1 : w.ownsRow b1 e1 z1 v1 n1 x1) (h2 : w.ownsRow b2 e2 z2 v2 n2 x2) (he : e1 ≠ e2) : v1.ownBlock = none ∨ v1.ownBlock ≠ v2.ownBlock := by
  rcases h1.2 with ⟨rfl, _⟩ | ⟨g1, c1, k1, rfl, _, a1, _⟩
  · exact .inl rfl
  · rcases h2.2 with ⟨rfl, _⟩ | ⟨g2, c2, k2, rfl, _, a2, _⟩
    · exact .inr (by simp [Value.ownBlock])
    · refine .inr fun e => ?_
      simp only [Value.ownBlock, Option.some.injEq] at e
      subst e
      rw [a1] at a2
      injection a2 with a2
      injection a2 with _ a2 _
      exact he a2
structure SecIn (w : World) (vl : Value) (lb d : Nat) (A : List Value) (v : Value) (s : MS) (pb : Nat) : Prop where
  list : w.ownsRow lb 93 3 vl (d + 1) (A ++ secC v s)
  len : A.length = 3 * d
  parts : w.ownsRow pb 95 7 v s.parts.length (partsC s.parts)
  big : pb ≤ w.heap.size
theorem SecIn.cells {w : World} {g lb d cap pb : Nat} {A : List Value} {v : Value} {s : MS} (h : SecIn w (.slice (some ⟨g, 0, none⟩) (d + 1) cap) lb d A v s pb) :
    w.cell? ⟨g, 3 * d, none⟩ = some v ∧ w.cell? ⟨g, 3 * d + 1, none⟩ = some (.int .i64 s.percents) ∧ w.cell? ⟨g, 3 * d + 2, none⟩ = some (.bool s.number) ∧ w.frozen? ⟨g, 3 * d, none⟩ = false ∧ w.frozen? ⟨g, 3 * d + 1, none⟩ = false ∧ w.frozen? ⟨g, 3 * d + 2, none⟩ = false := by
  have hl := h.len
  refine ⟨?_, ?_, ?_, h.list.frozenAt _, h.list.frozenAt _, h.list.frozenAt _⟩
  · rw [h.list.cellAt _ (by omega), List.getElem?_append_right (by omega), hl]; simp [secC]
  · rw [h.list.cellAt _ (by omega), List.getElem?_append_right (by omega), hl]; simp [secC]
  · rw [h.list.cellAt _ (by omega), List.getElem?_append_right (by omega), hl]; simp [secC]
theorem secs_set (A : List Value) (v : Value) (s : MS) (d k : Nat) (hl : A.length = 3 * d) (u : Value) (hk : k < 3) : (A ++ secC v s).set (3 * d + k) u = A ++ (secC v s).set k u := by
  rw [List.set_append_right _ _ (by omega), hl, Nat.add_sub_cancel_left]
section
variable {w : World} {g lb d cap pb : Nat} {A : List Value} {v : Value} {s : MS}
theorem SecIn.apart (h : SecIn w (.slice (some ⟨g, 0, none⟩) (d + 1) cap) lb d A v s pb) : v.ownBlock ≠ some g := by
  rcases own_apart h.parts h.list (by decide) with e | e
  · rw [e]; simp
  · exact e
theorem SecIn.lt (h : SecIn w (.slice (some ⟨g, 0, none⟩) (d + 1) cap) lb d A v s pb) : g < w.heap.size := (h.list.lt g rfl).2
theorem SecIn.put1 (h : SecIn w (.slice (some ⟨g, 0, none⟩) (d + 1) cap) lb d A v s pb) (n : Nat) : SecIn (w.setCell ⟨g, 3 * d + 1, none⟩ (.int .i64 (n : Int))) (.slice (some ⟨g, 0, none⟩) (d + 1) cap) lb d A v { s with percents := n } pb :=
  ⟨by have := (h.list.stored (3 * d + 1) (.int .i64 (n : Int))).1; rw [secs_set A v s d 1 h.len _ (by decide)] at this; exact this, h.len, ownsRow_setCell_other h.parts (a := ⟨g, 3 * d + 1, none⟩) h.apart _, by simpa [World.setCell] using h.big⟩
theorem SecIn.put2 (h : SecIn w (.slice (some ⟨g, 0, none⟩) (d + 1) cap) lb d A v s pb) (b : Bool) : SecIn (w.setCell ⟨g, 3 * d + 2, none⟩ (.bool b)) (.slice (some ⟨g, 0, none⟩) (d + 1) cap) lb d A v { s with number := b } pb :=
  ⟨by have := (h.list.stored (3 * d + 2) (.bool b)).1; rw [secs_set A v s d 2 h.len _ (by decide)] at this; exact this, h.len, ownsRow_setCell_other h.parts (a := ⟨g, 3 * d + 2, none⟩) h.apart _, by simpa [World.setCell] using h.big⟩
theorem SecIn.next (h : SecIn w (.slice (some ⟨g, 0, none⟩) (d + 1) cap) lb d A v s pb) {w' : World} (hb : Below w.heap.size w w') : SecIn w' (.slice (some ⟨g, 0, none⟩) (d + 1) cap) lb d A v s pb :=
  ⟨own_next hb h.list, h.len, own_next hb h.parts, Nat.le_trans h.big hb.size⟩
theorem SecIn.more (h : SecIn w (.slice (some ⟨g, 0, none⟩) (d + 1) cap) lb d A v s pb) {p : MP} {v' : Value} {w1 : World} (hown : w1.ownsRow pb 95 7 v' (s.parts.length + 1) (partsC s.parts ++ (partC p).toList)) (hg : w.grownBy w1 v.ownBlock) :
    SecIn (w1.setCell ⟨g, 3 * d, none⟩ v') (.slice (some ⟨g, 0, none⟩) (d + 1) cap) lb d A v' { s with parts := s.parts ++ [p] } pb := by
  have hl : w1.ownsRow lb 93 3 (.slice (some ⟨g, 0, none⟩) (d + 1) cap) (d + 1) (A ++ secC v s) := h.list.kept hg (own_apart h.list h.parts (by decide))
  have ha : v'.ownBlock ≠ some g := by
    rcases own_apart hown hl (by decide) with e | e
    · rw [e]; simp
    · exact e
  refine ⟨?_, h.len, ?_, by simpa [World.setCell] using Nat.le_trans h.big hg.size⟩
  · have := (hl.stored (3 * d) v').1
    have e := secs_set A v s d 0 h.len v' (by decide)
    rw [Nat.add_zero] at e
    rw [e] at this
    exact this
  · have := ownsRow_setCell_other hown (a := ⟨g, 3 * d, none⟩) ha v'
    rw [partsC_snoc, List.length_append]
    exact this
theorem SecIn.after (h : SecIn w (.slice (some ⟨g, 0, none⟩) (d + 1) cap) lb d A v s pb) {w1 : World} (hg : w.grownBy w1 v.ownBlock) : w1.cell? ⟨g, 3 * d, none⟩ = some v ∧ w1.frozen? ⟨g, 3 * d, none⟩ = false := by
  have hb : w1.heap[g]? = w.heap[g]? := hg.block g h.lt (fun e => h.apart e.symm)
  obtain ⟨c0, -, -, f0, -, -⟩ := h.cells
  exact ⟨(World.cell?_of_block (a := ⟨g, 3 * d, none⟩) hb).trans c0, (World.frozen?_of_block (a := ⟨g, 3 * d, none⟩) hb).trans f0⟩
end
theorem Only.next {w wx w' : World} {g : Nat} (h : Only w wx g none) (hb : Below wx.heap.size wx w') : Only w w' g none :=
  ⟨hb.os.trans h.os, hb.tape.trans h.tape, hb.output.trans h.output, Nat.le_trans h.size hb.size, fun k hk hkg hr => (hb.block k (Nat.lt_of_lt_of_le hk h.size)).trans (h.block k hk hkg hr)⟩
theorem infoPart : (Tryd.prog.info? 95).map (fun i => (i.zero, i.size, i.bytes)) = some (some (.agg #[.int .i64 0, .string ⟨#[]⟩, .int .i64 0, .bool false, .bool false, .int .i64 0, .int .i64 0]), 7, 56) := by kernel_rfl
theorem part_one (p : MP) : ∀ u ∈ (partC p).toList, u.oneCell' = true := by
  intro u hu
  simp [partC] at hu
  rcases hu with rfl | rfl | rfl | rfl | rfl | rfl | rfl <;> rfl
/-- what add leaves -/
def AddPost (w : World) (g : Nat) (vl : Value) (lb d : Nat) (A : List Value) (v : Value) (pb : Nat) (r : Option MS) (e : Ending) (w' : World) : Prop :=
  match r with
  | none => e = .returned (.bool false) ∧ Below w.heap.size w w'
  | some s' => e = .returned (.bool true) ∧ ∃ v', SecIn w' vl lb d A v' s' pb ∧ Only w w' g v.ownBlock
theorem addPost_no {w w' : World} {g lb d pb : Nat} {vl v : Value} {A : List Value} {r : Option MS} (hr : r = none) (hb : Below w.heap.size w w') : AddPost w g vl lb d A v pb r (.returned (.bool false)) w' := by
  subst hr
  exact ⟨rfl, hb⟩
theorem addPost_yes {w w' : World} {g lb d pb : Nat} {vl v v' : Value} {A : List Value} {r : Option MS} {s' : MS} (hr : r = some s') (h : SecIn w' vl lb d A v' s' pb) (ho : Only w w' g v.ownBlock) : AddPost w g vl lb d A v pb r (.returned (.bool true)) w' := by
  subst hr
  exact ⟨rfl, v', h, ho⟩
set_option maxRecDepth 100000 in
set_option maxHeartbeats 6400000 in
theorem add_any (g lb d cap pb : Nat) (A : List Value) (v : Value) (s : MS) (p : MP) (fourth : Bool) (w : World) (h : SecIn w (.slice (some ⟨g, 0, none⟩) (d + 1) cap) lb d A v s pb) (hn : s.parts.length ≤ 1000000) (hpc : s.percents ≤ 1000000) :
    Calls Tryd.prog 58 #[.pointer (some ⟨g, 3 * d, none⟩), partV p, .bool fourth] w (AddPost w g (.slice (some ⟨g, 0, none⟩) (d + 1) cap) lb d A v pb (pAdd s p fourth)) := by
  obtain ⟨kind, text, whole, comma, point, most, least⟩ := p
  have hb0 : Below w.heap.size w (w.alloc (.cells (partC ⟨kind, text, whole, comma, point, most, least⟩) 95)) := (Below.refl _ w).alloc (Nat.le_refl _) _
  have H0 := Lib.hid (h.next hb0)
  have HB0 := Lib.hid hb0
  have HL0 : Hid (Lies (w.alloc (.cells (partC ⟨kind, text, whole, comma, point, most, least⟩) 95)) w.heap.size 95 (partC ⟨kind, text, whole, comma, point, most, least⟩)) := Lib.hid (Lies.new w _ _)
  have hlt := h.lt
  have hne : g ≠ w.heap.size := by omega
  clear h hb0
  go_enter Tryd.func58, Tryd.ntmps58
  go_upto_block 0 with fail
  obtain ⟨W, hW⟩ : ∃ W, w.alloc (.cells #[.int .i64 (kind : Int), .string ⟨text.toArray⟩, .int .i64 (whole : Int), .bool comma, .bool point, .int .i64 (most : Int), .int .i64 (least : Int)] 95) = W := ⟨_, rfl⟩
  have H0' : Hid (SecIn W (.slice (some ⟨g, 0, none⟩) (d + 1) cap) lb d A v s pb) := Lib.hid (by rw [← hW]; exact H0.out)
  have HO0 : Hid (Only w W g none) := Lib.hid (by rw [← hW]; exact Only.of_below HB0.out)
  have HB0' : Hid (Below w.heap.size w W) := Lib.hid (by rw [← hW]; exact HB0.out)
  have HL0' : Hid (Lies W w.heap.size 95 (partC ⟨kind, text, whole, comma, point, most, least⟩)) := Lib.hid (by rw [← hW]; exact HL0.out)
  have HZ0 : Hid (w.heap.size < W.heap.size) := Lib.hid (by rw [← hW]; simp)
  rw [hW]
  clear hW H0 HB0 HL0
  obtain ⟨c0, c1, c2, f0, f1, f2⟩ := H0'.out.cells
  go_cut [6] (fun _ wx => ∃ s1 : MS, Hid (s1.parts = s.parts) ∧ Hid (pAdd s ⟨kind, text, whole, comma, point, most, least⟩ fourth = some { s1 with parts := s1.parts ++ [⟨kind, text, whole, comma, point, most, least⟩] }) ∧ Hid (SecIn wx (.slice (some ⟨g, 0, none⟩) (d + 1) cap) lb d A v s1 pb) ∧ Hid (Only w wx g none) ∧ Hid (Lies wx w.heap.size 95 (partC ⟨kind, text, whole, comma, point, most, least⟩)) ∧ Hid (w.heap.size < wx.heap.size))
  case first =>
    by_cases k2 : kind = 2
    · subst k2
      cases fourth
      · have hr : Hid (pAdd s ⟨2, text, whole, comma, point, most, least⟩ false = none) := Lib.hid rfl
        go_wp2_with fail
        go_ret
        exact addPost_no hr.out HB0'.out
      · have hr : Hid (pAdd s ⟨2, text, whole, comma, point, most, least⟩ true = some { s with parts := s.parts ++ [⟨2, text, whole, comma, point, most, least⟩] }) := Lib.hid rfl
        go_wp2_with fail
        go_meet
        exact ⟨s, Lib.hid rfl, hr, H0', HO0, HL0', HZ0⟩
    have b2 : ((kind : Int) == 2) = false := by rw [beq_eq_false_iff_ne]; omega
    by_cases k1 : kind = 1
    · subst k1
      cases fourth
      · have hr : Hid (pAdd s ⟨1, text, whole, comma, point, most, least⟩ false = some { s with percents := s.percents + 1, parts := s.parts ++ [⟨1, text, whole, comma, point, most, least⟩] }) := Lib.hid rfl
        have H1 := Lib.hid (H0'.out.put1 (s.percents + 1))
        have HO1 := Lib.hid (HO0.out.set (3 * d + 1) (.int .i64 ((s.percents + 1 : Nat) : Int)))
        have HL1 := Lib.hid ((Below.heap_setCell _ ⟨g, 3 * d + 1, none⟩ (.int .i64 ((s.percents + 1 : Nat) : Int)) w.heap.size (fun e => hne e.symm)).trans HL0'.out)
        clear H0' HO0 HL0'
        go_wp2_with fail
        go_meet
        exact ⟨{ s with percents := s.percents + 1 }, Lib.hid rfl, hr, H1, HO1, HL1, Lib.hid (by simpa [World.setCell] using HZ0.out)⟩
      · have hr : Hid (pAdd s ⟨1, text, whole, comma, point, most, least⟩ true = none) := Lib.hid rfl
        go_wp2_with fail
        go_ret
        exact addPost_no hr.out HB0'.out
    have b1 : ((kind : Int) == 1) = false := by rw [beq_eq_false_iff_ne]; omega
    by_cases k34 : kind = 3 ∨ kind = 4
    · cases fourth
      · cases hnum : s.number
        · have hr : Hid (pAdd s ⟨kind, text, whole, comma, point, most, least⟩ false = some { s with number := true, parts := s.parts ++ [⟨kind, text, whole, comma, point, most, least⟩] }) := Lib.hid (by
            unfold pAdd
            rw [if_neg k2, if_neg k1, if_pos k34, hnum]
            rfl)
          have H1 := Lib.hid (H0'.out.put2 true)
          have HO1 := Lib.hid (HO0.out.set (3 * d + 2) (.bool true))
          have HL1 := Lib.hid ((Below.heap_setCell _ ⟨g, 3 * d + 2, none⟩ (.bool true) w.heap.size (fun e => hne e.symm)).trans HL0'.out)
          rw [hnum] at c2
          clear H0' HO0 HL0'
          rcases k34 with rfl | rfl
          all_goals
            go_wp2_with fail
            go_meet
            exact ⟨{ s with number := true }, Lib.hid rfl, hr, H1, HO1, HL1, Lib.hid (by simpa [World.setCell] using HZ0.out)⟩
        · have hr : Hid (pAdd s ⟨kind, text, whole, comma, point, most, least⟩ false = none) := Lib.hid (by
            unfold pAdd
            rw [if_neg k2, if_neg k1, if_pos k34, if_pos (.inr hnum)])
          rw [hnum] at c2
          rcases k34 with rfl | rfl
          all_goals
            go_wp2_with fail
            go_ret
            exact addPost_no hr.out HB0'.out
      · have hr : Hid (pAdd s ⟨kind, text, whole, comma, point, most, least⟩ true = none) := Lib.hid (by
          unfold pAdd
          rw [if_neg k2, if_neg k1, if_pos k34, if_pos (.inl rfl)])
        rcases k34 with rfl | rfl
        all_goals
          go_wp2_with fail
          go_ret
          exact addPost_no hr.out HB0'.out
    have b3 : ((kind : Int) == 3) = false := by rw [beq_eq_false_iff_ne]; omega
    have b4 : ((kind : Int) == 4) = false := by rw [beq_eq_false_iff_ne]; omega
    have hr : Hid (pAdd s ⟨kind, text, whole, comma, point, most, least⟩ fourth = some { s with parts := s.parts ++ [⟨kind, text, whole, comma, point, most, least⟩] }) := Lib.hid (by
      unfold pAdd
      rw [if_neg k2, if_neg k1, if_neg k34])
    go_wp2_with fail
    go_meet
    exact ⟨s, Lib.hid rfl, hr, H0', HO0, HL0', HZ0⟩
  case rest =>
    obtain ⟨s1, hpar, hr, H1, HO1, HL1, HZ1⟩ := hcut
    obtain ⟨i0, hi, hz0, hz1, hz2⟩ := info_parts infoPart
    have hbn : Below wc.heap.size wc ((wc.alloc (.cells #[.int .i64 (kind : Int), .string ⟨text.toArray⟩, .int .i64 (whole : Int), .bool comma, .bool point, .int .i64 (most : Int), .int .i64 (least : Int)] 95)).drew) := ((Below.refl _ _).alloc (Nat.le_refl _) _).drew
    have HS2 := Lib.hid (H1.out.next hbn)
    have HO2 := Lib.hid (HO1.out.next hbn)
    obtain ⟨c0, c1, c2, f0, f1, f2⟩ := H1.out.cells
    obtain ⟨p0, p1, p2, p3, p4, p5, p6⟩ := lies_cells HL1.out
    dsimp only at p0 p1 p2 p3 p4 p5 p6
    have hnp : s1.parts.length ≤ 1000000 := by rw [hpar.out]; exact hn
    have HBig := Lib.hid H1.out.big
    have hglt := H1.out.lt
    clear hbn c1 c2 f1 f2 hn hpc hlt
    have h63 : s1.parts.length + 1 ≤ maxLen := by unfold maxLen; omega
    have h47 : (s1.parts.length + 1) * 56 ≤ 140737488355328 := by omega
    have H63 := Lib.hid h63
    have H47 := Lib.hid h47
    clear h63 h47
    go_wp2_with fail
    go_region_law (refine step_append_lies _ (by rfl) _ _ _ (by rfl) pb 95 i0 _ 7 56 Tryd.underlying91 hi hz0 hz1 hz2 rfl (by decide) v s1.parts.length (partsC s1.parts) (by rfl) HS2.out.parts ⟨wc.heap.size, 0, none⟩ 1 1 [.int .i64 (kind : Int), .string ⟨text.toArray⟩, .int .i64 (whole : Int), .bool comma, .bool point, .int .i64 (most : Int), .int .i64 (least : Int)] (by rfl) (by rfl) (World.news_of_block (cs := #[.int .i64 (kind : Int), .string ⟨text.toArray⟩, .int .i64 (whole : Int), .bool comma, .bool point, .int .i64 (most : Int), .int .i64 (least : Int)]) (t := 95) (fr := (0, 0)) (heap_alloc_new wc _)) (part_one ⟨kind, text, whole, comma, point, most, least⟩) (by decide) H63.out H47.out HS2.out.big (wc.heap.size + 1) (by simp) ?_; intro gg cap2 w1 hown1 hgrow hat hlt1; have hta := SecIn.after HS2.out hgrow; have e0 := hta.1; have e1 := hta.2; have HM := Lib.hid (SecIn.more (p := ⟨kind, text, whole, comma, point, most, least⟩) HS2.out hown1 hgrow); have HO3 := Lib.hid ((HO2.out.grown hgrow).set (3 * d) (.slice (some ⟨gg, 0, none⟩) (s1.parts.length + 1) cap2)); clear hown1 hgrow hat hlt1 hta)
    all_goals go_wp2_with fail
    all_goals go_ret
    all_goals exact addPost_yes hr.out HM.out HO3.out
def secsC : List Value → List MS → List Value
  | v :: vs, s :: ss => secC v s ++ secsC vs ss
  | _, _ => []
theorem secsC_snoc : ∀ (vs : List Value) (ss : List MS) (v : Value) (s : MS), vs.length = ss.length → secsC (vs ++ [v]) (ss ++ [s]) = secsC vs ss ++ secC v s
  | [], [], v, s, _ => by simp [secsC]
  | x :: vs, y :: ss, v, s, h => by
    have := secsC_snoc vs ss v s (by simpa using h)
    simp [secsC, this]
  | [], _ :: _, _, _, h => by simp at h
  | _ :: _, [], _, _, h => by simp at h
theorem secsC_len : ∀ (vs : List Value) (ss : List MS), vs.length = ss.length → (secsC vs ss).length = 3 * ss.length
  | [], [], _ => rfl
  | x :: vs, y :: ss, h => by
    have := secsC_len vs ss (by simpa using h)
    simp only [secsC, List.length_append, this, List.length_cons]
    simp [secC]
    omega
  | [], _ :: _, h => by simp at h
  | _ :: _, [], h => by simp at h
/-- a section that is done: its parts lie below base pb -/
def DoneAt (w : World) (pb : Nat) (v : Value) (s : MS) : Prop := w.ownsRow 0 95 7 v s.parts.length (partsC s.parts) ∧ ∀ b, v.ownBlock = some b → b < pb
theorem ownsRow_base0 {w : World} {base : Nat} {e : TypeId} {size : Nat} {v : Value} {n : Nat} {xs : List Value} (h : w.ownsRow base e size v n xs) : w.ownsRow 0 e size v n xs := ⟨h.1, h.2.imp id fun ⟨g, cap, cur, a1, _, a2⟩ => ⟨g, cap, cur, a1, Nat.zero_le _, a2⟩⟩
/-- what Parse has made: done sections and the open one -/
structure MSt (w : World) (l : Bs) (done : List MS) (cur : MS) (g cap pb : Nat) (vs : List Value) (vc : Value) (wr : World) : Prop where
  res : Lies wr w.heap.size 43 #[.string ⟨#[]⟩, .slice none 0 0]
  box : Lies wr (w.heap.size + 2) 43 #[.string ⟨l.toArray⟩, .slice (some ⟨g, 0, none⟩) (done.length + 1) cap]
  len : vs.length = done.length
  sec : SecIn wr (.slice (some ⟨g, 0, none⟩) (done.length + 1) cap) (w.heap.size + 1) done.length (secsC vs done) vc cur pb
  old : ∀ (i : Nat) v s, vs[i]? = some v → done[i]? = some s → DoneAt wr pb v s
  pb3 : w.heap.size + 3 ≤ pb
  bel : Below w.heap.size w wr
theorem MSt.next {w : World} {l : Bs} {done : List MS} {cur : MS} {g cap pb : Nat} {vs : List Value} {vc : Value} {wr w' : World} (h : MSt w l done cur g cap pb vs vc wr) (hb : Below wr.heap.size wr w') : MSt w l done cur g cap pb vs vc w' :=
  ⟨Lies.below h.res hb, Lies.below h.box hb, h.len, h.sec.next hb, fun i v s h1 h2 => ⟨own_next hb (h.old i v s h1 h2).1, (h.old i v s h1 h2).2⟩, h.pb3, h.bel.trans (hb.mono h.bel.size)⟩
theorem MSt.drew {w : World} {l : Bs} {done : List MS} {cur : MS} {g cap pb : Nat} {vs : List Value} {vc : Value} {wr : World} (h : MSt w l done cur g cap pb vs vc wr) : MSt w l done cur g cap pb vs vc wr.drew := h.next (Below.refl _ _).drew
/-- a block of another type than a row's is none of its -/
theorem lies_apart {w : World} {b : Nat} {t : TypeId} {cs : Array Value} {base : Nat} {e : TypeId} {size : Nat} {v : Value} {n : Nat} {xs : List Value} (h : Lies w b t cs) (ho : w.ownsRow base e size v n xs) (he : t ≠ e) : some b ≠ v.ownBlock := by
  rcases ho.2 with ⟨rfl, _⟩ | ⟨g, cap, cur, rfl, _, a, _⟩
  · simp [Value.ownBlock]
  · intro e2
    simp only [Value.ownBlock, Option.some.injEq] at e2
    subst e2
    unfold Lies at h
    rw [h] at a
    injection a with a
    injection a with _ a _
    exact he a
theorem MSt.add {w : World} {l : Bs} {done : List MS} {cur : MS} {g cap pb : Nat} {vs : List Value} {vc : Value} {wr w' : World} (h : MSt w l done cur g cap pb vs vc wr) {v' : Value} {x : MS} (hs : SecIn w' (.slice (some ⟨g, 0, none⟩) (done.length + 1) cap) (w.heap.size + 1) done.length (secsC vs done) v' x pb) (ho : Only wr w' g vc.ownBlock) : MSt w l done x g cap pb vs v' w' := by
  have hg : ∀ b : Nat, some b ≠ (Value.slice (some ⟨g, 0, none⟩) (done.length + 1) cap).ownBlock → b ≠ g := fun b hb e => hb (by rw [e]; rfl)
  have r1 := lies_apart h.res h.sec.list (by decide)
  have r2 := lies_apart h.res h.sec.parts (by decide)
  have q1 := lies_apart h.box h.sec.list (by decide)
  have q2 := lies_apart h.box h.sec.parts (by decide)
  refine ⟨(ho.block _ h.res.lt (hg _ r1) r2).trans h.res, (ho.block _ h.box.lt (hg _ q1) q2).trans h.box, h.len, hs, fun i v s h1 h2 => ?_, h.pb3, ?_⟩
  · obtain ⟨o1, o2⟩ := h.old i v s h1 h2
    refine ⟨⟨o1.1, o1.2.imp id ?_⟩, o2⟩
    rintro ⟨b, c, k, e1, e2, e3, e4⟩
    refine ⟨b, c, k, e1, e2, (ho.block b (Array.getElem?_eq_some_iff.1 e3).1 ?_ ?_).trans e3, e4⟩
    · intro e
      have := own_apart o1 h.sec.list (by decide)
      rw [e1] at this
      simp [Value.ownBlock, e] at this
    · intro e
      have hb := o2 b (by rw [e1]; rfl)
      have := (h.sec.parts.lt b e.symm).1
      omega
  · have hl := (h.sec.list.lt g rfl).1
    exact h.bel.trans (ho.below h.bel.size (by omega) (fun k hk => by have := (h.sec.parts.lt k hk).1; have := h.pb3; omega))
theorem MSt.semi {w : World} {l : Bs} {done : List MS} {cur : MS} {g cap pb : Nat} {vs : List Value} {vc : Value} {wr w1 : World} (h : MSt w l done cur g cap pb vs vc wr) {g2 cap2 : Nat}
    (hown : w1.ownsRow (w.heap.size + 1) 93 3 (.slice (some ⟨g2, 0, none⟩) (done.length + 1 + 1) cap2) (done.length + 1 + 1) ((secsC vs done ++ secC vc cur) ++ [.slice none 0 0, .int .i64 0, .bool false])) (hg : wr.grownBy w1 (some g)) :
    MSt w l (done ++ [cur]) ms0 g2 cap2 w1.heap.size (vs ++ [vc]) (.slice none 0 0) (w1.setCell ⟨w.heap.size + 2, 1, none⟩ (.slice (some ⟨g2, 0, none⟩) (done.length + 1 + 1) cap2)) := by
  have hbk : ∀ b, b < wr.heap.size → some b ≠ (Value.slice (some ⟨g, 0, none⟩) (done.length + 1) cap).ownBlock → w1.heap[b]? = wr.heap[b]? := fun b hb hne => hg.block b hb hne
  have hres : Lies w1 w.heap.size 43 #[.string ⟨#[]⟩, .slice none 0 0] := (hbk _ h.res.lt (lies_apart h.res h.sec.list (by decide))).trans h.res
  have hbox : Lies w1 (w.heap.size + 2) 43 #[.string ⟨l.toArray⟩, .slice (some ⟨g, 0, none⟩) (done.length + 1) cap] := (hbk _ h.box.lt (lies_apart h.box h.sec.list (by decide))).trans h.box
  have hpart : ∀ {base : Nat} {v : Value} {n : Nat} {xs : List Value}, wr.ownsRow base 95 7 v n xs → (w1.setCell ⟨w.heap.size + 2, 1, none⟩ (.slice (some ⟨g2, 0, none⟩) (done.length + 1 + 1) cap2)).ownsRow base 95 7 v n xs := by
    intro base v n xs ho
    have h1 : w1.ownsRow base 95 7 v n xs := ho.kept hg (own_apart ho h.sec.list (by decide))
    exact ownsRow_setCell_other h1 (a := ⟨w.heap.size + 2, 1, none⟩) (lies_apart hbox h1 (by decide)).symm _
  have hlen : (done ++ [cur]).length + 1 = done.length + 1 + 1 := by simp
  refine ⟨?_, ?_, by simp [h.len], ⟨?_, ?_, World.ownsRow_nil _ _ _ _, by simp [World.setCell]⟩, ?_, ?_, ?_⟩
  · exact (Below.heap_setCell w1 ⟨w.heap.size + 2, 1, none⟩ _ w.heap.size (by show w.heap.size ≠ w.heap.size + 2; omega)).trans hres
  · rw [hlen]
    exact hbox.put 1 _
  · rw [hlen, secsC_snoc vs done vc cur h.len]
    have := ownsRow_setCell_other hown (a := ⟨w.heap.size + 2, 1, none⟩) (lies_apart hbox hown (by decide)).symm (.slice (some ⟨g2, 0, none⟩) (done.length + 1 + 1) cap2)
    simpa [secC, ms0] using this
  · rw [secsC_len _ _ (by simp [h.len])]
  · intro i v s h1 h2
    rcases Nat.lt_or_ge i vs.length with hi | hi
    · rw [List.getElem?_append_left hi] at h1
      rw [List.getElem?_append_left (by rw [← h.len]; exact hi)] at h2
      obtain ⟨o1, o2⟩ := h.old i v s h1 h2
      exact ⟨hpart o1, fun b hb => Nat.lt_of_lt_of_le ((o1.lt b hb).2) hg.size⟩
    · rw [List.getElem?_append_right hi] at h1
      rw [List.getElem?_append_right (by rw [← h.len]; exact hi), ← h.len] at h2
      rcases Nat.eq_zero_or_pos (i - vs.length) with hz | hz
      · rw [hz] at h1 h2
        simp at h1 h2
        subst h1 h2
        exact ⟨ownsRow_base0 (hpart h.sec.parts), fun b hb => Nat.lt_of_lt_of_le ((h.sec.parts.lt b hb).2) hg.size⟩
      · rw [List.getElem?_eq_none (by simp; omega)] at h1
        cases h1
  · have := h.sec.big
    have := h.pb3
    have := hg.size
    omega
  · have hl := (h.sec.list.lt g rfl).1
    have hb1 : Below w.heap.size wr w1 := ⟨hg.os, hg.tape, hg.output, hg.size, fun k hk => hg.block k (Nat.lt_of_lt_of_le hk h.bel.size) (fun e => by injection e with e; omega)⟩
    exact (h.bel.trans hb1).setCell (p := ⟨w.heap.size + 2, 1, none⟩) (by show w.heap.size ≤ w.heap.size + 2; omega) _
/-- a format's sections, as they lie in memory -/
def FmtAt (w : World) (v : Value) (L : List MS) : Prop := ∃ vs : List Value, vs.length = L.length ∧ w.ownsRow 0 93 3 v L.length (secsC vs L) ∧ ∀ (i : Nat) u s, vs[i]? = some u → L[i]? = some s → w.ownsRow 0 95 7 u s.parts.length (partsC s.parts)
theorem FmtAt.next {w w' : World} {v : Value} {L : List MS} (h : FmtAt w v L) (hb : Below w.heap.size w w') : FmtAt w' v L := by
  obtain ⟨vs, h1, h2, h3⟩ := h
  exact ⟨vs, h1, own_next hb h2, fun i u s a b => own_next hb (h3 i u s a b)⟩
theorem MSt.fmt {w : World} {l : Bs} {done : List MS} {cur : MS} {g cap pb : Nat} {vs : List Value} {vc : Value} {wr : World} (h : MSt w l done cur g cap pb vs vc wr) : FmtAt wr (.slice (some ⟨g, 0, none⟩) (done.length + 1) cap) (done ++ [cur]) := by
  refine ⟨vs ++ [vc], by simp [h.len], ?_, ?_⟩
  · rw [secsC_snoc vs done vc cur h.len, List.length_append]
    exact ownsRow_base0 h.sec.list
  · intro i u s h1 h2
    rcases Nat.lt_or_ge i vs.length with hi | hi
    · rw [List.getElem?_append_left hi] at h1
      rw [List.getElem?_append_left (by rw [← h.len]; exact hi)] at h2
      exact (h.old i u s h1 h2).1
    · rw [List.getElem?_append_right hi] at h1
      rw [List.getElem?_append_right (by rw [← h.len]; exact hi), ← h.len] at h2
      rcases Nat.eq_zero_or_pos (i - vs.length) with hz | hz
      · rw [hz] at h1 h2
        simp at h1 h2
        subst h1 h2
        exact ownsRow_base0 h.sec.parts
      · rw [List.getElem?_eq_none (by simp; omega)] at h1
        cases h1
theorem FmtAt.set {w : World} {v : Value} {L : List MS} (h : FmtAt w v L) {b : Nat} {cs : Array Value} (hl : Lies w b 43 cs) (k : Nat) (u : Value) : FmtAt (w.setCell ⟨b, k, none⟩ u) v L := by
  obtain ⟨vs, h1, h2, h3⟩ := h
  exact ⟨vs, h1, ownsRow_setCell_other h2 (a := ⟨b, k, none⟩) (lies_apart hl h2 (by decide)).symm u, fun i x s a c => ownsRow_setCell_other (h3 i x s a c) (a := ⟨b, k, none⟩) (lies_apart hl (h3 i x s a c) (by decide)).symm u⟩
theorem MSt.box_kept {w : World} {l : Bs} {done : List MS} {cur : MS} {g cap pb : Nat} {vs : List Value} {vc : Value} {wr w1 : World} (h : MSt w l done cur g cap pb vs vc wr) (hg : wr.grownBy w1 (some g)) : Lies w1 (w.heap.size + 2) 43 #[.string ⟨l.toArray⟩, .slice (some ⟨g, 0, none⟩) (done.length + 1) cap] :=
  (hg.block _ h.box.lt (lies_apart h.box h.sec.list (by decide))).trans h.box
/-- what Parse leaves -/
def ParsePost (w : World) (l : Bs) (r : List MS ⊕ (Nat × Int)) (e : Ending) (w' : World) : Prop :=
  match r with
  | .inl L => ∃ v, e = .returned (.tuple #[.agg #[.string ⟨l.toArray⟩, v], .int .i64 0, .int .i64 0]) ∧ FmtAt w' v L ∧ Below w.heap.size w w'
  | .inr p => e = .returned (.tuple #[.agg #[.string ⟨#[]⟩, .slice none 0 0], .int .i64 (p.1 : Int), .int .i64 p.2]) ∧ Below w.heap.size w w'
end Go.Proofs.YteccjdclkcipbaaDoor
