/-
  mask.next: what it returns.
-/
import Derived.Test.YteccjdclkcipbaaDoorMask3
import Derived.Test.YteccjdclkcipbaaDoorVal2
import Derived.Test.YteccjdclkcipbaaDoorLex5
namespace Go.Proofs.YteccjdclkcipbaaDoor
open Go.RowKit

/-- the result's box alone -/
structure RIn (w w' : World) : Prop where
  res : Lies w' w.heap.size 95 (partC mp0)
  bel : Below w.heap.size w w'
theorem RIn.start (w : World) : RIn w (w.alloc (.cells (partC mp0) 95)) := ⟨Lies.new w _ _, (Below.refl _ w).alloc (Nat.le_refl _) _⟩
theorem RIn.next {w w' w'' : World} (h : RIn w w') (hb : Below w'.heap.size w' w'') : RIn w w'' := ⟨Lies.below h.res hb, h.bel.trans (hb.mono h.bel.size)⟩
theorem plainC_cases {c : UInt8} (h : plainC c = true) : c = 32 ∨ c = 36 ∨ c = 45 ∨ c = 43 ∨ c = 40 ∨ c = 41 ∨ c = 47 ∨ c = 58 := by
  unfold plainC at h
  simp only [Bool.or_eq_true, beq_iff_eq] at h
  rcases h with ((((((h | h) | h) | h) | h) | h) | h) | h <;> simp [h]
theorem u8_ne {c d : UInt8} (h : c ≠ d) (n : Int) (hn : (d.toNat : Int) = n) : ((c.toNat : Int) == n) = false := by
  rw [beq_eq_false_iff_ne]
  intro e
  exact h (UInt8.toNat.inj (by omega))
theorem plainC_none {c : UInt8} (h : plainC c = false) : c ≠ 32 ∧ c ≠ 36 ∧ c ≠ 45 ∧ c ≠ 43 ∧ c ≠ 40 ∧ c ≠ 41 ∧ c ≠ 47 ∧ c ≠ 58 := by
  unfold plainC at h
  simp only [Bool.or_eq_false_iff, beq_eq_false_iff_ne] at h
  obtain ⟨⟨⟨⟨⟨⟨⟨h1, h2⟩, h3⟩, h4⟩, h5⟩, h6⟩, h7⟩, h8⟩ := h
  exact ⟨h1, h2, h3, h4, h5, h6, h7, h8⟩
set_option maxRecDepth 100000 in
set_option maxHeartbeats 6400000 in
theorem next_any (c : UInt8) (t : Bs) (w : World) (hl : (c :: t).length ≤ 1000000) :
    Calls Tryd.prog 57 #[.string ⟨(c :: t).toArray⟩] w fun e w' => e = .returned (partOut (pNext (c :: t))) ∧ Below w.heap.size w w' := by
  rw [List.length_cons] at hl
  have HR0 := Lib.hid (RIn.start w)
  obtain ⟨out, hout⟩ : ∃ out, partOut (pNextC c t) = out := ⟨_, rfl⟩
  rw [show pNext (c :: t) = pNextC c t from rfl, hout]
  have HOut := Lib.hid hout
  clear hout
  by_cases h34 : c = 34
  · subst h34
    have HI := Lib.hid (fun W => indexByte_any t 34 W)
    by_cases hx : 0 ≤ Lib.indexByte t 34
    · obtain ⟨n, hn, hnl, -, -⟩ := idx_yes t 34 hx
      have hres : Hid (out = .tuple #[partV { mp0 with text := t.take n }, .int .i64 ((n : Int) + 2), .int .i64 0]) := Lib.hid (by
        rw [← HOut.out]
        unfold pNextC
        rw [if_pos rfl, if_pos hx, hn]
        rfl)
      rw [hn] at HI
      clear HOut hx hn
      go_enter Tryd.func57, Tryd.ntmps57
      go_wp2_with fail
      refine (HI.out _).mono ?_
      rintro e w1 ⟨rfl, rfl⟩
      go_wp2_with fail
      refine bodyPost_ret (v := .tuple #[.agg #[.int .i64 0, .string ⟨(t.take n).toArray⟩, .int .i64 0, .bool false, .bool false, .int .i64 0, .int .i64 0], .int .i64 ((n : Int) + 2), .int .i64 0]) (by simp [results, Tryd.results57, go_sem]) rfl ?_
      exact ⟨by rw [hres.out]; rfl, (Below.refl _ w).alloc (Nat.le_refl _) _⟩
    · have hres : Hid (out = .tuple #[partV mp0, .int .i64 0, .int .i64 13]) := Lib.hid (by
        rw [← HOut.out]
        unfold pNextC
        rw [if_pos rfl, if_neg hx]
        rfl)
      clear HOut
      generalize Lib.indexByte t 34 = n at *
      have hx2 : n < 0 := by omega
      clear hx
      go_enter Tryd.func57, Tryd.ntmps57
      go_wp2_with fail
      refine (HI.out _).mono ?_
      rintro e w1 ⟨rfl, rfl⟩
      go_wp2_with fail
      refine bodyPost_ret (v := .tuple #[.agg #[.int .i64 0, .string ⟨#[]⟩, .int .i64 0, .bool false, .bool false, .int .i64 0, .int .i64 0], .int .i64 0, .int .i64 13]) (by simp [results, Tryd.results57, go_sem]) rfl ?_
      exact ⟨by rw [hres.out]; rfl, (Below.refl _ w).alloc (Nat.le_refl _) _⟩
  have b34 := u8_ne h34 34 rfl
  by_cases h92 : c = 92
  · subst h92
    cases t with
    | nil =>
      have hres : Hid (out = .tuple #[partV mp0, .int .i64 0, .int .i64 13]) := Lib.hid (by rw [← HOut.out]; rfl)
      clear HOut
      go_enter Tryd.func57, Tryd.ntmps57
      go_wp2_with fail
      refine bodyPost_ret (v := .tuple #[.agg #[.int .i64 0, .string ⟨#[]⟩, .int .i64 0, .bool false, .bool false, .int .i64 0, .int .i64 0], .int .i64 0, .int .i64 13]) (by simp [results, Tryd.results57, go_sem]) rfl ?_
      exact ⟨by rw [hres.out]; rfl, (Below.refl _ w).alloc (Nat.le_refl _) _⟩
    | cons d r =>
      have hres : Hid (out = .tuple #[partV { mp0 with text := [d] }, .int .i64 2, .int .i64 0]) := Lib.hid (by rw [← HOut.out]; rfl)
      rw [List.length_cons] at hl
      clear HOut
      go_enter Tryd.func57, Tryd.ntmps57
      go_wp2_with fail
      refine bodyPost_ret (v := .tuple #[.agg #[.int .i64 0, .string ⟨#[d]⟩, .int .i64 0, .bool false, .bool false, .int .i64 0, .int .i64 0], .int .i64 2, .int .i64 0]) (by simp [results, Tryd.results57, go_sem]) rfl ?_
      exact ⟨by rw [hres.out]; rfl, (Below.refl _ w).alloc (Nat.le_refl _) _⟩
  have b92 := u8_ne h92 92 rfl
  cases hp : plainC c
  case true =>
    have hres : Hid (out = .tuple #[partV { mp0 with text := [c] }, .int .i64 1, .int .i64 0]) := Lib.hid (by
      rw [← HOut.out]
      unfold pNextC
      rw [if_neg h34, if_neg h92, if_pos hp]
      rfl)
    clear HOut
    rcases plainC_cases hp with rfl | rfl | rfl | rfl | rfl | rfl | rfl | rfl
    all_goals
      clear hp h34 h92 b34 b92
      go_enter Tryd.func57, Tryd.ntmps57
      go_wp2_with fail
      refine bodyPost_ret (v := out) (by rw [hres.out]; simp [results, Tryd.results57, go_sem, mp0]) rfl ?_
      exact ⟨rfl, (Below.refl _ w).alloc (Nat.le_refl _) _⟩
  obtain ⟨n32, n36, n45, n43, n40, n41, n47, n58⟩ := plainC_none hp
  have b32 := u8_ne n32 32 rfl
  have b36 := u8_ne n36 36 rfl
  have b45 := u8_ne n45 45 rfl
  have b43 := u8_ne n43 43 rfl
  have b40 := u8_ne n40 40 rfl
  have b41 := u8_ne n41 41 rfl
  have b47 := u8_ne n47 47 rfl
  have b58 := u8_ne n58 58 rfl
  clear n32 n36 n45 n43 n40 n41 n47 n58
  by_cases h37 : c = 37
  · subst h37
    have hres : Hid (out = .tuple #[partV { mp0 with kind := 1, text := [37] }, .int .i64 1, .int .i64 0]) := Lib.hid (by rw [← HOut.out]; rfl)
    clear HOut hp h34 h92
    go_enter Tryd.func57, Tryd.ntmps57
    go_wp2_with fail
    refine bodyPost_ret (v := .tuple #[.agg #[.int .i64 1, .string ⟨#[37]⟩, .int .i64 0, .bool false, .bool false, .int .i64 0, .int .i64 0], .int .i64 1, .int .i64 0]) (by simp [results, Tryd.results57, go_sem]) rfl ?_
    exact ⟨by rw [hres.out]; rfl, (Below.refl _ w).alloc (Nat.le_refl _) _⟩
  have b37 := u8_ne h37 37 rfl
  by_cases h64 : c = 64
  · subst h64
    have hres : Hid (out = .tuple #[partV { mp0 with kind := 2 }, .int .i64 1, .int .i64 0]) := Lib.hid (by rw [← HOut.out]; rfl)
    clear HOut hp h34 h92 h37
    go_enter Tryd.func57, Tryd.ntmps57
    go_wp2_with fail
    refine bodyPost_ret (v := .tuple #[.agg #[.int .i64 2, .string ⟨#[]⟩, .int .i64 0, .bool false, .bool false, .int .i64 0, .int .i64 0], .int .i64 1, .int .i64 0]) (by simp [results, Tryd.results57, go_sem]) rfl ?_
    exact ⟨by rw [hres.out]; rfl, (Below.refl _ w).alloc (Nat.le_refl _) _⟩
  have b64 := u8_ne h64 64 rfl
  by_cases hdg : c = 35 ∨ c = 48 ∨ c = 46
  · have hres : Hid (out = partOut (pDigits (c :: t))) := Lib.hid (by
      rw [← HOut.out]
      unfold pNextC
      rw [if_neg h34, if_neg h92, hp, if_neg (by decide), if_neg h37, if_neg h64, if_pos hdg])
    have CD := Lib.hid (fun W => digits_mask (c :: t) W (by rw [List.length_cons]; exact hl))
    clear HOut hp h34 h92 h37 h64
    rcases hdg with rfl | rfl | rfl
    all_goals
      go_enter Tryd.func57, Tryd.ntmps57
      go_wp2_with fail
      refine (CD.out _).mono ?_
      rintro e w1 ⟨rfl, hb⟩
      have HR1 := Lib.hid (HR0.out.next hb)
      clear hb HR0 CD
      obtain ⟨r0, r1, r2, r3, r4, r5, r6⟩ := lies_cells HR1.out.res
      have RF := HR1.out.res
      have rf0 := RF.frozen 0
      have rf1 := RF.frozen 1
      have rf2 := RF.frozen 2
      have rf3 := RF.frozen 3
      have rf4 := RF.frozen 4
      have rf5 := RF.frozen 5
      have rf6 := RF.frozen 6
      have rlt := RF.lt
      have HB := Lib.hid HR1.out.bel
      clear RF
      generalize pDigits _ = d at *
      obtain ⟨⟨k, x, a1, a2, a3, a4, a5⟩, n, er⟩ := d
      unfold partOut
      go_wp2_with fail
      refine bodyPost_ret (v := .tuple #[.agg #[.int .i64 k, .string ⟨x.toArray⟩, .int .i64 a1, .bool a2, .bool a3, .int .i64 a4, .int .i64 a5], .int .i64 n, .int .i64 er]) (by simp [results, Tryd.results57, go_sem, r0, r1, r2, r3, r4, r5, r6]) rfl ?_
      exact ⟨by rw [hres.out]; rfl, below_put7 HB.out _ _ _ _ _ _ _⟩
  have b35 := u8_ne (fun h => hdg (.inl h)) 35 rfl
  have b48 := u8_ne (fun h => hdg (.inr (.inl h))) 48 rfl
  have b46 := u8_ne (fun h => hdg (.inr (.inr h))) 46 rfl
  have hpn : Hid (out = partOut (if isGen (c :: t) = true then ({ mp0 with kind := 3 }, 7, 0) else (mp0, 0, 6))) := Lib.hid (by
    rw [← HOut.out]
    unfold pNextC
    rw [if_neg h34, if_neg h92, hp, if_neg (by decide), if_neg h37, if_neg h64, if_neg hdg])
  clear HOut hp h34 h92 h37 h64 hdg
  have hlc : (c :: t).length = t.length + 1 := rfl
  by_cases h7 : t.length + 1 < 7
  · have hres : Hid (out = .tuple #[partV mp0, .int .i64 0, .int .i64 6]) := Lib.hid (by
      rw [hpn.out]
      have hg : isGen (c :: t) = false := by unfold isGen; rw [hlc, decide_eq_true h7]; rfl
      rw [hg]
      rfl)
    clear hpn hlc
    go_enter Tryd.func57, Tryd.ntmps57
    go_wp2_with fail
    refine bodyPost_ret (v := .tuple #[.agg #[.int .i64 0, .string ⟨#[]⟩, .int .i64 0, .bool false, .bool false, .int .i64 0, .int .i64 0], .int .i64 0, .int .i64 6]) (by simp [results, Tryd.results57, go_sem]) rfl ?_
    exact ⟨by rw [hres.out]; rfl, (Below.refl _ w).alloc (Nat.le_refl _) _⟩
  have CF := Lib.hid (fun W => fold_any (c :: t.take 6) W (by rw [List.length_cons, List.length_take]; unfold maxLen; omega))
  have hgd : isGen (c :: t) = ((pFold (c :: t.take 6) == generalW) && !(decide (7 < t.length + 1) && (((c :: t)[7]?).map isLetter).getD false)) := by
    unfold isGen
    rw [hlc, decide_eq_false h7]
    rfl
  rw [hgd] at hpn
  clear hgd hlc
  generalize hF : pFold (c :: t.take 6) = F at *
  clear hF
  go_enter Tryd.func57, Tryd.ntmps57
  go_wp2_with fail
  refine (CF.out _).mono ?_
  rintro e w1 ⟨rfl, hb⟩
  have HR1 := Lib.hid (HR0.out.next hb)
  clear hb HR0 CF
  obtain ⟨r0, r1, r2, r3, r4, r5, r6⟩ := lies_cells HR1.out.res
  have RF := HR1.out.res
  have rf0 := RF.frozen 0
  have rf1 := RF.frozen 1
  have rf2 := RF.frozen 2
  have rf3 := RF.frozen 3
  have rf4 := RF.frozen 4
  have rf5 := RF.frozen 5
  have rf6 := RF.frozen 6
  have rlt := RF.lt
  have HB := Lib.hid HR1.out.bel
  clear RF
  simp only [mp0] at r0 r1 r2 r3 r4 r5 r6
  cases hg : (F == [71, 69, 78, 69, 82, 65, 76])
  · have hres : Hid (out = .tuple #[partV mp0, .int .i64 0, .int .i64 6]) := Lib.hid (by rw [hpn.out, show (F == generalW) = false from hg]; rfl)
    clear hpn
    go_wp2_with fail
    refine bodyPost_ret (v := .tuple #[.agg #[.int .i64 0, .string ⟨#[]⟩, .int .i64 0, .bool false, .bool false, .int .i64 0, .int .i64 0], .int .i64 0, .int .i64 6]) (by simp [results, Tryd.results57, go_sem, r0, r1, r2, r3, r4, r5, r6]) rfl ?_
    exact ⟨by rw [hres.out]; rfl, below_put7 HB.out _ _ _ _ _ _ _⟩
  by_cases h8 : 7 < t.length + 1
  · have h6 : 6 < t.length := by omega
    have e6 : (c :: t)[7]? = some t[6] := by rw [List.getElem?_cons_succ, List.getElem?_eq_getElem h6]
    rw [show (F == generalW) = true from hg, decide_eq_true h8, e6] at hpn
    cases hlt : isLetter t[6]
    · have hres : Hid (out = .tuple #[partV { mp0 with kind := 3 }, .int .i64 7, .int .i64 0]) := Lib.hid (by rw [hpn.out]; simp [hlt, partOut])
      have CL := Lib.hid (fun W => letter_any t[6] W)
      rw [hlt] at CL
      clear hpn e6
      go_wp2_with fail
      refine (CL.out _).mono ?_
      rintro e w2 ⟨rfl, rfl⟩
      go_wp2_with fail
      refine bodyPost_ret (v := .tuple #[.agg #[.int .i64 3, .string ⟨#[]⟩, .int .i64 0, .bool false, .bool false, .int .i64 0, .int .i64 0], .int .i64 7, .int .i64 0]) (by simp [results, Tryd.results57, go_sem, r0, r1, r2, r3, r4, r5, r6]) rfl ?_
      exact ⟨by rw [hres.out]; rfl, below_put7 HB.out _ _ _ _ _ _ _⟩
    · have hres : Hid (out = .tuple #[partV mp0, .int .i64 0, .int .i64 6]) := Lib.hid (by rw [hpn.out]; simp [hlt, partOut])
      have CL := Lib.hid (fun W => letter_any t[6] W)
      rw [hlt] at CL
      clear hpn e6
      go_wp2_with fail
      refine (CL.out _).mono ?_
      rintro e w2 ⟨rfl, rfl⟩
      go_wp2_with fail
      refine bodyPost_ret (v := .tuple #[.agg #[.int .i64 0, .string ⟨#[]⟩, .int .i64 0, .bool false, .bool false, .int .i64 0, .int .i64 0], .int .i64 0, .int .i64 6]) (by simp [results, Tryd.results57, go_sem, r0, r1, r2, r3, r4, r5, r6]) rfl ?_
      exact ⟨by rw [hres.out]; rfl, below_put7 HB.out _ _ _ _ _ _ _⟩
  · rw [show (F == generalW) = true from hg, decide_eq_false h8] at hpn
    have hres : Hid (out = .tuple #[partV { mp0 with kind := 3 }, .int .i64 7, .int .i64 0]) := Lib.hid (by rw [hpn.out]; simp [partOut])
    clear hpn
    go_wp2_with fail
    refine bodyPost_ret (v := .tuple #[.agg #[.int .i64 3, .string ⟨#[]⟩, .int .i64 0, .bool false, .bool false, .int .i64 0, .int .i64 0], .int .i64 7, .int .i64 0]) (by simp [results, Tryd.results57, go_sem, r0, r1, r2, r3, r4, r5, r6]) rfl ?_
    exact ⟨by rw [hres.out]; rfl, below_put7 HB.out _ _ _ _ _ _ _⟩
end Go.Proofs.YteccjdclkcipbaaDoor
