/-
  ftext.trim; TRIM.
-/
import Derived.Test.YtpdaloohgfnbhaaGreatDoorFt22
import Derived.Test.YtpdaloohgfnbhaaGreatDoorShelfC
namespace Go.Proofs.YtpdaloohgfnbhaaGreatDoor
open Go.RowKit

/-- texts in memory, from a block's start -/
def TRow (W : World) (g : Nat) (L : List Bs) : Prop := g < W.heap.size ∧ ∀ j (h : j < L.length), W.cell? ⟨g, j, none⟩ = some (.string ⟨L[j].toArray⟩)
theorem trow_own {W : World} {base n : Nat} {v : Value} {L : List Bs} (h : W.ownsRow base 9 1 v n (L.map (fun p => Value.string ⟨p.toArray⟩))) (hn : n = L.length) : ∃ A cap, v = .slice A n cap ∧ n ≤ cap ∧ (0 < n → ∃ g, A = some ⟨g, 0, none⟩ ∧ TRow W g L) := by
  obtain ⟨hl, ⟨e, hz⟩ | ⟨g, cap, cur, e1, e2, e3, e4, e5, e6, e7⟩⟩ := h
  · exact ⟨none, 0, by rw [hz]; exact e, by omega, fun h => by omega⟩
  · refine ⟨_, cap, e1, e4, fun _ => ⟨g, rfl, ?_, fun j hj => ?_⟩⟩
    · rcases Nat.lt_or_ge g W.heap.size with h | h
      · exact h
      · rw [Array.getElem?_eq_none h] at e3
        cases e3
    · rw [Lib.cell_of_heap e3]
      have h2 : (cur.toList.take (n * 1))[j]? = cur.toList[j]? := List.getElem?_take_of_lt (by omega)
      rw [e7] at h2
      show cur[j]? = _
      rw [← Array.getElem?_toList, ← h2]
      simp [hj]
theorem sjoin_any (L : List Bs) (sep : Bs) (A : Option Addr) (cap : Nat) (w : World) (hl : L.length ≤ 1000) (hcap : L.length ≤ cap) (hj : (Lib.join L sep).length ≤ 100000)
    (hA : 0 < L.length → ∃ g, A = some ⟨g, 0, none⟩ ∧ TRow w g L) :
    Calls Tryz.prog 73 #[.slice A L.length cap, .string ⟨sep.toArray⟩] w fun e w' => e = .returned (.string ⟨(Lib.join L sep).toArray⟩) ∧ Below w.heap.size w w' := by
  by_cases h0 : L = []
  · subst h0
    refine (Tryz.strings_Join_none A cap ⟨sep.toArray⟩ w).mono ?_
    rintro e w' ⟨rfl, rfl⟩
    exact ⟨rfl, Below.refl _ _⟩
  · obtain ⟨g, rfl, hg, hc⟩ := hA (List.length_pos_iff.2 h0)
    have hm : (L.map (fun p => ByteArray.mk p.toArray)).map (·.data.toList) = L := by
      rw [List.map_map]
      exact (List.map_congr_left (fun a _ => rfl)).trans (List.map_id L)
    have h := Tryz.strings_Join g 0 cap (L.map (fun p => ByteArray.mk p.toArray)) ⟨sep.toArray⟩ w (by
      intro j x hx
      rw [List.getElem?_map] at hx
      obtain ⟨p, hp, rfl⟩ := Option.map_eq_some_iff.1 hx
      obtain ⟨hj2, rfl⟩ := List.getElem?_eq_some_iff.1 hp
      rw [Nat.zero_add]
      exact hc j hj2) hg (by rw [List.length_map]; omega) (by rw [List.length_map]; exact hcap) (by rw [hm]; exact Nat.le_trans hj (by decide))
    rw [hm, List.length_map] at h
    exact h
/-- the words among the first pieces -/
def wordsK (L : List Bs) (k : Nat) : List Bs := (L.take k).filter (fun p => decide (p ≠ []))
theorem wordsK_succ (L : List Bs) (k : Nat) (h : k < L.length) : wordsK L (k + 1) = if L[k] = [] then wordsK L k else wordsK L k ++ [L[k]] := by
  unfold wordsK
  rw [List.take_succ_eq_append_getElem h, List.filter_append]
  by_cases e : L[k] = [] <;> simp [e]
set_option maxRecDepth 100000 in
set_option maxHeartbeats 6400000 in
theorem ftrim_any (t : Bs) (ht : t.length ≤ 255) (B : Nat) (w : World) (hM : MaxVar w) (hI : IBk w B [tIt t]) :
    Calls Tryz.prog 38 #[.slice (some ⟨B, 0, none⟩) 1 1] w fun x w' => x = .returned (valV (vText (trimB t))) ∧ Below w.heap.size w w' := by
  have HB1 : Hid (Below w.heap.size w (w.alloc (.cells #[.int .i64 0, .int .i64 0, .int .i64 0, .string ⟨#[]⟩, .bool false, .int .i64 0] 35))) := Lib.hid ((Below.refl _ w).alloc (Nat.le_refl _) _)
  have HR1 : Hid (Lies (w.alloc (.cells #[.int .i64 0, .int .i64 0, .int .i64 0, .string ⟨#[]⟩, .bool false, .int .i64 0] 35)) w.heap.size 35 #[.int .i64 0, .int .i64 0, .int .i64 0, .string ⟨#[]⟩, .bool false, .int .i64 0]) := Lib.hid (Lies.new w _ _)
  have HI := Lib.hid (hI.next ((Below.refl _ w).alloc (Nat.le_refl _) (.cells #[.int .i64 0, .int .i64 0, .int .i64 0, .string ⟨#[]⟩, .bool false, .int .i64 0] 35)))
  have CS := Lib.hid (fun W (h : Below w.heap.size w W) => split_any t [32] W (hM.next h) (by omega) (by simp))
  have hln0 := split_len [32] (by simp) t
  rw [split_sp 32 _ t (Nat.le_refl _)] at hln0
  simp only [split_sp 32 _ t (Nat.le_refl _)] at CS
  have hlt0 := trimB_len t
  have hde : trimB t = Lib.join (wordsK (sp 32 t) (sp 32 t).length) [32] := by
    unfold trimB wordsK
    rw [List.take_length, jn_join]
  have hwl : ∀ k, (wordsK (sp 32 t) k).length ≤ (sp 32 t).length := fun k => by
    unfold wordsK
    exact Nat.le_trans (List.length_filter_le _ _) (by rw [List.length_take]; omega)
  obtain ⟨tr, htr⟩ : ∃ tr, trimB t = tr := ⟨_, rfl⟩
  rw [htr] at hde hlt0 ⊢
  clear htr hM hI
  generalize sp 32 t = L at *
  have CX := Lib.hid (fun W => text_any tr W (by omega))
  have CJ := Lib.hid (fun A cap W (h1 : (wordsK L L.length).length ≤ cap) (h2 : 0 < (wordsK L L.length).length → ∃ g, A = some ⟨g, 0, none⟩ ∧ TRow W g (wordsK L L.length)) => sjoin_any (wordsK L L.length) [32] A cap W (by have := hwl L.length; omega) h1 (by rw [← hde]; omega) h2)
  rw [← hde] at CJ
  have HWL := Lib.hid hwl
  obtain ⟨n, hn⟩ : ∃ n, n = L.length := ⟨_, rfl⟩
  have HN := Lib.hid hn
  have hn256 : n ≤ 256 := by omega
  rw [← hn] at CS CJ
  clear hn hln0 hlt0 hde hwl ht
  go_enter Tryz.func38, Tryz.ntmps38
  go_upto_region 1 with fail
  generalize w.alloc (.cells #[.int .i64 0, .int .i64 0, .int .i64 0, .string ⟨#[]⟩, .bool false, .int .i64 0] 35) = W1 at *
  generalize hqe : w.heap.size = q at *
  have HQ := Lib.hid hqe
  clear hqe
  have c0 : W1.cell? ⟨B, 0, none⟩ = some (.string ⟨t.toArray⟩) := HI.out.cell 0 (by simp) 0 (by decide)
  go_wp2_with fail
  refine (CS.out _ HB1.out).mono ?_
  rintro x w4 ⟨rfl, hs, hb⟩
  have hqs : q < W1.heap.size := HR1.out.lt
  have HB4 := Lib.hid (HB1.out.trans (hb.mono (Nat.le_of_lt hqs)))
  have HR4 := Lib.hid (HR1.out.next hb)
  have HS := Lib.hid hs
  generalize W1.heap.size = g at *
  have hqs4 : q < w4.heap.size := HR4.out.lt
  have HO4 : Hid (w4.ownsRow w4.heap.size 9 1 (.slice none 0 0) (wordsK L 0).length ((wordsK L 0).map (fun p => Value.string ⟨p.toArray⟩))) := Lib.hid (World.ownsRow_nil _ _ _ _)
  clear hb hs HB1 HR1 CS hqs c0 HI
  obtain ⟨i1, gi, gz0, gz1, gz2⟩ := info_parts infoString
  go_wp2_with fail
  go_loopw [12, 3] (fun v12 v3 wx => ∃ k : Nat, v12 = .int .i64 (k : Int) ∧ k ≤ n ∧ Hid (Below q w wx) ∧ Hid (Below w4.heap.size w4 wx) ∧ Hid (wx.ownsRow w4.heap.size 9 1 v3 (wordsK L k).length ((wordsK L k).map (fun p => Value.string ⟨p.toArray⟩)))) (fun v12 _ _ => n - (intOf v12).toNat)
  case atStart => exact ⟨0, rfl, Nat.zero_le _, HB4, Lib.hid (Below.refl _ _), HO4⟩
  case round =>
    obtain ⟨k, rfl, hk, hb, hb4, ho⟩ := hrel
    clear HB4 HO4
    have hgl : g < w4.heap.size := HS.out.lt
    have hqs : q < wr.heap.size := Nat.lt_of_lt_of_le hqs4 hb4.out.size
    by_cases hlt : k < n
    · have hkl : k < L.length := by rw [← HN.out]; exact hlt
      have c0 : wr.cell? ⟨g, k, none⟩ = some (.string ⟨L[k].toArray⟩) := (hb4.out.cell (p := ⟨g, k, none⟩) hgl).trans (HS.out.cell k hkl)
      have HTk := Lib.hid (wordsK_succ L k hkl)
      have HWk := Lib.hid (HWL.out k)
      generalize L[k] = p at *
      by_cases hp : p = []
      · subst hp
        have HO5 := ho.out
        rw [show wordsK L k = wordsK L (k + 1) by rw [HTk.out, if_pos rfl]] at HO5
        replace HO5 := Lib.hid HO5
        clear ho HTk HWk
        go_wp2_with fail
        go_roundw
        case rel => exact ⟨k + 1, by go_num, by omega, hb, hb4, HO5⟩
        case measure => simp [intOf]; omega
      · have hpe : p.isEmpty = false := by cases p with | nil => exact absurd rfl hp | cons => rfl
        have HTk2 : Hid (wordsK L (k + 1) = wordsK L k ++ [p]) := Lib.hid (by rw [HTk.out, if_neg hp])
        clear hp HTk
        have hwn : (wordsK L k).length ≤ 256 := Nat.le_trans HWk.out (by rw [← HN.out]; exact hn256)
        clear HWk
        generalize hwk : wordsK L k = D at *
        clear hwk
        go_wp2_with (at_builtin; refine wpList_append_own _ rfl _ _ 45 rfl w4.heap.size 9 i1 (.string ⟨#[]⟩) 1 16 Tryz.underlying45 gi gz0 gz1 gz2 rfl (by decide) _ _ _ rfl (World.ownsRow.alloc ho.out _) ⟨wr.heap.size, 0, none⟩ 1 1 [.string ⟨p.toArray⟩] rfl rfl ?c1 ?c2 ?c3 ?c4 ?c5 ?_)
        case c1 =>
          intro j u hj
          match j, hj with
          | 0, hj => simp at hj; subst hj; simp [Addr.add]
        case c2 => intro u hu; simp at hu; subst hu; rfl
        case c3 => unfold maxLen; omega
        case c4 => omega
        case c5 => have := hb4.out.size; rw [World.size_alloc]; omega
        intro v' W6 hown' hgrow _
        have HB6 : Hid (Below q w W6) := Lib.hid ((hb.out.alloc (by omega) _).grown hgrow (by rw [World.size_alloc]; omega) (fun r e => by have := ((World.ownsRow.alloc ho.out (.cells #[.string ⟨p.toArray⟩] 9)).lt _ e).1; omega))
        have HB64 : Hid (Below w4.heap.size w4 W6) := Lib.hid ((hb4.out.alloc hb4.out.size _).grown hgrow (by rw [World.size_alloc]; have := hb4.out.size; omega) (fun r e => (World.ownsRow.alloc ho.out (.cells #[.string ⟨p.toArray⟩] 9)).lt _ e |>.1))
        have HO6 : Hid (W6.ownsRow w4.heap.size 9 1 v' (wordsK L (k + 1)).length ((wordsK L (k + 1)).map (fun p => Value.string ⟨p.toArray⟩))) := Lib.hid (by rw [HTk2.out]; simpa using hown')
        clear hown' hgrow hb hb4 ho HTk2
        go_wp2_with fail
        go_roundw
        case rel => exact ⟨k + 1, by go_num, by omega, HB6, HB64, HO6⟩
        case measure => simp [intOf]; omega
    · obtain rfl : n = k := by omega
      obtain ⟨A, cap, rfl, hcap, hT⟩ := trow_own ho.out rfl
      have CJ2 := Lib.hid (CJ.out A cap wr hcap hT)
      have HR6 := Lib.hid (HR4.out.next hb4.out)
      clear ho hb4 hcap hT CJ
      generalize (wordsK L n).length = m at *
      go_wp2_with fail
      refine CJ2.out.mono ?_
      rintro x w7 ⟨rfl, hb7⟩
      have HR7 := Lib.hid (HR6.out.next hb7)
      have HB7 := Lib.hid (hb.out.trans (hb7.mono (Nat.le_of_lt HR6.out.lt)))
      clear hb hb7 HR6 CJ2
      go_wp2_with fail
      refine (CX.out _).mono ?_
      rintro x w9 ⟨rfl, hb9⟩
      have HR9 := Lib.hid (HR7.out.next hb9)
      have HB9 := Lib.hid (HB7.out.trans (hb9.mono (Nat.le_of_lt HR7.out.lt)))
      clear hb9 HR7 HB7
      obtain ⟨r, hr⟩ : ∃ r, (vText tr) = r := ⟨_, rfl⟩
      rw [hr]
      obtain ⟨rk, rm, re, rt, rtr, rf⟩ := r
      have x0 := HR9.out.cell 0
      have x1 := HR9.out.cell 1
      have x2 := HR9.out.cell 2
      have x3 := HR9.out.cell 3
      have x4 := HR9.out.cell 4
      have x5 := HR9.out.cell 5
      have f0 := HR9.out.frozen 0
      have f1 := HR9.out.frozen 1
      have f2 := HR9.out.frozen 2
      have f3 := HR9.out.frozen 3
      have f4 := HR9.out.frozen 4
      have f5 := HR9.out.frozen 5
      simp only [List.getElem?_toArray, List.getElem?_cons_zero, List.getElem?_cons_succ] at x0 x1 x2 x3 x4 x5
      dsimp only [valV, valC]
      go_wp2_with fail
      refine bodyPost_ret (v := .agg #[.int .i64 rk, .int .i64 rm, .int .i64 re, .string ⟨rt.toArray⟩, .bool rtr, .int .i64 rf]) (by simp [results, Tryz.results38, go_sem, x0, x1, x2, x3, x4, x5]) rfl ?_
      refine ⟨by first | rfl | rw [hr], ?_⟩
      rw [HQ.out]
      exact st6_below (i := 0) (x := ⟨rk, rm, re, rt, rtr, rf⟩) HB9.out (Nat.le_refl _)
theorem call_trim (t : Bs) (ht : t.length ≤ 255) (b cap : Nat) (w : World) (hP : PowTab w) (hM : MaxVar w) (hA : Args w b [arr1 (tV t)]) :
    Calls Tryz.prog 9 #[.string ⟨#[84, 82, 73, 77]⟩, .slice (some ⟨b, 0, none⟩) 1 cap] w (CallPost (arr1 (vText (trimB t))) w) := by
  refine callThr_any 6 ents12[6] (by decide) rfl 1 1 [tV t] [tIt t] (vText (trimB t)) b cap w (fun q => by rfl) ?_ (by decide) (by simp) (by simp) (by decide) (by simp) hA ?_ (Asked.cons (fun W hb => ask_text t W (hP.next hb)) (Asked.nil _ _)) ?_
  · intro k hk
    have hk2 : k ∈ ([38, 31] : List Nat) := hk
    rcases (by simpa using hk2 : k = 38 ∨ k = 31) with rfl | rfl
    · exact enters_of Tryz.func38 (by kernel_rfl) rfl
    · exact enters_of Tryz.func31 (by kernel_rfl) rfl
  · intro v hv
    rcases (by simpa using hv : v = tV t) with rfl
    exact tV_fine (by omega)
  · intro W B hb hI
    exact ftrim_any t (by omega) B W (hM.next hb) hI
end Go.Proofs.YtpdaloohgfnbhaaGreatDoor
