/-
  ref05.Join: what it returns.
-/
import Derived.Test.YtcgdeoldgnjdeaaDoorJoin2
import Derived.Test.YtcgdeoldgnjdeaaDoorJoin4
namespace Go.Proofs.YtcgdeoldgnjdeaaDoor
open Go.RowKit

theorem quoteB_take (b : Bs) (k : Nat) (hlt : k < b.length) : quoteB (b.take (k + 1)) = quoteB (b.take k) ++ if b[k] = 34 then [34, 34] else [b[k]] := by
  rw [List.take_succ_eq_append_getElem hlt, quoteB_app]
  simp only [quoteB]
set_option maxRecDepth 100000 in
set_option maxHeartbeats 6400000 in
theorem rjoin_any (A : Option Addr) (cap : Nat) (ts : List RTok) (w : World) (hn : ts.length ≤ 1000) (hts : ∀ t ∈ ts, t.text.length ≤ 1000) (h5 : ∀ t ∈ ts, t.kind = 5 → t.text ≠ []) (hin : RIn w A ts) :
    Calls Tryd.prog 49 #[.slice A ts.length cap] w fun e w' => e = .returned (.string ⟨(joinF none ts).toArray⟩) ∧ Below w.heap.size w w' := by
  have HIN := Lib.hid hin
  have HTS := Lib.hid hts
  have H5 := Lib.hid h5
  clear hin hts h5
  go_enter Tryd.func49, Tryd.ntmps49
  go_wp2_with fail
  go_loopg [3, 4] (ts.length) (fun gk s i wr => ∃ k : Nat, k ≤ ts.length ∧ gk = ts.length - k ∧ i = .int .i64 k ∧ s = .string ⟨(joinF none (ts.take k)).toArray⟩ ∧ Hid (Below w.heap.size w wr))
  case atStart => exact ⟨0, Nat.zero_le _, rfl, rfl, rfl, Lib.hid (Below.refl _ _)⟩
  case round =>
    obtain ⟨k, hk, hgk, rfl, rfl, HBE⟩ := hrel
    have HGK := Lib.hid hgk
    clear hgk
    have hjl := joinF_len (ts.take k) none (fun t ht => HTS.out t (List.mem_of_mem_take ht))
    rw [List.length_take, Nat.min_eq_left hk] at hjl
    by_cases hlt : k < ts.length
    · obtain ⟨g, o, rfl, hg, hc⟩ := HIN.out (by omega)
      obtain ⟨c0, c1, c2⟩ := hc k hlt
      have d0 : wr.cell? ⟨g, o + k * 3, none⟩ = some (.int .i64 ts[k].kind) := (HBE.out.cell (p := ⟨g, _, none⟩) hg).trans c0
      have d1 : wr.cell? ⟨g, o + k * 3 + 1, none⟩ = some (.string ⟨ts[k].text.toArray⟩) := (HBE.out.cell (p := ⟨g, _, none⟩) hg).trans c1
      have d2 : wr.cell? ⟨g, o + k * 3 + 2, none⟩ = some (.int .i64 ts[k].place) := (HBE.out.cell (p := ⟨g, _, none⟩) hg).trans c2
      clear c0 c1 c2
      have HC := Lib.hid hc
      clear hc
      have hk0 : (0 : Int) ≤ (k : Int) := Int.natCast_nonneg _
      have hk1 : (k : Int) < (ts.length : Int) := by omega
      have HSN : Hid (joinF none (ts.take (k + 1)) = (joinF none (ts.take k) ++ sepZ (lastOr none (ts.take k)) ts[k]) ++ outZ ts[k]) := Lib.hid (by rw [List.take_succ_eq_append_getElem hlt, joinF_snoc]; simp)
      go_wp2_with fail
      go_cut [25] (fun v wx => v = .bool (needZ (lastOr none (ts.take k)) ts[k]) ∧ Hid (Below wr.heap.size wr wx))
      case first =>
        cases k with
        | zero =>
          have hd : decide ((0 : Int) < ((0 : Nat) : Int)) = false := by decide
          go_quiet (fail)
          go_wp2_with fail
          go_meet
          exact ⟨rfl, Lib.hid (below_drewN (Below.refl _ _) _)⟩
        | succ j =>
          have hjl2 : j < ts.length := by omega
          obtain ⟨c0, c1, c2⟩ := HC.out j hjl2
          have z0 : wr.cell? ⟨g, o + j * 3, none⟩ = some (.int .i64 ts[j].kind) := (HBE.out.cell (p := ⟨g, _, none⟩) hg).trans c0
          have z1 : wr.cell? ⟨g, o + j * 3 + 1, none⟩ = some (.string ⟨ts[j].text.toArray⟩) := (HBE.out.cell (p := ⟨g, _, none⟩) hg).trans c1
          have z2 : wr.cell? ⟨g, o + j * 3 + 2, none⟩ = some (.int .i64 ts[j].place) := (HBE.out.cell (p := ⟨g, _, none⟩) hg).trans c2
          clear c0 c1 c2
          have CAP := Lib.hid (fun W => rapart_any ts[j] ts[j + 1] W (H5.out _ (List.getElem_mem hlt)))
          simp only [RTok.cells] at CAP
          have HN : Hid (needZ (lastOr none (ts.take (j + 1))) ts[j + 1] = apartZ ts[j] ts[j + 1]) := Lib.hid (by rw [lastOr_take ts j hjl2]; rfl)
          have hsz := HBE.out.size
          have hgw : g < wr.heap.size := by omega
          clear HC HTS HSN H5
          generalize ts[j] = a at *
          generalize ts[j + 1] = b at *
          obtain ⟨ka, ta, pa⟩ := a
          obtain ⟨kb, tb, pb⟩ := b
          simp only at z0 z1 z2 d0 d1 d2 CAP
          have hd : decide ((0 : Int) < ((j + 1 : Nat) : Int)) = true := by simp
          have hwj : IntKind.i64.wrap (((j + 1 : Nat) : Int) - 1) = (j : Int) := by rw [IntWalk.i64_in _ (by omega)]; omega
          have hwj2 : IntKind.i64.wrap (j : Int) = (j : Int) := IntWalk.i64_in _ (by omega)
          have hwj3 : IntKind.i64.wrap ((j : Int) + 1 - 1) = (j : Int) := by rw [IntWalk.i64_in _ (by omega)]; omega
          have hj0 : (0 : Int) ≤ (j : Int) := Int.natCast_nonneg _
          have hj1 : (j : Int) < (ts.length : Int) := by omega
          have hj2 : (0 : Int) ≤ (j : Int) + 1 := by omega
          have hj3 : (j : Int) + 1 < (ts.length : Int) := by omega
          go_region_held3 (fun w' => w'.cell? ⟨g, o + j * 3, none⟩ = some (.int .i64 ka) ∧ w'.cell? ⟨g, o + j * 3 + 1, none⟩ = some (.string ⟨ta.toArray⟩) ∧ w'.cell? ⟨g, o + j * 3 + 2, none⟩ = some (.int .i64 pa) ∧ w'.cell? ⟨g, o + (j + 1) * 3, none⟩ = some (.int .i64 kb) ∧ w'.cell? ⟨g, o + (j + 1) * 3 + 1, none⟩ = some (.string ⟨tb.toArray⟩) ∧ w'.cell? ⟨g, o + (j + 1) * 3 + 2, none⟩ = some (.int .i64 pb))
            (first | go_keep | (go_split_ands; exact ⟨(hb.cell (p := ⟨g, _, none⟩) hgw).trans (by assumption), (hb.cell (p := ⟨g, _, none⟩) hgw).trans (by assumption), (hb.cell (p := ⟨g, _, none⟩) hgw).trans (by assumption), (hb.cell (p := ⟨g, _, none⟩) hgw).trans (by assumption), (hb.cell (p := ⟨g, _, none⟩) hgw).trans (by assumption), (hb.cell (p := ⟨g, _, none⟩) hgw).trans (by assumption)⟩))
            (first
              | (go_at_call 89; (with_reducible refine (CAP.out _).mono ?_); rintro e wx ⟨rfl, hb⟩))
          all_goals go_wp2_with fail
          all_goals go_meet
          all_goals exact ⟨congrArg Value.bool HN.out.symm, Lib.hid ((Below.refl _ wr).drew.trans hb)⟩
      case rest =>
        obtain ⟨rfl, HB5⟩ := hcut
        obtain ⟨w5, hw5⟩ : ∃ w5 : World, w5 = wc := ⟨_, rfl⟩
        subst hw5
        have HB6 : Hid (Below w.heap.size w w5) := Lib.hid (HBE.out.trans (HB5.out.mono HBE.out.size))
        clear d0 d1 d2 HBE HB5
        obtain ⟨c0, c1, c2⟩ := HC.out k hlt
        have d0 : w5.cell? ⟨g, o + k * 3, none⟩ = some (.int .i64 ts[k].kind) := (HB6.out.cell (p := ⟨g, _, none⟩) hg).trans c0
        have d1 : w5.cell? ⟨g, o + k * 3 + 1, none⟩ = some (.string ⟨ts[k].text.toArray⟩) := (HB6.out.cell (p := ⟨g, _, none⟩) hg).trans c1
        clear c0 c1 c2 HC HIN
        go_upto_if 25 with fail
        go_cut [3] (fun v wx => v = .string ⟨(joinF none (ts.take k) ++ sepZ (lastOr none (ts.take k)) ts[k]).toArray⟩ ∧ w5 = wx)
        case first =>
          cases hnd : needZ (lastOr none (ts.take k)) ts[k]
          · have HSP : Hid (sepZ (lastOr none (ts.take k)) ts[k] = []) := Lib.hid (by rw [sepZ_need, hnd]; rfl)
            go_wp2_with fail
            go_meet
            exact ⟨str_eq (by rw [HSP.out, List.append_nil]), rfl⟩
          · have HSP : Hid (sepZ (lastOr none (ts.take k)) ts[k] = [32]) := Lib.hid (by rw [sepZ_need, hnd]; rfl)
            go_wp2_with fail
            go_meet
            exact ⟨str_eq (by rw [HSP.out]), rfl⟩
        case rest =>
          obtain ⟨rfl, rfl⟩ := hcut
          have htl := HTS.out ts[k] (List.getElem_mem hlt)
          have hql := quoteB_len ts[k].text
          have HZ : Hid (outZ ts[k] = if ts[k].kind == 2 then 34 :: (quoteB ts[k].text ++ [34]) else ts[k].text) := Lib.hid rfl
          have hsl : (joinF none (ts.take k) ++ sepZ (lastOr none (ts.take k)) ts[k]).length ≤ 3000000 := by
            have : (sepZ (lastOr none (ts.take k)) ts[k]).length ≤ 1 := by
              rw [sepZ_need]
              split <;> decide
            rw [List.length_append]
            omega
          generalize joinF none (ts.take k) ++ sepZ (lastOr none (ts.take k)) ts[k] = acc at *
          clear HTS H5
          generalize ts[k] = t at *
          obtain ⟨kd, tx, pl⟩ := t
          simp only at *
          cases h2 : (kd == 2)
          · rw [h2] at HZ
            have HZ2 : Hid (joinF none (ts.take (k + 1)) = acc ++ tx) := Lib.hid (by rw [HSN.out, HZ.out]; rfl)
            have hn2 : (kd != 2) = true := by rw [bne, h2]; rfl
            clear HZ HSN
            go_wp2_with fail
            go_roundg (ts.length - (k + 1))
            case rel => exact ⟨k + 1, by omega, rfl, by go_num, str_eq (by rw [HZ2.out]), HB6⟩
            case measure => rw [HGK.out]; omega
          · rw [h2] at HZ
            have HZ2 : Hid (joinF none (ts.take (k + 1)) = acc ++ (34 :: (quoteB tx ++ [34]))) := Lib.hid (by rw [HSN.out, HZ.out]; rfl)
            have hn2 : (kd != 2) = false := by rw [bne, h2]; rfl
            clear HZ HSN
            go_wp2_with fail
            go_loopg [3, 5] (tx.length) (fun gq s i wq => ∃ m : Nat, m ≤ tx.length ∧ gq = tx.length - m ∧ i = .int .i64 m ∧ s = .string ⟨(acc ++ (34 :: quoteB (tx.take m))).toArray⟩ ∧ w5 = wq)
            case atStart => exact ⟨0, Nat.zero_le _, rfl, rfl, str_eq (by simp [quoteB]), rfl⟩
            case round =>
              obtain ⟨m, hm, hgm, rfl, rfl, rfl⟩ := hrel
              have HGM := Lib.hid hgm
              clear hgm
              have hqm := quoteB_len (tx.take m)
              rw [List.length_take, Nat.min_eq_left hm] at hqm
              by_cases hml : m < tx.length
              · have HNX := Lib.hid (quoteB_take tx m hml)
                have HT1 : Hid (List.take 1 (List.drop m tx) = [tx[m]]) := Lib.hid (by rw [List.drop_eq_getElem_cons hml]; rfl)
                have e34 := at_beq tx m 34 34 rfl hml
                cases h34 : atIs tx m 34
                · have hne : tx[m] ≠ 34 := ne_of_at hml h34
                  have HN2 : Hid (quoteB (tx.take (m + 1)) = quoteB (tx.take m) ++ [tx[m]]) := Lib.hid (by rw [HNX.out, if_neg hne])
                  rw [h34] at e34
                  clear HNX hne
                  go_wp2_with fail
                  go_roundg (tx.length - (m + 1))
                  case rel => exact ⟨m + 1, by omega, rfl, by go_num, str_eq (by rw [HN2.out, HT1.out]), rfl⟩
                  case measure => rw [HGM.out]; omega
                · have heq : Hid (tx[m] = 34) := Lib.hid (at_get hml h34)
                  have HN2 : Hid (quoteB (tx.take (m + 1)) = quoteB (tx.take m) ++ [34, 34]) := Lib.hid (by rw [HNX.out, if_pos heq.out])
                  rw [h34] at e34
                  clear HNX
                  go_wp2_with fail
                  go_roundg (tx.length - (m + 1))
                  case rel => exact ⟨m + 1, by omega, rfl, by go_num, str_eq (by rw [HN2.out, HT1.out, heq.out]; simp), rfl⟩
                  case measure => rw [HGM.out]; omega
              · have e : m = tx.length := by omega
                have HE : Hid (tx.take m = tx) := Lib.hid (by rw [e, List.take_length])
                clear e
                go_wp2_with fail
                go_roundg (ts.length - (k + 1))
                case rel => exact ⟨k + 1, by omega, rfl, by go_num, str_eq (by rw [HZ2.out, HE.out]), HB6⟩
                case measure => rw [HGK.out]; omega
    · have e : k = ts.length := by omega
      have HE : Hid (ts.take k = ts) := Lib.hid (by rw [e, List.take_length])
      clear e
      go_wp2_with fail
      go_ret
      exact ⟨congrArg (fun l : List RTok => Ending.returned (.string ⟨(joinF none l).toArray⟩)) HE.out, HBE.out⟩
end Go.Proofs.YtcgdeoldgnjdeaaDoor
