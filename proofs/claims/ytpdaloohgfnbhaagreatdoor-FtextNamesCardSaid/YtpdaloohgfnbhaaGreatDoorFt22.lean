/-
  Calls of the table's functions by name; the statements' helpers; law12.awake; a call whose first argument is refused.
-/
import Derived.Test.YtpdaloohgfnbhaaGreatDoorFt17
import Derived.Test.YtpdaloohgfnbhaaGreatDoorFt9
namespace Go.Proofs.YtpdaloohgfnbhaaGreatDoor
open Go.RowKit

theorem Asked.nil (ks : List Nat) (w : World) : Asked ks [] [] w := ⟨rfl, fun _ _ h => absurd h (Nat.not_lt_zero _)⟩
theorem Asked.cons {k : Nat} {ks : List Nat} {v : Val} {vs : List Val} {x : It} {xs : List It} {w : World} (h : ∀ W, Below w.heap.size w W → Calls Tryz.prog k #[valV v] W fun e w' => e = .returned (.tuple #[itV x, .int .i64 0]) ∧ Below W.heap.size W w') (hr : Asked ks vs xs w) : Asked (k :: ks) (v :: vs) (x :: xs) w := by
  refine ⟨by rw [List.length_cons, List.length_cons, hr.1], fun i h1 h2 h3 W hb => ?_⟩
  cases i with
  | zero => exact h W hb
  | succ i => exact hr.2 i (by simpa using h1) (by simpa using h2) (by simpa using h3) W hb
theorem tV_fine {t : Bs} (h : t.length ≤ 255) : vRight (tV t) = true ∧ (tV t).sane := ⟨by simp [vRight, h], by simp, by simp, by simp; omega⟩
theorem dV_fine {k : Nat} (h : k ≤ 9) : vRight (dV k) = true ∧ (dV k).sane := by
  refine ⟨?_, by show (-9223372036854775808 : Int) ≤ (k : Int); omega, by show (k : Int) ≤ 9223372036854775807; omega, by simp⟩
  have := digit_right k h
  simp [vRight, this]
theorem call_len (t : Bs) (ht : t.length ≤ 255) (b cap : Nat) (w : World) (hP : PowTab w) (hA : Args w b [arr1 (tV t)]) :
    Calls Tryz.prog 9 #[.string ⟨#[76, 69, 78]⟩, .slice (some ⟨b, 0, none⟩) 1 cap] w (CallPost (arr1 (pCount t.length)) w) := by
  refine callThr_any 0 ents12[0] (by decide) rfl 1 1 [tV t] [tIt t] (pCount t.length) b cap w (fun q => by rfl) ?_ (by decide) (by simp) (by simp) (by decide) (by simp) hA ?_ (Asked.cons (fun W hb => ask_text t W (hP.next hb)) (Asked.nil _ _)) ?_
  · intro k hk
    have hk2 : k ∈ ([30, 31] : List Nat) := hk
    rcases (by simpa using hk2 : k = 30 ∨ k = 31) with rfl | rfl
    · exact enters_of Tryz.func30 (by kernel_rfl) rfl
    · exact enters_of Tryz.func31 (by kernel_rfl) rfl
  · intro v hv
    rcases (by simpa using hv : v = tV t) with rfl
    exact tV_fine (by omega)
  · intro W B hb hI
    exact flength_any t (by omega) B W (hP.next hb) hI
theorem call_left (t : Bs) (n : Nat) (ht : t.length ≤ 255) (hn : n ≤ 9) (b cap : Nat) (w : World) (hP : PowTab w) (hA : Args w b [arr1 (tV t), arr1 (dV n)]) :
    Calls Tryz.prog 9 #[.string ⟨#[76, 69, 70, 84]⟩, .slice (some ⟨b, 0, none⟩) 2 cap] w (CallPost (arr1 (vText (t.take (min n t.length)))) w) := by
  refine callThr_any 1 ents12[1] (by decide) rfl 1 2 [tV t, dV n] [tIt t, nIt n] (vText (t.take (min n t.length))) b cap w (fun q => by rfl) ?_ (by decide) (by simp) (by simp) (by decide) (by simp) hA ?_ (Asked.cons (fun W hb => ask_text t W (hP.next hb)) (Asked.cons (fun W hb => ask_whole n (by omega) W) (Asked.nil _ _))) ?_
  · intro k hk
    have hk2 : k ∈ ([32, 31, 33] : List Nat) := hk
    rcases (by simpa using hk2 : k = 32 ∨ k = 31 ∨ k = 33) with rfl | rfl | rfl
    · exact enters_of Tryz.func32 (by kernel_rfl) rfl
    · exact enters_of Tryz.func31 (by kernel_rfl) rfl
    · exact enters_of Tryz.func33 (by kernel_rfl) rfl
  · intro v hv
    rcases (by simpa using hv : v = tV t ∨ v = dV n) with rfl | rfl
    · exact tV_fine (by omega)
    · exact dV_fine (by omega)
  · intro W B hb hI
    exact fleft_any t n (by omega) B W hI
theorem call_right (t : Bs) (n : Nat) (ht : t.length ≤ 255) (hn : n ≤ 9) (b cap : Nat) (w : World) (hP : PowTab w) (hA : Args w b [arr1 (tV t), arr1 (dV n)]) :
    Calls Tryz.prog 9 #[.string ⟨#[82, 73, 71, 72, 84]⟩, .slice (some ⟨b, 0, none⟩) 2 cap] w (CallPost (arr1 (vText (t.drop (t.length - min n t.length)))) w) := by
  refine callThr_any 2 ents12[2] (by decide) rfl 1 2 [tV t, dV n] [tIt t, nIt n] (vText (t.drop (t.length - min n t.length))) b cap w (fun q => by rfl) ?_ (by decide) (by simp) (by simp) (by decide) (by simp) hA ?_ (Asked.cons (fun W hb => ask_text t W (hP.next hb)) (Asked.cons (fun W hb => ask_whole n (by omega) W) (Asked.nil _ _))) ?_
  · intro k hk
    have hk2 : k ∈ ([34, 31, 33] : List Nat) := hk
    rcases (by simpa using hk2 : k = 34 ∨ k = 31 ∨ k = 33) with rfl | rfl | rfl
    · exact enters_of Tryz.func34 (by kernel_rfl) rfl
    · exact enters_of Tryz.func31 (by kernel_rfl) rfl
    · exact enters_of Tryz.func33 (by kernel_rfl) rfl
  · intro v hv
    rcases (by simpa using hv : v = tV t ∨ v = dV n) with rfl | rfl
    · exact tV_fine (by omega)
    · exact dV_fine (by omega)
  · intro W B hb hI
    exact fright_any t n (by omega) B W hI
theorem call_mid (t : Bs) (n m : Nat) (ht : t.length ≤ 255) (hn : n ≤ 9) (hm : m ≤ 9) (b cap : Nat) (w : World) (hP : PowTab w) (hA : Args w b [arr1 (tV t), arr1 (dV n), arr1 (dV m)]) :
    Calls Tryz.prog 9 #[.string ⟨#[77, 73, 68]⟩, .slice (some ⟨b, 0, none⟩) 3 cap] w (CallPost (arr1 (pMid t n m)) w) := by
  refine callThr_any 3 ents12[3] (by decide) rfl 3 3 [tV t, dV n, dV m] [tIt t, nIt n, nIt m] (pMid t n m) b cap w (fun q => by rfl) ?_ (by decide) (by simp) (by simp) (by decide) (by simp) hA ?_ (Asked.cons (fun W hb => ask_text t W (hP.next hb)) (Asked.cons (fun W hb => ask_whole n (by omega) W) (Asked.cons (fun W hb => ask_whole m (by omega) W) (Asked.nil _ _)))) ?_
  · intro k hk
    have hk2 : k ∈ ([35, 31, 33, 33] : List Nat) := hk
    rcases (by simpa using hk2 : k = 35 ∨ k = 31 ∨ k = 33) with rfl | rfl | rfl
    · exact enters_of Tryz.func35 (by kernel_rfl) rfl
    · exact enters_of Tryz.func31 (by kernel_rfl) rfl
    · exact enters_of Tryz.func33 (by kernel_rfl) rfl
  · intro v hv
    rcases (by simpa using hv : v = tV t ∨ v = dV n ∨ v = dV m) with rfl | rfl | rfl
    · exact tV_fine (by omega)
    · exact dV_fine (by omega)
    · exact dV_fine (by omega)
  · intro W B hb hI
    exact fmid_any t n m (by omega) B W hI
theorem call_upper (t : Bs) (ht : t.length ≤ 255) (b cap : Nat) (w : World) (hP : PowTab w) (hA : Args w b [arr1 (tV t)]) :
    Calls Tryz.prog 9 #[.string ⟨#[85, 80, 80, 69, 82]⟩, .slice (some ⟨b, 0, none⟩) 1 cap] w (CallPost (arr1 (vText (t.map (chg 97 122 (· - 32))))) w) := by
  refine callThr_any 4 ents12[4] (by decide) rfl 1 1 [tV t] [tIt t] (vText (t.map (chg 97 122 (· - 32)))) b cap w (fun q => by rfl) ?_ (by decide) (by simp) (by simp) (by decide) (by simp) hA ?_ (Asked.cons (fun W hb => ask_text t W (hP.next hb)) (Asked.nil _ _)) ?_
  · intro k hk
    have hk2 : k ∈ ([36, 31] : List Nat) := hk
    rcases (by simpa using hk2 : k = 36 ∨ k = 31) with rfl | rfl
    · exact enters_of Tryz.func36 (by kernel_rfl) rfl
    · exact enters_of Tryz.func31 (by kernel_rfl) rfl
  · intro v hv
    rcases (by simpa using hv : v = tV t) with rfl
    exact tV_fine (by omega)
  · intro W B hb hI
    exact fupper_any t (by omega) B W hI
theorem call_lower (t : Bs) (ht : t.length ≤ 255) (b cap : Nat) (w : World) (hP : PowTab w) (hA : Args w b [arr1 (tV t)]) :
    Calls Tryz.prog 9 #[.string ⟨#[76, 79, 87, 69, 82]⟩, .slice (some ⟨b, 0, none⟩) 1 cap] w (CallPost (arr1 (vText (t.map (chg 65 90 (· + 32))))) w) := by
  refine callThr_any 5 ents12[5] (by decide) rfl 1 1 [tV t] [tIt t] (vText (t.map (chg 65 90 (· + 32)))) b cap w (fun q => by rfl) ?_ (by decide) (by simp) (by simp) (by decide) (by simp) hA ?_ (Asked.cons (fun W hb => ask_text t W (hP.next hb)) (Asked.nil _ _)) ?_
  · intro k hk
    have hk2 : k ∈ ([37, 31] : List Nat) := hk
    rcases (by simpa using hk2 : k = 37 ∨ k = 31) with rfl | rfl
    · exact enters_of Tryz.func37 (by kernel_rfl) rfl
    · exact enters_of Tryz.func31 (by kernel_rfl) rfl
  · intro v hv
    rcases (by simpa using hv : v = tV t) with rfl
    exact tV_fine (by omega)
  · intro W B hb hI
    exact flower_any t (by omega) B W hI
theorem call_find (p t : Bs) (hp : p.length ≤ 255) (ht : t.length ≤ 255) (b cap : Nat) (w : World) (hP : PowTab w) (hM : MaxVar w) (hA : Args w b [arr1 (tV p), arr1 (tV t)]) :
    Calls Tryz.prog 9 #[.string ⟨#[70, 73, 78, 68]⟩, .slice (some ⟨b, 0, none⟩) 2 cap] w (CallPost (arr1 (pFind p t)) w) := by
  refine callThr_any 7 ents12[7] (by decide) rfl 2 3 [tV p, tV t] [tIt p, tIt t] (pFind p t) b cap w (fun q => by rfl) ?_ (by decide) (by simp) (by simp) (by decide) (by simp) hA ?_ (Asked.cons (fun W hb => ask_text p W (hP.next hb)) (Asked.cons (fun W hb => ask_text t W (hP.next hb)) (Asked.nil _ _))) ?_
  · intro k hk
    have hk2 : k ∈ ([39, 31, 31, 33] : List Nat) := hk
    rcases (by simpa using hk2 : k = 39 ∨ k = 31 ∨ k = 33) with rfl | rfl | rfl
    · exact enters_of Tryz.func39 (by kernel_rfl) rfl
    · exact enters_of Tryz.func31 (by kernel_rfl) rfl
    · exact enters_of Tryz.func33 (by kernel_rfl) rfl
  · intro v hv
    rcases (by simpa using hv : v = tV p ∨ v = tV t) with rfl | rfl
    · exact tV_fine (by omega)
    · exact tV_fine (by omega)
  · intro W B hb hI
    exact ffind_any p t (by omega) B W (hP.next hb) (hM.next hb) hI
theorem call_substitute (t s : Bs) (ht : t.length ≤ 255) (hs : s.length ≤ 255) (b cap : Nat) (w : World) (hP : PowTab w) (hM : MaxVar w) (hA : Args w b [arr1 (tV t), arr1 (tV s), arr1 (tV s)]) :
    Calls Tryz.prog 9 #[.string ⟨#[83, 85, 66, 83, 84, 73, 84, 85, 84, 69]⟩, .slice (some ⟨b, 0, none⟩) 3 cap] w (CallPost (arr1 (vText t)) w) := by
  refine callThr_any 8 ents12[8] (by decide) rfl 3 4 [tV t, tV s, tV s] [tIt t, tIt s, tIt s] (vText t) b cap w (fun q => by rfl) ?_ (by decide) (by simp) (by simp) (by decide) (by simp) hA ?_ (Asked.cons (fun W hb => ask_text t W (hP.next hb)) (Asked.cons (fun W hb => ask_text s W (hP.next hb)) (Asked.cons (fun W hb => ask_text s W (hP.next hb)) (Asked.nil _ _)))) ?_
  · intro k hk
    have hk2 : k ∈ ([40, 31, 31, 31, 33] : List Nat) := hk
    rcases (by simpa using hk2 : k = 40 ∨ k = 31 ∨ k = 33) with rfl | rfl | rfl
    · exact enters_of Tryz.func40 (by kernel_rfl) rfl
    · exact enters_of Tryz.func31 (by kernel_rfl) rfl
    · exact enters_of Tryz.func33 (by kernel_rfl) rfl
  · intro v hv
    rcases (by simpa using hv : v = tV t ∨ v = tV s ∨ v = tV s) with rfl | rfl | rfl
    · exact tV_fine (by omega)
    · exact tV_fine (by omega)
    · exact tV_fine (by omega)
  · intro W B hb hI
    exact fsubstitute_any t s ht hs B W (hM.next hb) hI
theorem call_rept (t : Bs) (n : Nat) (ht : t.length ≤ 255) (hn : n ≤ 9) (hl : t.length * n ≤ 255) (b cap : Nat) (w : World) (hP : PowTab w) (hA : Args w b [arr1 (tV t), arr1 (dV n)]) :
    Calls Tryz.prog 9 #[.string ⟨#[82, 69, 80, 84]⟩, .slice (some ⟨b, 0, none⟩) 2 cap] w (CallPost (arr1 (vText (Lib.repeatL t n))) w) := by
  refine callThr_any 9 ents12[9] (by decide) rfl 2 2 [tV t, dV n] [tIt t, nIt n] (vText (Lib.repeatL t n)) b cap w (fun q => by rfl) ?_ (by decide) (by simp) (by simp) (by decide) (by simp) hA ?_ (Asked.cons (fun W hb => ask_text t W (hP.next hb)) (Asked.cons (fun W hb => ask_whole n (by omega) W) (Asked.nil _ _))) ?_
  · intro k hk
    have hk2 : k ∈ ([41, 31, 33] : List Nat) := hk
    rcases (by simpa using hk2 : k = 41 ∨ k = 31 ∨ k = 33) with rfl | rfl | rfl
    · exact enters_of Tryz.func41 (by kernel_rfl) rfl
    · exact enters_of Tryz.func31 (by kernel_rfl) rfl
    · exact enters_of Tryz.func33 (by kernel_rfl) rfl
  · intro v hv
    rcases (by simpa using hv : v = tV t ∨ v = dV n) with rfl | rfl
    · exact tV_fine (by omega)
    · exact dV_fine (by omega)
  · intro W B hb hI
    by_cases h0 : t = []
    · subst h0
      rw [Lib.repeatL_nil]
      exact frepeat0_any n B W hI
    · exact frepeat_any t n (by omega) hl (List.length_pos_iff.2 h0) ht B W hI
theorem call_exact (s t : Bs) (hs : s.length ≤ 255) (ht : t.length ≤ 255) (b cap : Nat) (w : World) (hP : PowTab w) (hA : Args w b [arr1 (tV s), arr1 (tV t)]) :
    Calls Tryz.prog 9 #[.string ⟨#[69, 88, 65, 67, 84]⟩, .slice (some ⟨b, 0, none⟩) 2 cap] w (CallPost (arr1 (vTruth (s == t))) w) := by
  refine callThr_any 10 ents12[10] (by decide) rfl 2 2 [tV s, tV t] [tIt s, tIt t] (vTruth (s == t)) b cap w (fun q => by rfl) ?_ (by decide) (by simp) (by simp) (by decide) (by simp) hA ?_ (Asked.cons (fun W hb => ask_text s W (hP.next hb)) (Asked.cons (fun W hb => ask_text t W (hP.next hb)) (Asked.nil _ _))) ?_
  · intro k hk
    have hk2 : k ∈ ([42, 31, 31] : List Nat) := hk
    rcases (by simpa using hk2 : k = 42 ∨ k = 31) with rfl | rfl
    · exact enters_of Tryz.func42 (by kernel_rfl) rfl
    · exact enters_of Tryz.func31 (by kernel_rfl) rfl
  · intro v hv
    rcases (by simpa using hv : v = tV s ∨ v = tV t) with rfl | rfl
    · exact tV_fine (by omega)
    · exact tV_fine (by omega)
  · intro W B hb hI
    exact fexact_any s t B W hI
theorem arr1_fine {v : Val} (h : vRight v = true ∧ v.sane) : (arr1 v).fine := by
  obtain ⟨h1, h2⟩ := h
  refine ⟨?_, ⟨by show (-9223372036854775808 : Int) ≤ 1; decide, by show (1 : Int) ≤ 9223372036854775807; decide⟩, ?_⟩
  · show aRight 1 1 [v] = true
    simp [aRight, pFits, h1]
  · intro u hu
    have : u = v := by simpa [arr1] using hu
    subst this
    exact h2
/-- the pieces' array may be -/
theorem row_fine {L : List Bs} (h0 : 0 < L.length) (h : L.length ≤ 4096) (hl : ∀ p ∈ L, p.length ≤ 255) : (⟨1, L.length, L.map tV⟩ : Arr).fine := by
  refine ⟨?_, ⟨by show (-9223372036854775808 : Int) ≤ 1; decide, by show (1 : Int) ≤ 9223372036854775807; decide⟩, ?_⟩
  · show aRight 1 L.length (L.map tV) = true
    have h1 : (L.map tV).all vRight = true := by
      rw [List.all_eq_true]
      intro v hv
      obtain ⟨p, hp, rfl⟩ := List.mem_map.1 hv
      exact (tV_fine (hl p hp)).1
    simp [aRight, pFits, h1]
    omega
  · intro v hv
    obtain ⟨p, hp, rfl⟩ := List.mem_map.1 hv
    exact (tV_fine (hl p hp)).2
theorem call_concat (s t : Bs) (hl : s.length + t.length ≤ 255) (b cap : Nat) (w : World) (hP : PowTab w) (hA : Args w b [arr1 (tV s), arr1 (tV t)]) :
    Calls Tryz.prog 9 #[.string ⟨#[67, 79, 78, 67, 65, 84]⟩, .slice (some ⟨b, 0, none⟩) 2 cap] w (CallPost (arr1 (tV (s ++ t))) w) := by
  have hfn : ∀ q, Instr.findNow .string (.string ⟨#[67, 79, 78, 67, 65, 84]⟩) (tabA q).toList 0 = some (some (12, entV 1 32 (.func (.func 45) #[] #[]))) := fun q => by rfl
  have hek : ∀ args W, (callFunc 45 args).run Tryz.prog W = .ok (.enter 45 args) W := enters_of Tryz.func45 (by kernel_rfl) rfl
  have e : Lib.join ([[s], [t]] : List (List Bs)).flatten [] = s ++ t := by
    show Lib.join [s, t] [] = _
    rw [join_cons2, Lib.join_one, List.nil_append]
  refine call_any [67, 79, 78, 67, 65, 84] 1 32 45 (fun _ => #[]) 12 [arr1 (tV s), arr1 (tV t)] b cap (arr1 (tV (s ++ t))) w hfn hek (by simp) (by simp) (by decide) hA ?_ ?_
  · intro a ha
    rcases (by simpa using ha : a = arr1 (tV s) ∨ a = arr1 (tV t)) with rfl | rfl
    · exact arr1_fine (tV_fine (by omega))
    · exact arr1_fine (tV_fine (by omega))
  · intro W hb _
    have hT : TArr W b (0 * 3) [[s], [t]] := (hA.next hb).tarr _ [[s], [t]] 0 rfl (fun j h1 h2 => by
      rcases (by simp at h1; omega : j = 0 ∨ j = 1) with rfl | rfl <;> rfl)
    have h := concat_any [[s], [t]] b cap W (hP.next hb) (by simpa using hT) (by simp) (by simp) (by rw [e, List.length_append]; exact hl)
    rw [e] at h
    exact h
theorem call_textsplit (t sep : Bs) (ht : t.length ≤ 255) (hs : sep.length ≤ 255) (h0 : sep ≠ []) (b cap : Nat) (w : World) (hP : PowTab w) (hM : MaxVar w) (hA : Args w b [arr1 (tV t), arr1 (tV sep)]) :
    Calls Tryz.prog 9 #[.string ⟨#[84, 69, 88, 84, 83, 80, 76, 73, 84]⟩, .slice (some ⟨b, 0, none⟩) 2 cap] w (CallPost ⟨1, (Lib.split t sep).length, (Lib.split t sep).map tV⟩ w) := by
  have hfn : ∀ q, Instr.findNow .string (.string ⟨#[84, 69, 88, 84, 83, 80, 76, 73, 84]⟩) (tabA q).toList 0 = some (some (14, entV 2 2 (.func (.func 47) #[] #[]))) := fun q => by rfl
  have hek : ∀ args W, (callFunc 47 args).run Tryz.prog W = .ok (.enter 47 args) W := enters_of Tryz.func47 (by kernel_rfl) rfl
  refine call_any [84, 69, 88, 84, 83, 80, 76, 73, 84] 2 2 47 (fun _ => #[]) 14 [arr1 (tV t), arr1 (tV sep)] b cap ⟨1, (Lib.split t sep).length, (Lib.split t sep).map tV⟩ w hfn hek (by simp) (by simp) (by decide) hA ?_ ?_
  · intro a ha
    rcases (by simpa using ha : a = arr1 (tV t) ∨ a = arr1 (tV sep)) with rfl | rfl
    · exact arr1_fine (tV_fine (by omega))
    · exact arr1_fine (tV_fine (by omega))
  · intro W hb _
    exact textSplit_any t sep b cap W (hP.next hb) (hM.next hb) ht h0 (hA.next hb)
theorem call_textjoin (L : List Bs) (sep : Bs) (hl0 : 0 < L.length) (hl : L.length ≤ 4096) (hp : ∀ p ∈ L, p.length ≤ 255) (hs : sep.length ≤ 255) (hj : (Lib.join L sep).length ≤ 255) (b : Nat) (w : World) (hP : PowTab w) (hA : Args w b [arr1 (tV sep), arr1 (tV falseB), ⟨1, L.length, L.map tV⟩]) :
    Calls Tryz.prog 9 #[.string ⟨#[84, 69, 88, 84, 74, 79, 73, 78]⟩, .slice (some ⟨b, 0, none⟩) 3 3] w (CallPost (arr1 (tV (Lib.join L sep))) w) := by
  have hfn : ∀ q, Instr.findNow .string (.string ⟨#[84, 69, 88, 84, 74, 79, 73, 78]⟩) (tabA q).toList 0 = some (some (13, entV 3 32 (.func (.func 46) #[] #[]))) := fun q => by rfl
  have hek : ∀ args W, (callFunc 46 args).run Tryz.prog W = .ok (.enter 46 args) W := enters_of Tryz.func46 (by kernel_rfl) rfl
  refine call_any [84, 69, 88, 84, 74, 79, 73, 78] 3 32 46 (fun _ => #[]) 13 [arr1 (tV sep), arr1 (tV falseB), ⟨1, L.length, L.map tV⟩] b 3 (arr1 (tV (Lib.join L sep))) w hfn hek (by simp) (by simp) (by decide) hA ?_ ?_
  · intro a ha
    rcases (by simpa using ha : a = arr1 (tV sep) ∨ a = arr1 (tV falseB) ∨ a = ⟨1, L.length, L.map tV⟩) with rfl | rfl | rfl
    · exact arr1_fine (tV_fine (by omega))
    · exact arr1_fine (tV_fine (by decide))
    · exact row_fine hl0 hl hp
  · intro W hb _
    exact textJoin_any L 1 L.length sep b W (hP.next hb) (hA.next hb) hl hs hj
theorem args_one {w : World} {a : Arr} {g c : Nat} (h : VP w g a.vs) (ty : TypeId) : Args (w.alloc (.cells #[.int .i64 a.r, .int .i64 a.c, .slice (some ⟨g, 0, none⟩) a.vs.length c] ty)) w.heap.size [a] := by
  have hl := Lies.new w ty #[.int .i64 a.r, .int .i64 a.c, .slice (some ⟨g, 0, none⟩) a.vs.length c]
  refine ⟨hl.lt, fun j hj => ?_⟩
  obtain rfl : j = 0 := by simpa using hj
  exact ⟨g, c, hl.cell 0, hl.cell 1, hl.cell 2, h.next ((Below.refl _ w).alloc (Nat.le_refl _) _)⟩
theorem args_two {w : World} {a b : Arr} {g1 c1 g2 c2 : Nat} (h1 : VP w g1 a.vs) (h2 : VP w g2 b.vs) (ty : TypeId) : Args (w.alloc (.cells #[.int .i64 a.r, .int .i64 a.c, .slice (some ⟨g1, 0, none⟩) a.vs.length c1, .int .i64 b.r, .int .i64 b.c, .slice (some ⟨g2, 0, none⟩) b.vs.length c2] ty)) w.heap.size [a, b] := by
  have hl := Lies.new w ty #[.int .i64 a.r, .int .i64 a.c, .slice (some ⟨g1, 0, none⟩) a.vs.length c1, .int .i64 b.r, .int .i64 b.c, .slice (some ⟨g2, 0, none⟩) b.vs.length c2]
  refine ⟨hl.lt, fun j hj => ?_⟩
  have hb : Below w.heap.size w (w.alloc (.cells #[.int .i64 a.r, .int .i64 a.c, .slice (some ⟨g1, 0, none⟩) a.vs.length c1, .int .i64 b.r, .int .i64 b.c, .slice (some ⟨g2, 0, none⟩) b.vs.length c2] ty)) := (Below.refl _ w).alloc (Nat.le_refl _) _
  rcases (by simp at hj; omega : j = 0 ∨ j = 1) with rfl | rfl
  · exact ⟨g1, c1, hl.cell 0, hl.cell 1, hl.cell 2, h1.next hb⟩
  · exact ⟨g2, c2, hl.cell 3, hl.cell 4, hl.cell 5, h2.next hb⟩
theorem args_three {w : World} {a b d : Arr} {g1 c1 g2 c2 g3 c3 : Nat} (h1 : VP w g1 a.vs) (h2 : VP w g2 b.vs) (h3 : VP w g3 d.vs) (ty : TypeId) : Args (w.alloc (.cells #[.int .i64 a.r, .int .i64 a.c, .slice (some ⟨g1, 0, none⟩) a.vs.length c1, .int .i64 b.r, .int .i64 b.c, .slice (some ⟨g2, 0, none⟩) b.vs.length c2, .int .i64 d.r, .int .i64 d.c, .slice (some ⟨g3, 0, none⟩) d.vs.length c3] ty)) w.heap.size [a, b, d] := by
  have hl := Lies.new w ty #[.int .i64 a.r, .int .i64 a.c, .slice (some ⟨g1, 0, none⟩) a.vs.length c1, .int .i64 b.r, .int .i64 b.c, .slice (some ⟨g2, 0, none⟩) b.vs.length c2, .int .i64 d.r, .int .i64 d.c, .slice (some ⟨g3, 0, none⟩) d.vs.length c3]
  refine ⟨hl.lt, fun j hj => ?_⟩
  have hb : Below w.heap.size w (w.alloc (.cells #[.int .i64 a.r, .int .i64 a.c, .slice (some ⟨g1, 0, none⟩) a.vs.length c1, .int .i64 b.r, .int .i64 b.c, .slice (some ⟨g2, 0, none⟩) b.vs.length c2, .int .i64 d.r, .int .i64 d.c, .slice (some ⟨g3, 0, none⟩) d.vs.length c3] ty)) := (Below.refl _ w).alloc (Nat.le_refl _) _
  rcases (by simp at hj; omega : j = 0 ∨ j = 1 ∨ j = 2) with rfl | rfl | rfl
  · exact ⟨g1, c1, hl.cell 0, hl.cell 1, hl.cell 2, h1.next hb⟩
  · exact ⟨g2, c2, hl.cell 3, hl.cell 4, hl.cell 5, h2.next hb⟩
  · exact ⟨g3, c3, hl.cell 6, hl.cell 7, hl.cell 8, h3.next hb⟩
/-- the world of a function that makes an array of one value: its result's box, the value's block, the stores -/
theorem mk_arr (w : World) (v : Val) : ∃ W : World, W = (w.alloc (.cells #[.int .i64 1, .int .i64 1, .slice (some ⟨w.heap.size + 1, 0, none⟩) 1 1] 25)).alloc (.cells (valC v) 35) ∧
    W.cell? ⟨w.heap.size, 0, none⟩ = some (.int .i64 1) ∧ W.cell? ⟨w.heap.size, 1, none⟩ = some (.int .i64 1) ∧ W.cell? ⟨w.heap.size, 2, none⟩ = some (.slice (some ⟨w.heap.size + 1, 0, none⟩) 1 1) ∧ VP W (w.heap.size + 1) [v] ∧ Below w.heap.size w W := by
  have hl2 := (Lies.new w 25 #[.int .i64 1, .int .i64 1, .slice (some ⟨w.heap.size + 1, 0, none⟩) 1 1]).alloc (.cells (valC v) 35)
  have hb : Below w.heap.size w (w.alloc (.cells #[.int .i64 1, .int .i64 1, .slice (some ⟨w.heap.size + 1, 0, none⟩) 1 1] 25)) := (Below.refl _ w).alloc (Nat.le_refl _) _
  refine ⟨_, rfl, hl2.cell 0, hl2.cell 1, hl2.cell 2, ?_, hb.alloc hb.size _⟩
  have h := VP.new (w.alloc (.cells #[.int .i64 1, .int .i64 1, .slice (some ⟨w.heap.size + 1, 0, none⟩) 1 1] 25)) v
  rw [World.size_alloc] at h
  exact h
set_option maxRecDepth 100000 in
theorem one12_any (t : Bs) (w : World) : Calls Tryz.prog 10 #[.string ⟨t.toArray⟩] w (ArrPost (arr1 (tV t)) w) := by
  obtain ⟨W, hW, z0, z1, z2, hv, hb⟩ := mk_arr w (tV t)
  have HW := Lib.hid hW
  have Z0 := Lib.hid z0
  have Z1 := Lib.hid z1
  have Z2 := Lib.hid z2
  clear hW z0 z1 z2
  dsimp only [valC] at HW
  go_enter Tryz.func10, Tryz.ntmps10
  go_wp2_with fail
  rw [← HW.out]
  refine bodyPost_ret (v := .agg #[.int .i64 1, .int .i64 1, .slice (some ⟨w.heap.size + 1, 0, none⟩) 1 1]) (by simp [results, Tryz.results10, go_sem, Z0.out, Z1.out, Z2.out]) rfl ?_
  exact ⟨_, rfl, ⟨_, _, rfl, hv⟩, hb⟩
set_option maxRecDepth 100000 in
theorem digit12_any (k : Nat) (w : World) : Calls Tryz.prog 11 #[.int .i64 (k : Int)] w (ArrPost (arr1 (dV k)) w) := by
  obtain ⟨W, hW, z0, z1, z2, hv, hb⟩ := mk_arr w (dV k)
  have HW := Lib.hid hW
  have Z0 := Lib.hid z0
  have Z1 := Lib.hid z1
  have Z2 := Lib.hid z2
  clear hW z0 z1 z2
  dsimp only [valC] at HW
  go_enter Tryz.func11, Tryz.ntmps11
  go_wp2_with fail
  rw [← HW.out]
  refine bodyPost_ret (v := .agg #[.int .i64 1, .int .i64 1, .slice (some ⟨w.heap.size + 1, 0, none⟩) 1 1]) (by simp [results, Tryz.results11, go_sem, Z0.out, Z1.out, Z2.out]) rfl ?_
  exact ⟨_, rfl, ⟨_, _, rfl, hv⟩, hb⟩
set_option maxRecDepth 100000 in
theorem bad09_any (f : Int) (w : World) : Calls Tryz.prog 13 #[.int .i64 f] w (ArrPost (arr1 ⟨4, 0, 0, [], false, f⟩) w) := by
  obtain ⟨W, hW, z0, z1, z2, hv, hb⟩ := mk_arr w ⟨4, 0, 0, [], false, f⟩
  have HW := Lib.hid hW
  have Z0 := Lib.hid z0
  have Z1 := Lib.hid z1
  have Z2 := Lib.hid z2
  clear hW z0 z1 z2
  dsimp only [valC] at HW
  go_enter Tryz.func13, Tryz.ntmps13
  go_wp2_with fail
  rw [← HW.out]
  refine bodyPost_ret (v := .agg #[.int .i64 1, .int .i64 1, .slice (some ⟨w.heap.size + 1, 0, none⟩) 1 1]) (by simp [results, Tryz.results13, go_sem, Z0.out, Z1.out, Z2.out]) rfl ?_
  exact ⟨_, rfl, ⟨_, _, rfl, hv⟩, hb⟩
theorem run_neq_same9 (v : Val) (w : World) : (binOp .neq 35 (valV v) (valV v)).run Tryz.prog w = .ok (.bool false) w := by
  have h := run_eql_value v v w
  rw [vSame_self] at h
  simp only [binOp] at h ⊢
  rw [Sem.run_bind] at h ⊢
  cases hx : Sem.run Tryz.prog (Op.equal 35 (valV v) (valV v)) w with
  | ok b w' =>
    rw [hx] at h
    simp at h ⊢
    exact h
  | halt x w' =>
    rw [hx] at h
    simp at h
set_option maxRecDepth 100000 in
set_option maxHeartbeats 6400000 in
theorem rsame09_sl (r c : Int) (A B : Option Addr) (ca cb : Nat) (vs : List Val) (w : World) (hn : vs.length ≤ 1000000) (hA : VSl w A vs) (hB : VSl w B vs) :
    Calls Tryz.prog 12 #[.agg #[.int .i64 r, .int .i64 c, .slice A vs.length ca], .agg #[.int .i64 r, .int .i64 c, .slice B vs.length cb]] w fun e w' => e = .returned (.bool true) ∧ Below w.heap.size w w' := by
  obtain ⟨W2, hW2⟩ : ∃ W2, W2 = (w.alloc (.cells #[.int .i64 r, .int .i64 c, .slice A vs.length ca] 25)).alloc (.cells #[.int .i64 r, .int .i64 c, .slice B vs.length cb] 25) := ⟨_, rfl⟩
  have hb2 : Below w.heap.size w W2 := by rw [hW2]; exact ((Below.refl _ w).alloc (Nat.le_refl _) _).alloc (by rw [World.size_alloc]; omega) _
  have l1 : Lies W2 w.heap.size 25 #[.int .i64 r, .int .i64 c, .slice A vs.length ca] := by rw [hW2]; exact (Lies.new w _ _).alloc _
  have l2 : Lies W2 (w.heap.size + 1) 25 #[.int .i64 r, .int .i64 c, .slice B vs.length cb] := by
    rw [hW2]
    have h := Lies.new (w.alloc (.cells #[.int .i64 r, .int .i64 c, .slice A vs.length ca] 25)) 25 #[.int .i64 r, .int .i64 c, .slice B vs.length cb]
    rw [World.size_alloc] at h
    exact h
  have HB2 := Lib.hid hb2
  have L1 := Lib.hid l1
  have L2 := Lib.hid l2
  have HA := Lib.hid (hA.next hb2)
  have HBv := Lib.hid (hB.next hb2)
  have HW := Lib.hid hW2
  clear hA hB hb2 l1 l2 hW2
  go_enter Tryz.func12, Tryz.ntmps12
  go_wp2_with fail
  rw [← HW.out]
  go_loopw [5] (fun v wr => ∃ i : Nat, v = .int .i64 (i : Int) ∧ i ≤ vs.length ∧ Hid (Below W2.heap.size W2 wr)) (fun v _ => vs.length - (intOf v).toNat)
  case atStart => exact ⟨0, rfl, Nat.zero_le _, Lib.hid (Below.refl _ _)⟩
  case round =>
    obtain ⟨i, rfl, hi, hbr⟩ := hrel
    have x2 := (L1.out.next hbr.out).cell 2
    have z2 := (L2.out.next hbr.out).cell 2
    simp only [List.getElem?_toArray, List.getElem?_cons_zero, List.getElem?_cons_succ] at x2 z2
    by_cases hlt : i < vs.length
    · obtain ⟨ba, oa, rfl, hva⟩ := HA.out (by omega)
      obtain ⟨bb, ob, rfl, hvb⟩ := HBv.out (by omega)
      obtain ⟨y0, y1, y2, y3, y4, y5⟩ := (hva.next hbr.out).2 i hlt
      obtain ⟨q0, q1, q2, q3, q4, q5⟩ := (hvb.next hbr.out).2 i hlt
      have hN := run_neq_same9 vs[i]
      obtain ⟨v, hv⟩ : ∃ v, vs[i] = v := ⟨_, rfl⟩
      rw [hv] at y0 y1 y2 y3 y4 y5 q0 q1 q2 q3 q4 q5 hN
      obtain ⟨k, m, e, t, tr, f⟩ := v
      simp only [valV, valC] at hN
      dsimp only at y0 y1 y2 y3 y4 y5 q0 q1 q2 q3 q4 q5
      clear hv hva hvb
      go_wp2_with fail
      go_region
      go_wp2_with fail
      go_roundw
      case rel => exact ⟨i + 1, by go_num, by omega, Lib.hid hbr.out.drew⟩
      case measure => simp [intOf]; omega
    · obtain rfl : i = vs.length := by omega
      go_wp2_with fail
      go_ret
      exact ⟨rfl, HB2.out.trans (hbr.out.mono HB2.out.size)⟩
/-- equal arrays are the same -/
theorem rsame09_any (v u : Value) (r c : Int) (vs : List Val) (w : World) (hn : vs.length ≤ 1000000) (h1 : AIn v r c vs w) (h2 : AIn u r c vs w) :
    Calls Tryz.prog 12 #[v, u] w fun e w' => e = .returned (.bool true) ∧ Below w.heap.size w w' := by
  obtain ⟨b1, c1, rfl, hv1⟩ := h1
  obtain ⟨b2, c2, rfl, hv2⟩ := h2
  exact rsame09_sl r c _ _ c1 c2 vs w hn hv1.sl hv2.sl
theorem occ_false {t p : Bs} (h : Lib.index t p = -1) (k : Nat) (hk : k + p.length ≤ t.length) : (t.drop k).take p.length ≠ p := by
  rcases Lib.index_spec t p with ⟨_, h2⟩ | ⟨i, h1, _⟩
  · intro e
    have h3 := h2 k (by omega)
    rw [Lib.occAt_iff_take t p k hk, e] at h3
    simp at h3
  · omega
set_option maxRecDepth 100000 in
set_option maxHeartbeats 3200000 in
theorem rfind_none (p t : Bs) (w : World) (hp : p.length ≤ 1000) (ht : t.length ≤ 1000) (h : Lib.index t p = -1) :
    Calls Tryz.prog 14 #[.string ⟨p.toArray⟩, .string ⟨t.toArray⟩, .int .i64 0] w fun e w' => e = .returned (.int .i64 (-1)) ∧ w' = w := by
  have HO := Lib.hid (fun k hk => occ_false h k hk)
  clear h
  go_enter Tryz.func14, Tryz.ntmps14
  go_wp2_with fail
  go_loop [7] (fun v => ∃ k : Nat, v = .int .i64 (k : Int) ∧ k ≤ t.length + 1) (fun v => t.length + 1 - (intOf v).toNat)
  case atStart => exact ⟨0, rfl, Nat.zero_le _⟩
  case round =>
    obtain ⟨k, rfl, hk⟩ := hrel
    by_cases hlt : k + p.length ≤ t.length
    · have hne := HO.out k hlt
      have h1 : (k : Int) + (p.length : Int) ≤ (t.length : Int) := by omega
      have hbe : (List.take p.length (List.drop k t) == p) = false := by simpa using hne
      clear hne
      go_wp2_with fail
      exact ⟨⟨k + 1, by go_num, by omega⟩, by simp [intOf]; omega⟩
    · have h1 : ¬ (k : Int) + (p.length : Int) ≤ (t.length : Int) := by omega
      go_wp2_with fail
      go_ret
      exact ⟨rfl, rfl⟩
theorem near_digit : ∀ n, n ≤ 9 → pNear false n 0 = some ((n : Int), 0) := by
  intro n h
  rcases (by omega : n = 0 ∨ n = 1 ∨ n = 2 ∨ n = 3 ∨ n = 4 ∨ n = 5 ∨ n = 6 ∨ n = 7 ∨ n = 8 ∨ n = 9) with rfl | rfl | rfl | rfl | rfl | rfl | rfl | rfl | rfl | rfl <;> decide +kernel
theorem count_digit {n : Nat} (h : n ≤ 9) : pCount n = dV n := by
  unfold pCount
  rw [near_digit n h]
  rfl
theorem find_two : pFind [98] [97, 98, 99] = dV 2 := by
  have h : Lib.index [97, 98, 99] [98] = 1 := by decide +kernel
  unfold pFind
  rw [h, if_neg (by decide)]
  exact count_digit (n := 2) (by decide)
theorem split_two : Lib.split [97, 44, 98] [44] = [[97], [98]] := by decide +kernel
theorem digit12_s (k : Nat) (W : World) : Calls Tryz.prog 11 #[.int .i64 (k : Int)] W fun x w' => ∃ g c, x = .returned (.agg #[.int .i64 1, .int .i64 1, .slice (some ⟨g, 0, none⟩) 1 c]) ∧ VP w' g [dV k] ∧ Below W.heap.size W w' := by
  refine (digit12_any k W).mono ?_
  rintro x w' ⟨v, rfl, ⟨g, c, rfl, h⟩, hb⟩
  exact ⟨g, c, rfl, h, hb⟩
theorem one12_s (t : Bs) (W : World) : Calls Tryz.prog 10 #[.string ⟨t.toArray⟩] W fun x w' => ∃ g c, x = .returned (.agg #[.int .i64 1, .int .i64 1, .slice (some ⟨g, 0, none⟩) 1 c]) ∧ VP w' g [tV t] ∧ Below W.heap.size W w' := by
  refine (one12_any t W).mono ?_
  rintro x w' ⟨v, rfl, ⟨g, c, rfl, h⟩, hb⟩
  exact ⟨g, c, rfl, h, hb⟩
theorem rsame09_s (v : Val) (g1 c1 g2 c2 : Nat) (W : World) (h1 : VP W g1 [v]) (h2 : VP W g2 [v]) : Calls Tryz.prog 12 #[.agg #[.int .i64 1, .int .i64 1, .slice (some ⟨g1, 0, none⟩) 1 c1], .agg #[.int .i64 1, .int .i64 1, .slice (some ⟨g2, 0, none⟩) 1 c2]] W fun e w' => e = .returned (.bool true) ∧ Below W.heap.size W w' :=
  rsame09_any _ _ 1 1 [v] W (by simp) ⟨g1, c1, rfl, h1⟩ ⟨g2, c2, rfl, h2⟩
set_option maxRecDepth 100000 in
set_option maxHeartbeats 6400000 in
theorem awake12_any (w : World) (hP : PowTab w) (hM : MaxVar w) : Calls Tryz.prog 8 #[] w fun e w' => e = .returned (.bool true) ∧ Below w.heap.size w w' := by
  have HP := Lib.hid (fun W (h : Below w.heap.size w W) => hP.next h)
  have HM := Lib.hid (fun W (h : Below w.heap.size w W) => hM.next h)
  have HB := Lib.hid (Below.refl w.heap.size w)
  clear hP hM
  go_enter Tryz.func8, Tryz.ntmps8
  go_wp2_with fail
  refine (one12_any [98] _).mono ?_
  rintro x w1 ⟨v, rfl, ⟨g1, c1, rfl, hv⟩, hb⟩
  replace HB := Lib.hid (HB.out.trans (hb.mono HB.out.size))
  have HV1 := Lib.hid hv
  clear hb hv
  dsimp only [arr1, List.length_cons, List.length_nil, Nat.zero_add, List.map_cons, List.map_nil]
  go_wp2_with fail
  refine (one12_any [97, 98, 99] _).mono ?_
  rintro x w2 ⟨v, rfl, ⟨g2, c2, rfl, hv⟩, hb⟩
  replace HB := Lib.hid (HB.out.trans (hb.mono HB.out.size))
  replace HV1 := Lib.hid (HV1.out.next hb)
  have HV2 := Lib.hid hv
  clear hb hv
  dsimp only [arr1, List.length_cons, List.length_nil, Nat.zero_add, List.map_cons, List.map_nil]
  have hA := args_two (a := arr1 (tV [98])) (b := arr1 (tV [97, 98, 99])) (c1 := c1) (c2 := c2) HV1.out HV2.out 25
  have HA := Lib.hid hA
  have HBa := Lib.hid (HB.out.alloc HB.out.size (.cells #[.int .i64 (arr1 (tV [98])).r, .int .i64 (arr1 (tV [98])).c, .slice (some ⟨g1, 0, none⟩) (arr1 (tV [98])).vs.length c1, .int .i64 (arr1 (tV [97, 98, 99])).r, .int .i64 (arr1 (tV [97, 98, 99])).c, .slice (some ⟨g2, 0, none⟩) (arr1 (tV [97, 98, 99])).vs.length c2] 25))
  have hbA : Below w2.heap.size w2 (w2.alloc (.cells #[.int .i64 (arr1 (tV [98])).r, .int .i64 (arr1 (tV [98])).c, .slice (some ⟨g1, 0, none⟩) (arr1 (tV [98])).vs.length c1, .int .i64 (arr1 (tV [97, 98, 99])).r, .int .i64 (arr1 (tV [97, 98, 99])).c, .slice (some ⟨g2, 0, none⟩) (arr1 (tV [97, 98, 99])).vs.length c2] 25)) := (Below.refl _ _).alloc (Nat.le_refl _) _
  have CC := Lib.hid (call_find [98] [97, 98, 99] (by decide) (by decide) _ 2 _ (HP.out _ HBa.out) (HM.out _ HBa.out) HA.out)
  rw [find_two] at CC
  clear hA HA HBa
  dsimp only [arr1, List.length_cons, List.length_nil, Nat.zero_add, List.map_cons, List.map_nil] at CC hbA ⊢
  have HbA := Lib.hid hbA
  clear hbA
  go_wp2_with fail
  refine CC.out.mono ?_
  rintro x w3 ⟨v, rfl, ⟨g3, c3, rfl, hv⟩, hb⟩
  have hb2 := HbA.out.trans (hb.mono HbA.out.size)
  replace HB := Lib.hid (HB.out.trans (hb2.mono HB.out.size))
  replace HV1 := Lib.hid (HV1.out.next hb2)
  replace HV2 := Lib.hid (HV2.out.next hb2)
  have HV3 := Lib.hid hv
  clear hb hb2 hv CC HbA
  dsimp only [arr1, List.length_cons, List.length_nil, Nat.zero_add, List.map_cons, List.map_nil]
  go_upto_region 2 with fail
  have hb2 : Below w3.heap.size w3 (w3.alloc (.cells #[.int .i64 1, .int .i64 1, .slice (some ⟨g3, 0, none⟩) 1 c3] 25)) := (Below.refl _ _).alloc (Nat.le_refl _) _
  replace HB := Lib.hid (HB.out.trans (hb2.mono HB.out.size))
  replace HV1 := Lib.hid (HV1.out.next hb2)
  replace HV2 := Lib.hid (HV2.out.next hb2)
  replace HV3 := Lib.hid (HV3.out.next hb2)
  have HX3 := Lib.hid (Lies.new w3 25 #[.int .i64 1, .int .i64 1, .slice (some ⟨g3, 0, none⟩) 1 c3])
  clear hb2
  generalize w3.alloc (.cells #[.int .i64 1, .int .i64 1, .slice (some ⟨g3, 0, none⟩) 1 c3] 25) = W3 at *
  generalize w3.heap.size = b3 at *
  clear HV1 HV2
  go_wp2_with fail
  refine (one12_any [97, 44, 98] _).mono ?_
  rintro x w4 ⟨v, rfl, ⟨g4, c4, rfl, hv⟩, hb⟩
  replace HB := Lib.hid (HB.out.trans (hb.mono HB.out.size))
  replace HV3 := Lib.hid (HV3.out.next hb)
  replace HX3 := Lib.hid (HX3.out.next hb)
  have HV4 := Lib.hid hv
  clear hb hv
  dsimp only [arr1, List.length_cons, List.length_nil, Nat.zero_add, List.map_cons, List.map_nil]
  go_wp2_with fail
  refine (one12_any [44] _).mono ?_
  rintro x w5 ⟨v, rfl, ⟨g5, c5, rfl, hv⟩, hb⟩
  replace HB := Lib.hid (HB.out.trans (hb.mono HB.out.size))
  replace HV3 := Lib.hid (HV3.out.next hb)
  replace HX3 := Lib.hid (HX3.out.next hb)
  replace HV4 := Lib.hid (HV4.out.next hb)
  have HV5 := Lib.hid hv
  clear hb hv
  dsimp only [arr1, List.length_cons, List.length_nil, Nat.zero_add, List.map_cons, List.map_nil]
  have hA := args_two (a := arr1 (tV [97, 44, 98])) (b := arr1 (tV [44])) (c1 := c4) (c2 := c5) HV4.out HV5.out 25
  have HA := Lib.hid hA
  have HBa := Lib.hid (HB.out.alloc HB.out.size (.cells #[.int .i64 (arr1 (tV [97, 44, 98])).r, .int .i64 (arr1 (tV [97, 44, 98])).c, .slice (some ⟨g4, 0, none⟩) (arr1 (tV [97, 44, 98])).vs.length c4, .int .i64 (arr1 (tV [44])).r, .int .i64 (arr1 (tV [44])).c, .slice (some ⟨g5, 0, none⟩) (arr1 (tV [44])).vs.length c5] 25))
  have hbA : Below w5.heap.size w5 (w5.alloc (.cells #[.int .i64 (arr1 (tV [97, 44, 98])).r, .int .i64 (arr1 (tV [97, 44, 98])).c, .slice (some ⟨g4, 0, none⟩) (arr1 (tV [97, 44, 98])).vs.length c4, .int .i64 (arr1 (tV [44])).r, .int .i64 (arr1 (tV [44])).c, .slice (some ⟨g5, 0, none⟩) (arr1 (tV [44])).vs.length c5] 25)) := (Below.refl _ _).alloc (Nat.le_refl _) _
  have CC := Lib.hid (call_textsplit [97, 44, 98] [44] (by decide) (by decide) (by decide) _ 2 _ (HP.out _ HBa.out) (HM.out _ HBa.out) HA.out)
  rw [split_two] at CC
  clear hA HA HBa
  dsimp only [arr1, List.length_cons, List.length_nil, Nat.zero_add, List.map_cons, List.map_nil] at CC hbA ⊢
  have HbA := Lib.hid hbA
  clear hbA
  go_wp2_with fail
  refine CC.out.mono ?_
  rintro x w6 ⟨v, rfl, ⟨g6, c6, rfl, hv⟩, hb⟩
  have hb2 := HbA.out.trans (hb.mono HbA.out.size)
  replace HB := Lib.hid (HB.out.trans (hb2.mono HB.out.size))
  replace HV3 := Lib.hid (HV3.out.next hb2)
  replace HX3 := Lib.hid (HX3.out.next hb2)
  replace HV4 := Lib.hid (HV4.out.next hb2)
  replace HV5 := Lib.hid (HV5.out.next hb2)
  have HV6 := Lib.hid hv
  clear hb hb2 hv CC HbA
  dsimp only [arr1, List.length_cons, List.length_nil, Nat.zero_add, List.map_cons, List.map_nil]
  go_upto_region 3 with fail
  have hb2 : Below w6.heap.size w6 (w6.alloc (.cells #[.int .i64 1, .int .i64 2, .slice (some ⟨g6, 0, none⟩) 2 c6] 25)) := (Below.refl _ _).alloc (Nat.le_refl _) _
  replace HB := Lib.hid (HB.out.trans (hb2.mono HB.out.size))
  replace HV3 := Lib.hid (HV3.out.next hb2)
  replace HX3 := Lib.hid (HX3.out.next hb2)
  replace HV4 := Lib.hid (HV4.out.next hb2)
  replace HV5 := Lib.hid (HV5.out.next hb2)
  replace HV6 := Lib.hid (HV6.out.next hb2)
  have HX6 := Lib.hid (Lies.new w6 25 #[.int .i64 1, .int .i64 2, .slice (some ⟨g6, 0, none⟩) 2 c6])
  clear hb2
  generalize w6.alloc (.cells #[.int .i64 1, .int .i64 2, .slice (some ⟨g6, 0, none⟩) 2 c6] 25) = W6 at *
  generalize w6.heap.size = b6 at *
  clear HV4 HV5
  have CD : Hid (∀ W, Calls Tryz.prog 11 #[.int .i64 2] W fun x w' => ∃ g c, x = .returned (.agg #[.int .i64 1, .int .i64 1, .slice (some ⟨g, 0, none⟩) 1 c]) ∧ VP w' g [dV 2] ∧ Below W.heap.size W w') := Lib.hid (fun W => digit12_s 2 W)
  have CS := Lib.hid (fun W g1 c1 g2 c2 h1 h2 => rsame09_s (dV 2) g1 c1 g2 c2 W h1 h2)
  have hx0 := HX3.out.lt
  have hx1 := HX6.out.lt
  have hx2 := HV6.out.lt
  have xa0 := HX3.out.cell 0
  have xa1 := HX3.out.cell 1
  have xa2 := HX3.out.cell 2
  simp only [List.getElem?_toArray, List.getElem?_cons_zero, List.getElem?_cons_succ] at xa0 xa1 xa2
  have xb0 := HX6.out.cell 0
  have xb1 := HX6.out.cell 1
  have xb2 := HX6.out.cell 2
  simp only [List.getElem?_toArray, List.getElem?_cons_zero, List.getElem?_cons_succ] at xb0 xb1 xb2
  have y3 : W6.cell? ⟨g6, 9, none⟩ = some (.string ⟨#[98]⟩) := HV6.out.cell 1 (by decide) 3 (by decide)
  have HS0 : W6.cell? ⟨b3, 0, none⟩ = some (.int .i64 1) ∧ W6.cell? ⟨b3, 1, none⟩ = some (.int .i64 1) ∧ W6.cell? ⟨b3, 2, none⟩ = some (.slice (some ⟨g3, 0, none⟩) 1 c3) ∧ W6.cell? ⟨b6, 0, none⟩ = some (.int .i64 1) ∧ W6.cell? ⟨b6, 1, none⟩ = some (.int .i64 2) ∧ W6.cell? ⟨b6, 2, none⟩ = some (.slice (some ⟨g6, 0, none⟩) 2 c6) ∧ W6.cell? ⟨g6, 9, none⟩ = some (.string ⟨#[98]⟩) ∧ Below W6.heap.size W6 W6 := ⟨xa0, xa1, xa2, xb0, xb1, xb2, y3, Below.refl _ _⟩
  have HSn : Hid (∀ wa, Below W6.heap.size W6 wa → wa.cell? ⟨b3, 0, none⟩ = some (.int .i64 1) ∧ wa.cell? ⟨b3, 1, none⟩ = some (.int .i64 1) ∧ wa.cell? ⟨b3, 2, none⟩ = some (.slice (some ⟨g3, 0, none⟩) 1 c3) ∧ wa.cell? ⟨b6, 0, none⟩ = some (.int .i64 1) ∧ wa.cell? ⟨b6, 1, none⟩ = some (.int .i64 2) ∧ wa.cell? ⟨b6, 2, none⟩ = some (.slice (some ⟨g6, 0, none⟩) 2 c6) ∧ wa.cell? ⟨g6, 9, none⟩ = some (.string ⟨#[98]⟩) ∧ Below W6.heap.size W6 wa) := Lib.hid (fun wa h => ⟨(h.cell (p := ⟨b3, 0, none⟩) hx0).trans xa0, (h.cell (p := ⟨b3, 1, none⟩) hx0).trans xa1, (h.cell (p := ⟨b3, 2, none⟩) hx0).trans xa2, (h.cell (p := ⟨b6, 0, none⟩) hx1).trans xb0, (h.cell (p := ⟨b6, 1, none⟩) hx1).trans xb1, (h.cell (p := ⟨b6, 2, none⟩) hx1).trans xb2, (h.cell (p := ⟨g6, 9, none⟩) hx2).trans y3, h⟩)
  have HVD : Hid (VP W6.drew g3 [dV 2]) := Lib.hid HV3.out
  have HSd : W6.drew.cell? ⟨b3, 0, none⟩ = some (.int .i64 1) ∧ W6.drew.cell? ⟨b3, 1, none⟩ = some (.int .i64 1) ∧ W6.drew.cell? ⟨b3, 2, none⟩ = some (.slice (some ⟨g3, 0, none⟩) 1 c3) ∧ W6.drew.cell? ⟨b6, 0, none⟩ = some (.int .i64 1) ∧ W6.drew.cell? ⟨b6, 1, none⟩ = some (.int .i64 2) ∧ W6.drew.cell? ⟨b6, 2, none⟩ = some (.slice (some ⟨g6, 0, none⟩) 2 c6) ∧ W6.drew.cell? ⟨g6, 9, none⟩ = some (.string ⟨#[98]⟩) ∧ Below W6.heap.size W6 W6.drew := ⟨xa0, xa1, xa2, xb0, xb1, xb2, y3, (Below.refl _ _).drew⟩
  have HSD := Lib.hid HSd
  clear xa0 xa1 xa2 xb0 xb1 xb2 y3 hx0 hx1 hx2 HX3 HX6 HV3 HV6 HP HM HS0 HSd
  go_region_held3 (fun w' => w'.cell? ⟨b3, 0, none⟩ = some (.int .i64 1) ∧ w'.cell? ⟨b3, 1, none⟩ = some (.int .i64 1) ∧ w'.cell? ⟨b3, 2, none⟩ = some (.slice (some ⟨g3, 0, none⟩) 1 c3) ∧ w'.cell? ⟨b6, 0, none⟩ = some (.int .i64 1) ∧ w'.cell? ⟨b6, 1, none⟩ = some (.int .i64 2) ∧ w'.cell? ⟨b6, 2, none⟩ = some (.slice (some ⟨g6, 0, none⟩) 2 c6) ∧ w'.cell? ⟨g6, 9, none⟩ = some (.string ⟨#[98]⟩) ∧ Below W6.heap.size W6 w')
    (first | exact HSD.out | exact HSn.out _ (Below.refl _ _) | exact HSn.out _ (Below.refl _ _).drew | exact HSn.out _ (Below.trans (Below.refl _ _).drew hb) | (go_split_ands; exact HSn.out _ (Below.trans (by assumption) (Below.mono hb (Below.size (by assumption))))))
    (first
      | (go_at_call 11; (with_reducible refine (CD.out _).mono ?_); rintro e wx ⟨gd, cd, rfl, hvd, hb⟩; have HVa := Lib.hid (HVD.out.next hb); have HVd := Lib.hid hvd)
      | (go_at_call 12; (with_reducible refine (CS.out _ _ _ _ _ HVa.out HVd.out).mono ?_); rintro e wx ⟨rfl, hb⟩))
  all_goals go_wp2_with fail
  all_goals go_ret
  all_goals first | exact ⟨rfl, HB.out.trans (Below.mono (by assumption) HB.out.size)⟩ | (go_split_ands; exact ⟨rfl, HB.out.trans (Below.mono (by assumption) HB.out.size)⟩)
abbrev tabAtF (bk kl k kf : Nat) (x : Val) (y : It) (fl : Int) : List (Nat × Nat × (Value → World → Prop)) := [(0, 57, Is (.slice (some ⟨bk, 0, none⟩) kl kl)), (1, 58, Is (.int .i64 (k : Int))), (2, 59, Is (.pointer (some ⟨bk, k, none⟩))), (3, 60, Is (fnV kf)), (4, 61, Is (valV x)), (5, 62, Is (.tuple #[itV y, .int .i64 fl])), (6, 56, Is (.tuple #[itV y, .int .i64 fl])), (7, 63, Is (itV y)), (8, 64, Is (.int .i64 fl)), (11, 20, Is (.int .i64 fl))]
set_option maxRecDepth 100000 in
set_option maxHeartbeats 6400000 in
theorem at_bad (f : Nat) (ks : List Nat) (vs : List Val) (y : It) (fl : Int) (h0 : 0 < vs.length) (hfl : fl ≠ 0) (bk b off cap : Nat) (w : World) (hek : Enters ks) (hkn : vs.length ≤ ks.length) (hk4 : ks.length ≤ 4)
    (hks : ∀ i (h : i < ks.length), w.cell? ⟨bk, i, none⟩ = some (fnV ks[i])) (hbk : bk < w.heap.size) (ha : ARow w b off vs) (hA : ∀ i (_ : i < ks.length) (_ : i < vs.length), i = 0 → ∀ W, Below w.heap.size w W → Calls Tryz.prog ks[i] #[valV vs[i]] W fun e w' => e = .returned (.tuple #[itV y, .int .i64 fl]) ∧ Below W.heap.size W w') :
    Calls Tryz.prog 61 #[fnV f, .slice (some ⟨bk, 0, none⟩) ks.length ks.length, .slice (some ⟨b, off, none⟩) vs.length cap, .int .i64 0, .int .i64 0] w fun e w' => e = .returned (valV (vBad fl)) ∧ Below w.heap.size w w' := by
  obtain ⟨n, hn⟩ : ∃ n, n = vs.length := ⟨_, rfl⟩
  obtain ⟨cs1, hcs1, mk1⟩ := make_vals n (by omega)
  obtain ⟨cs2, hcs2, mk2⟩ := make_items n (by omega)
  have HA := Lib.hid ha
  have HKs := Lib.hid hks
  have HEk := Lib.hid hek
  have HAs := Lib.hid hA
  have CBd := Lib.hid (fun W => bad_any fl W)
  have HC1 := Lib.hid hcs1
  have HC2 := Lib.hid hcs2
  have HN := Lib.hid hn
  obtain ⟨kl, hkl⟩ : ∃ kl, kl = ks.length := ⟨_, rfl⟩
  have HKl := Lib.hid hkl
  rw [← hn] at hkn h0 ⊢
  rw [← hkl] at hkn hk4 ⊢
  have hn4 : n ≤ 4 := Nat.le_trans hkn hk4
  clear ha hks hA hcs1 hcs2 hn hek hkl
  unfold fnV
  go_enter Tryz.func61, Tryz.ntmps61
  go_upto_region 2 with fail
  have HB1 : Hid (Below w.heap.size w ((w.alloc (.cells #[.int .i64 0, .int .i64 0, .int .i64 0, .string ⟨#[]⟩, .bool false, .int .i64 0] 35)).alloc (.cells cs1 35))) := Lib.hid (((Below.refl _ w).alloc (Nat.le_refl _) _).alloc (by rw [World.size_alloc]; omega) _)
  have HR1 : Hid (Lies ((w.alloc (.cells #[.int .i64 0, .int .i64 0, .int .i64 0, .string ⟨#[]⟩, .bool false, .int .i64 0] 35)).alloc (.cells cs1 35)) w.heap.size 35 (valC ⟨0, 0, 0, [], false, 0⟩)) := Lib.hid ((Lies.new w _ _).alloc _)
  have HV1 : Hid (VBk ((w.alloc (.cells #[.int .i64 0, .int .i64 0, .int .i64 0, .string ⟨#[]⟩, .bool false, .int .i64 0] 35)).alloc (.cells cs1 35)) (w.heap.size + 1) (List.replicate n ⟨0, 0, 0, [], false, 0⟩)) := Lib.hid ⟨cs1, HC1.out, by
    have h := Lies.new (w.alloc (.cells #[.int .i64 0, .int .i64 0, .int .i64 0, .string ⟨#[]⟩, .bool false, .int .i64 0] 35)) 35 cs1
    rw [World.size_alloc] at h
    exact h⟩
  generalize (w.alloc (.cells #[.int .i64 0, .int .i64 0, .int .i64 0, .string ⟨#[]⟩, .bool false, .int .i64 0] 35)).alloc (.cells cs1 35) = W1 at *
  generalize hqe : w.heap.size = q at *
  have HQ := Lib.hid hqe
  clear hqe
  go_wp2_with fail
  go_loopw [26] (fun v26 wx => ∃ k : Nat, v26 = .int .i64 (k : Int) ∧ k ≤ n ∧ Hid (Below q w wx) ∧ Hid (Lies wx q 35 (valC ⟨0, 0, 0, [], false, 0⟩)) ∧ Hid (∃ L : List Val, L.length = n ∧ VBk wx (q + 1) L ∧ ∀ j (h1 : j < k) (h2 : j < vs.length), L[j]? = some vs[j])) (fun v26 _ => n - (intOf v26).toNat)
  case atStart => exact ⟨0, rfl, Nat.zero_le _, HB1, HR1, Lib.hid ⟨_, by rw [List.length_replicate], HV1.out, fun j h => absurd h (Nat.not_lt_zero _)⟩⟩
  case round =>
    obtain ⟨k, rfl, hk, hb, hr, hL⟩ := hrel
    clear HB1 HR1 HV1
    by_cases hlt : k < n
    · have hkv : k < vs.length := by rw [← HN.out]; exact hlt
      have hAk := HA.out.2 k hkv
      have hbw : b < q := by rw [← HQ.out]; exact HA.out.1
      obtain ⟨a0, a1, A, cA, a2, hsl⟩ := hAk
      have b0 := (hb.out.cell (p := ⟨b, off + k * 3, none⟩) hbw).trans a0
      have b1 := (hb.out.cell (p := ⟨b, off + k * 3 + 1, none⟩) hbw).trans a1
      have b2 := (hb.out.cell (p := ⟨b, off + k * 3 + 2, none⟩) hbw).trans a2
      have hqs : q < wr.heap.size := hr.out.lt
      have CV := Lib.hid (fun W (h : Below wr.heap.size wr W) => valueAt_one A cA vs[k] W (hsl.next (by rw [HQ.out]; exact hb.out.trans (h.mono (Nat.le_of_lt hqs)))))
      have HX : Hid (vs[k]? = some vs[k]) := Lib.hid (List.getElem?_eq_getElem hkv)
      generalize vs[k] = x at *
      have HSl := Lib.hid hsl
      clear a0 a1 a2 hsl hkv
      go_wp2_with fail
      refine (CV.out _ ?_).mono ?_
      · exact (Below.refl _ wr).alloc (Nat.le_refl _) _
      rintro e w2 ⟨rfl, hb2⟩
      have hbA : Below wr.heap.size wr w2 := ((Below.refl _ wr).alloc (Nat.le_refl _) _).trans (hb2.mono (by rw [World.size_alloc]; omega))
      obtain ⟨L, hLn, hLv, hLk⟩ := hL.out
      have HLk := Lib.hid hLk
      have HLn := Lib.hid hLn
      obtain ⟨xk, xm, xe, xt, xtr, xf⟩ := x
      dsimp only [valV, valC]
      go_upto_region 8 with fail
      have hbB : Below wr.heap.size wr (w2.alloc (.cells #[.int .i64 xk, .int .i64 xm, .int .i64 xe, .string ⟨xt.toArray⟩, .bool xtr, .int .i64 xf] 35)) := hbA.alloc hbA.size _
      have HB3 := Lib.hid (hb.out.trans (hbB.mono (Nat.le_of_lt hqs)))
      have HR3 := Lib.hid (hr.out.next hbB)
      have HV3 := Lib.hid (hLv.next hbB)
      have HL3 := Lib.hid (Lies.new w2 35 #[.int .i64 xk, .int .i64 xm, .int .i64 xe, .string ⟨xt.toArray⟩, .bool xtr, .int .i64 xf])
      generalize w2.alloc (.cells #[.int .i64 xk, .int .i64 xm, .int .i64 xe, .string ⟨xt.toArray⟩, .bool xtr, .int .i64 xf] 35) = W3 at *
      generalize w2.heap.size = g at *
      obtain ⟨r0, r1, r2, r3, r4, r5⟩ := (⟨HL3.out.cell 0, HL3.out.cell 1, HL3.out.cell 2, HL3.out.cell 3, HL3.out.cell 4, HL3.out.cell 5⟩ : _ ∧ _ ∧ _ ∧ _ ∧ _ ∧ _)
      simp only [List.getElem?_toArray, List.getElem?_cons_zero, List.getElem?_cons_succ] at r0 r1 r2 r3 r4 r5
      have hkL : k < L.length := by rw [hLn]; exact hlt
      have t0 := HV3.out.cell k hkL 0 (by decide)
      have t1 := HV3.out.cell k hkL 1 (by decide)
      have t2 := HV3.out.cell k hkL 2 (by decide)
      have t3 := HV3.out.cell k hkL 3 (by decide)
      have t4 := HV3.out.cell k hkL 4 (by decide)
      have t5 := HV3.out.cell k hkL 5 (by decide)
      simp only [valC, List.getElem?_toArray, List.getElem?_cons_zero, List.getElem?_cons_succ, Nat.add_zero] at t0 t1 t2 t3 t4 t5
      have f0 := HV3.out.frozen (k * 6)
      have f1 := HV3.out.frozen (k * 6 + 1)
      have f2 := HV3.out.frozen (k * 6 + 2)
      have f3 := HV3.out.frozen (k * 6 + 3)
      have f4 := HV3.out.frozen (k * 6 + 4)
      have f5 := HV3.out.frozen (k * 6 + 5)
      clear hbA hbB hb2 hb hr hL hLv hLk CV b0 b1 b2
      go_wp2_with fail
      go_roundw
      case rel =>
        refine ⟨k + 1, by go_num, by omega, Lib.hid ?_, Lib.hid ?_, Lib.hid ⟨_, ?_, HV3.out.put k hkL ⟨xk, xm, xe, xt, xtr, xf⟩, fun j h1 h2 => ?_⟩⟩
        · exact st6_below (x := ⟨xk, xm, xe, xt, xtr, xf⟩) HB3.out (Nat.le_succ _)
        · exact st6_off (x := ⟨xk, xm, xe, xt, xtr, xf⟩) HR3.out (by omega)
        · rw [List.length_set]; exact HLn.out
        · rw [List.getElem?_set]
          by_cases hjk : k = j
          · subst hjk
            rw [if_pos rfl, if_pos hkL, ← HX.out, List.getElem?_eq_getElem h2]
          · rw [if_neg hjk]; exact HLk.out j (by omega) h2
      case measure => simp [intOf]; omega
    · obtain rfl : n = k := by omega
      obtain ⟨L, hLn, hLv, hLk⟩ := hL.out
      have hLe : L = vs := List.ext_getElem? (fun j => by
        by_cases h : j < n
        · rw [hLk j h (by rw [← HN.out]; exact h), List.getElem?_eq_getElem]
        · rw [List.getElem?_eq_none (by omega), List.getElem?_eq_none (by rw [← HN.out]; omega)])
      subst hLe
      clear hLk hL
      go_upto_region 11 with fail
      have HB1 := Lib.hid (hb.out.alloc (Nat.le_of_lt hr.out.lt) (.cells cs2 84))
      have HR1 := Lib.hid (hr.out.alloc (.cells cs2 84))
      have HV1 := Lib.hid (hLv.next ((Below.refl _ wr).alloc (Nat.le_refl _) (.cells cs2 84)))
      have HI1 : Hid (IBk (wr.alloc (.cells cs2 84)) wr.heap.size (List.replicate n ⟨[], 0, 0, 0⟩)) := Lib.hid ⟨cs2, HC2.out, Lies.new wr _ _⟩
      have hqg : q + 1 < wr.heap.size := hLv.lt
      generalize wr.alloc (.cells cs2 84) = W1 at *
      generalize wr.heap.size = g at *
      clear hb hr hLv
      go_wp2_with fail
      go_loopw [51] (fun v51 wx => ∃ k : Nat, v51 = .int .i64 (k : Int) ∧ k ≤ n ∧ Hid (k = 0) ∧ Hid (Below q w wx) ∧ Hid (Lies wx q 35 (valC ⟨0, 0, 0, [], false, 0⟩)) ∧ Hid (VBk wx (q + 1) L) ∧ Hid (∃ X : List It, X.length = n ∧ IBk wx g X)) (fun v51 _ => n - (intOf v51).toNat)
      case atStart => exact ⟨0, rfl, Nat.zero_le _, Lib.hid rfl, HB1, HR1, HV1, Lib.hid ⟨_, by rw [List.length_replicate], HI1.out⟩⟩
      case round =>
        obtain ⟨k, rfl, hk, hk0, hb, hr, hv, hX⟩ := hrel
        clear HB1 HR1 HV1 HI1
        obtain ⟨X, hXn, hXi⟩ := hX.out
        clear hX
        by_cases hlt : k < n
        · have hkv : k < L.length := by rw [hLn]; exact hlt
          have hkks : k < ks.length := by rw [← HKl.out]; omega
          have t0 := hv.out.cell k hkv 0 (by decide)
          have t1 := hv.out.cell k hkv 1 (by decide)
          have t2 := hv.out.cell k hkv 2 (by decide)
          have t3 := hv.out.cell k hkv 3 (by decide)
          have t4 := hv.out.cell k hkv 4 (by decide)
          have t5 := hv.out.cell k hkv 5 (by decide)
          have HAk := Lib.hid (HAs.out k hkks hkv hk0.out)
          have HKk := Lib.hid (HKs.out k hkks)
          have HEk1 := Lib.hid (HEk.out k hkks)
          generalize L[k] = x at *
          generalize ks[k] = kf at *
          have hgs : g < wr.heap.size := hXi.lt
          have HXi := Lib.hid hXi
          have HXn := Lib.hid hXn
          have hbA : ∀ o, Below wr.heap.size wr (wr.alloc o) := fun o => (Below.refl _ wr).alloc (Nat.le_refl _) o
          obtain ⟨xk, xm, xe, xt, xtr, xf⟩ := x
          simp only [valC, List.getElem?_toArray, List.getElem?_cons_zero, List.getElem?_cons_succ, Nat.add_zero] at t0 t1 t2 t3 t4 t5
          clear hXi hXn hkv hkks
          go_upto_region 14 with fail
          have HB3 := Lib.hid (hb.out.alloc (by omega) (.cells #[.int .i64 xk, .int .i64 xm, .int .i64 xe, .string ⟨xt.toArray⟩, .bool xtr, .int .i64 xf] 35))
          have HR3 := Lib.hid (hr.out.alloc (.cells #[.int .i64 xk, .int .i64 xm, .int .i64 xe, .string ⟨xt.toArray⟩, .bool xtr, .int .i64 xf] 35))
          have HV3 := Lib.hid (hv.out.next (hbA (.cells #[.int .i64 xk, .int .i64 xm, .int .i64 xe, .string ⟨xt.toArray⟩, .bool xtr, .int .i64 xf] 35)))
          have HI3 := Lib.hid (HXi.out.next (hbA (.cells #[.int .i64 xk, .int .i64 xm, .int .i64 xe, .string ⟨xt.toArray⟩, .bool xtr, .int .i64 xf] 35)))
          have HL3 := Lib.hid (Lies.new wr 35 #[.int .i64 xk, .int .i64 xm, .int .i64 xe, .string ⟨xt.toArray⟩, .bool xtr, .int .i64 xf])
          generalize wr.alloc (.cells #[.int .i64 xk, .int .i64 xm, .int .i64 xe, .string ⟨xt.toArray⟩, .bool xtr, .int .i64 xf] 35) = W3 at *
          generalize wr.heap.size = gb at *
          obtain ⟨x, hx⟩ : ∃ x : Val, x = ⟨xk, xm, xe, xt, xtr, xf⟩ := ⟨_, rfl⟩
          rw [← hx] at HAk
          have HL4 : Hid (Lies W3 gb 35 (valC x)) := Lib.hid (by rw [hx]; exact HL3.out)
          have HC : Hid (∀ W, Below W3.heap.size W3 W → Calls Tryz.prog kf #[valV x] W fun e w' => e = .returned (.tuple #[itV y, .int .i64 fl]) ∧ Below W.heap.size W w') := Lib.hid (fun W h => HAk.out W (by exact HB3.out.trans (h.mono (Nat.le_of_lt HR3.out.lt))))
          clear hb hr hv HXi hbA t0 t1 t2 t3 t4 t5 hx HAk HL3
          go_cut [19, 20] from 77 (fun v19 v20 wy => ∃ bx : Nat, v19 = .pointer (some ⟨bx, 0, none⟩) ∧ v20 = .int .i64 fl ∧ W3.heap.size ≤ bx ∧ Hid (Lies wy bx 84 (itC y).toArray) ∧ Hid (Below W3.heap.size W3 wy))
          case first =>
            refine wp_region_invB (by kernel_rfl) (by kernel_rfl) (fun a0 => 77 ≤ a0.tmps.size ∧ a0.eval (.tmp 1) = .slice (some ⟨bk, 0, none⟩) kl kl ∧ a0.eval (.tmp 17) = .int .i64 (k : Int) ∧ a0.eval (.tmp 18) = .pointer (some ⟨gb, 0, none⟩)) (GI [57, 58, 59, 60, 61, 62, 56, 63, 64, 19, 20] (tabAtF bk kl k kf x y fl) W3 9 19 10 84 (itC ⟨[], 0, 0, 0⟩).toArray (fun c _ => c = (itC y).toArray)) ⟨by simp, rfl, rfl, rfl⟩ (GI.start _ _ (Below.refl _ _).drew) ?_ ?_
            · rintro a0 ⟨hs, h1, h17, h18⟩ listed a1 w1 j o hsz hI hun ho hdeps
              have hk : GOk [57, 58, 59, 60, 61, 62, 56, 63, 64, 19, 20] (tabAtF bk kl k kf x y fl) 9 19 10 77 84 4 (fun c _ => c = (itC y).toArray) := ⟨rfl, by
                intro e he
                simp only [tabAtF, List.mem_cons, List.not_mem_nil, or_false] at he
                rcases he with rfl | rfl | rfl | rfl | rfl | rfl | rfl | rfl | rfl | rfl <;> exact last_is _ _ _, fun _ _ _ h _ => h, fun _ _ _ _ _ _ h _ _ => h⟩
              have hj := Up.of_false hun
              have hj12 : j < 12 := by rw [hsz] at hj; exact hj
              have e1 : a1.eval (.tmp 1) = .slice (some ⟨bk, 0, none⟩) kl kl := (hI.off.eval (by decide)).trans h1
              have e17 : a1.eval (.tmp 17) = .int .i64 (k : Int) := (hI.off.eval (by decide)).trans h17
              have e18 : a1.eval (.tmp 18) = .pointer (some ⟨gb, 0, none⟩) := (hI.off.eval (by decide)).trans h18
              have hkk : k < kl := by omega
              have m0 : w1.cell? ⟨bk, k, none⟩ = some (fnV kf) := (hI.bel.cell (p := ⟨bk, k, none⟩) (by have := HB3.out.size; rw [HQ.out] at *; dsimp only; omega)).trans ((HB3.out.cell (p := ⟨bk, k, none⟩) hbk).trans HKk.out)
              have hL1 : Lies w1 gb 35 (valC x) := (hI.bel.block gb HL4.out.lt).trans HL4.out
              have m1 := hL1.cell 0
              have m2 := hL1.cell 1
              have m3 := hL1.cell 2
              have m4 := hL1.cell 3
              have m5 := hL1.cell 4
              have m6 := hL1.cell 5
              simp only [valC, List.getElem?_toArray, List.getElem?_cons_zero, List.getElem?_cons_succ] at m1 m2 m3 m4 m5 m6
              clear h1 h17 h18 hL1
              rcases (by omega : j = 0 ∨ j = 1 ∨ j = 2 ∨ j = 3 ∨ j = 4 ∨ j = 5 ∨ j = 6 ∨ j = 7 ∨ j = 8 ∨ j = 9 ∨ j = 10 ∨ j = 11) with rfl | rfl | rfl | rfl | rfl | rfl | rfl | rfl | rfl | rfl | rfl | rfl
              · have ho2 := ho
                simp only [List.getElem?_toArray, List.getElem?_cons_zero, Option.some.injEq] at ho2
                subst ho2
                exact gi_val hk hI hs (.head _) (.slice (some ⟨bk, 0, none⟩) kl kl) _ hun ho rfl rfl (by simp [execOp, go_sem, tget e1]) (Below.refl _ _) rfl
              · have ho2 := ho
                simp only [List.getElem?_toArray, List.getElem?_cons_zero, List.getElem?_cons_succ, Option.some.injEq] at ho2
                subst ho2
                exact gi_val hk hI hs (.tail _ (.head _)) (.int .i64 (k : Int)) _ hun ho rfl rfl (by simp [execOp, go_sem, tget e17]) (Below.refl _ _) rfl
              · have ho2 := ho
                simp only [List.getElem?_toArray, List.getElem?_cons_zero, List.getElem?_cons_succ, Option.some.injEq] at ho2
                subst ho2
                have d0 : Up listed 0 := hdeps { on := 0, ground := .data } (by simp) rfl
                have p57 : a1.eval (.tmp 57) = (.slice (some ⟨bk, 0, none⟩) kl kl) := hI.pt (0, 57, Is (.slice (some ⟨bk, 0, none⟩) kl kl)) (.head _) d0
                have d1 : Up listed 1 := hdeps { on := 1, ground := .data } (by simp) rfl
                have p58 : a1.eval (.tmp 58) = (.int .i64 (k : Int)) := hI.pt (1, 58, Is (.int .i64 (k : Int))) (.tail _ (.head _)) d1
                exact gi_val hk hI hs (.tail _ (.tail _ (.head _))) (.pointer (some ⟨bk, k, none⟩)) _ hun ho rfl rfl (by simp [execOp, go_sem, tget p57, tget p58, hkk]) (Below.refl _ _) rfl
              · have ho2 := ho
                simp only [List.getElem?_toArray, List.getElem?_cons_zero, List.getElem?_cons_succ, Option.some.injEq] at ho2
                subst ho2
                have d2 : Up listed 2 := hdeps { on := 2, ground := .data } (by simp) rfl
                have p59 : a1.eval (.tmp 59) = (.pointer (some ⟨bk, k, none⟩)) := hI.pt (2, 59, Is (.pointer (some ⟨bk, k, none⟩))) (.tail _ (.tail _ (.head _))) d2
                exact gi_val hk hI hs (.tail _ (.tail _ (.tail _ (.head _)))) (fnV kf) _ hun ho rfl rfl (by simp [execOp, go_sem, tget p59, fnV, m0]) (Below.refl _ _) rfl
              · have ho2 := ho
                simp only [List.getElem?_toArray, List.getElem?_cons_zero, List.getElem?_cons_succ, Option.some.injEq] at ho2
                subst ho2
                exact gi_val hk hI hs (.tail _ (.tail _ (.tail _ (.tail _ (.head _))))) (valV x) _ hun ho rfl rfl (by simp [execOp, go_sem, tget e18, valV, valC, m1, m2, m3, m4, m5, m6]) (Below.refl _ _) rfl
              · have ho2 := ho
                simp only [List.getElem?_toArray, List.getElem?_cons_zero, List.getElem?_cons_succ, Option.some.injEq] at ho2
                subst ho2
                have d3 : Up listed 3 := hdeps { on := 3, ground := .data } (by simp) rfl
                have p60 : a1.eval (.tmp 60) = (fnV kf) := hI.pt (3, 60, Is (fnV kf)) (.tail _ (.tail _ (.tail _ (.head _)))) d3
                have d4 : Up listed 4 := hdeps { on := 4, ground := .data } (by simp) rfl
                have p61 : a1.eval (.tmp 61) = (valV x) := hI.pt (4, 61, Is (valV x)) (.tail _ (.tail _ (.tail _ (.tail _ (.head _))))) d4
                refine gi_call hk hI hs (.tail _ (.tail _ (.tail _ (.tail _ (.tail _ (.head _)))))) kf #[valV x] hun ho rfl rfl (by simp [execOp, go_sem, tget p60, tget p61, fnV, HEk1.out]) ?_
                refine (HC.out w1 hI.bel).mono ?_
                rintro e w2 ⟨rfl, hb⟩
                exact ⟨_, rfl, hb, rfl⟩
              · have ho2 := ho
                simp only [List.getElem?_toArray, List.getElem?_cons_zero, List.getElem?_cons_succ, Option.some.injEq] at ho2
                subst ho2
                have d5 : Up listed 5 := hdeps { on := 5, ground := .data } (by simp) rfl
                have p62 : a1.eval (.tmp 62) = (.tuple #[itV y, .int .i64 fl]) := hI.pt (5, 62, Is (.tuple #[itV y, .int .i64 fl])) (.tail _ (.tail _ (.tail _ (.tail _ (.tail _ (.head _)))))) d5
                exact gi_val hk hI hs (.tail _ (.tail _ (.tail _ (.tail _ (.tail _ (.tail _ (.head _))))))) (.tuple #[itV y, .int .i64 fl]) _ hun ho rfl rfl (by simp [execOp, go_sem, tget p62]) (Below.refl _ _) rfl
              · have ho2 := ho
                simp only [List.getElem?_toArray, List.getElem?_cons_zero, List.getElem?_cons_succ, Option.some.injEq] at ho2
                subst ho2
                have d6 : Up listed 6 := hdeps { on := 6, ground := .data } (by simp) rfl
                have p56 : a1.eval (.tmp 56) = (.tuple #[itV y, .int .i64 fl]) := hI.pt (6, 56, Is (.tuple #[itV y, .int .i64 fl])) (.tail _ (.tail _ (.tail _ (.tail _ (.tail _ (.tail _ (.head _))))))) d6
                exact gi_val hk hI hs (.tail _ (.tail _ (.tail _ (.tail _ (.tail _ (.tail _ (.tail _ (.head _)))))))) (itV y) _ hun ho rfl rfl (by simp [execOp, go_sem, tget p56]) (Below.refl _ _) rfl
              · have ho2 := ho
                simp only [List.getElem?_toArray, List.getElem?_cons_zero, List.getElem?_cons_succ, Option.some.injEq] at ho2
                subst ho2
                have d6 : Up listed 6 := hdeps { on := 6, ground := .data } (by simp) rfl
                have p56 : a1.eval (.tmp 56) = (.tuple #[itV y, .int .i64 fl]) := hI.pt (6, 56, Is (.tuple #[itV y, .int .i64 fl])) (.tail _ (.tail _ (.tail _ (.tail _ (.tail _ (.tail _ (.head _))))))) d6
                exact gi_val hk hI hs (.tail _ (.tail _ (.tail _ (.tail _ (.tail _ (.tail _ (.tail _ (.tail _ (.head _))))))))) (.int .i64 fl) _ hun ho rfl rfl (by simp [execOp, go_sem, tget p56]) (Below.refl _ _) rfl
              · have ho2 := ho
                simp only [List.getElem?_toArray, List.getElem?_cons_zero, List.getElem?_cons_succ, Option.some.injEq] at ho2
                subst ho2
                exact gi_alloc hk hI hs hun ho rfl rfl (fun W => by simp [execOp, go_sem, itC])
              · have ho2 := ho
                simp only [List.getElem?_toArray, List.getElem?_cons_zero, List.getElem?_cons_succ, Option.some.injEq] at ho2
                subst ho2
                have d9 : Up listed 9 := hdeps { on := 9, ground := .data } (by simp) rfl
                have d7 : Up listed 7 := hdeps { on := 7, ground := .data } (by simp) rfl
                have p63 : a1.eval (.tmp 63) = (itV y) := hI.pt (7, 63, Is (itV y)) (.tail _ (.tail _ (.tail _ (.tail _ (.tail _ (.tail _ (.tail _ (.head _)))))))) d7
                exact gi_store hk hI hun ho rfl rfl d9 (itC y) rfl rfl rfl (fun bx g1 g2 => by
                  have c0 := g2.cell 0
                  have c1 := g2.cell 1
                  have c2 := g2.cell 2
                  have c3 := g2.cell 3
                  have k0 := g2.frozen 0
                  have k1 := g2.frozen 1
                  have k2 := g2.frozen 2
                  have k3 := g2.frozen 3
                  simp at c0 c1 c2 c3
                  simp [execOp, go_sem, tget p63, itV, itemV, itC, tget g1, putL, c0, k0, c1, k1, c2, k2, c3, k3])
              · have ho2 := ho
                simp only [List.getElem?_toArray, List.getElem?_cons_zero, List.getElem?_cons_succ, Option.some.injEq] at ho2
                subst ho2
                have d8 : Up listed 8 := hdeps { on := 8, ground := .data } (by simp) rfl
                have p64 : a1.eval (.tmp 64) = (.int .i64 fl) := hI.pt (8, 64, Is (.int .i64 fl)) (.tail _ (.tail _ (.tail _ (.tail _ (.tail _ (.tail _ (.tail _ (.tail _ (.head _))))))))) d8
                exact gi_val hk hI hs (.tail _ (.tail _ (.tail _ (.tail _ (.tail _ (.tail _ (.tail _ (.tail _ (.tail _ (.head _)))))))))) (.int .i64 fl) _ hun ho rfl rfl (by simp [execOp, go_sem, tget p64]) (Below.refl _ _) rfl
            · intro listed a1 w1 hI hup
              obtain ⟨bx, b1, b2, -, b4⟩ := hI.al (hup 9 (by decide))
              obtain ⟨c, rfl, hl2⟩ := b4 (hup 10 (by decide))
              have h20 : a1.eval (.tmp 20) = .int .i64 fl := hI.pt (11, 20, Is (.int .i64 fl)) (.tail _ (.tail _ (.tail _ (.tail _ (.tail _ (.tail _ (.tail _ (.tail _ (.tail _ (.head _)))))))))) (hup 11 (by decide))
              have hbel := hI.bel
              obtain ⟨ff, rfl, hf⟩ := hI.off.forms
              have f19 : ff 19 = .pointer (some ⟨bx, 0, none⟩) := (hf 19).trans b1
              have f20 : ff 20 = .int .i64 fl := (hf 20).trans h20
              clear hI
              simp only [List.foldl, Act.put, List.setIfInBounds_toArray, List.set, f19, f20]
              simp only [Exit.then]
              go_step
              go_meet
              exact ⟨bx, rfl, rfl, b2, Lib.hid hl2, Lib.hid hbel⟩
          case rest =>
            obtain ⟨bx, rfl, rfl, hbx, hLi, hBe⟩ := hcut
            have HB4 := Lib.hid (HB3.out.trans (hBe.out.mono (Nat.le_of_lt HR3.out.lt)))
            have HR4 := Lib.hid (HR3.out.next hBe.out)
            have HV4 := Lib.hid (HV3.out.next hBe.out)
            have HI4 := Lib.hid (HI3.out.next hBe.out)
            have hkX : k < X.length := by rw [HXn.out]; exact hlt
            have r0 := hLi.out.cell 0
            have r1 := hLi.out.cell 1
            have r2 := hLi.out.cell 2
            have r3 := hLi.out.cell 3
            simp only [itC, List.getElem?_toArray, List.getElem?_cons_zero, List.getElem?_cons_succ] at r0 r1 r2 r3
            have t0 := HI4.out.cell k hkX 0 (by decide)
            have t1 := HI4.out.cell k hkX 1 (by decide)
            have t2 := HI4.out.cell k hkX 2 (by decide)
            have t3 := HI4.out.cell k hkX 3 (by decide)
            simp only [itC, List.getElem?_cons_zero, List.getElem?_cons_succ, Nat.add_zero] at t0 t1 t2 t3
            have f0 := HI4.out.frozen (k * 4)
            have f1 := HI4.out.frozen (k * 4 + 1)
            have f2 := HI4.out.frozen (k * 4 + 2)
            have f3 := HI4.out.frozen (k * 4 + 3)
            clear HB3 HR3 HV3 HI3 hBe hLi HL4 HC hbx t0 t1 t2 t3 f0 f1 f2 f3 r0 r1 r2 r3
            have hqs4 := HR4.out.lt
            go_wp2_with fail
            refine (CBd.out _).mono ?_
            rintro e w7 ⟨rfl, hb7⟩
            have HB7 := Lib.hid (HB4.out.trans (hb7.mono (Nat.le_of_lt hqs4)))
            have HR7 := Lib.hid (HR4.out.next hb7)
            clear hb7
            obtain ⟨rr, hrr⟩ : ∃ rr, vBad fl = rr := ⟨_, rfl⟩
            rw [hrr]
            obtain ⟨rk, rm, re, rt, rtr, rf⟩ := rr
            have x0 := HR7.out.cell 0
            have x1 := HR7.out.cell 1
            have x2 := HR7.out.cell 2
            have x3 := HR7.out.cell 3
            have x4 := HR7.out.cell 4
            have x5 := HR7.out.cell 5
            have f0 := HR7.out.frozen 0
            have f1 := HR7.out.frozen 1
            have f2 := HR7.out.frozen 2
            have f3 := HR7.out.frozen 3
            have f4 := HR7.out.frozen 4
            have f5 := HR7.out.frozen 5
            simp only [valC, List.getElem?_toArray, List.getElem?_cons_zero, List.getElem?_cons_succ] at x0 x1 x2 x3 x4 x5
            dsimp only [valV, valC]
            go_wp2_with fail
            refine bodyPost_ret (v := .agg #[.int .i64 rk, .int .i64 rm, .int .i64 re, .string ⟨rt.toArray⟩, .bool rtr, .int .i64 rf]) (by simp [results, Tryz.results61, go_sem, x0, x1, x2, x3, x4, x5]) rfl ?_
            refine ⟨by rw [hrr], ?_⟩
            rw [HQ.out]
            exact st6_below (i := 0) (x := ⟨rk, rm, re, rt, rtr, rf⟩) HB7.out (Nat.le_refl _)
        · exfalso
          have := hk0.out
          omega
set_option maxRecDepth 100000 in
set_option maxHeartbeats 6400000 in
theorem through1_gen (f p : Nat) (ks : List Nat) (vs : List Val) (r : Val) (bk b off cap : Nat) (w : World) (hkn : vs.length ≤ ks.length) (hk4 : ks.length ≤ 4) (h0 : 0 < vs.length)
    (hp1 : w.cell? ⟨p, 0, none⟩ = some (fnV f)) (hp2 : w.cell? ⟨p + 1, 0, none⟩ = some (.slice (some ⟨bk, 0, none⟩) ks.length ks.length)) (hpl : p + 1 < w.heap.size) (ha : ARow w b off vs)
    (CA0 : ∀ W, Below w.heap.size w W → Calls Tryz.prog 61 #[fnV f, .slice (some ⟨bk, 0, none⟩) ks.length ks.length, .slice (some ⟨b, off, none⟩) vs.length cap, .int .i64 0, .int .i64 0] W fun e w' => e = .returned (valV r) ∧ Below W.heap.size W w') :
    Calls Tryz.prog 60 #[.slice (some ⟨b, off, none⟩) vs.length cap, .pointer (some ⟨p, 0, none⟩), .pointer (some ⟨p + 1, 0, none⟩)] w (ThrPost r w) := by
  have CA : Hid (∀ W, Below w.heap.size w W → Calls Tryz.prog 61 #[fnV f, .slice (some ⟨bk, 0, none⟩) ks.length ks.length, .slice (some ⟨b, off, none⟩) vs.length cap, .int .i64 0, .int .i64 0] W fun e w' => e = .returned (valV r) ∧ Below W.heap.size W w') := Lib.hid CA0
  have HA := Lib.hid ha
  have hn4 : vs.length ≤ 4 := Nat.le_trans hkn hk4
  obtain ⟨n, hn⟩ : ∃ n, n = vs.length := ⟨_, rfl⟩
  obtain ⟨kl, hkl⟩ : ∃ n, n = ks.length := ⟨_, rfl⟩
  have HN := Lib.hid hn
  rw [← hn] at h0 hn4 ⊢
  rw [← hn, ← hkl] at CA
  rw [← hkl] at hp2
  unfold fnV at hp1 CA
  have HP1 := Lib.hid hp1
  have HP2 := Lib.hid hp2
  clear hkn hk4 ha CA0 hn hkl hp1 hp2
  go_enter Tryz.func60, Tryz.ntmps60
  go_upto_region 2 with fail
  have HB1 : Hid (Below w.heap.size w (w.alloc (.cells #[.int .i64 0, .int .i64 0, .slice none 0 0] 25))) := Lib.hid ((Below.refl _ w).alloc (Nat.le_refl _) _)
  have HR1 : Hid (Lies (w.alloc (.cells #[.int .i64 0, .int .i64 0, .slice none 0 0] 25)) w.heap.size 25 #[.int .i64 0, .int .i64 0, .slice none 0 0]) := Lib.hid (Lies.new w _ _)
  generalize w.alloc (.cells #[.int .i64 0, .int .i64 0, .slice none 0 0] 25) = W1 at *
  generalize hqe : w.heap.size = q at *
  have HQ := Lib.hid hqe
  clear hqe
  go_wp2_with fail
  go_loopw [14, 5, 6] (fun v14 v5 v6 wx => ∃ k : Nat, v14 = .int .i64 (k : Int) ∧ k ≤ n ∧ (k = 0 ∧ v5 = .int .i64 0 ∧ v6 = .int .i64 0 ∨ 0 < k ∧ v5 = .int .i64 1 ∧ v6 = .int .i64 1) ∧ Hid (Below q w wx) ∧ Hid (Lies wx q 25 #[.int .i64 0, .int .i64 0, .slice none 0 0])) (fun v14 _ _ _ => n - (intOf v14).toNat)
  case atStart => exact ⟨0, rfl, Nat.zero_le _, .inl ⟨rfl, rfl, rfl⟩, HB1, HR1⟩
  case round =>
    obtain ⟨k, rfl, hk, h56, hb, hr⟩ := hrel
    clear HB1 HR1
    by_cases hlt : k < n
    · have hkv : k < vs.length := by rw [← HN.out]; exact hlt
      have hAk := HA.out.2 k hkv
      have hbw : b < q := by rw [← HQ.out]; exact HA.out.1
      obtain ⟨a0, a1, A, cA, a2, hsl⟩ := hAk
      have b0 := (hb.out.cell (p := ⟨b, off + k * 3, none⟩) hbw).trans a0
      have b1 := (hb.out.cell (p := ⟨b, off + k * 3 + 1, none⟩) hbw).trans a1
      have b2 := (hb.out.cell (p := ⟨b, off + k * 3 + 2, none⟩) hbw).trans a2
      have hqs : q < wr.heap.size := hr.out.lt
      clear a0 a1 a2 hsl hkv hbw
      go_upto_region 5 with fail
      have HB3 := Lib.hid (hb.out.alloc (Nat.le_of_lt hqs) (.cells #[.int .i64 1, .int .i64 1, .slice A 1 cA] 25))
      have HR3 := Lib.hid (hr.out.alloc (.cells #[.int .i64 1, .int .i64 1, .slice A 1 cA] 25))
      have HL3 := Lib.hid (Lies.new wr 25 #[.int .i64 1, .int .i64 1, .slice A 1 cA])
      generalize wr.alloc (.cells #[.int .i64 1, .int .i64 1, .slice A 1 cA] 25) = W3 at *
      generalize wr.heap.size = g at *
      have r0 := HL3.out.cell 0
      have r1 := HL3.out.cell 1
      simp only [List.getElem?_toArray, List.getElem?_cons_zero, List.getElem?_cons_succ] at r0 r1
      clear hb hr b0 b1 b2
      rcases h56 with ⟨rfl, rfl, rfl⟩ | ⟨hk0, rfl, rfl⟩
      · go_region
        go_wp2_with fail
        go_roundw
        case rel => exact ⟨0 + 1, by go_num, by omega, .inr ⟨by omega, rfl, rfl⟩, Lib.hid HB3.out.drew, HR3⟩
        case measure => simp [intOf]; omega
      · go_region
        go_wp2_with fail
        go_roundw
        case rel => exact ⟨k + 1, by go_num, by omega, .inr ⟨by omega, rfl, rfl⟩, Lib.hid HB3.out.drew, HR3⟩
        case measure => simp [intOf]; omega
    · obtain rfl : n = k := by omega
      rcases h56 with ⟨rfl, -, -⟩ | ⟨-, rfl, rfl⟩
      · omega
      have mk := make_one
      go_upto_region 10 with fail
      have HB4 := Lib.hid (hb.out.alloc (Nat.le_of_lt hr.out.lt) (.cells (valC ⟨0, 0, 0, [], false, 0⟩) 35))
      have HR4 := Lib.hid (hr.out.alloc (.cells (valC ⟨0, 0, 0, [], false, 0⟩) 35))
      have hqs : q < wr.heap.size := hr.out.lt
      have HO4 : Hid ((wr.alloc (.cells (valC ⟨0, 0, 0, [], false, 0⟩) 35)).ownsRow (q + 1) 35 6 (.slice (some ⟨wr.heap.size, 0, none⟩) 0 1) 0 []) := Lib.hid (World.ownsRow_made wr _ 1 (by omega) (by decide) rfl)
      generalize wr.alloc (.cells (valC ⟨0, 0, 0, [], false, 0⟩) 35) = W4 at *
      generalize wr.heap.size = g at *
      have hsz : w.heap.size ≤ W4.heap.size := HB4.out.size
      have hpw : p + 1 < q := hpl
      have p1 := (HB4.out.cell (p := ⟨p, 0, none⟩) (show p < q by omega)).trans HP1.out
      have p2 := (HB4.out.cell (p := ⟨p + 1, 0, none⟩) hpw).trans HP2.out
      have C4 := Lib.hid (CA.out W4 HB4.out)
      obtain ⟨i1, gi, gz0, gz1, gz2⟩ := info_parts infoVal
      clear mk hb hr CA hpl hpw
      go_wp2_with fail
      refine wp_loop_rounds 2 ?_
      rw [rounds_succ]
      go_wp2_with fail
      refine wp_loop_rounds 2 ?_
      rw [rounds_succ]
      go_wp2_with fail
      refine C4.out.mono ?_
      rintro e w5 ⟨rfl, hb5⟩
      have hqs4 : q < W4.heap.size := HR4.out.lt
      have HB5 := Lib.hid (HB4.out.trans (hb5.mono (Nat.le_of_lt hqs4)))
      have HR5 := Lib.hid (HR4.out.next hb5)
      have HO5 := Lib.hid (own_next hb5 HO4.out)
      have hsz5 := hb5.size
      clear hb5 HB4 HR4 HO4 C4 p1 p2
      obtain ⟨rk, rm, re, rt, rtr, rf⟩ := r
      dsimp only [valV, valC]
      go_wp2_with (at_builtin; refine wpList_append_own _ rfl _ _ 23 rfl (q + 1) 35 i1 (.agg (valC ⟨0, 0, 0, [], false, 0⟩)) 6 56 Tryz.underlying23 gi gz0 gz1 gz2 rfl (by decide) _ _ _ rfl (World.ownsRow.alloc HO5.out _) ⟨w5.heap.size, 0, none⟩ 1 1 [.int .i64 rk, .int .i64 rm, .int .i64 re, .string ⟨rt.toArray⟩, .bool rtr, .int .i64 rf] rfl rfl ?c1 ?c2 ?c3 ?c4 ?c5 ?_)
      try
        case c1 =>
          intro j u hj
          match j, hj with
          | 0, hj => simp at hj; subst hj; simp [Addr.add]
          | 1, hj => simp at hj; subst hj; simp [Addr.add]
          | 2, hj => simp at hj; subst hj; simp [Addr.add]
          | 3, hj => simp at hj; subst hj; simp [Addr.add]
          | 4, hj => simp at hj; subst hj; simp [Addr.add]
          | 5, hj => simp at hj; subst hj; simp [Addr.add]
          | j + 6, hj => simp at hj
      try
        case c2 =>
          intro u hu
          simp at hu
          rcases hu with rfl | rfl | rfl | rfl | rfl | rfl <;> rfl
      case c3 => unfold maxLen; omega
      case c4 => omega
      case c5 => rw [World.size_alloc]; omega
      intro v' W6 hown' hgrow _
      have HB6 : Hid (Below q w W6) := Lib.hid ((HB5.out.alloc (by omega) _).grown hgrow (by rw [World.size_alloc]; omega) (fun r e => by have := ((World.ownsRow.alloc HO5.out (.cells #[.int .i64 rk, .int .i64 rm, .int .i64 re, .string ⟨rt.toArray⟩, .bool rtr, .int .i64 rf] 35)).lt _ e).1; omega))
      have HR6 : Hid (Lies W6 q 25 #[.int .i64 0, .int .i64 0, .slice none 0 0]) := Lib.hid ((HR5.out.alloc _).grown hgrow (fun e => by have := ((World.ownsRow.alloc HO5.out (.cells #[.int .i64 rk, .int .i64 rm, .int .i64 re, .string ⟨rt.toArray⟩, .bool rtr, .int .i64 rf] 35)).lt _ e.symm).1; omega))
      obtain ⟨g', c', rfl, hc', hvp⟩ := VP.own (vs := [⟨rk, rm, re, rt, rtr, rf⟩]) hown' rfl (by decide)
      have HVP := Lib.hid hvp
      have x0 := HR6.out.cell 0
      have x1 := HR6.out.cell 1
      have x2 := HR6.out.cell 2
      have f0 := HR6.out.frozen 0
      have f1 := HR6.out.frozen 1
      have f2 := HR6.out.frozen 2
      simp only [List.getElem?_toArray, List.getElem?_cons_zero, List.getElem?_cons_succ] at x0 x1 x2
      clear hown' hgrow hvp HB5 HR5 HO5
      go_wp2_with fail
      rw [rounds_succ]
      go_wp2_with fail
      rw [rounds_succ]
      go_wp2_with fail
      refine bodyPost_ret (v := .agg #[.int .i64 1, .int .i64 1, .slice (some ⟨g', 0, none⟩) 1 c']) (by simp [results, Tryz.results60, go_sem, x0, x1, x2]) rfl ?_
      refine ⟨_, rfl, ⟨g', c', rfl, ?_⟩, ?_⟩
      · exact ((HVP.out.put (by decide) HR6.out 0 _).put (by decide) (HR6.out.put 0 _) 1 _).put (by decide) ((HR6.out.put 0 _).put 1 _) 2 _
      · rw [HQ.out]
        exact below_set (below_set (below_set HB6.out (Nat.le_refl _) 0 _) (Nat.le_refl _) 1 _) (Nat.le_refl _) 2 _
/-- a call of a function that refuses its first argument -/
theorem callThr_bad (j : Nat) (e : Ent) (hj : j < 12) (he : ents12[j]? = some e) (least most : Nat) (vs : List Val) (y : It) (fl : Int) (hfl : fl ≠ 0) (b cap : Nat) (w : World)
    (hfind : ∀ q, Instr.findNow .string (.string ⟨e.name.toArray⟩) (tabA q).toList 0 = some (some (j, entV least most (thrV (q + (1 + 3 * j))))))
    (hek : ∀ k ∈ e.f :: e.asks, ∀ args W, (callFunc k args).run Tryz.prog W = .ok (.enter k args) W) (h4 : e.asks.length ≤ 4) (hl : least ≤ vs.length) (hm : vs.length ≤ most) (hm2 : most ≤ e.asks.length) (h0 : 0 < vs.length)
    (ha : Args w b (vs.map arr1)) (hf : ∀ v ∈ vs, vRight v = true ∧ v.sane)
    (hA : ∀ i (_ : i < e.asks.length) (_ : i < vs.length), i = 0 → ∀ W, Below w.heap.size w W → Calls Tryz.prog e.asks[i] #[valV vs[i]] W fun e w' => e = .returned (.tuple #[itV y, .int .i64 fl]) ∧ Below W.heap.size W w') :
    Calls Tryz.prog 9 #[.string ⟨e.name.toArray⟩, .slice (some ⟨b, 0, none⟩) vs.length cap] w (CallPost (arr1 (vBad fl)) w) := by
  have hlen : (vs.map arr1).length = vs.length := List.length_map ..
  have h := call_any e.name least most 60 (fun q => #[.pointer (some ⟨q + (1 + 3 * j) + 1, 0, none⟩), .pointer (some ⟨q + (1 + 3 * j) + 1 + 1, 0, none⟩)]) j (vs.map arr1) b cap (arr1 (vBad fl)) w hfind (enters_of Tryz.func60 (by kernel_rfl) rfl) (by omega) (by omega) (by omega) ha ?_ ?_
  · rw [hlen] at h; exact h
  · intro a hm
    obtain ⟨v, hv, rfl⟩ := List.mem_map.1 hm
    obtain ⟨h1, h2⟩ := hf v hv
    refine ⟨?_, ⟨by show (-9223372036854775808 : Int) ≤ 1; decide, by show (1 : Int) ≤ 9223372036854775807; decide⟩, ?_⟩
    · show aRight 1 1 [v] = true
      simp [aRight, pFits, h1]
    · intro u hu
      have : u = v := by simpa [arr1] using hu
      subst this
      exact h2
  · intro W hb hT
    obtain ⟨b1, b2, b3, b4⟩ := hT j e hj he
    rw [hlen]
    have hp : w.heap.size + 1 + (1 + 3 * j) = w.heap.size + 1 + 1 + 3 * j := by omega
    show Calls Tryz.prog 60 #[.slice (some ⟨b, 0, none⟩) vs.length cap, .pointer (some ⟨w.heap.size + 1 + (1 + 3 * j) + 1, 0, none⟩), .pointer (some ⟨w.heap.size + 1 + (1 + 3 * j) + 1 + 1, 0, none⟩)] W _
    rw [hp]
    refine (through1_gen e.f (w.heap.size + 1 + 1 + 3 * j + 1) e.asks vs (vBad fl) (w.heap.size + 1 + 1 + 3 * j) b 0 cap W (by omega) h4 h0 b2 b3 b4 (ha.next hb).row (fun W' hW' => at_bad e.f e.asks vs y fl h0 hfl (w.heap.size + 1 + 1 + 3 * j) b 0 cap W' (enters_list (fun k hk => hek k (List.mem_cons_of_mem _ hk))) (by omega) h4 (fun i hi => (hW'.cell (p := ⟨_, i, none⟩) (Nat.lt_of_le_of_lt (Nat.le_add_right _ 2) b4)).trans (b1 i hi)) (Nat.lt_of_lt_of_le (Nat.lt_of_le_of_lt (Nat.le_add_right _ 2) b4) hW'.size) (ha.next (hb.trans (hW'.mono hb.size))).row (fun i h1 h2 h3 W'' hW'' => hA i h1 h2 h3 W'' ((hb.trans (hW'.mono hb.size)).trans (hW''.mono (hb.trans (hW'.mono hb.size)).size))))).mono ?_
    rintro x w' ⟨v, rfl, h1, h2⟩
    exact ⟨v, rfl, h1, h2⟩
/-- properties of values that last: an array; the arguments of a call; a call's result; a box's cells -/
def PA (a : Arr) : Value → World → Prop := fun v w => AIn v a.r a.c a.vs w
def PAr (k : Nat) (ar : List Arr) : Value → World → Prop := fun v w => ∃ g cs, v = .slice (some ⟨g, 0, none⟩) k k ∧ Lies w g 25 cs ∧ cs.size = 3 * k ∧ Args w g ar
def PR (a : Arr) : Value → World → Prop := fun v w => ∃ u, v = .tuple #[u, .bool true] ∧ AIn u a.r a.c a.vs w
def PC (a : Arr) : Array Value → World → Prop := fun c w => ∃ g cap, c = #[.int .i64 a.r, .int .i64 a.c, .slice (some ⟨g, 0, none⟩) a.vs.length cap] ∧ VP w g a.vs
theorem last_PA (a : Arr) : Last 25 3 (PA a) := last_ain (by decide) _ _ _
theorem last_PR (a : Arr) : Last 25 3 (PR a) :=
  ⟨fun _ _ _ ⟨u, e, h⟩ hb => ⟨u, e, h.next hb⟩, fun _ w bx cs i u ⟨x, e, h⟩ hL hs => ⟨x, e, (last_PA a).put x w bx cs i u h hL hs⟩⟩
theorem args_put {w : World} {g bx : Nat} {ar : List Arr} {cs : Array Value} (h : Args w g ar) (hne : g ≠ bx) (hL : Lies w bx 25 cs) (i : Nat) (u : Value) : Args (w.setCell ⟨bx, i, none⟩ u) g ar := by
  have hc : ∀ k, (w.setCell ⟨bx, i, none⟩ u).cell? ⟨g, k, none⟩ = w.cell? ⟨g, k, none⟩ := fun k => by
    have := heap_setCell_other w ⟨bx, i, none⟩ g u hne
    unfold World.cell?
    rw [this]
  refine ⟨by rw [World.size_setCell]; exact h.1, fun j hj => ?_⟩
  obtain ⟨g', c', h1, h2, h3, h4⟩ := h.2 j hj
  exact ⟨g', c', (hc _).trans h1, (hc _).trans h2, (hc _).trans h3, h4.put (by decide) hL i u⟩
theorem last_PAr (k : Nat) (ar : List Arr) (hk : 2 ≤ k) : Last 25 3 (PAr k ar) := by
  refine ⟨fun _ _ _ ⟨g, cs, e, h1, h2, h3⟩ hb => ⟨g, cs, e, h1.next hb, h2, h3.next hb⟩, fun v w bx cs' i u ⟨g, cs, e, h1, h2, h3⟩ hL hs => ?_⟩
  have hne : g ≠ bx := fun e => by
    subst e
    unfold Lies at h1 hL
    rw [h1] at hL
    injection hL with hL
    injection hL with hL _ _
    rw [hL] at h2
    omega
  exact ⟨g, cs, e, lies_off h1 hne i u, h2, args_put h3 hne hL i u⟩
theorem pc_grow (a : Arr) : ∀ c w w', PC a c w → Below w.heap.size w w' → PC a c w' := fun _ _ _ ⟨g, cap, e, h⟩ hb => ⟨g, cap, e, h.next hb⟩
theorem pc_put (a : Arr) : ∀ c w bx cs i u, PC a c w → Lies w bx 25 cs → cs.size = 3 → PC a c (w.setCell ⟨bx, i, none⟩ u) := fun _ _ _ _ i u ⟨g, cap, e, h⟩ hL _ => ⟨g, cap, e, h.put (by decide) hL i u⟩
theorem call_find_bad (t : Bs) (ht : t.length ≤ 255) (b cap : Nat) (w : World) (hP : PowTab w) (hA : Args w b [arr1 (vBad 2), arr1 (tV t)]) :
    Calls Tryz.prog 9 #[.string ⟨#[70, 73, 78, 68]⟩, .slice (some ⟨b, 0, none⟩) 2 cap] w (CallPost (arr1 (vBad 2)) w) := by
  refine callThr_bad 7 ents12[7] (by decide) rfl 2 3 [vBad 2, tV t] ⟨[], 0, 0, 0⟩ 2 (by decide) b cap w (fun q => by rfl) ?_ (by decide) (by simp) (by simp) (by decide) (by simp) hA ?_ ?_
  · intro k hk
    have hk2 : k ∈ ([39, 31, 31, 33] : List Nat) := hk
    rcases (by simpa using hk2 : k = 39 ∨ k = 31 ∨ k = 33) with rfl | rfl | rfl
    · exact enters_of Tryz.func39 (by kernel_rfl) rfl
    · exact enters_of Tryz.func31 (by kernel_rfl) rfl
    · exact enters_of Tryz.func33 (by kernel_rfl) rfl
  · intro v hv
    rcases (by simpa using hv : v = vBad 2 ∨ v = tV t) with rfl | rfl
    · exact ⟨by decide, by decide, by decide, by decide⟩
    · exact tV_fine (by omega)
  · intro i h1 h2 h0 W hb
    subst h0
    exact ftext_text (vBad 2) W (hP.next hb) (by decide) (by decide) (fun h => absurd h (by decide))
end Go.Proofs.YtpdaloohgfnbhaaGreatDoor
