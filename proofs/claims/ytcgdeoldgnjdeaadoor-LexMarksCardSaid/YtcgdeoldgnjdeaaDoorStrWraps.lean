/-
  The shelf's contracts for package strings, over lists of bytes.
-/
import Derived.Test.YtcgdeoldgnjdeaaDoorKit
import Derived.Test.YtcgdeoldgnjdeaaDoorPl1
import Derived.Test.YtcgdeoldgnjdeaaDoorShelf
namespace Go.Proofs.YtcgdeoldgnjdeaaDoor
open Go.RowKit

theorem hasPrefix_any (s p : Bs) (w : World) :
    Calls Tryd.prog 135 #[.string ⟨s.toArray⟩, .string ⟨p.toArray⟩] w fun e w' => e = .returned (.bool (Lib.hasPrefix s p)) ∧ w = w' :=
  (Tryd.strings_HasPrefix ⟨s.toArray⟩ ⟨p.toArray⟩ w).mono fun _ _ ⟨h1, h2⟩ => ⟨h1, h2.symm⟩
theorem cutPrefix_any (s p : Bs) (w : World) :
    Calls Tryd.prog 94 #[.string ⟨s.toArray⟩, .string ⟨p.toArray⟩] w fun e w' => e = .returned (.tuple #[.string ⟨(Lib.trimPrefix s p).toArray⟩, .bool (Lib.hasPrefix s p)]) ∧ w = w' :=
  (Tryd.strings_CutPrefix ⟨s.toArray⟩ ⟨p.toArray⟩ w).mono fun _ _ ⟨h1, h2⟩ => ⟨h1, h2.symm⟩
theorem trimPrefix_any (s p : Bs) (w : World) :
    Calls Tryd.prog 168 #[.string ⟨s.toArray⟩, .string ⟨p.toArray⟩] w fun e w' => e = .returned (.string ⟨(Lib.trimPrefix s p).toArray⟩) ∧ w = w' :=
  (Tryd.strings_TrimPrefix ⟨s.toArray⟩ ⟨p.toArray⟩ w).mono fun _ _ ⟨h1, h2⟩ => ⟨h1, h2.symm⟩
theorem u8_back (c : UInt8) : ((c.toNat : Int)).toNat.toUInt8 = c := by
  apply u8_eq; simp [Nat.toUInt8]
theorem indexByte_any (s : Bs) (c : UInt8) (w : World) :
    Calls Tryd.prog 128 #[.string ⟨s.toArray⟩, .int .u8 (c.toNat : Int)] w fun e w' => e = .returned (.int .i64 (Lib.indexByte s c)) ∧ w = w' :=
  (Tryd.strings_IndexByte ⟨s.toArray⟩ (c.toNat : Int) w).mono fun _ _ ⟨h1, h2⟩ => ⟨by rw [h1, u8_back], h2.symm⟩

end Go.Proofs.YtcgdeoldgnjdeaaDoor
