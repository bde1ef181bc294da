/-
  Texts put together, as lists of bytes.
-/
import Derived.Test.YtcgdeoldgnjdeaaDoorPlain1
namespace Go.Proofs.YtcgdeoldgnjdeaaDoor
theorem S_append (a b : Bs) : (ByteArray.mk a.toArray) ++ (ByteArray.mk b.toArray) = ⟨(a ++ b).toArray⟩ := by
  apply ByteArray.ext
  simp [ByteArray.data_append]
attribute [go_sem] S_append
theorem str_eq {a b : Bs} (h : a = b) : Value.string ⟨a.toArray⟩ = Value.string ⟨b.toArray⟩ := by rw [h]
end Go.Proofs.YtcgdeoldgnjdeaaDoor
