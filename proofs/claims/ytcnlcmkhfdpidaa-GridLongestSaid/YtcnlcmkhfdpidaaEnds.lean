/- What a path's length and points come to. No condition. -/
import Derived.Test.YtcnlcmkhfdpidaaAwake
namespace Go.Proofs.Ytcnlcmkhfdpidaa.Grid
set_option linter.unusedVariables false
set_option linter.unusedSimpArgs false
open Go.RowKit Go.Proofs.Ytcnlcmkhfdpidaa.Q Go.Proofs.YtcnlcmkhfdpidaaW.PrintWords Go.Proofs.YtcnlcmkhfdpidaaW.PrintLast Go.Proofs.YtcnlcmkhfdpidaaW.PrintMore
theorem path_len (a b : List ByteArray) (ha : a.length ≤ 61) (hb : b.length ≤ 61) : (path a b).length ≤ 1000 := by
  have := path_length a b
  omega
theorem path_xy (a b : List ByteArray) (ha : a.length ≤ 61) (hb : b.length ≤ 61) : ∀ i, i ≤ (path a b).length → px (path a b) i < 69 ∧ py (path a b) i < 69 := fun i hi => by
  have h := Fits.at_ (Nat.zero_le _) (Nat.zero_le _) (path_fits a b) i hi
  omega
theorem path_end (a b : List ByteArray) : px (path a b) (path a b).length = a.length ∧ py (path a b) (path a b).length = b.length := by
  have h := Fits.end_ (path_fits a b)
  omega
theorem px_zero (p : List Stp) : px p 0 = 0 := rfl
theorem py_zero (p : List Stp) : py p 0 = 0 := rfl
end Go.Proofs.Ytcnlcmkhfdpidaa.Grid
