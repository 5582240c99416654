/- What is decoded is not longer. -/
import Derived.Test.YtmgkmpbblhkacaaGreatDoorDec
namespace Go.Proofs.YtmgkmpbblhkacaaGreatDoor
open Go.RowKit
set_option linter.unusedSimpArgs false
set_option linter.unusedVariables false

theorem pdec_len (s : Bs) : (pdec s).length ≤ s.length := by
  fun_induction pdec s <;> simp_all <;> omega
end Go.Proofs.YtmgkmpbblhkacaaGreatDoor
