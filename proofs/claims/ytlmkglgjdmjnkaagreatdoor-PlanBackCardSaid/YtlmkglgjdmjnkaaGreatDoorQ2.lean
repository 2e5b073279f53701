/- Parts 2 of the proofs. -/
import Derived.Test.YtlmkglgjdmjnkaaGreatDoorQ1
namespace Go.Proofs.YtlmkglgjdmjnkaaGreatDoor
open Go.RowKit Go.Lib
set_option linter.unusedVariables false
set_option linter.unusedSimpArgs false
theorem addr_add0 (b o j : Nat) : (Addr.mk b o none).add j = ⟨b, o + j, none⟩ := by
  unfold Addr.add
  split <;> simp_all
end Go.Proofs.YtlmkglgjdmjnkaaGreatDoor
