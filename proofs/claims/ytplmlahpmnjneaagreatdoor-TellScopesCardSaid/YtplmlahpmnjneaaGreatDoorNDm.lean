import Derived.Test.YtplmlahpmnjneaaGreatDoorNDl
import Derived.Test.YtplmlahpmnjneaaGreatDoorNCt
namespace Go.Proofs.YtplmlahpmnjneaaGreatDoor
open Go.RowKit Go.Lib
open Rw
set_option linter.unusedVariables false
set_option linter.unusedSimpArgs false
structure FewB (r : List (List CompL)) : Prop where
  len : r.length ≤ 9
  each : ∀ a ∈ r, a.length ≤ 8 ∧ ∀ c ∈ a, c.v.pre.size ≤ 60 ∧ c.v.bld.size ≤ 60
theorem FewB.fit {r : List (List CompL)} (h : FewB r) : fitG r := fun a ha c hc => by
  have := (h.each a ha).2 c hc
  exact ⟨by have := this.1; omega, by have := this.2; omega⟩
end Go.Proofs.YtplmlahpmnjneaaGreatDoor
