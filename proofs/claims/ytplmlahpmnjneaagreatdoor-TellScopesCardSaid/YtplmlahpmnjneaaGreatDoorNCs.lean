import Derived.Test.YtplmlahpmnjneaaGreatDoorNCq
import Derived.Test.YtplmlahpmnjneaaGreatDoorNSetR
namespace Go.Proofs.YtplmlahpmnjneaaGreatDoor
open Go.RowKit Go.Lib
open Rw
set_option linter.unusedVariables false
set_option linter.unusedSimpArgs false
structure SpC (w : World) (gx g4 g6 : Nat) (cx c4 c6 : List Value) (u : World) : Prop where
  below : Below w.heap.size w u
  x : Box u gx cx
  a : Box u g4 c4
  b : Box u g6 c6
theorem SpC.put {w u : World} {gx g4 g6 g o : Nat} {cx c4 c6 vs : List Value} (h : SpC w gx g4 g6 cx c4 c6 u) (hg : w.heap.size ≤ g) (nx : gx ≠ g) (n4 : g4 ≠ g) (n6 : g6 ≠ g) : SpC w gx g4 g6 cx c4 c6 (u.setCells g o vs) := ⟨below_cells h.below hg o vs, box_cells h.x nx, box_cells h.a n4, box_cells h.b n6⟩
end Go.Proofs.YtplmlahpmnjneaaGreatDoor
