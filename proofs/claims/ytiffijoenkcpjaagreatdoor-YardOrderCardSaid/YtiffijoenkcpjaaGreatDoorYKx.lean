import Derived.Deep.RegionLaw
import Derived.Shelf.Abstract
import Derived.Shelf.Strings.BuilderK
import Derived.Test.YtiffijoenkcpjaaGreatDoorYJb
set_option linter.unusedVariables false
set_option linter.unusedSimpArgs false
namespace Go.Proofs.YtiffijoenkcpjaaGreatDoor
open Go.RowKit Go.Lib
open Rw
theorem wK {w:World} {g:Nat} {a0 a1 a2 a3 a4 a5 a6 a7 a8:Value} (h:Box w g [a0,a1,a2,a3,a4,a5,a6,a7,a8]):w.cell? ⟨g,0,none⟩=some a0∧w.cell? ⟨g,1,none⟩=some a1∧w.cell? ⟨g,2,none⟩=some a2∧w.cell? ⟨g,3,none⟩=some a3∧w.cell? ⟨g,4,none⟩=some a4∧w.cell? ⟨g,5,none⟩=some a5∧w.cell? ⟨g,6,none⟩=some a6∧w.cell? ⟨g,7,none⟩=some a7∧w.cell? ⟨g,8,none⟩=some a8∧g < w.heap.size :=
 ⟨h.2 0 _ rfl,h.2 1 _ rfl,h.2 2 _ rfl,h.2 3 _ rfl,h.2 4 _ rfl,h.2 5 _ rfl,h.2 6 _ rfl,h.2 7 _ rfl,h.2 8 _ rfl,h.1⟩
end Go.Proofs.YtiffijoenkcpjaaGreatDoor
