import Derived.Deep.RegionLaw
import Derived.Shelf.Abstract
import Derived.Shelf.Strings.BuilderK
import Derived.Test.YtiffijoenkcpjaaGreatDoorYJa
set_option linter.unusedVariables false
set_option linter.unusedSimpArgs false
namespace Go.Proofs.YtiffijoenkcpjaaGreatDoor
open Go.RowKit Go.Lib
open Rw
theorem rq {w w':World} {A:Option Addr} {zs:List Int} (h:IntsAt w A zs) (hb:KB w.heap.size w w'):IntsAt w' A zs:=IntsAt.below (w:=und w) h (uf hb)
end Go.Proofs.YtiffijoenkcpjaaGreatDoor
