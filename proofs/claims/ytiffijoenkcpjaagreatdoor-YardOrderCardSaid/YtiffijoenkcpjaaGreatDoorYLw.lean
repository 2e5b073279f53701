import Derived.Test.YtiffijoenkcpjaaGreatDoorYLo
set_option linter.unusedVariables false
set_option linter.unusedSimpArgs false
namespace Go.Proofs.YtiffijoenkcpjaaGreatDoor
open Go.RowKit Go.Lib
open Rw
theorem mh {l:List PinL} {j:Nat} (h:j < l.length) (p:PinL):vt l (j+1) p=Op.bytesLess (bts l[j].name) (bts p.name):=by
 rw [vt,List.getElem?_eq_getElem h]
end Go.Proofs.YtiffijoenkcpjaaGreatDoor
