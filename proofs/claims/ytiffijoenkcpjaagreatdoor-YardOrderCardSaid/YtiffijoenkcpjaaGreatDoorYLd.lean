import Derived.Shelf.Strings.BuilderK
import Derived.Test.YtiffijoenkcpjaaGreatDoorYJu
set_option linter.unusedVariables false
set_option linter.unusedSimpArgs false
namespace Go.Proofs.YtiffijoenkcpjaaGreatDoor
open Go.RowKit Go.Lib
open Rw
def Vy:RecL:=⟨⟨#[]⟩,⟨0,0,0,⟨#[]⟩,⟨#[]⟩⟩,[],[],[]⟩
def noH:RecH:=⟨none,0,none,0,none,0⟩
theorem vM {B:Nat} {w:World} {g:Nat} {a0 a1:Value} (h:Own B w g [a0,a1]) (b0 b1:Value):Own B ((w.setCell ⟨g,0,none⟩ b0).setCell ⟨g,1,none⟩ b1) g [b0,b1]:=by
 have:=(h.put (j:=0) (by simp) b0).put (j:=1) (by simp) b1;simpa using this
theorem vE {w w1:World} (h:KB w.heap.size w w1) {g:Nat} (hg:w.heap.size≤g) (b0 b1:Value):KB w.heap.size w ((w1.setCell ⟨g,0,none⟩ b0).setCell ⟨g,1,none⟩ b1):=yV (yV h hg b0) hg b1
end Go.Proofs.YtiffijoenkcpjaaGreatDoor
