import Derived.Test.YtofkjhnhafbfoaaGreatDoorWLt
set_option linter.unusedVariables false
set_option linter.unusedSimpArgs false
namespace Go.Proofs.YtofkjhnhafbfoaaGreatDoor
open Go.RowKit Go.Lib
open Rw
theorem cX (w:World):RecLies w ⟨none,0,none,0,none,0⟩ jy:=⟨.inl rfl,.inl rfl,.inl rfl,by decide,by decide,by decide⟩
theorem fc (nm:ByteArray):EntsOk (shB nm).entries:=⟨(fun x hx=>by
 rcases List.mem_singleton.1 hx with rfl
 exact Xw 1 0 0),(fun x hx f hf=>by
 rcases List.mem_singleton.1 hx with rfl
 exact absurd hf (List.not_mem_nil)),by simp [shB]⟩
end Go.Proofs.YtofkjhnhafbfoaaGreatDoor
