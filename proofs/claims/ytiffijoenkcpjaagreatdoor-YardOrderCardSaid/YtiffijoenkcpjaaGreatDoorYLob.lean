import Derived.Test.YtiffijoenkcpjaaGreatDoorYLo
set_option linter.unusedVariables false
set_option linter.unusedSimpArgs false
namespace Go.Proofs.YtiffijoenkcpjaaGreatDoor
open Go.RowKit Go.Lib
open Rw
abbrev pinCells (p:PinL):List Value:=[.string p.name,.string p.shelf]
theorem pc_len (p:PinL):(pinCells p).length=2:=rfl
theorem pc_one (p:PinL):∀ u∈pinCells p,u.oneCell'=true:=by
 intro u hu;simp only [pinCells,List.mem_cons,List.not_mem_nil,or_false] at hu;rcases hu with rfl | rfl<;>rfl
theorem lies_pins {w:World} {A:Option Addr} {l:List PinL} (h:Lies 2 pinCells w A l):Z6 w A l:=by
 rcases h with h | ⟨b,off,h1,h2,h3⟩
 ·exact .inl h
 ·exact .inr ⟨b,off,h1,h2,fun i hi=>⟨h3 i hi 0 _ rfl,h3 i hi 1 _ rfl⟩⟩
theorem Tryz.info53:(Tryz.prog.info? 53).map (fun i=>(i.zero,i.size,i.bytes))=some (some (.agg #[.string ⟨#[]⟩,.string ⟨#[]⟩]),2,32):=by kernel_rfl
theorem EKpins:EK Tryz.prog 33 53 2 32 := .mk' _ Tryz.underlying33 Tryz.info53 rfl (by omega)
end Go.Proofs.YtiffijoenkcpjaaGreatDoor
