import Derived.Test.YtplmlahpmnjneaaGreatDoorNTg
import Derived.Test.YtplmlahpmnjneaaGreatDoorNSetR
import Derived.Test.YtplmlahpmnjneaaGreatDoorNSe
namespace Go.Proofs.YtplmlahpmnjneaaGreatDoor
open Go.RowKit Go.Lib
open Rw
set_option linter.unusedVariables false
set_option linter.unusedSimpArgs false
theorem tset_print {n : Nat} {w : World} {A B : Option Addr} {l m : List SpanL} (c d : Nat) (hL : Laid w) (h : SetAt n w A l B m) (hn : n ≤ 5000) : Calls Tryz.prog 16 #[setV A l.length c B m.length d] w (StrPost w (setT l m)) :=
  tprint_set A B c d l m w hL h.rel h.pre h.frel h.fpre (by have := h.nrel; omega) (by have := h.npre; omega)
end Go.Proofs.YtplmlahpmnjneaaGreatDoor
