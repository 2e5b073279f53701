import Derived.Test.YtiffijoenkcpjaaGreatDoorYJa
set_option linter.unusedVariables false
set_option linter.unusedSimpArgs false
namespace Go.Proofs.YtiffijoenkcpjaaGreatDoor
open Go.RowKit Go.Lib
section
variable {P:Program} {ops:Array Oper} {S:World→Prop} {Q:Exit→Act→World→Prop} {md:Region.Mode}
end
section
variable {P:Program} {ops:Array Oper} {S:World→Prop} {Q:Exit→Act→World→Prop}
end
def aD (x:Int):Int:=bits .or .u64 (IntKind.u64.wrap (x * 8192)) (x / 2251799813685248)
def YC (h:Int) (c:UInt8):Int:=IntKind.u64.wrap (aD (bits .xor .u64 h (c.toNat:Int)) * 18397679294719823053)
def lG (l:List UInt8):Int:=l.foldl YC 11400714819323198485
def z7 (l:List UInt8):Int:=bits .xor .u64 (lG l) (lG l / 536870912)
theorem Texts.cell {w:World} {A:Option Addr} {l:List ByteArray} {k:Nat} (h:Texts w A l) (hk:k < l.length):∃ b off,A=some ⟨b,off,none⟩∧b < w.heap.size∧w.cell? ⟨b,off+k,none⟩=some (.string l[k]):=by
 obtain ⟨b,off,hA,hl,hc⟩:=h.at_ hk;rw [Nat.mul_one] at hc;exact ⟨b,off,hA,hl,hc⟩
theorem Texts.lay1 {w:World} {b off k:Nat} {l:List ByteArray} (h:Texts w (some ⟨b,off,none⟩) l) (hk:k < l.length):b < w.heap.size∧w.cell? ⟨b,off+k,none⟩=some (.string l[k]):=by
 obtain ⟨hl,hc⟩:=RowOf.lay h hk;rw [Nat.mul_one] at hc;exact ⟨hl,hc⟩
end Go.Proofs.YtiffijoenkcpjaaGreatDoor
