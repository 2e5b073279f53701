import Derived.Shelf.Abstract
import Derived.Test.YtiffijoenkcpjaaGreatDoorYJn
set_option linter.unusedVariables false
set_option linter.unusedSimpArgs false
namespace Go.Proofs.YtiffijoenkcpjaaGreatDoor
open Go.RowKit Go.Lib
section
variable {P:Program} {w w0 w1 w2:World} {B base size n bytes:Nat} {t e:TypeId} {v:Value} {xs:List Value}
theorem uX {B:Nat} {w w1:World} (h:KB B w w1) (hB:B≤w1.heap.size) (o:Obj):KB B w (w1.alloc o):=Go.RowKit.Below.trans h (Go.RowKit.Below.mono (zG w1 o) hB)
theorem uN (w:World) (news:List Value) (T:TypeId) (size:Nat) (hl:news.length=size):tw (w.alloc (.cells news.toArray T)) (some ⟨w.heap.size,0,none⟩) 1 size news:=by
 refine ⟨by omega,(fun h=>by cases h),fun ad h j u hj=>?_⟩;(injection h with h);subst h
 have hz:∀ q:Nat,(Addr.mk w.heap.size 0 none).add q=⟨w.heap.size,q,none⟩:=by
  intro q;unfold Addr.add;split<;>simp_all
 rw [hz,World.cell?_alloc_at _ _ _ _ rfl];simpa using hj
end
end Go.Proofs.YtiffijoenkcpjaaGreatDoor
