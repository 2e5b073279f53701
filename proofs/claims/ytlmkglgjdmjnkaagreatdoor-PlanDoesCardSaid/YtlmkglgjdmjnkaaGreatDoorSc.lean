/- Sets: the walks of rows, Or, And, Not, Minus. -/
import Derived.Test.YtlmkglgjdmjnkaaGreatDoorSb
import Derived.Test.YtlmkglgjdmjnkaaGreatDoorBh
import Derived.Test.YtlmkglgjdmjnkaaGreatDoorBb
namespace Go.Proofs.YtlmkglgjdmjnkaaGreatDoor
open Go.RowKit Go.Lib
set_option linter.unusedVariables false
set_option linter.unusedSimpArgs false

/-- a row has come back in memory of the call's own -/
def RowN (w : World) (l : List SpanL) (e : Ending) (w' : World) : Prop := ∃ A c, e = .returned (.slice A l.length c) ∧ SpanB w' w.heap.size A l ∧ Below w.heap.size w w'
theorem RowPost.n {w : World} {l : List SpanL} {e : Ending} {w' : World} (h : RowPost w w.heap.size l e w') : RowN w l e w' := by
  obtain ⟨v, rfl, h1, h2, _⟩ := h
  obtain ⟨A, c, rfl, h3⟩ := SpanB.own h1
  exact ⟨A, c, rfl, h3, h2⟩
theorem callN {P : Program} {f : FuncId} {args : Array Value} {w : World} {l : List SpanL} (h : Calls P f args w (RowPost w w.heap.size l)) : Calls P f args w (RowN w l) := h.mono fun _ _ h => RowPost.n h
end Go.Proofs.YtlmkglgjdmjnkaaGreatDoor
/- Sets: the walks of Not, Within, Apart, Exact. -/
namespace Go.Proofs.YtlmkglgjdmjnkaaGreatDoor
open Go.RowKit Go.Lib
set_option linter.unusedVariables false
set_option linter.unusedSimpArgs false

def notS (l m : List SpanL) : List SpanL × List SpanL := if mayS l m then (rnotL l, rnotL m) else ([], [])
def andS (l m p q : List SpanL) : List SpanL × List SpanL := if mayS l m && mayS p q then (randL l p, randL m q) else ([], [])
def orS (l m p q : List SpanL) : List SpanL × List SpanL := if mayS l m && mayS p q then (rorL l p, rorL m q) else ([], [])
def minusS (l m p q : List SpanL) : List SpanL × List SpanL := if mayS l m && mayS p q then (randL l (rnotL p), randL m (rnotL q)) else ([], [])
def withinS (l m p q : List SpanL) : Bool := mayS l m && mayS p q && withinR l p && withinR m q
def apartS (l m p q : List SpanL) : Bool := mayS l m && mayS p q && sameS (andS l m p q).1 (andS l m p q).2 [] []
theorem if2 {α : Type} {b : Bool} {x y : α} (h : b = true) : (if b then x else y) = x := by rw [h]; rfl
end Go.Proofs.YtlmkglgjdmjnkaaGreatDoor
/- Sets: the walk of Exact. -/
namespace Go.Proofs.YtlmkglgjdmjnkaaGreatDoor
open Go.RowKit Go.Lib
set_option linter.unusedVariables false
set_option linter.unusedSimpArgs false

def exactS (v : Ver) : List SpanL × List SpanL := if mayV v = false then ([], []) else if (bts v.pre).isEmpty then ([⟨aheadR v, uptoL (relV v)⟩], []) else ([], [⟨⟨0, bareV v, false⟩, ⟨0, bareV v, true⟩⟩])
theorem core_bare (v : Ver) : v.core = bareV v := rfl
theorem Box.set5 {w : World} {g : Nat} {v : Ver} (u : Ver) (h : Box w g v.cells) : Box (w.setCells g 0 u.cells) g u.cells := h.set (o := 0) (vs := u.cells) (by simp)
/-- a row laid, then a set's two cells written -/
theorem ret2n {P : Program} {fn : Func} {R : Ending → World → Prop} {a : Act} {w : World} {v : Value} {g : Nat} {x0 x1 y0 y1 : Value} {o : Obj} (hx : Box w g [x0, x1]) (hr : ∀ w3, Box w3 g [y0, y1] → (results fn a.tmps).run P w3 = .ok v w3) (hd : a.defers = [])
    (hR : Below g w ((w.setCells g 0 [y0, y1]).alloc o) → R (.returned v) ((w.setCells g 0 [y0, y1]).alloc o)) : bodyPost P fn R .ret a (((w.setCell ⟨g, 0, none⟩ y0).setCell ⟨g, 1, none⟩ y1).alloc o) := by
  rw [show ((w.setCell ⟨g, 0, none⟩ y0).setCell ⟨g, 1, none⟩ y1) = w.setCells g 0 [y0, y1] from rfl]
  have hb : Box (w.setCells g 0 [y0, y1]) g [y0, y1] := hx.set (o := 0) (vs := [y0, y1]) (by simp)
  exact bodyPost_ret (hr _ (hb.below (below_new _ _))) hd (hR ((Below.setCells (Nat.le_refl _) _ _ (Below.refl _ _)).alloc (Nat.le_of_lt hb.1) _))
theorem keep5n {w : World} {k g : Nat} {x0 x1 x2 x3 x4 : Value} (h : Box w k [x0, x1, x2, x3, x4]) (hne : k ≠ g) (y0 y1 : Value) (o : Obj) : let w' := ((w.setCell ⟨g, 0, none⟩ y0).setCell ⟨g, 1, none⟩ y1).alloc o
    w'.cell? ⟨k, 0, none⟩ = some x0 ∧ w'.cell? ⟨k, 1, none⟩ = some x1 ∧ w'.cell? ⟨k, 2, none⟩ = some x2 ∧ w'.cell? ⟨k, 3, none⟩ = some x3 ∧ w'.cell? ⟨k, 4, none⟩ = some x4 :=
  ((Box.setOther (o := 0) (vs := [y0, y1]) h hne).below (below_new _ _)).get5
theorem SpanB.fresh (w : World) (s : SpanL) (t : TypeId) : SpanB (w.alloc (.cells s.cells.toArray t)) w.heap.size (some ⟨w.heap.size, 0, none⟩) [s] :=
  ⟨Spans.one (Box.new w s.cells t), fun ad e => by injection e with e; rw [← e]; exact Nat.le_refl _⟩

end Go.Proofs.YtlmkglgjdmjnkaaGreatDoor
