/- A region that draws its order, whose operations read and whose callees lay blocks alone: one walk, in the text's order. -/
import Derived.Test.YtodicnjoimoiiaaCut3
import Derived.BigQuiet
namespace Go.Proofs.Ytodicnjoimoiiaa
open Go.RowKit Go.Lib
set_option linter.unusedVariables false
set_option linter.unusedSimpArgs false

/-- a world that has grown out of w: new blocks, draws -/
structure BW (w : World) where
  v : World
  ok : Below w.heap.size w v
instance (w : World) : Nonempty (BW w) := ⟨⟨w, Below.refl _ _⟩⟩
theorem wp_region_below {P : Program} {id : Nat} {Q : Exit → Act → World → Prop} {a : Act} {w : World} {l : List Oper} (hm : P.follows .mixedOrders = true) (hB : Region.lexB .any l.toArray = true)
    (h : wpQuiet P l.toArray (fun w' => ∃ z : BW w, w' = z.v) (fun a' => ∀ w', (∃ z : BW w, w' = z.v) → Q .normal a' w') l a) : (Code.region id l.toArray true).wp P Q a w :=
  wp_region_quiet (C := fun w' => ∃ z : BW w, w' = z.v) hm hB ⟨⟨w.drew, (Below.refl _ _).drew⟩, rfl⟩ (by simpa using h)
theorem bw_cell (w : World) (z : BW w) (b o : Nat) (h : b < w.heap.size) : z.v.cell? ⟨b, o, none⟩ = w.cell? ⟨b, o, none⟩ := z.ok.cell (p := ⟨b, o, none⟩) h
theorem bw_bool {P : Program} {f : FuncId} {args : Array Value} {w : World} {z : BW w} {b : Bool} (h : Calls P f args z.v (BoolPost z.v b)) :
    Calls P f args z.v fun e w'' => e = .returned (.bool b) ∧ ∃ z' : BW w, w'' = z'.v := h.mono fun _ w'' ⟨he, hb⟩ => ⟨he, ⟨w'', below_tr z.ok hb⟩, rfl⟩
theorem bw_int {P : Program} {f : FuncId} {args : Array Value} {w : World} {z : BW w} {n : Int} (h : Calls P f args z.v (IntPost z.v n)) :
    Calls P f args z.v fun e w'' => e = .returned (.int .i64 n) ∧ ∃ z' : BW w, w'' = z'.v := h.mono fun _ w'' ⟨he, hb⟩ => ⟨he, ⟨w'', below_tr z.ok hb⟩, rfl⟩
end Go.Proofs.Ytodicnjoimoiiaa
