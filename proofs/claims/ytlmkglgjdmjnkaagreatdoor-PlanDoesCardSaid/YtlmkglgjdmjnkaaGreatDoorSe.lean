/- Sets: the walk of the reference's Make. -/
import Derived.Test.YtlmkglgjdmjnkaaGreatDoorSd
import Derived.Test.YtlmkglgjdmjnkaaGreatDoorBe
import Derived.Test.YtlmkglgjdmjnkaaGreatDoorBi
namespace Go.Proofs.YtlmkglgjdmjnkaaGreatDoor
open Go.RowKit Go.Lib
set_option linter.unusedVariables false
set_option linter.unusedSimpArgs false

/-- a set and a Bool have come back -/
def SetOk (w : World) (r : (List SpanL × List SpanL) × Bool) (e : Ending) (w' : World) : Prop := ∃ A c B d, e = .returned (.tuple #[setV A r.1.1.length c B r.1.2.length d, .bool r.2]) ∧ SpanB w' w.heap.size A r.1.1 ∧ SpanB w' w.heap.size B r.1.2 ∧ Below w.heap.size w w'
def zeroS : SpanL := ⟨zeroC, zeroC⟩
theorem pname {F : World → Prop} {w : World} (h : ∀ w', w' = w → F w') : F w := h w rfl
theorem newbox {w w' : World} {cs : List Value} {t : TypeId} (h : Below (w.alloc (.cells cs.toArray t)).heap.size (w.alloc (.cells cs.toArray t)) w') : Box w' w.heap.size cs ∧ Soft w' w.heap.size := ⟨(Box.new w cs t).below h, (Soft.new w cs.toArray t).below (by simp) h⟩
theorem newbox14 {w w' : World} {t : TypeId} (h : Below (w.alloc (.cells #[.int .i64 0, .int .i64 0, .int .i64 0, .int .i64 0, .string ⟨#[]⟩, .string ⟨#[]⟩, .bool false, .int .i64 0, .int .i64 0, .int .i64 0, .int .i64 0, .string ⟨#[]⟩, .string ⟨#[]⟩, .bool false] t)).heap.size (w.alloc (.cells #[.int .i64 0, .int .i64 0, .int .i64 0, .int .i64 0, .string ⟨#[]⟩, .string ⟨#[]⟩, .bool false, .int .i64 0, .int .i64 0, .int .i64 0, .int .i64 0, .string ⟨#[]⟩, .string ⟨#[]⟩, .bool false] t)) w') : Box w' w.heap.size zeroS.cells ∧ Soft w' w.heap.size := newbox (cs := zeroS.cells) h
theorem newbox14d {w w' : World} {t : TypeId} (h : Below (w.alloc (.cells #[.int .i64 0, .int .i64 0, .int .i64 0, .int .i64 0, .string ⟨#[]⟩, .string ⟨#[]⟩, .bool false, .int .i64 0, .int .i64 0, .int .i64 0, .int .i64 0, .string ⟨#[]⟩, .string ⟨#[]⟩, .bool false] t)).drew.heap.size (w.alloc (.cells #[.int .i64 0, .int .i64 0, .int .i64 0, .int .i64 0, .string ⟨#[]⟩, .string ⟨#[]⟩, .bool false, .int .i64 0, .int .i64 0, .int .i64 0, .int .i64 0, .string ⟨#[]⟩, .string ⟨#[]⟩, .bool false] t)).drew w') : Box w' w.heap.size zeroS.cells ∧ Soft w' w.heap.size := newbox (cs := zeroS.cells) (below_tr (Below.refl _ _).drew h)
theorem put14 (w : World) (g : Nat) (f t : CutL) : ((((((((((((((w.setCell ⟨g, 0, none⟩ (.int .i64 f.en)).setCell ⟨g, 1, none⟩ (.int .i64 f.v.maj)).setCell ⟨g, 2, none⟩ (.int .i64 f.v.min)).setCell ⟨g, 3, none⟩ (.int .i64 f.v.pat)).setCell ⟨g, 4, none⟩ (.string f.v.pre)).setCell ⟨g, 5, none⟩ (.string f.v.bld)).setCell ⟨g, 6, none⟩ (.bool f.aft)).setCell ⟨g, 7, none⟩ (.int .i64 t.en)).setCell ⟨g, 8, none⟩ (.int .i64 t.v.maj)).setCell ⟨g, 9, none⟩ (.int .i64 t.v.min)).setCell ⟨g, 10, none⟩ (.int .i64 t.v.pat)).setCell ⟨g, 11, none⟩ (.string t.v.pre)).setCell ⟨g, 12, none⟩ (.string t.v.bld)).setCell ⟨g, 13, none⟩ (.bool t.aft)) = w.setCells g 0 (SpanL.cells ⟨f, t⟩) := rfl
theorem keep14 {a w : World} {B g : Nat} (hb : Below B a w) (hg : B ≤ g) (f t : CutL) : Below B a ((((((((((((((w.setCell ⟨g, 0, none⟩ (.int .i64 f.en)).setCell ⟨g, 1, none⟩ (.int .i64 f.v.maj)).setCell ⟨g, 2, none⟩ (.int .i64 f.v.min)).setCell ⟨g, 3, none⟩ (.int .i64 f.v.pat)).setCell ⟨g, 4, none⟩ (.string f.v.pre)).setCell ⟨g, 5, none⟩ (.string f.v.bld)).setCell ⟨g, 6, none⟩ (.bool f.aft)).setCell ⟨g, 7, none⟩ (.int .i64 t.en)).setCell ⟨g, 8, none⟩ (.int .i64 t.v.maj)).setCell ⟨g, 9, none⟩ (.int .i64 t.v.min)).setCell ⟨g, 10, none⟩ (.int .i64 t.v.pat)).setCell ⟨g, 11, none⟩ (.string t.v.pre)).setCell ⟨g, 12, none⟩ (.string t.v.bld)).setCell ⟨g, 13, none⟩ (.bool t.aft)) := hb.setCells hg (SpanL.cells ⟨f, t⟩) 0
theorem Box.set14 {w : World} {g : Nat} {s : SpanL} (t : SpanL) (h : Box w g s.cells) : Box (w.setCells g 0 t.cells) g t.cells := h.set (o := 0) (vs := t.cells) (by simp)
end Go.Proofs.YtlmkglgjdmjnkaaGreatDoor
/- Sets out of numbers: the walk of linchpinlaw0.Set. -/
namespace Go.Proofs.YtlmkglgjdmjnkaaGreatDoor
open Go.RowKit Go.Lib
open Rw
set_option linter.unusedVariables false
set_option linter.unusedSimpArgs false

/-- a set that may be has come back -/
def VSetPost (w : World) (e : Ending) (w' : World) : Prop := ∃ l m, SetBack 19 w l m e w'
theorem smake_good {l m : List SpanL} (hl : fitL l) (hm : fitL m) : fitL (smakeL l m).1.1 ∧ fitL (smakeL l m).1.2 ∧ (smakeL l m).1.1.length ≤ 1 + 2 * l.length ∧ (smakeL l m).1.2.length ≤ m.length := by
  unfold smakeL
  split
  · have hf : fitL (turnedR l) := fun i hi => by
      rw [nth_lt hi]
      have := List.getElem_mem hi
      obtain ⟨t, ht, e⟩ := List.mem_map.1 (List.mem_filter.1 this).1
      rw [← e]
      obtain ⟨j, hj, rfl⟩ := List.getElem_of_mem ht
      have := hl j hj
      rw [nth_lt hj] at this
      exact turnedS_fit this
    have hle : (turnedR l).length ≤ l.length := by
      have := List.length_filter_le spanMay (l.map turnedS)
      rwa [List.length_map] at this
    have g := rmakeL_good hf
    exact ⟨g.1, hm, by have := g.2; simp only; omega, Nat.le_refl _⟩
  · exact ⟨fit_nil, fit_nil, by simp, by simp⟩
end Go.Proofs.YtlmkglgjdmjnkaaGreatDoor
