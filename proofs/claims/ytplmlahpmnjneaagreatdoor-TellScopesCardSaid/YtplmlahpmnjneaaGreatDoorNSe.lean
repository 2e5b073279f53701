import Derived.Test.YtplmlahpmnjneaaGreatDoorNSb
import Derived.Test.YtplmlahpmnjneaaGreatDoorNBe
import Derived.Test.YtplmlahpmnjneaaGreatDoorNBh
import Derived.Test.YtplmlahpmnjneaaGreatDoorNFr
import Derived.Test.YtplmlahpmnjneaaGreatDoorNBd
import Derived.Test.YtplmlahpmnjneaaGreatDoorNSa
import Derived.Deep.Slices
import Derived.Deep.Fields
import Derived.ChangeSame
import Derived.ChangeVars
import Derived.Lib.SmallJoins
import Derived.LaidLaws
import Derived.JoinedOf
import Derived.RowKit
import Derived.RowKitTokens
namespace Go.Proofs.YtplmlahpmnjneaaGreatDoor
open Go.RowKit Go.Lib
set_option linter.unusedVariables false
set_option linter.unusedSimpArgs false
def SetOk (w : World) (r : (List SpanL × List SpanL) × Bool) (e : Ending) (w' : World) : Prop := ∃ A c B d, e = .returned (.tuple #[setV A r.1.1.length c B r.1.2.length d, .bool r.2]) ∧ SpanB w' w.heap.size A r.1.1 ∧ SpanB w' w.heap.size B r.1.2 ∧ Below w.heap.size w w'
def zeroS : SpanL := ⟨zeroC, zeroC⟩
theorem pname {F : World → Prop} {w : World} (h : ∀ w', w' = w → F w') : F w := h w rfl
theorem newbox {w w' : World} {cs : List Value} {t : TypeId} (h : Below (w.alloc (.cells cs.toArray t)).heap.size (w.alloc (.cells cs.toArray t)) w') : Box w' w.heap.size cs ∧ Soft w' w.heap.size := ⟨(Box.new w cs t).below h, (Soft.new w cs.toArray t).below (by simp) h⟩
theorem newbox14 {w w' : World} {t : TypeId} (h : Below (w.alloc (.cells #[.int .i64 0, .int .i64 0, .int .i64 0, .int .i64 0, .string ⟨#[]⟩, .string ⟨#[]⟩, .bool false, .int .i64 0, .int .i64 0, .int .i64 0, .int .i64 0, .string ⟨#[]⟩, .string ⟨#[]⟩, .bool false] t)).heap.size (w.alloc (.cells #[.int .i64 0, .int .i64 0, .int .i64 0, .int .i64 0, .string ⟨#[]⟩, .string ⟨#[]⟩, .bool false, .int .i64 0, .int .i64 0, .int .i64 0, .int .i64 0, .string ⟨#[]⟩, .string ⟨#[]⟩, .bool false] t)) w') : Box w' w.heap.size zeroS.cells ∧ Soft w' w.heap.size := newbox (cs := zeroS.cells) h
theorem newbox14d {w w' : World} {t : TypeId} (h : Below (w.alloc (.cells #[.int .i64 0, .int .i64 0, .int .i64 0, .int .i64 0, .string ⟨#[]⟩, .string ⟨#[]⟩, .bool false, .int .i64 0, .int .i64 0, .int .i64 0, .int .i64 0, .string ⟨#[]⟩, .string ⟨#[]⟩, .bool false] t)).drew.heap.size (w.alloc (.cells #[.int .i64 0, .int .i64 0, .int .i64 0, .int .i64 0, .string ⟨#[]⟩, .string ⟨#[]⟩, .bool false, .int .i64 0, .int .i64 0, .int .i64 0, .int .i64 0, .string ⟨#[]⟩, .string ⟨#[]⟩, .bool false] t)).drew w') : Box w' w.heap.size zeroS.cells ∧ Soft w' w.heap.size := newbox (cs := zeroS.cells) (below_tr (Below.refl _ _).drew h)
theorem put14 (w : World) (g : Nat) (f t : CutL) : ((((((((((((((w.setCell ⟨g, 0, none⟩ (.int .i64 f.en)).setCell ⟨g, 1, none⟩ (.int .i64 f.v.maj)).setCell ⟨g, 2, none⟩ (.int .i64 f.v.min)).setCell ⟨g, 3, none⟩ (.int .i64 f.v.pat)).setCell ⟨g, 4, none⟩ (.string f.v.pre)).setCell ⟨g, 5, none⟩ (.string f.v.bld)).setCell ⟨g, 6, none⟩ (.bool f.aft)).setCell ⟨g, 7, none⟩ (.int .i64 t.en)).setCell ⟨g, 8, none⟩ (.int .i64 t.v.maj)).setCell ⟨g, 9, none⟩ (.int .i64 t.v.min)).setCell ⟨g, 10, none⟩ (.int .i64 t.v.pat)).setCell ⟨g, 11, none⟩ (.string t.v.pre)).setCell ⟨g, 12, none⟩ (.string t.v.bld)).setCell ⟨g, 13, none⟩ (.bool t.aft)) = w.setCells g 0 (SpanL.cells ⟨f, t⟩) := rfl
theorem keep14 {a w : World} {B g : Nat} (hb : Below B a w) (hg : B ≤ g) (f t : CutL) : Below B a ((((((((((((((w.setCell ⟨g, 0, none⟩ (.int .i64 f.en)).setCell ⟨g, 1, none⟩ (.int .i64 f.v.maj)).setCell ⟨g, 2, none⟩ (.int .i64 f.v.min)).setCell ⟨g, 3, none⟩ (.int .i64 f.v.pat)).setCell ⟨g, 4, none⟩ (.string f.v.pre)).setCell ⟨g, 5, none⟩ (.string f.v.bld)).setCell ⟨g, 6, none⟩ (.bool f.aft)).setCell ⟨g, 7, none⟩ (.int .i64 t.en)).setCell ⟨g, 8, none⟩ (.int .i64 t.v.maj)).setCell ⟨g, 9, none⟩ (.int .i64 t.v.min)).setCell ⟨g, 10, none⟩ (.int .i64 t.v.pat)).setCell ⟨g, 11, none⟩ (.string t.v.pre)).setCell ⟨g, 12, none⟩ (.string t.v.bld)).setCell ⟨g, 13, none⟩ (.bool t.aft)) := hb.setCells hg (SpanL.cells ⟨f, t⟩) 0
theorem Box.set14 {w : World} {g : Nat} {s : SpanL} (t : SpanL) (h : Box w g s.cells) : Box (w.setCells g 0 t.cells) g t.cells := h.set (o := 0) (vs := t.cells) (by simp)
end Go.Proofs.YtplmlahpmnjneaaGreatDoor
namespace Go.Proofs.YtplmlahpmnjneaaGreatDoor
open Go.RowKit Go.Lib
open Rw
set_option linter.unusedVariables false
set_option linter.unusedSimpArgs false
theorem smake_good {l m : List SpanL} (hl : fitL l) (hm : fitL m) : fitL (smakeL l m).1.1 ∧ fitL (smakeL l m).1.2 ∧ (smakeL l m).1.1.length ≤ 1 + 2 * l.length ∧ (smakeL l m).1.2.length ≤ m.length := by
  unfold smakeL
  split
  · have hf : fitL (turnedR l) := fun i hi => by
      rw [nth_lt hi]
      have := List.getElem_mem hi
      obtain ⟨t, ht, e⟩ := List.mem_map.1 (List.mem_filter.1 this).1
      rw [← e]
      obtain ⟨j, hj, rfl⟩ := List.getElem_of_mem ht
      have := hl j hj
      rw [nth_lt hj] at this
      exact turnedS_fit this
    have hle : (turnedR l).length ≤ l.length := by
      have := List.length_filter_le spanMay (l.map turnedS)
      rwa [List.length_map] at this
    have g := rmakeL_good hf
    exact ⟨g.1, hm, by have := g.2; simp only; omega, Nat.le_refl _⟩
  · exact ⟨fit_nil, fit_nil, by simp, by simp⟩
end Go.Proofs.YtplmlahpmnjneaaGreatDoor
namespace Go.Proofs.YtplmlahpmnjneaaGreatDoor
open Go.ChangeShapes Go.WideShapes Go.ChangeAt Go.RowKit Go.Deep Go.Joins
open Go.ChangeMaps (open_string shut_string)
set_option linter.unusedVariables false
set_option linter.unusedSimpArgs false
theorem firstG : Tryz.prog.globalNamed "linchpin/set.first" = some 0 := by kernel_rfl
theorem firstT : (Tryz.prog.globals[(0 : Nat)]?).map (·.type) = some 46 := by kernel_rfl
theorem cellsI2 : Tryz.prog.cellsOf 3 = 1 := by kernel_rfl
theorem cellsSt2 : Tryz.prog.cellsOf 9 = 1 := by kernel_rfl
theorem cellsVe2 : Tryz.prog.cellsOf 46 = 5 := by kernel_rfl
section
variable {H : Type} {enc : TypeId × Value → H} {W : World} {base n : Nat} {spare : Nat → Bool} {held : Bool} {cs : List Value} {x : DataW H × List MemPlace}
set_option maxRecDepth 100000 in
theorem ver_reads (h : DataW.trod enc Tryz.prog W base spare held n 46 cs = some x) : ∃ v : Ver, cs = v.cells ∧ x.1 = .agg [.lit (.int .i64 v.maj), .lit (.int .i64 v.min), .lit (.int .i64 v.pat), .lit (.string v.pre.data.toList), .lit (.string v.bld.data.toList)] := by
  obtain ⟨xs, n', _, hx, hcl, hxl, hf⟩ := DataW.trod_struct Tryz.underlying46 h
  rw [cellsVe2] at hcl
  match cs, hcl, xs, hxl with
  | [c0, c1, c2, c3, c4], _, [y0, y1, y2, y3, y4], _ =>
    have h0 := hf 0 _ rfl
    have h1 := hf 1 _ rfl
    have h2 := hf 2 _ rfl
    have h3 := hf 3 _ rfl
    have h4 := hf 4 _ rfl
    simp [cellsI2] at h0 h1 h2
    simp [cellsSt2] at h3 h4
    obtain ⟨m0, e0, f0, _⟩ := DataW.trod_int Tryz.underlying3 h0
    obtain ⟨m1, e1, f1, _⟩ := DataW.trod_int Tryz.underlying3 h1
    obtain ⟨m2, e2, f2, _⟩ := DataW.trod_int Tryz.underlying3 h2
    obtain ⟨s3, e3, f3, z3⟩ := DataW.trod_string Tryz.underlying9 h3
    obtain ⟨s4, e4, f4, z4⟩ := DataW.trod_string Tryz.underlying9 h4
    simp only [List.cons.injEq, and_true] at e0 e1 e2 e3 e4
    subst e0; subst e1; subst e2; subst e3; subst e4
    subst f0; subst f1; subst f2; subst f3; subst f4
    exact ⟨⟨m0, m1, m2, s3, s4⟩, rfl, by rw [hx]; rfl⟩
end
theorem first_reads {W : World} {cs : Array Value} {fuel : Nat} {p : List MemPlace} (h1 : W.var? Tryz.prog "linchpin/set.first" = some cs) (h2 : DataW.trod (fun _ => ()) Tryz.prog W 0 (fun _ => true) false fuel 46 cs.toList = some (Rows.laid_linchpin_set_first, p)) : First W := by
  obtain ⟨v, hv, hd⟩ := ver_reads h2
  simp only [Rows.laid_linchpin_set_first, DataW.agg.injEq, List.cons.injEq, and_true, DataW.lit.injEq, Lit.int.injEq, Lit.string.injEq, true_and] at hd
  obtain ⟨d0, d1, d2, d3, d4⟩ := hd
  obtain ⟨a, b, c, ⟨⟨s⟩⟩, ⟨⟨t⟩⟩⟩ := v
  dsimp only at d0 d1 d2 d3 d4
  subst d0 d1 d2 d3 d4
  have hc : ∀ (j : Nat), W.cell? ⟨0, j, none⟩ = (zeroV.cells)[j]? := fun j => by
    rw [World.var?_cell firstG h1 j, ← Array.getElem?_toList, hv]; rfl
  refine ⟨World.block_lt_of_cell? W ⟨0, 0, none⟩ (hc 0), fun j u hj => by rw [hc j, hj]⟩
section
variable {H : Type} {enc : TypeId × Value → H} {W : World} {base : Nat} {held : Bool}
end
end Go.Proofs.YtplmlahpmnjneaaGreatDoor
