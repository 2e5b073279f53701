/- The listed variable set.first, read out of the row's condition; the world that meets it. -/
import Derived.Test.YtmnjnoggchgnjaaDoorFr
import Derived.Test.YtmnjnoggchgnjaaDoorBd
import Derived.Test.YtmnjnoggchgnjaaDoorSa
import Derived.Deep.Slices
import Derived.Deep.Fields
import Derived.ChangeSame
import Derived.ChangeVars
import Derived.Lib.SmallJoins
import Derived.LaidLaws
import Derived.JoinedOf
import Derived.RowKit
import Derived.RowKitTokens
namespace Go.Proofs.YtmnjnoggchgnjaaDoor
open Go.ChangeShapes Go.WideShapes Go.ChangeAt Go.RowKit Go.Deep Go.Joins
open Go.ChangeMaps (open_string shut_string)
set_option linter.unusedVariables false
set_option linter.unusedSimpArgs false

theorem firstG : Tryd.prog.globalNamed "linchpin/set.first" = some 0 := by kernel_rfl
theorem firstT : (Tryd.prog.globals[(0 : Nat)]?).map (·.type) = some 31 := by kernel_rfl
theorem cellsI2 : Tryd.prog.cellsOf 3 = 1 := by kernel_rfl
theorem cellsSt2 : Tryd.prog.cellsOf 9 = 1 := by kernel_rfl
theorem cellsVe2 : Tryd.prog.cellsOf 31 = 5 := by kernel_rfl
section
variable {H : Type} {enc : TypeId × Value → H} {W : World} {base n : Nat} {spare : Nat → Bool} {held : Bool} {cs : List Value} {x : DataW H × List MemPlace}
set_option maxRecDepth 100000 in
theorem ver_reads (h : DataW.trod enc Tryd.prog W base spare held n 31 cs = some x) : ∃ v : Ver, cs = v.cells ∧ x.1 = .agg [.lit (.int .i64 v.maj), .lit (.int .i64 v.min), .lit (.int .i64 v.pat), .lit (.string v.pre.data.toList), .lit (.string v.bld.data.toList)] := by
  obtain ⟨xs, n', _, hx, hcl, hxl, hf⟩ := DataW.trod_struct Tryd.underlying31 h
  rw [cellsVe2] at hcl
  match cs, hcl, xs, hxl with
  | [c0, c1, c2, c3, c4], _, [y0, y1, y2, y3, y4], _ =>
    have h0 := hf 0 _ rfl
    have h1 := hf 1 _ rfl
    have h2 := hf 2 _ rfl
    have h3 := hf 3 _ rfl
    have h4 := hf 4 _ rfl
    simp [cellsI2] at h0 h1 h2
    simp [cellsSt2] at h3 h4
    obtain ⟨m0, e0, f0, _⟩ := DataW.trod_int Tryd.underlying3 h0
    obtain ⟨m1, e1, f1, _⟩ := DataW.trod_int Tryd.underlying3 h1
    obtain ⟨m2, e2, f2, _⟩ := DataW.trod_int Tryd.underlying3 h2
    obtain ⟨s3, e3, f3, z3⟩ := DataW.trod_string Tryd.underlying9 h3
    obtain ⟨s4, e4, f4, z4⟩ := DataW.trod_string Tryd.underlying9 h4
    simp only [List.cons.injEq, and_true] at e0 e1 e2 e3 e4
    subst e0; subst e1; subst e2; subst e3; subst e4
    subst f0; subst f1; subst f2; subst f3; subst f4
    exact ⟨⟨m0, m1, m2, s3, s4⟩, rfl, by rw [hx]; rfl⟩
end
theorem first_reads {W : World} {cs : Array Value} {fuel : Nat} {p : List MemPlace} (h1 : W.var? Tryd.prog "linchpin/set.first" = some cs) (h2 : DataW.trod (fun _ => ()) Tryd.prog W 0 (fun _ => true) false fuel 31 cs.toList = some (Rows.laid_linchpin_set_first, p)) : First W := by
  obtain ⟨v, hv, hd⟩ := ver_reads h2
  simp only [Rows.laid_linchpin_set_first, DataW.agg.injEq, List.cons.injEq, and_true, DataW.lit.injEq, Lit.int.injEq, Lit.string.injEq, true_and] at hd
  obtain ⟨d0, d1, d2, d3, d4⟩ := hd
  obtain ⟨a, b, c, ⟨⟨s⟩⟩, ⟨⟨t⟩⟩⟩ := v
  dsimp only at d0 d1 d2 d3 d4
  subst d0 d1 d2 d3 d4
  have hc : ∀ (j : Nat), W.cell? ⟨0, j, none⟩ = (zeroV.cells)[j]? := fun j => by
    rw [World.var?_cell firstG h1 j, ← Array.getElem?_toList, hv]; rfl
  refine ⟨World.block_lt_of_cell? W ⟨0, 0, none⟩ (hc 0), fun j u hj => by rw [hc j, hj]⟩
theorem first_of_laid {W : World} (h : laidMet Tryd.prog [("linchpin/set.first", Rows.laid_linchpin_set_first)] W) : First W := by
  obtain ⟨ps, hv, _⟩ := h
  obtain ⟨g, t, cs, fuel, p, q, h1, h2, h3, h4, _⟩ := hv
  obtain rfl := Option.some.inj (firstG.symm.trans h1)
  obtain rfl := Option.some.inj (firstT.symm.trans h2)
  exact first_reads h3 h4
/-- the settled world meets the condition -/
noncomputable def laidWorld (os : Os) : World := World.holding Tryd.prog os ⟨#[], #[], []⟩
theorem laidWorld_met (os : Os) (args : Array Value) : laidMet Tryd.prog [("linchpin/set.first", Rows.laid_linchpin_set_first)] ((laidWorld os).forCall (fun _ _ => 0) ⟨#[], args, []⟩).memory :=
  laidMet_of_run (ps := MemPlace.row ⟨0, 0, none⟩ 5) 8 (by kernel_rfl) (by kernel_rfl) (by kernel_rfl)
end Go.Proofs.YtmnjnoggchgnjaaDoor
