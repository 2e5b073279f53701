/- The listed variable set.first, read out of the row's condition; the world that meets it. -/
import Derived.Test.YtlmkglgjdmjnkaaGreatDoorRows
import Derived.Test.YtlmkglgjdmjnkaaGreatDoorFr
import Derived.Test.YtlmkglgjdmjnkaaGreatDoorBd
import Derived.Test.YtlmkglgjdmjnkaaGreatDoorSa
import Derived.Deep.Slices
import Derived.Deep.Fields
import Derived.ChangeSame
import Derived.ChangeVars
import Derived.Lib.SmallJoins
import Derived.LaidLaws
import Derived.JoinedOf
import Derived.RowKit
import Derived.RowKitTokens
namespace Go.Proofs.YtlmkglgjdmjnkaaGreatDoor
open Go.ChangeShapes Go.WideShapes Go.ChangeAt Go.RowKit Go.Deep Go.Joins
open Go.ChangeMaps (open_string shut_string)
set_option linter.unusedVariables false
set_option linter.unusedSimpArgs false

theorem firstG : Tryz.prog.globalNamed "linchpin/set.first" = some 1 := by kernel_rfl
theorem firstT : (Tryz.prog.globals[(1 : Nat)]?).map (·.type) = some 29 := by kernel_rfl
theorem cellsI2 : Tryz.prog.cellsOf 3 = 1 := by kernel_rfl
theorem cellsSt2 : Tryz.prog.cellsOf 9 = 1 := by kernel_rfl
theorem cellsVe2 : Tryz.prog.cellsOf 29 = 5 := by kernel_rfl
section
variable {H : Type} {enc : TypeId × Value → H} {W : World} {base n : Nat} {spare : Nat → Bool} {held : Bool} {cs : List Value} {x : DataW H × List MemPlace}
set_option maxRecDepth 100000 in
theorem ver_reads (h : DataW.trod enc Tryz.prog W base spare held n 29 cs = some x) : ∃ v : Ver, cs = v.cells ∧ x.1 = .agg [.lit (.int .i64 v.maj), .lit (.int .i64 v.min), .lit (.int .i64 v.pat), .lit (.string v.pre.data.toList), .lit (.string v.bld.data.toList)] := by
  obtain ⟨xs, n', _, hx, hcl, hxl, hf⟩ := DataW.trod_struct Tryz.underlying29 h
  rw [cellsVe2] at hcl
  match cs, hcl, xs, hxl with
  | [c0, c1, c2, c3, c4], _, [y0, y1, y2, y3, y4], _ =>
    have h0 := hf 0 _ rfl
    have h1 := hf 1 _ rfl
    have h2 := hf 2 _ rfl
    have h3 := hf 3 _ rfl
    have h4 := hf 4 _ rfl
    simp [cellsI2] at h0 h1 h2
    simp [cellsSt2] at h3 h4
    obtain ⟨m0, e0, f0, _⟩ := DataW.trod_int Tryz.underlying3 h0
    obtain ⟨m1, e1, f1, _⟩ := DataW.trod_int Tryz.underlying3 h1
    obtain ⟨m2, e2, f2, _⟩ := DataW.trod_int Tryz.underlying3 h2
    obtain ⟨s3, e3, f3, z3⟩ := DataW.trod_string Tryz.underlying9 h3
    obtain ⟨s4, e4, f4, z4⟩ := DataW.trod_string Tryz.underlying9 h4
    simp only [List.cons.injEq, and_true] at e0 e1 e2 e3 e4
    subst e0; subst e1; subst e2; subst e3; subst e4
    subst f0; subst f1; subst f2; subst f3; subst f4
    exact ⟨⟨m0, m1, m2, s3, s4⟩, rfl, by rw [hx]; rfl⟩
end
theorem first_reads {W : World} {cs : Array Value} {fuel : Nat} {p : List MemPlace} (h1 : W.var? Tryz.prog "linchpin/set.first" = some cs) (h2 : DataW.trod (fun _ => ()) Tryz.prog W 0 (fun _ => true) false fuel 29 cs.toList = some (Rows.laid_linchpin_set_first, p)) : First W := by
  obtain ⟨v, hv, hd⟩ := ver_reads h2
  simp only [Rows.laid_linchpin_set_first, DataW.agg.injEq, List.cons.injEq, and_true, DataW.lit.injEq, Lit.int.injEq, Lit.string.injEq, true_and] at hd
  obtain ⟨d0, d1, d2, d3, d4⟩ := hd
  obtain ⟨a, b, c, ⟨⟨s⟩⟩, ⟨⟨t⟩⟩⟩ := v
  dsimp only at d0 d1 d2 d3 d4
  subst d0 d1 d2 d3 d4
  have hc : ∀ (j : Nat), W.cell? ⟨1, j, none⟩ = (zeroV.cells)[j]? := fun j => by
    rw [World.var?_cell firstG h1 j, ← Array.getElem?_toList, hv]; rfl
  refine ⟨World.block_lt_of_cell? W ⟨1, 0, none⟩ (hc 0), fun j u hj => by rw [hc j, hj]⟩
theorem first_of_laid {W : World} (h : laidMet Tryz.prog [("linchpin/set.first", Rows.laid_linchpin_set_first)] W) : First W := by
  obtain ⟨ps, hv, _⟩ := h
  obtain ⟨g, t, cs, fuel, p, q, h1, h2, h3, h4, _⟩ := hv
  obtain rfl := Option.some.inj (firstG.symm.trans h1)
  obtain rfl := Option.some.inj (firstT.symm.trans h2)
  exact first_reads h3 h4
section
variable {H : Type} {enc : TypeId × Value → H} {W : World} {base : Nat} {held : Bool}
theorem cellsSet : Tryz.prog.cellsOf 86 = 2 := by kernel_rfl
theorem cellsSl : Tryz.prog.cellsOf 84 = 1 := by kernel_rfl
set_option maxRecDepth 100000 in
theorem spans_cells {fuel : Nat} {c0 : Value} {x : DataW H × List MemPlace} (h : DataW.trod enc Tryz.prog W base (fun _ => true) held fuel 84 [c0] = some x) : ∃ a len cap, c0 = .slice a len cap ∧ ∃ z : List SpanL, z.length = len ∧ Spans W a z ∧ z.length ≤ 9223372036854775807 := by
  have hk : ∃ a len cap, c0 = .slice a len cap := by
    rcases open_slice Tryz.underlying84 h with ⟨hcs, _⟩ | ⟨x, l, c, m, n, D, Pl, hcs, _⟩
    · exact ⟨none, 0, 0, by simpa using hcs⟩
    · exact ⟨some x, l, c, by simpa using hcs⟩
  obtain ⟨a, len, cap, rfl⟩ := hk
  obtain ⟨z, h1, h2, h3⟩ := spans_read (enc := enc) (d := x.1) (p := x.2) ⟨fuel, h⟩
  exact ⟨a, len, cap, rfl, z, h1, h2, h3⟩
set_option maxRecDepth 100000 in
theorem set_read {b0 : Nat} {r : Reach} {v : Value} {d : DataW H} {p : List MemPlace} (hv : Value.okWide Tryz.prog W r b0 86 v) (h : DataW.Trod enc Tryz.prog W base (fun _ => true) held 86 v d p) :
    ∃ (a : Option Addr) (c : Nat) (b : Option Addr) (e : Nat) (z y : List SpanL), v = .agg #[.slice a z.length c, .slice b y.length e] ∧ Spans W a z ∧ Spans W b y ∧ z.length ≤ 9223372036854775807 ∧ y.length ≤ 9223372036854775807 := by
  obtain ⟨cs, rfl, _⟩ := okWide_struct Tryz.underlying86 hv
  obtain ⟨fuel, hf⟩ := h
  obtain ⟨xs, n', _, _, hcl, hxl, hfl⟩ := DataW.trod_struct Tryz.underlying86 hf
  rw [cellsSet] at hcl
  obtain ⟨l⟩ := cs
  simp only [Value.cells] at hcl hfl
  match l, hcl, xs, hxl with
  | [c0, c1], _, [y0, y1], _ =>
    have h0 := hfl 0 _ rfl
    have h1 := hfl 1 _ rfl
    simp [cellsSl] at h0 h1
    obtain ⟨a, la, ca, rfl, z, rfl, g1, g2⟩ := spans_cells h0
    obtain ⟨b, lb, cb, rfl, y, rfl, g3, g4⟩ := spans_cells h1
    exact ⟨a, ca, b, cb, z, y, rfl, g1, g3, g2, g4⟩
end
/-- the settled world meets the condition -/
noncomputable def laidWorld (os : Os) : World := World.holding Tryz.prog os ⟨#[], #[], []⟩
theorem laidWorld_met (os : Os) (args : Array Value) : laidMet Tryz.prog [("linchpin/set.first", Rows.laid_linchpin_set_first)] ((laidWorld os).forCall (fun _ _ => 0) ⟨#[], args, []⟩).memory :=
  laidMet_of_run (ps := MemPlace.row ⟨1, 0, none⟩ 5) 8 (by kernel_rfl) (by kernel_rfl) (by kernel_rfl)
end Go.Proofs.YtlmkglgjdmjnkaaGreatDoor
