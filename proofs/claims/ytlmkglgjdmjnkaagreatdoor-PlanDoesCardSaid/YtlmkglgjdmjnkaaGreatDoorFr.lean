/- How slices of numbers that came in are read: for the laws' frames. -/
import Derived.Test.YtlmkglgjdmjnkaaGreatDoorAdr
import Derived.Test.YtlmkglgjdmjnkaaGreatDoorBa
import Derived.Test.YtlmkglgjdmjnkaaGreatDoorBd
import Derived.ProofKit
import Derived.OpenShut
import Derived.ShutString
import Derived.ChangeOld
import Derived.Below
import Derived.Deep.Slices
import Derived.Deep.Fields
import Derived.ChangeSame
import Derived.Lib.SmallJoins
namespace Go.Proofs.YtlmkglgjdmjnkaaGreatDoor
open Go.ChangeShapes Go.WideShapes Go.ChangeAt Go.RowKit
open Go.ChangeMaps (open_string shut_string)
set_option linter.unusedVariables false
set_option linter.unusedSimpArgs false

theorem ownN : ownKnob Tryz.prog.godebug = none := by kernel_rfl
theorem laidN : laidOutB Tryz.prog = true := by kernel_rfl
theorem intsAt_of {W : World} {x : Addr} {zs : List Int} {len : Nat} (hl : len ≤ zs.length) (hcell : ∀ i, i < zs.length → W.cell? (x.add i) = some (.int .i64 (zs.getD i 0))) : IntsAt W (some x) (zs.take len) ∧ (zs.take len).length = len := by
  have hlen : (zs.take len).length = len := by rw [List.length_take]; omega
  refine ⟨?_, hlen⟩
  rcases Nat.eq_zero_or_pos len with rfl | hpos
  · exact .inl (by simp)
  · obtain ⟨b, off, spot⟩ := x
    have hc := hcell 0 (by omega)
    have hspot : spot = none := by simpa [Addr.add] using World.cell?_spot hc
    subst hspot
    refine .inr ⟨b, off, rfl, World.block_lt_of_cell? W _ (by simpa [Addr.add] using hc), fun i hi => ?_⟩
    have := hcell i (by omega)
    have e : (zs.take len).getD i 0 = zs.getD i 0 := by
      rw [hlen] at hi
      simp [List.getD_eq_getElem?_getD, List.getElem?_take_of_lt hi]
    rw [e, ← addr_add0]; exact this
section
variable {H : Type} {enc : TypeId × Value → H} {W : World} {base : Nat} {held : Bool}
theorem ints_read {a : Option Addr} {len cap : Nat} {d : DataW H} {p : List MemPlace} (h : DataW.Trod enc Tryz.prog W base (fun _ => true) held 22 (.slice a len cap) d p) : ∃ z : List Int, z.length = len ∧ IntsAt W a z ∧ z.length ≤ 9223372036854775807 := by
  obtain ⟨fuel, hf⟩ := h
  rcases open_ints Tryz.underlying22 Tryz.underlying3 (by kernel_rfl) hf with ⟨hcs, _⟩ | ⟨x, l, c, zs, hcs, _, hl, hm, hz, _, hcell, _⟩
  · simp [Value.cells] at hcs
    obtain ⟨rfl, rfl, rfl⟩ := hcs
    exact ⟨[], rfl, .inl rfl, by simp⟩
  · simp [Value.cells] at hcs
    obtain ⟨rfl, rfl, rfl⟩ := hcs
    have hz' : zs.length = cap := by simpa using hz
    obtain ⟨h1, h2⟩ := intsAt_of (x := x) (len := len) (by omega) hcell
    unfold maxLen at hm
    exact ⟨_, h2, h1, by omega⟩
end
end Go.Proofs.YtlmkglgjdmjnkaaGreatDoor
/- How versions and slices of spans that came in are read: for the laws' frames. -/
namespace Go.Proofs.YtlmkglgjdmjnkaaGreatDoor
open Go.ChangeShapes Go.WideShapes Go.ChangeAt Go.RowKit Go.Deep Go.Joins
open Go.ChangeMaps (open_string shut_string)
set_option linter.unusedVariables false
set_option linter.unusedSimpArgs false

theorem cellsI : Tryz.prog.cellsOf 3 = 1 := by kernel_rfl
theorem cellsSt : Tryz.prog.cellsOf 9 = 1 := by kernel_rfl
theorem cellsBo : Tryz.prog.cellsOf 4 = 1 := by kernel_rfl
theorem cellsVe : Tryz.prog.cellsOf 29 = 5 := by kernel_rfl
theorem cellsCu : Tryz.prog.cellsOf 130 = 7 := by kernel_rfl
theorem cellsSp : Tryz.prog.cellsOf 133 = 14 := by kernel_rfl
section
variable {H : Type} {enc : TypeId × Value → H} {W : World} {base n : Nat} {spare : Nat → Bool} {held : Bool} {cs : List Value} {x : DataW H × List MemPlace}
set_option maxRecDepth 100000 in
theorem ver_of (h : DataW.trod enc Tryz.prog W base spare held n 29 cs = some x) : ∃ v : Ver, cs = v.cells ∧ v.pre.size ≤ maxLen ∧ v.bld.size ≤ maxLen := by
  obtain ⟨xs, n', _, _, hcl, hxl, hf⟩ := DataW.trod_struct Tryz.underlying29 h
  rw [cellsVe] at hcl
  match cs, hcl, xs, hxl with
  | [c0, c1, c2, c3, c4], _, [y0, y1, y2, y3, y4], _ =>
    have h0 := hf 0 _ rfl
    have h1 := hf 1 _ rfl
    have h2 := hf 2 _ rfl
    have h3 := hf 3 _ rfl
    have h4 := hf 4 _ rfl
    simp [cellsI] at h0 h1 h2
    simp [cellsSt] at h3 h4
    obtain ⟨m0, e0, _⟩ := DataW.trod_int Tryz.underlying3 h0
    obtain ⟨m1, e1, _⟩ := DataW.trod_int Tryz.underlying3 h1
    obtain ⟨m2, e2, _⟩ := DataW.trod_int Tryz.underlying3 h2
    obtain ⟨s3, e3, _, z3⟩ := DataW.trod_string Tryz.underlying9 h3
    obtain ⟨s4, e4, _, z4⟩ := DataW.trod_string Tryz.underlying9 h4
    simp only [List.cons.injEq, and_true] at e0 e1 e2 e3 e4
    subst e0; subst e1; subst e2; subst e3; subst e4
    exact ⟨⟨m0, m1, m2, s3, s4⟩, rfl, z3, z4⟩
set_option maxRecDepth 100000 in
theorem cut_of (h : DataW.trod enc Tryz.prog W base spare held n 130 cs = some x) : ∃ c : CutL, cs = c.cells ∧ c.v.pre.size ≤ maxLen ∧ c.v.bld.size ≤ maxLen := by
  obtain ⟨xs, n', _, _, hcl, hxl, hf⟩ := DataW.trod_struct Tryz.underlying130 h
  rw [cellsCu] at hcl
  match cs, hcl, xs, hxl with
  | [c0, c1, c2, c3, c4, c5, c6], _, [y0, y1, y2], _ =>
    have h0 := hf 0 _ rfl
    have h1 := hf 1 _ rfl
    have h2 := hf 2 _ rfl
    simp [cellsI] at h0
    simp [cellsVe] at h1
    simp [cellsBo] at h2
    obtain ⟨m0, e0, _⟩ := DataW.trod_int Tryz.underlying3 h0
    obtain ⟨v, e1, z1, z2⟩ := ver_of h1
    obtain ⟨b, e2, _⟩ := DataW.trod_bool Tryz.underlying4 h2
    simp only [List.cons.injEq, and_true] at e0 e1 e2
    obtain ⟨e1, e3, e4, e5, e6⟩ := e1
    subst e0; subst e1; subst e2; subst e3; subst e4; subst e5; subst e6
    exact ⟨⟨m0, v, b⟩, rfl, z1, z2⟩
set_option maxRecDepth 100000 in
theorem span_of (h : DataW.trod enc Tryz.prog W base spare held n 133 cs = some x) : ∃ s : SpanL, cs = s.cells := by
  obtain ⟨xs, n', _, _, hcl, hxl, hf⟩ := DataW.trod_struct Tryz.underlying133 h
  rw [cellsSp] at hcl
  match cs, hcl, xs, hxl with
  | [c0, c1, c2, c3, c4, c5, c6, d0, d1, d2, d3, d4, d5, d6], _, [y0, y1], _ =>
    have h0 := hf 0 _ rfl
    have h1 := hf 1 _ rfl
    simp [cellsCu] at h0 h1
    obtain ⟨a, e0, _⟩ := cut_of h0
    obtain ⟨b, e1, _⟩ := cut_of h1
    simp only [List.cons.injEq, and_true] at e0 e1
    obtain ⟨p0, p1, p2, p3, p4, p5, p6⟩ := e0
    obtain ⟨q0, q1, q2, q3, q4, q5, q6⟩ := e1
    subst p0; subst p1; subst p2; subst p3; subst p4; subst p5; subst p6
    subst q0; subst q1; subst q2; subst q3; subst q4; subst q5; subst q6
    exact ⟨⟨a, b⟩, rfl⟩
end
section
variable {H : Type} {enc : TypeId × Value → H} {W : World} {base : Nat} {held : Bool}
set_option maxRecDepth 100000 in
theorem spans_read {a : Option Addr} {len cap : Nat} {d : DataW H} {p : List MemPlace} (h : DataW.Trod enc Tryz.prog W base (fun _ => true) held 84 (.slice a len cap) d p) : ∃ z : List SpanL, z.length = len ∧ Spans W a z ∧ z.length ≤ 9223372036854775807 := by
  obtain ⟨fuel, hf⟩ := h
  rcases open_slice Tryz.underlying84 hf with ⟨hcs, _⟩ | ⟨x, l, c, m, n, D, Pl, hcs, _, hl, hm, hmm, _, hi⟩
  · simp [Value.cells] at hcs
    obtain ⟨rfl, rfl, rfl⟩ := hcs
    exact ⟨[], rfl, .inl rfl, by simp⟩
  · simp [Value.cells] at hcs
    obtain ⟨rfl, rfl, rfl⟩ := hcs
    have hm' : m = cap := by simpa using hmm
    subst hm'
    have hs : ∀ i, i < len → ∃ s : SpanL, ∀ j u, s.cells[j]? = some u → W.cell? (x.add (i * 14 + j)) = some u := fun i hlt => by
      obtain ⟨cs', h1, h2⟩ := hi i (by omega)
      obtain ⟨s, rfl⟩ := span_of h2
      obtain ⟨_, h3, h4⟩ := World.cells?_some h1
      refine ⟨s, fun j u hj => ?_⟩
      have hj14 : j < 14 := by
        rcases Nat.lt_or_ge j 14 with h' | h'
        · exact h'
        · rw [List.getElem?_eq_none (by simp; omega)] at hj; cases hj
      have := h4 j (by rw [cellsSp]; exact hj14)
      rw [cellsSp, Go.Deep.add_add, hj] at this
      exact this
    obtain ⟨f, hf'⟩ : ∃ f : Nat → SpanL, ∀ i, i < len → ∀ j u, (f i).cells[j]? = some u → W.cell? (x.add (i * 14 + j)) = some u := ⟨fun i => if hlt : i < len then Classical.choose (hs i hlt) else default, fun i hlt => by
      have := Classical.choose_spec (hs i hlt)
      simp only [dif_pos hlt]
      exact this⟩
    have hz : ((List.range len).map f).length = len := by simp
    unfold maxLen at hm
    refine ⟨(List.range len).map f, hz, ?_, by omega⟩
    rcases Nat.eq_zero_or_pos len with rfl | hpos
    · exact .inl rfl
    · obtain ⟨b, off, spot⟩ := x
      have hc := hf' 0 hpos 0 _ rfl
      have hspot : spot = none := by simpa [Addr.add] using World.cell?_spot hc
      subst hspot
      refine .inr ⟨b, off, rfl, World.block_lt_of_cell? W _ (by simpa [Addr.add] using hc), fun i hi' j u hj => ?_⟩
      have hlt : i < len := by omega
      have e : nth ((List.range len).map f) i = f i := by
        rw [nth_lt hi']; simp
      rw [e] at hj
      have := hf' i hlt j u hj
      rw [addr_add0] at this
      rwa [Nat.add_assoc]
set_option maxRecDepth 100000 in
theorem version_read {b0 : Nat} {r : Reach} {v : Value} {d : DataW H} {p : List MemPlace} (hv : Value.okWide Tryz.prog W r b0 29 v) (h : DataW.Trod enc Tryz.prog W base (fun _ => true) held 29 v d p) : ∃ z : Ver, v = z.val := by
  obtain ⟨cs, rfl, _⟩ := okWide_struct Tryz.underlying29 hv
  obtain ⟨fuel, hf⟩ := h
  obtain ⟨z, hz, _⟩ := ver_of hf
  obtain ⟨l⟩ := cs
  simp [Value.cells] at hz
  exact ⟨z, by rw [hz]⟩
end
end Go.Proofs.YtlmkglgjdmjnkaaGreatDoor
