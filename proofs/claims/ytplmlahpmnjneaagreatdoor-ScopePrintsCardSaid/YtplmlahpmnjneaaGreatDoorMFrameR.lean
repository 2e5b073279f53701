/- How a range that came in is read: for ScopePrints' frame. -/
import Derived.Test.YtplmlahpmnjneaaGreatDoorMFrameT
import Derived.Test.YtplmlahpmnjneaaGreatDoorMCt
namespace Go.Proofs.YtplmlahpmnjneaaGreatDoor
open Go.ChangeShapes Go.WideShapes Go.ChangeAt Go.RowKit Go.Deep Go.Joins
open Go.ChangeMaps (open_string shut_string)
set_option linter.unusedVariables false
set_option linter.unusedSimpArgs false

theorem cellsCo : Tryz.prog.cellsOf 52 = 7 := by kernel_rfl
theorem cellsCs : Tryz.prog.cellsOf 49 = 1 := by kernel_rfl
theorem cellsCss : Tryz.prog.cellsOf 33 = 1 := by kernel_rfl
theorem cellsRg : Tryz.prog.cellsOf 35 = 1 := by kernel_rfl
section
variable {H : Type} {enc : TypeId × Value → H} {W : World} {base n : Nat} {held : Bool} {cs : List Value} {x : DataW H × List MemPlace}
set_option maxRecDepth 100000 in
theorem comp_of {spare : Nat → Bool} (h : DataW.trod enc Tryz.prog W base spare held n 52 cs = some x) : ∃ c : CompL, cs = c.cells := by
  obtain ⟨xs, n', _, _, hcl, hxl, hf⟩ := DataW.trod_struct Tryz.underlying52 h
  rw [cellsCo] at hcl
  match cs, hcl, xs, hxl with
  | [c0, c1, c2, c3, c4, c5, c6], _, [y0, y1, y2], _ =>
    have h0 := hf 0 _ rfl
    have h1 := hf 1 _ rfl
    have h2 := hf 2 _ rfl
    simp [cellsI] at h0 h1
    simp [cellsVe] at h2
    obtain ⟨m0, e0, _⟩ := DataW.trod_int Tryz.underlying3 h0
    obtain ⟨m1, e1, _⟩ := DataW.trod_int Tryz.underlying3 h1
    obtain ⟨v, e2, z1, z2⟩ := ver_of h2
    simp only [List.cons.injEq, and_true] at e0 e1 e2
    obtain ⟨p2, p3, p4, p5, p6⟩ := e2
    subst e0; subst e1; subst p2; subst p3; subst p4; subst p5; subst p6
    exact ⟨⟨m0, m1, v⟩, rfl⟩
set_option maxRecDepth 100000 in
theorem comps_cells {c0 : Value} (h : DataW.trod enc Tryz.prog W base (fun _ => true) held n 49 [c0] = some x) : ∃ a len cap, c0 = .slice a len cap ∧ ∃ z : List CompL, z.length = len ∧ Comps W a z ∧ z.length ≤ 9223372036854775807 := by
  rcases open_slice Tryz.underlying49 h with ⟨hcs, _⟩ | ⟨x, len, c, m, n, D, Pl, hcs, _, hl, hm, hmm, _, hi⟩
  · exact ⟨none, 0, 0, by simpa using hcs, [], rfl, .inl rfl, by simp⟩
  · refine ⟨some x, len, c, by simpa using hcs, ?_⟩
    have hm' : m = c := by simpa using hmm
    subst hm'
    have hs : ∀ i, i < len → ∃ s : CompL, ∀ j u, s.cells[j]? = some u → W.cell? (x.add (i * 7 + j)) = some u := fun i hlt => by
      obtain ⟨cs', h1, h2⟩ := hi i (by omega)
      obtain ⟨s, rfl⟩ := comp_of h2
      obtain ⟨_, h3, h4⟩ := World.cells?_some h1
      refine ⟨s, fun j u hj => ?_⟩
      have hj7 : j < 7 := by
        rcases Nat.lt_or_ge j 7 with h' | h'
        · exact h'
        · rw [List.getElem?_eq_none (by simp; omega)] at hj; cases hj
      have := h4 j (by rw [cellsCo]; exact hj7)
      rw [cellsCo, Go.Deep.add_add, hj] at this
      exact this
    obtain ⟨f, hf'⟩ : ∃ f : Nat → CompL, ∀ i, i < len → ∀ j u, (f i).cells[j]? = some u → W.cell? (x.add (i * 7 + j)) = some u := ⟨fun i => if hlt : i < len then Classical.choose (hs i hlt) else ⟨0, 0, ⟨0, 0, 0, ⟨#[]⟩, ⟨#[]⟩⟩⟩, fun i hlt => by
      have := Classical.choose_spec (hs i hlt)
      simp only [dif_pos hlt]
      exact this⟩
    have hz : ((List.range len).map f).length = len := by simp
    unfold maxLen at hm
    refine ⟨(List.range len).map f, hz, ?_, by omega⟩
    rcases Nat.eq_zero_or_pos len with rfl | hpos
    · exact .inl rfl
    · obtain ⟨b, off, spot⟩ := x
      have hc := hf' 0 hpos 0 _ rfl
      have hspot : spot = none := by simpa [Addr.add] using World.cell?_spot hc
      subst hspot
      refine .inr ⟨b, off, rfl, World.block_lt_of_cell? W _ (by simpa [Addr.add] using hc), fun i hi' j u hj => ?_⟩
      have hlt : i < len := by omega
      have e : ((List.range len).map f)[i] = f i := by simp
      rw [e] at hj
      have := hf' i hlt j u hj
      rw [addr_add0] at this
      rwa [Nat.add_assoc]
set_option maxRecDepth 100000 in
theorem alts_cells {c0 : Value} (h : DataW.trod enc Tryz.prog W base (fun _ => true) held n 33 [c0] = some x) : ∃ a len cap, c0 = .slice a len cap ∧ ∃ r : List (List CompL), r.length = len ∧ Alts W a r ∧ r.length ≤ 9223372036854775807 ∧ ∀ y ∈ r, y.length ≤ 9223372036854775807 := by
  rcases open_slice1 Tryz.underlying33 cellsCs h with ⟨hcs, _⟩ | ⟨x, len, c, m, n, V, D, Pl, hcs, _, hl, hm, hmm, _, hi⟩
  · exact ⟨none, 0, 0, by simpa using hcs, [], rfl, .inl rfl, by simp, fun y hy => by simp at hy⟩
  · refine ⟨some x, len, c, by simpa using hcs, ?_⟩
    have hm' : m = c := by simpa using hmm
    subst hm'
    have hs : ∀ i, i < len → ∃ s : List CompL, s.length ≤ 9223372036854775807 ∧ ∃ Ai ci, W.cell? (x.add i) = some (.slice Ai s.length ci) ∧ Comps W Ai s := fun i hlt => by
      obtain ⟨h1, h2⟩ := hi i (by omega)
      obtain ⟨Ai, li, ci, e, y, rfl, hy, hm⟩ := comps_cells h2
      rw [e] at h1
      exact ⟨y, hm, Ai, ci, h1, hy⟩
    obtain ⟨f, hf'⟩ : ∃ f : Nat → List CompL, ∀ i, i < len → (f i).length ≤ 9223372036854775807 ∧ ∃ Ai ci, W.cell? (x.add i) = some (.slice Ai (f i).length ci) ∧ Comps W Ai (f i) := ⟨fun i => if hlt : i < len then Classical.choose (hs i hlt) else [], fun i hlt => by
      have := Classical.choose_spec (hs i hlt)
      simp only [dif_pos hlt]
      exact this⟩
    have hz : ((List.range len).map f).length = len := by simp
    unfold maxLen at hm
    refine ⟨(List.range len).map f, hz, ?_, by omega, fun y hy => ?_⟩
    · rcases Nat.eq_zero_or_pos len with rfl | hpos
      · exact .inl rfl
      · obtain ⟨b, off, spot⟩ := x
        obtain ⟨-, A0, c0', hc, -⟩ := hf' 0 hpos
        have hspot : spot = none := by simpa [Addr.add] using World.cell?_spot hc
        subst hspot
        refine .inr ⟨b, off, rfl, World.block_lt_of_cell? W _ (by simpa [Addr.add] using hc), fun i hi' => ?_⟩
        have hlt : i < len := by omega
        have e : ((List.range len).map f)[i] = f i := by simp
        obtain ⟨-, Ai, ci, hc2, hy⟩ := hf' i hlt
        rw [addr_add0] at hc2
        rw [e]
        exact ⟨Ai, ci, hc2, hy⟩
    · obtain ⟨i, hi2, rfl⟩ := List.mem_map.1 hy
      exact (hf' i (List.mem_range.1 hi2)).1
set_option maxRecDepth 100000 in
theorem range_read {b0 : Nat} {r : Reach} {v : Value} {d : DataW H} {p : List MemPlace} (hv : Value.okWide Tryz.prog W r b0 35 v) (h : DataW.Trod enc Tryz.prog W base (fun _ => true) held 35 v d p) :
    ∃ (a : Option Addr) (c : Nat) (r : List (List CompL)), v = rangeV a r.length c ∧ Alts W a r ∧ r.length ≤ 9223372036854775807 ∧ ∀ y ∈ r, y.length ≤ 9223372036854775807 := by
  obtain ⟨cs, rfl, _⟩ := okWide_struct Tryz.underlying35 hv
  obtain ⟨fuel, hf⟩ := h
  obtain ⟨xs, n', _, _, hcl, hxl, hfl⟩ := DataW.trod_struct Tryz.underlying35 hf
  rw [cellsRg] at hcl
  obtain ⟨l⟩ := cs
  simp only [Value.cells] at hcl hfl
  match l, hcl, xs, hxl with
  | [c0], _, [y0], _ =>
    have h0 := hfl 0 _ rfl
    simp [cellsCss] at h0
    obtain ⟨a, la, ca, rfl, z, rfl, g1, g2, g3⟩ := alts_cells h0
    exact ⟨a, ca, z, rfl, g1, g2, g3⟩
end
end Go.Proofs.YtplmlahpmnjneaaGreatDoor
