/- How slices of numbers that came in are read: for the laws' frames. -/
import Derived.Test.YtodicnjoimoiiaaPlace
import Derived.ProofKit
import Derived.OpenShut
import Derived.ShutString
import Derived.ChangeOld
import Derived.Below
namespace Go.Proofs.Ytodicnjoimoiiaa
open Go.ChangeShapes Go.WideShapes Go.ChangeAt Go.RowKit
open Go.ChangeMaps (open_string shut_string)
set_option linter.unusedVariables false
set_option linter.unusedSimpArgs false

theorem ownN : ownKnob Try.prog.godebug = none := by kernel_rfl
theorem laidN : laidOutB Try.prog = true := by kernel_rfl
theorem addr_add0 (b o j : Nat) : (Addr.mk b o none).add j = ⟨b, o + j, none⟩ := by
  unfold Addr.add
  split <;> simp_all
theorem intsAt_of {W : World} {x : Addr} {zs : List Int} {len : Nat} (hl : len ≤ zs.length) (hcell : ∀ i, i < zs.length → W.cell? (x.add i) = some (.int .i64 (zs.getD i 0))) : IntsAt W (some x) (zs.take len) ∧ (zs.take len).length = len := by
  have hlen : (zs.take len).length = len := by rw [List.length_take]; omega
  refine ⟨?_, hlen⟩
  rcases Nat.eq_zero_or_pos len with rfl | hpos
  · exact .inl (by simp)
  · obtain ⟨b, off, spot⟩ := x
    have hc := hcell 0 (by omega)
    have hspot : spot = none := by simpa [Addr.add] using World.cell?_spot hc
    subst hspot
    refine .inr ⟨b, off, rfl, World.block_lt_of_cell? W _ (by simpa [Addr.add] using hc), fun i hi => ?_⟩
    have := hcell i (by omega)
    have e : (zs.take len).getD i 0 = zs.getD i 0 := by
      rw [hlen] at hi
      simp [List.getD_eq_getElem?_getD, List.getElem?_take_of_lt hi]
    rw [e, ← addr_add0]; exact this
section
variable {H : Type} {enc : TypeId × Value → H} {W : World} {base : Nat} {held : Bool}
theorem ints_read {a : Option Addr} {len cap : Nat} {d : DataW H} {p : List MemPlace} (h : DataW.Trod enc Try.prog W base (fun _ => true) held 31 (.slice a len cap) d p) : ∃ z : List Int, z.length = len ∧ IntsAt W a z ∧ z.length ≤ 9223372036854775807 := by
  obtain ⟨fuel, hf⟩ := h
  rcases open_ints Try.underlying31 Try.underlying3 (by kernel_rfl) hf with ⟨hcs, _⟩ | ⟨x, l, c, zs, hcs, _, hl, hm, hz, _, hcell, _⟩
  · simp [Value.cells] at hcs
    obtain ⟨rfl, rfl, rfl⟩ := hcs
    exact ⟨[], rfl, .inl rfl, by simp⟩
  · simp [Value.cells] at hcs
    obtain ⟨rfl, rfl, rfl⟩ := hcs
    have hz' : zs.length = cap := by simpa using hz
    obtain ⟨h1, h2⟩ := intsAt_of (x := x) (len := len) (by omega) hcell
    unfold maxLen at hm
    exact ⟨_, h2, h1, by omega⟩
end
end Go.Proofs.Ytodicnjoimoiiaa
