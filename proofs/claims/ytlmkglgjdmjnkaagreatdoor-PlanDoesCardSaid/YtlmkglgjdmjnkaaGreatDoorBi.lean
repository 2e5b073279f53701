/- Versions, cuts, spans, rows out of numbers. -/
import Derived.Test.YtlmkglgjdmjnkaaGreatDoorBa
import Derived.Test.YtlmkglgjdmjnkaaGreatDoorBh
namespace Go.Proofs.YtlmkglgjdmjnkaaGreatDoor
open Go.RowKit Go.Lib
set_option linter.unusedVariables false
set_option linter.unusedSimpArgs false

def numA : List Int := [0, 1, 2, 3, 0, 1, 10, 9999]
def preA : List (List UInt8) := [[], [], [], [], [48], [49], [50], [49, 49], [97], [97, 46, 49], [97, 46, 98], [98], [48, 46, 48], [114, 99, 46, 49]]
def bldA : List (List UInt8) := [[], [], [], [], [48, 48, 55], [120, 46, 49]]
def versionL (zs : List Int) (i : Int) : Ver := ⟨numA.getD (fromL zs i 8).toNat 0, numA.getD (fromL zs (i + 1) 8).toNat 0, numA.getD (fromL zs (i + 2) 8).toNat 0, ⟨(preA.getD (fromL zs (i + 3) 14).toNat []).toArray⟩, ⟨(bldA.getD (fromL zs (i + 4) 6).toNat []).toArray⟩⟩
def arrN : List Value := numA.map (Value.int .i64)
def arrP : List Value := preA.map strV
def arrB : List Value := bldA.map strV
theorem arr_get {α : Type} (f : α → Value) (l : List α) (d : α) (r : Int) (h0 : 0 ≤ r) (h1 : r < l.length) : (l.map f)[r.toNat]? = some (f (l.getD r.toNat d)) := by
  have : r.toNat < l.length := by omega
  simp [this]
theorem wp_name {P : Program} {c : Code} {Q : Exit → Act → World → Prop} {a : Act} {w : World} (h : ∀ w', w' = w → c.wp P Q a w') : c.wp P Q a w := h w rfl
end Go.Proofs.YtlmkglgjdmjnkaaGreatDoor
/- Cuts out of numbers. -/
namespace Go.Proofs.YtlmkglgjdmjnkaaGreatDoor
open Go.RowKit Go.Lib
set_option linter.unusedVariables false
set_option linter.unusedSimpArgs false

theorem getD_mem {α : Type} {l : List α} {r : Int} {d : α} (h0 : 0 ≤ r) (h1 : r < l.length) : l.getD r.toNat d ∈ l := by
  have : r.toNat < l.length := by omega
  simp [this]
theorem numA_ok : ∀ x, x ∈ numA → fitsI x = true := by decide
theorem preA_ok : ∀ x, x ∈ preA → preOk x = true ∧ x.length ≤ 8 := by decide +kernel
theorem bldA_ok : ∀ x, x ∈ bldA → bldOk x = true ∧ x.length ≤ 8 := by decide +kernel
theorem bts_mk (l : List UInt8) : bts ⟨l.toArray⟩ = l := by rw [bts, bts_data]
theorem versionL_ok (zs : List Int) (i : Int) : mayV (versionL zs i) = true ∧ (versionL zs i).fit := by
  have b1 := fromL_bd zs i 8 (by omega)
  have b2 := fromL_bd zs (i + 1) 8 (by omega)
  have b3 := fromL_bd zs (i + 2) 8 (by omega)
  have b4 := fromL_bd zs (i + 3) 14 (by omega)
  have b5 := fromL_bd zs (i + 4) 6 (by omega)
  have p1 := preA_ok _ (getD_mem (d := []) b4.1 b4.2)
  have p2 := bldA_ok _ (getD_mem (d := []) b5.1 b5.2)
  constructor
  · simp only [mayV, versionL, bts_mk, p1.1, p2.1, numA_ok _ (getD_mem b1.1 b1.2), numA_ok _ (getD_mem b2.1 b2.2), numA_ok _ (getD_mem b3.1 b3.2), Bool.and_self]
  · have e : ∀ l : List UInt8, (⟨l.toArray⟩ : ByteArray).size = l.length := fun l => by rw [← bts_len, bts_mk]
    simp only [Ver.fit, versionL, e]
    omega
def cutL (zs : List Int) (i : Int) : CutL := if fromL zs (i + 5) 9 < 2 then ⟨2 * fromL zs (i + 5) 9 - 1, zeroV, false⟩ else ⟨0, bareV (versionL zs i), fromL zs (i + 5) 2 == 1⟩
theorem cutL_ok (zs : List Int) (i : Int) : mayC (cutL zs i) = true ∧ (cutL zs i).fit := by
  have hb := fromL_bd zs (i + 5) 9 (by omega)
  have hv := versionL_ok zs i
  unfold cutL
  split
  · refine ⟨?_, ?_⟩
    · rw [mayC_end (by simp only; omega), eqVer_iff.2 rfl]; rfl
    · exact firstC_fit
  · refine ⟨?_, ?_⟩
    · rw [mayC_zero rfl]
      rw [show bts (bareV (versionL zs i)).bld = [] from bts_e, bare_may hv.1]; rfl
    · have h2 := hv.2
      simp only [CutL.fit, Ver.fit, bareV] at h2 ⊢
      exact ⟨h2.1, by decide⟩
theorem zero_cells : zeroV.cells = [.int .i64 0, .int .i64 0, .int .i64 0, .string ⟨#[]⟩, .string ⟨#[]⟩] := rfl
def zeroC : CutL := ⟨0, zeroV, false⟩

end Go.Proofs.YtlmkglgjdmjnkaaGreatDoor
/- Spans and rows out of numbers. -/
namespace Go.Proofs.YtlmkglgjdmjnkaaGreatDoor
open Go.RowKit Go.Lib
set_option linter.unusedVariables false
set_option linter.unusedSimpArgs false

def allMay (l : List SpanL) : Prop := ∀ s, s ∈ l → spanMay s = true
/-- some spans, each of which may be, have come back in memory of their own -/
def SpansPost (w : World) (base most : Nat) (e : Ending) (w' : World) : Prop := ∃ v l, e = .returned v ∧ OwnS w' base v l ∧ fitAll l ∧ allMay l ∧ l.length ≤ most ∧ Below base w w'
/-- a row that may be has come back in memory of its own -/
def VRowPost (w : World) (base : Nat) (e : Ending) (w' : World) : Prop := ∃ v l, e = .returned v ∧ OwnS w' base v l ∧ fitL l ∧ Rw.Val l ∧ l.length ≤ 9 ∧ Below base w w'
end Go.Proofs.YtlmkglgjdmjnkaaGreatDoor
