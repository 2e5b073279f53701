import Derived.Test.YtplmlahpmnjneaaGreatDoorNCt
import Derived.Test.YtplmlahpmnjneaaGreatDoorNCi
namespace Go.Proofs.YtplmlahpmnjneaaGreatDoor
open Go.RowKit Go.Lib
open Rw
set_option linter.unusedVariables false
set_option linter.unusedSimpArgs false
abbrev barsB : List UInt8 := [32, 124, 124, 32]
abbrev commB : List UInt8 := [44, 32]
theorem bts_bars : bts (⟨#[32, 124, 124, 32]⟩ : ByteArray) = barsB := bts_lit [32, 124, 124, 32]
theorem bts_comm : bts (⟨#[44, 32]⟩ : ByteArray) = commB := bts_lit [44, 32]
def Row7X (w : World) (b o : Nat) (c : CompL) : Prop := w.cell? ⟨b, o, none⟩ = some (.int .i64 c.op) ∧ w.cell? ⟨b, o + 1, none⟩ = some (.int .i64 c.parts) ∧ w.cell? ⟨b, o + 2, none⟩ = some (.int .i64 c.v.maj) ∧ w.cell? ⟨b, o + 3, none⟩ = some (.int .i64 c.v.min) ∧ w.cell? ⟨b, o + 4, none⟩ = some (.int .i64 c.v.pat) ∧ w.cell? ⟨b, o + 5, none⟩ = some (.string c.v.pre) ∧ w.cell? ⟨b, o + 6, none⟩ = some (.string c.v.bld)
theorem Lies.at7 {w : World} {A : Option Addr} {l : List CompL} {k : Nat} (h : Comps w A l) (hk : k < l.length) : ∃ b off, A = some ⟨b, off, none⟩ ∧ b < w.heap.size ∧ Row7X w b (off + k * 7) l[k] := by
  obtain ⟨b, off, hA, hl, hc⟩ := h.at_ hk
  exact ⟨b, off, hA, hl, hc 0 _ rfl, hc 1 _ rfl, hc 2 _ rfl, hc 3 _ rfl, hc 4 _ rfl, hc 5 _ rfl, hc 6 _ rfl⟩
theorem fewA_at {a : List CompL} {k : Nat} (h : k < a.length) (hm : mayX a[k] = false) : fewA a = false := by
  rw [fewA, Bool.and_eq_false_iff]
  right
  rw [List.all_eq_false]
  exact ⟨_, List.getElem_mem h, by rw [hm]; simp⟩
theorem fewG_at {r : List (List CompL)} {k : Nat} (h : k < r.length) (hm : fewA r[k] = false) : fewG r = false := by
  rw [fewG, Bool.and_eq_false_iff]
  right
  rw [List.all_eq_false]
  exact ⟨_, List.getElem_mem h, by rw [hm]; simp⟩
theorem fewA_long {a : List CompL} (h : ¬ (1 ≤ a.length ∧ a.length ≤ 6)) : fewA a = false := by rw [fewA, decide_eq_false h]; rfl
theorem fewG_long {r : List (List CompL)} (h : ¬ (1 ≤ r.length ∧ r.length ≤ 6)) : fewG r = false := by rw [fewG, decide_eq_false h]; rfl
theorem all_take {α : Type} {p : α → Bool} {l : List α} {k : Nat} (h : k < l.length) (ha : (l.take k).all p = true) (hp : p l[k] = true) : (l.take (k + 1)).all p = true := by
  rw [List.take_succ_eq_append_getElem h, List.all_append, ha]; simp [hp]
theorem fewA_yes {a : List CompL} (h : 1 ≤ a.length ∧ a.length ≤ 6) (ha : (a.take a.length).all mayX = true) : fewA a = true := by rw [List.take_length] at ha; rw [fewA, ha, decide_eq_true h]; rfl
theorem fewG_yes {r : List (List CompL)} (h : 1 ≤ r.length ∧ r.length ≤ 6) (ha : (r.take r.length).all fewA = true) : fewG r = true := by rw [List.take_length] at ha; rw [fewG, ha, decide_eq_true h]; rfl
theorem few_parts {r : List (List CompL)} (h : fewG r = true) : r.length ≤ 6 ∧ ∀ a ∈ r, a.length ≤ 6 := by
  have := fewG_iff.1 h
  exact ⟨this.le, fun a ha => (this.may a ha).le⟩
end Go.Proofs.YtplmlahpmnjneaaGreatDoor
namespace Go.Proofs.YtplmlahpmnjneaaGreatDoor
open Go.RowKit Go.Lib
open Rw
set_option linter.unusedVariables false
set_option linter.unusedSimpArgs false
theorem trimL_eq (l : List UInt8) (c : UInt8) : Lib.trimLeftB l c = l.dropWhile (· == c) := rfl
end Go.Proofs.YtplmlahpmnjneaaGreatDoor
