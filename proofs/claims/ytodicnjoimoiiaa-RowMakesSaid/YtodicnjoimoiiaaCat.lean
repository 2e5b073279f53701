/- Spans as an append's source; a row of the call's own behind another. -/
import Derived.Test.YtodicnjoimoiiaaRefNot
namespace Go.Proofs.Ytodicnjoimoiiaa
open Go.RowKit Go.Lib
set_option linter.unusedVariables false
set_option linter.unusedSimpArgs false

theorem oneS (l : List SpanL) : ∀ u ∈ cellsL l, u.oneCell' = true := by
  intro u hu
  simp only [cellsL, List.mem_flatMap] at hu
  obtain ⟨s, _, hu⟩ := hu
  simp at hu
  rcases hu with rfl | rfl | rfl | rfl | rfl | rfl | rfl | rfl | rfl | rfl | rfl | rfl | rfl | rfl <;> rfl
theorem Spans.src {w : World} {A : Option Addr} {l : List SpanL} (h : Spans w A l) : SrcOf w A l.length 14 (cellsL l) := by
  refine ⟨cellsL_len l, ?_, ?_⟩
  · rintro rfl
    rcases h with rfl | ⟨b, off, e, _⟩
    · rfl
    · cases e
  · rintro ad rfl j u hj
    have hjl : j < l.length * 14 := by
      rcases Nat.lt_or_ge j (l.length * 14) with h' | h'
      · exact h'
      · rw [List.getElem?_eq_none (by rw [cellsL_len]; exact h')] at hj; cases hj
    rcases h with rfl | ⟨b, off, e, hlt, hc⟩
    · simp at hjl
    · injection e with e; subst e
      have ej : j / 14 * 14 + j % 14 = j := by omega
      rw [← ej, cellsL_get _ _ _ (by omega) (Nat.mod_lt _ (by omega))] at hj
      have := hc (j / 14) (by omega) (j % 14) u hj
      rw [addr_add, ← ej]
      rw [← this]
      congr 2
      omega
theorem OwnS.cat {w : World} {base : Nat} {v : Value} {l m : List SpanL} (h : w.ownsRow base 37 14 v (l.length + m.length) (cellsL l ++ cellsL m)) : OwnS w base v (l ++ m) := by
  rw [OwnS, List.length_append, cellsL_append]; exact h
theorem nth_app {a b : List SpanL} {i : Nat} (h : i < (a ++ b).length) : nth (a ++ b) i = if i < a.length then nth a i else nth b (i - a.length) := by
  simp only [nth, List.getD_eq_getElem?_getD]
  split
  · rw [List.getElem?_append_left (by assumption)]
  · rw [List.getElem?_append_right (by omega)]
theorem fitL.app {a b : List SpanL} (ha : fitL a) (hb : fitL b) : fitL (a ++ b) := by
  intro i hi
  rw [nth_app hi]
  rw [List.length_append] at hi
  split
  · exact ha i (by assumption)
  · exact hb _ (by omega)
end Go.Proofs.Ytodicnjoimoiiaa
