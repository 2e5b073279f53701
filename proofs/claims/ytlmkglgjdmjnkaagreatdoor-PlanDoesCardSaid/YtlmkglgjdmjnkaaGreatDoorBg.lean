/- The walk of the program's Not of rows. -/
import Derived.Test.YtlmkglgjdmjnkaaGreatDoorBf
namespace Go.Proofs.YtlmkglgjdmjnkaaGreatDoor
open Go.RowKit Go.Lib
set_option linter.unusedVariables false
set_option linter.unusedSimpArgs false

def fitAll (l : List SpanL) : Prop := ∀ s, s ∈ l → s.fit
theorem fitAll.addIf {o : List SpanL} {f t : CutL} (h : fitAll o) (hf : f.fit) (ht : t.fit) : fitAll (Rw.addIf o f t) := Rw.addIf_low (Q := SpanL.fit) h ⟨hf, ht⟩
theorem addIf_len (o : List SpanL) (f t : CutL) : (Rw.addIf o f t).length ≤ o.length + 1 := by unfold Rw.addIf; split <;> simp
theorem addIf_yes {o : List SpanL} {f t : CutL} (h : cmpC f t < 0) : Rw.addIf o f t = o ++ [⟨f, t⟩] := by rw [Rw.addIf, if_pos h]
theorem addIf_no {o : List SpanL} {f t : CutL} (h : ¬ cmpC f t < 0) : Rw.addIf o f t = o := by rw [Rw.addIf, if_neg h]
/-- what a call has so far: its row, from block 'base' on, no longer than k -/
structure HasRow (w : World) (base : Nat) (v : Value) (o : List SpanL) (k : Nat) : Prop where
  own : OwnS w base v o
  fit : fitAll o
  len : o.length ≤ k

theorem en_last {c : CutL} (h : mayC c = true) : c.en < 1 ↔ cmpC c lastC < 0 := by
  rw [cmpC_ne h last_may (by simp [lastC]), cmpI_lt]; rfl

end Go.Proofs.YtlmkglgjdmjnkaaGreatDoor
/- The walks of the program's And of rows. -/
namespace Go.Proofs.YtlmkglgjdmjnkaaGreatDoor
open Go.RowKit Go.Lib
set_option linter.unusedVariables false
set_option linter.unusedSimpArgs false

theorem own_keep {w w' : World} {base size n : Nat} {e : TypeId} {v : Value} {xs : List Value} (h : w.ownsRow base e size v n xs) (hb : ∀ k, v.ownBlock = some k → w'.heap[k]? = w.heap[k]?) : w'.ownsRow base e size v n xs := by
  obtain ⟨h1, h2⟩ := h
  refine ⟨h1, ?_⟩
  rcases h2 with h2 | ⟨g, cap, cur, hv, hg, hh, r⟩
  · exact .inl h2
  · refine .inr ⟨g, cap, cur, hv, hg, ?_, r⟩
    rw [hb g (by rw [hv]; rfl)]; exact hh
theorem own_set {w : World} {base size n g o : Nat} {e : TypeId} {v : Value} {xs vs : List Value} (h : w.ownsRow base e size v n xs) (hg : ∀ k, v.ownBlock = some k → k < g) : (w.setCells g o vs).ownsRow base e size v n xs :=
  own_keep h fun k hk => setCells_block g k (by have := hg k hk; omega) vs o w
theorem maxC_yes {a b : CutL} (h : cmpC a b < 0) : Rw.maxC a b = b := by rw [Rw.maxC, if_pos h]
theorem maxC_no {a b : CutL} (h : ¬ cmpC a b < 0) : Rw.maxC a b = a := by rw [Rw.maxC, if_neg h]
theorem below_setNew {w w' : World} {g o : Nat} {vs : List Value} (h : Below g w w') : Below g w (w'.setCells g o vs) := h.setCells (Nat.le_refl g) vs o

end Go.Proofs.YtlmkglgjdmjnkaaGreatDoor
