/- The laws of rows, in plain: by what each row covers. -/
import Derived.Test.YtodicnjoimoiiaaRowMath
namespace Go.Proofs.Ytodicnjoimoiiaa
open Go.RowKit Go.Lib
set_option linter.unusedVariables false
set_option linter.unusedSimpArgs false
namespace Rw
variable {a b c : List SpanL}
theorem v_not (ha : Val a) : Val (rnotL a) := (not_spec ha).1
theorem v_and (ha : Val a) (hb : Val b) : Val (randL a b) := (and_spec ha hb).1
theorem v_or (ha : Val a) (hb : Val b) : Val (rorL a b) := (or_spec ha hb).1
theorem m_not (ha : Val a) (x : CutL) : mem (rnotL a) x ↔ inU x ∧ ¬ mem a x := (not_spec ha).2 x
theorem m_and (ha : Val a) (hb : Val b) (x : CutL) : mem (randL a b) x ↔ mem a x ∧ mem b x := (and_spec ha hb).2 x
theorem m_or (ha : Val a) (hb : Val b) (x : CutL) : mem (rorL a b) x ↔ mem a x ∨ mem b x := (or_spec ha hb).2 x
theorem not_not (ha : Val a) : rnotL (rnotL a) = a := Val.ext _ _ (v_not (v_not ha)) ha fun x => by
  rw [m_not (v_not ha), m_not ha]
  by_cases h : mem a x
  · have := h.inU; simp [h, this]
  · by_cases k : inU x <;> simp [h, k]
theorem de_morgan (ha : Val a) (hb : Val b) : rnotL (rorL a b) = randL (rnotL a) (rnotL b) := Val.ext _ _ (v_not (v_or ha hb)) (v_and (v_not ha) (v_not hb)) fun x => by
  rw [m_not (v_or ha hb), m_or ha hb, m_and (v_not ha) (v_not hb), m_not ha, m_not hb]
  by_cases h : mem a x <;> by_cases h2 : mem b x <;> by_cases k : inU x <;> simp [h, h2, k]
theorem or_swap (ha : Val a) (hb : Val b) : rorL a b = rorL b a := Val.ext _ _ (v_or ha hb) (v_or hb ha) fun x => by
  rw [m_or ha hb, m_or hb ha, or_comm]
theorem and_swap (ha : Val a) (hb : Val b) : randL a b = randL b a := Val.ext _ _ (v_and ha hb) (v_and hb ha) fun x => by
  rw [m_and ha hb, m_and hb ha, and_comm]
theorem distr (ha : Val a) (hb : Val b) (hc : Val c) : randL a (rorL b c) = rorL (randL a b) (randL a c) := Val.ext _ _ (v_and ha (v_or hb hc)) (v_or (v_and ha hb) (v_and ha hc)) fun x => by
  rw [m_and ha (v_or hb hc), m_or hb hc, m_or (v_and ha hb) (v_and ha hc), m_and ha hb, m_and ha hc]
  by_cases h : mem a x <;> simp [h]
theorem within_and (ha : Val a) (hb : Val b) : withinR (randL a b) a = true := (within_iff (v_and ha hb) ha).2 fun x h => ((m_and ha hb x).1 h).1
theorem within_or (ha : Val a) (hb : Val b) : withinR a (rorL a b) = true := (within_iff ha (v_or ha hb)).2 fun x h => (m_or ha hb x).2 (.inl h)
theorem within_not (ha : Val a) (hb : Val b) : withinR a b = ((((randL a (rnotL b)).length : Nat) : Int) == 0) := by
  have h1 := within_iff ha hb
  have h2 := nil_iff (v_and ha (v_not hb))
  rw [Bool.eq_iff_iff, h1]
  simp only [beq_iff_eq]
  constructor
  · intro h
    have : randL a (rnotL b) = [] := h2.2 fun x hx => by
      rw [m_and ha (v_not hb), m_not hb] at hx
      exact hx.2.2 (h x hx.1)
    rw [this]; rfl
  · intro h x hx
    have h3 : randL a (rnotL b) = [] := List.eq_nil_of_length_eq_zero (by omega)
    have h4 := h2.1 h3 x
    rw [m_and ha (v_not hb), m_not hb] at h4
    by_cases k : mem b x
    · exact k
    · exact (h4 ⟨hx, hx.inU, k⟩).elim
theorem absorb1 (ha : Val a) (hb : Val b) : randL a (rorL a b) = a := Val.ext _ _ (v_and ha (v_or ha hb)) ha fun x => by
  rw [m_and ha (v_or ha hb), m_or ha hb]
  by_cases h : mem a x <;> simp [h]
theorem absorb2 (ha : Val a) (hb : Val b) : rorL a (randL a b) = a := Val.ext _ _ (v_or ha (v_and ha hb)) ha fun x => by
  rw [m_or ha (v_and ha hb), m_and ha hb]
  by_cases h : mem a x <;> simp [h]
theorem and_assoc' (ha : Val a) (hb : Val b) (hc : Val c) : randL (randL a b) c = randL a (randL b c) := Val.ext _ _ (v_and (v_and ha hb) hc) (v_and ha (v_and hb hc)) fun x => by
  rw [m_and (v_and ha hb) hc, m_and ha hb, m_and ha (v_and hb hc), m_and hb hc, and_assoc]
theorem or_assoc' (ha : Val a) (hb : Val b) (hc : Val c) : rorL (rorL a b) c = rorL a (rorL b c) := Val.ext _ _ (v_or (v_or ha hb) hc) (v_or ha (v_or hb hc)) fun x => by
  rw [m_or (v_or ha hb) hc, m_or ha hb, m_or ha (v_or hb hc), m_or hb hc, or_assoc]
theorem same_refl : sameR a a = true := sameR_iff.2 rfl
variable {v : Ver}
theorem has_or (ha : Val a) (hb : Val b) (hv : mayV v = true) : hasR (rorL a b) v = (hasR a v || hasR b v) := by
  rw [Bool.eq_iff_iff, Bool.or_eq_true, has_iff ha hv, has_iff hb hv, has_iff (v_or ha hb) hv, m_or ha hb]
theorem has_and (ha : Val a) (hb : Val b) (hv : mayV v = true) : hasR (randL a b) v = (hasR a v && hasR b v) := by
  rw [Bool.eq_iff_iff, Bool.and_eq_true, has_iff ha hv, has_iff hb hv, has_iff (v_and ha hb) hv, m_and ha hb]
theorem has_not (ha : Val a) (hv : mayV v = true) : hasR (rnotL a) v = !hasR a v := by
  have h1 := has_iff ha hv
  have h2 := has_iff (v_not ha) hv
  rw [m_not ha] at h2
  have hu := bef_inU hv (bef_ne v)
  cases h : hasR a v
  · rw [Bool.not_false, h2]
    exact ⟨hu, fun k => by rw [h1.2 k] at h; cases h⟩
  · rw [Bool.not_true, Bool.eq_false_iff]
    intro k
    exact (h2.1 k).2 (h1.1 h)
end Rw
end Go.Proofs.Ytodicnjoimoiiaa
