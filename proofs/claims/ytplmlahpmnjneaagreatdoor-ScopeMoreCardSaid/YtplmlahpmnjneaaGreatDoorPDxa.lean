import Derived.Test.YtplmlahpmnjneaaGreatDoorPDk
namespace Go.Proofs.YtplmlahpmnjneaaGreatDoor
open Go.RowKit Go.Lib
open Rw
set_option linter.unusedVariables false
set_option linter.unusedSimpArgs false
theorem rel_within {l m : List SpanL} (hl : Val l) (hm : Val m) (rl : RelR l) (rm : RelR m) (h : ∀ w, isRel w → mem l (befC w) → mem m (befC w)) : withinR l m = true := by
  have e : rorL l m = m := rel_ext (v_or hl hm) hm (r_or hl hm rl rm) rm fun w hw => by
    rw [(or_spec hl hm).2]
    exact ⟨fun k => k.elim (h w hw) id, .inr⟩
  have := within_or hl hm
  rwa [e] at this
theorem altS_rel_mem (a : List CompL) {w : Ver} (hw : isRel w) : mem (altS a).1 (befC w) ↔ mem (relA a) (befC w) := by
  rw [altS, smake_yes (relA_val a) (v_and (relA_val a) (zoneA_val a)), (make_spec (turnedR_lt _)).2.2, turnedR_mem (relA_val a) hw]
theorem less_rel (a : List CompL) (c : CompL) : withinR (altS (a ++ [c])).1 (altS a).1 = true := by
  have v := altS_val (a ++ [c])
  have k := altS_val a
  refine rel_within v.rel k.rel v.right k.right fun w hw h => ?_
  rw [altS_rel_mem _ hw, relA_mem] at h ⊢
  exact ⟨h.1, fun c hc => h.2 c (List.mem_append_left _ hc)⟩
theorem less_plain {r : List (List CompL)} {a : List CompL} {c : CompL} (h : mayG r = true) (ha : a ∈ r) (k : mayG [a ++ [c]] = true) : withinR (setG [a ++ [c]]).1 (setG [a]).1 = true := by
  rw [setG_one k (List.mem_singleton.2 rfl), setG_one h ha]
  exact less_rel a c
theorem more_plain {r : List (List CompL)} {c : CompL} (h : mayG r = true) (k : MayX c) (m : mayG (r ++ [[c]]) = true) : withinS (setG r).1 (setG r).2 (setG (r ++ [[c]])).1 (setG (r ++ [[c]])).2 = true := by
  rw [setG_append h (one_may k) m]
  have v := setG_val r
  have v2 := setG_val [[c]]
  rw [withinS_val v (v.orS v2), orS_val v v2]
  simp only
  rw [within_or v.rel v2.rel, within_or v.pre v2.pre]; rfl
end Go.Proofs.YtplmlahpmnjneaaGreatDoor
