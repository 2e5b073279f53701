/- slices.SortFunc at spans, ordered by From: what it leaves is a rising permutation. -/
import Derived.Test.YtlmkglgjdmjnkaaGreatDoorBf
import Derived.Test.YtlmkglgjdmjnkaaGreatDoorBg
namespace Go.Proofs.YtlmkglgjdmjnkaaGreatDoor
open Go.RowKit Go.Lib
set_option linter.unusedVariables false
set_option linter.unusedSimpArgs false
def intOf : Value → Int | .int _ q => q | _ => 0

/-- what the sort leaves -/
def SortPost (w : World) (g : Nat) (l : List SpanL) (e : Ending) (w' : World) : Prop :=
  e = .returned (.tuple #[]) ∧ ∃ m : List SpanL, (∀ s, s ∈ m ↔ s ∈ l) ∧ m.length = l.length ∧ m.Pairwise (fun a b => cmpC a.fr b.fr ≤ 0) ∧ Spans w' (some ⟨g, 0, none⟩) m ∧ Below g w w'
theorem cells_at (s : SpanL) (j : Nat) (h : j < 14) : ∃ u, s.cells[j]? = some u ∧ s.cells[j]! = u := by
  have hl : j < s.cells.length := by simpa using h
  exact ⟨s.cells[j], List.getElem?_eq_getElem hl, getElem!_pos s.cells j hl⟩
end Go.Proofs.YtlmkglgjdmjnkaaGreatDoor
/- The walks of slices.Clone and of the program's Make of rows. -/
namespace Go.Proofs.YtlmkglgjdmjnkaaGreatDoor
open Go.RowKit Go.Lib
set_option linter.unusedVariables false
set_option linter.unusedSimpArgs false

theorem own_empty (w : World) (base : Nat) (hb : base ≤ w.heap.size) : (w.alloc (.cells #[] 133)).ownsRow base 133 14 (.slice (some ⟨w.heap.size, 0, none⟩) 0 0) 0 [] := by
  refine ⟨rfl, .inr ⟨w.heap.size, 0, #[], rfl, hb, ?_, Nat.le_refl _, Nat.zero_le _, rfl, rfl⟩⟩
  show (w.heap.push _)[w.heap.size]? = _
  simp
/-- what the sort leaves of a slice of the call's own -/
def SortedPost (w : World) (base : Nat) (v : Value) (l : List SpanL) (e : Ending) (w' : World) : Prop :=
  e = .returned (.tuple #[]) ∧ ∃ (m : List SpanL) (A : Option Addr) (c : Nat), v = .slice A m.length c ∧ (∀ s, s ∈ m ↔ s ∈ l) ∧ m.length = l.length ∧ m.Pairwise (fun a b => cmpC a.fr b.fr ≤ 0) ∧ Spans w' A m ∧ Below base w w'
theorem mergeTo_succ {m : List SpanL} {k : Nat} (h : k < m.length) : (m.take (k + 1)).foldl Rw.mergeStep [] = Rw.mergeStep ((m.take k).foldl Rw.mergeStep []) (nth m k) := by
  rw [Rw.take_nth h, List.foldl_append]; rfl
theorem merge_nil (s : SpanL) : Rw.mergeStep [] s = [s] := rfl
theorem merge_app {q s : SpanL} {r : List SpanL} (h : cmpC q.til s.fr < 0) : Rw.mergeStep (q :: r) s = s :: q :: r := by simp [Rw.mergeStep, h]
theorem merge_set {q s : SpanL} {r : List SpanL} (h : ¬ cmpC q.til s.fr < 0) (k : cmpC q.til s.til < 0) : Rw.mergeStep (q :: r) s = ⟨q.fr, s.til⟩ :: r := by simp [Rw.mergeStep, h, k]
theorem merge_keep {q s : SpanL} {r : List SpanL} (h : ¬ cmpC q.til s.fr < 0) (k : ¬ cmpC q.til s.til < 0) : Rw.mergeStep (q :: r) s = q :: r := by simp [Rw.mergeStep, h, k]

end Go.Proofs.YtlmkglgjdmjnkaaGreatDoor
/- The program's Or of rows, both Withins; Or and And put together. -/
namespace Go.Proofs.YtlmkglgjdmjnkaaGreatDoor
open Go.RowKit Go.Lib
set_option linter.unusedVariables false
set_option linter.unusedSimpArgs false

theorem ror_any (base : Nat) (A B : Option Addr) (cap cap2 : Nat) (a b : List SpanL) (w : World) (ha : Spans w A a) (hb : Spans w B b) (hfa : fitL a) (hfb : fitL b) (hln : a.length + b.length ≤ 40000) (hbase : base ≤ w.heap.size) : Calls Tryz.prog 138 #[.slice A a.length cap, .slice B b.length cap2] w (RowPost w base (rorL a b)) := by
  cases hmay : (mayR a && mayR b)
  · rw [show rorL a b = [] by rw [rorL, hmay]; rfl]; exact rror_no base A B cap cap2 a b w ha hb hfa hfb hln hbase hmay
  · rw [show rorL a b = (rmakeL (a ++ b)).1 by rw [rorL, hmay]; rfl]
    rw [Bool.and_eq_true] at hmay; exact ror_yes base A B cap cap2 a b w ha hb hfa hfb hln hbase hmay
theorem growAll_len {l : List SpanL} (p : CutL → CutL → Bool) (hf : fitL l) : (growAll (cutsL l) p).length ≤ 1 + 2 * l.length := by
  have h1 := growTo_len (cutsL l) p ((cutsL l).length - 1)
  have h2 := (cutsL_good hf).2
  rw [growAll]; omega
theorem growAll_fit {l : List SpanL} (p : CutL → CutL → Bool) (hf : fitL l) : fitAll (growAll (cutsL l) p) := by
  have h2 := cutsL_good hf
  exact growTo_fit h2.1 _ (by omega)
theorem fitAll.toL {l : List SpanL} (h : fitAll l) : fitL l := fun i hi => by rw [nth_lt hi]; exact h _ (List.getElem_mem _)
theorem fitL.toAll {l : List SpanL} (h : fitL l) : fitAll l := fun s hs => by
  obtain ⟨i, hi, rfl⟩ := List.getElem_of_mem hs
  have := h i hi
  rwa [nth_lt hi] at this
theorem randL_good {a b : List SpanL} (ha : fitL a) (hb : fitL b) : fitL (randL a b) ∧ (randL a b).length ≤ 1 + 2 * (a.length + b.length) := by
  rw [randL]
  split
  · have := growAll_len (bothIn a b) (fitL_app ha hb)
    rw [List.length_append] at this
    exact ⟨(growAll_fit _ (fitL_app ha hb)).toL, this⟩
  · exact ⟨fun i hi => by simp at hi, by simp⟩
theorem rmakeL_good {a : List SpanL} (ha : fitL a) : fitL (rmakeL a).1 ∧ (rmakeL a).1.length ≤ 1 + 2 * a.length := by
  rw [rmakeL]
  split
  · exact ⟨(growAll_fit _ ha).toL, growAll_len _ ha⟩
  · exact ⟨fun i hi => by simp at hi, by simp⟩
theorem rorL_good {a b : List SpanL} (ha : fitL a) (hb : fitL b) : fitL (rorL a b) ∧ (rorL a b).length ≤ 1 + 2 * (a.length + b.length) := by
  rw [rorL]
  split
  · have := rmakeL_good (fitL_app ha hb)
    rw [List.length_append] at this
    exact this
  · exact ⟨fun i hi => by simp at hi, by simp⟩
theorem rnotL_good {a : List SpanL} (ha : fitL a) : fitL (rnotL a) ∧ (rnotL a).length ≤ 1 + 2 * a.length := by
  rw [rnotL]
  split
  · exact ⟨(growAll_fit _ ha).toL, growAll_len _ ha⟩
  · exact ⟨fun i hi => by simp at hi, by simp⟩

end Go.Proofs.YtlmkglgjdmjnkaaGreatDoor
/- The walk of linchpinlaw4.awake. -/
namespace Go.Proofs.YtlmkglgjdmjnkaaGreatDoor
open Go.RowKit Go.Lib
set_option linter.unusedVariables false
set_option linter.unusedSimpArgs false

def awV : Ver := ⟨1, 0, 0, ⟨#[]⟩, ⟨#[]⟩⟩
def awS : SpanL := ⟨⟨0, awV, false⟩, ⟨0, awV, true⟩⟩
theorem awV_may : mayV awV = true := by
  simp only [mayV, awV, bts_e, preOk, bldOk, fitsI]; decide
theorem awV_fit : awV.fit := by simp [Ver.fit, awV]; decide
theorem awC_may (b : Bool) : mayC ⟨0, awV, b⟩ = true := by rw [mayC_zero rfl, awV_may, show bts awV.bld = [] from bts_e]; rfl
theorem awS_lt : Rw.lt awS.fr awS.til := ⟨awC_may _, awC_may _, by
  rw [show awS.fr = ⟨0, awV, false⟩ from rfl, show awS.til = ⟨0, awV, true⟩ from rfl, cmpC_in (awC_may _) (awC_may _) rfl rfl, cmpA_lt]
  exact .inr ⟨cmpV_self awV_may, rfl, rfl⟩⟩
theorem awS_fit : awS.fit := ⟨awV_fit, awV_fit⟩
def awL : List SpanL := (rmakeL [awS]).1
theorem aw_all : ∀ s, s ∈ [awS] → Rw.lt s.fr s.til := fun s hs => by rw [List.mem_singleton] at hs; subst hs; exact awS_lt
theorem awL_spec : (rmakeL [awS]).2 = true ∧ Rw.VF awL (Rw.mem [awS]) := Rw.make_spec aw_all
theorem aw_fitL : fitL [awS] := fun i hi => by
  have : i = 0 := by simpa using hi
  subst this; exact awS_fit
theorem awL_good : fitL awL ∧ awL.length ≤ 3 := by
  have := rmakeL_good aw_fitL
  exact this
theorem aw_bef : befC awV = awS.fr := rfl
theorem aw_mem : Rw.mem awL (befC awV) := by
  rw [awL_spec.2.2, aw_bef]
  exact ⟨awS, by simp, Rw.le.rfl' awS_lt.okl, awS_lt⟩
theorem aw_has : hasR awL awV = true := (Rw.has_iff awL_spec.2.1 awV_may).2 aw_mem
theorem aw_not : hasR (rnotL awL) awV = false := by
  rw [Bool.eq_false_iff]
  intro h
  have h2 := Rw.not_spec awL_spec.2.1
  exact ((h2.2 _).1 ((Rw.has_iff h2.1 awV_may).1 h)).2 aw_mem
theorem aw_within : withinR awL (rnotL []) = true := by
  have h2 := Rw.not_spec (l := []) True.intro
  exact (Rw.within_iff awL_spec.2.1 h2.1).2 fun x hx => (h2.2 x).2 ⟨hx.inU, Rw.mem_nil⟩
theorem aw_and : randL awL (rnotL awL) = [] := by
  have h2 := Rw.not_spec awL_spec.2.1
  have h3 := Rw.and_spec awL_spec.2.1 h2.1
  exact (Rw.nil_iff h3.1).2 fun x hx => ((h2.2 x).1 ((h3.2 x).1 hx).2).2 ((h3.2 x).1 hx).1
theorem aw_lens : (rnotL awL).length ≤ 7 ∧ (rnotL []).length ≤ 1 ∧ fitL (rnotL awL) ∧ fitL (rnotL []) := by
  have h1 := rnotL_good awL_good.1
  have h2 := rnotL_good (a := []) (fun i hi => by simp at hi)
  have := awL_good.2
  simp only [List.length_nil] at h2
  exact ⟨by omega, by omega, h1.1, h2.1⟩
/-- a slice of no spans -/
theorem own_nil {w : World} {base : Nat} {v : Value} (h : OwnS w base v []) : ∃ A c, v = .slice A 0 c := by
  rcases h.form with ⟨rfl, _⟩ | ⟨g, c, rfl, _⟩
  · exact ⟨_, _, rfl⟩
  · exact ⟨_, _, rfl⟩
theorem Spans.one {w : World} {g : Nat} {s : SpanL} (h : Box w g s.cells) : Spans w (some ⟨g, 0, none⟩) [s] := by
  refine .inr ⟨g, 0, rfl, h.1, fun i hi j u hj => ?_⟩
  have : i = 0 := by simpa using hi
  subst this
  have := h.2 j u hj
  simpa using this

/-- a row of n spans has come back -/
def RowB (w : World) (l : List SpanL) (n : Nat) (e : Ending) (w' : World) : Prop := ∃ A c, e = .returned (.slice A n c) ∧ Spans w' A l ∧ Below w.heap.size w w'
theorem rowB {w w' : World} {l : List SpanL} {n : Nat} {e : Ending} (hn : l.length = n) (h : RowPost w w.heap.size l e w') : RowB w l n e w' := by
  obtain ⟨v, rfl, h1, h2, _⟩ := h
  obtain ⟨A, c, rfl, h3⟩ := h1.spans
  exact ⟨A, c, by rw [hn], h3, h2⟩
theorem callB {P : Program} {f : FuncId} {args : Array Value} {w : World} {l : List SpanL} {n : Nat} (hn : l.length = n) (h : Calls P f args w (RowPost w w.heap.size l)) : Calls P f args w (RowB w l n) := h.mono fun _ _ h => rowB hn h
end Go.Proofs.YtlmkglgjdmjnkaaGreatDoor
