/- Parts 9 of the proofs. -/
import Derived.Test.YtlmkglgjdmjnkaaGreatDoorQ8
import Derived.Test.YtlmkglgjdmjnkaaGreatDoorQ1
import Derived.Test.YtlmkglgjdmjnkaaGreatDoorQ2
import Derived.Test.YtlmkglgjdmjnkaaGreatDoorQ6
import Derived.ProofKit
import Derived.OpenShut
import Derived.ShutString
import Derived.ChangeOld
import Derived.Below
import Derived.Deep.Slices
import Derived.Deep.Fields
import Derived.ChangeSame
import Derived.Lib.SmallJoins
namespace Go.Proofs.YtlmkglgjdmjnkaaGreatDoor
open Go.RowKit Go.Lib
set_option linter.unusedVariables false
set_option linter.unusedSimpArgs false
def fitAll (l : List SpanL) : Prop := ∀ s, s ∈ l → s.fit
theorem fitAll.addIf {o : List SpanL} {f t : CutL} (h : fitAll o) (hf : f.fit) (ht : t.fit) : fitAll (Rw.addIf o f t) := Rw.addIf_low (Q := SpanL.fit) h ⟨hf, ht⟩
end Go.Proofs.YtlmkglgjdmjnkaaGreatDoor
namespace Go.Proofs.YtlmkglgjdmjnkaaGreatDoor
open Go.RowKit Go.Lib
set_option linter.unusedVariables false
set_option linter.unusedSimpArgs false
theorem own_keep {w w' : World} {base size n : Nat} {e : TypeId} {v : Value} {xs : List Value} (h : w.ownsRow base e size v n xs) (hb : ∀ k, v.ownBlock = some k → w'.heap[k]? = w.heap[k]?) : w'.ownsRow base e size v n xs := by
  obtain ⟨h1, h2⟩ := h
  refine ⟨h1, ?_⟩
  rcases h2 with h2 | ⟨g, cap, cur, hv, hg, hh, r⟩
  · exact .inl h2
  · refine .inr ⟨g, cap, cur, hv, hg, ?_, r⟩
    rw [hb g (by rw [hv]; rfl)]; exact hh
end Go.Proofs.YtlmkglgjdmjnkaaGreatDoor
namespace Go.Proofs.YtlmkglgjdmjnkaaGreatDoor
open Go.RowKit Go.Lib
set_option linter.unusedVariables false
set_option linter.unusedSimpArgs false
def intOf : Value → Int | .int _ q => q | _ => 0
end Go.Proofs.YtlmkglgjdmjnkaaGreatDoor
namespace Go.Proofs.YtlmkglgjdmjnkaaGreatDoor
open Go.RowKit Go.Lib
set_option linter.unusedVariables false
set_option linter.unusedSimpArgs false
end Go.Proofs.YtlmkglgjdmjnkaaGreatDoor
namespace Go.Proofs.YtlmkglgjdmjnkaaGreatDoor
open Go.RowKit Go.Lib
set_option linter.unusedVariables false
set_option linter.unusedSimpArgs false
theorem ror_any (base : Nat) (A B : Option Addr) (cap cap2 : Nat) (a b : List SpanL) (w : World) (ha : Spans w A a) (hb : Spans w B b) (hfa : fitL a) (hfb : fitL b) (hln : a.length + b.length ≤ 40000) (hbase : base ≤ w.heap.size) : Calls Tryz.prog 138 #[.slice A a.length cap, .slice B b.length cap2] w (RowPost w base (rorL a b)) := by
  cases hmay : (mayR a && mayR b)
  · rw [show rorL a b = [] by rw [rorL, hmay]; rfl]; exact rror_no base A B cap cap2 a b w ha hb hfa hfb hln hbase hmay
  · rw [show rorL a b = (rmakeL (a ++ b)).1 by rw [rorL, hmay]; rfl]
    rw [Bool.and_eq_true] at hmay; exact ror_yes base A B cap cap2 a b w ha hb hfa hfb hln hbase hmay
theorem growAll_len {l : List SpanL} (p : CutL → CutL → Bool) (hf : fitL l) : (growAll (cutsL l) p).length ≤ 1 + 2 * l.length := by
  have h1 := growTo_len (cutsL l) p ((cutsL l).length - 1)
  have h2 := (cutsL_good hf).2
  rw [growAll]; omega
theorem growAll_fit {l : List SpanL} (p : CutL → CutL → Bool) (hf : fitL l) : fitAll (growAll (cutsL l) p) := by
  have h2 := cutsL_good hf
  exact growTo_fit h2.1 _ (by omega)
theorem fitAll.toL {l : List SpanL} (h : fitAll l) : fitL l := fun i hi => by rw [nth_lt hi]; exact h _ (List.getElem_mem _)
theorem rmakeL_good {a : List SpanL} (ha : fitL a) : fitL (rmakeL a).1 ∧ (rmakeL a).1.length ≤ 1 + 2 * a.length := by
  rw [rmakeL]
  split
  · exact ⟨(growAll_fit _ ha).toL, growAll_len _ ha⟩
  · exact ⟨fun i hi => by simp at hi, by simp⟩
theorem rorL_good {a b : List SpanL} (ha : fitL a) (hb : fitL b) : fitL (rorL a b) ∧ (rorL a b).length ≤ 1 + 2 * (a.length + b.length) := by
  rw [rorL]
  split
  · have := rmakeL_good (fitL_app ha hb)
    rw [List.length_append] at this
    exact this
  · exact ⟨fun i hi => by simp at hi, by simp⟩
theorem rnotL_good {a : List SpanL} (ha : fitL a) : fitL (rnotL a) ∧ (rnotL a).length ≤ 1 + 2 * a.length := by
  rw [rnotL]
  split
  · exact ⟨(growAll_fit _ ha).toL, growAll_len _ ha⟩
  · exact ⟨fun i hi => by simp at hi, by simp⟩
end Go.Proofs.YtlmkglgjdmjnkaaGreatDoor
namespace Go.Proofs.YtlmkglgjdmjnkaaGreatDoor
open Go.RowKit Go.Lib
set_option linter.unusedVariables false
set_option linter.unusedSimpArgs false
theorem Spans.one {w : World} {g : Nat} {s : SpanL} (h : Box w g s.cells) : Spans w (some ⟨g, 0, none⟩) [s] := by
  refine .inr ⟨g, 0, rfl, h.1, fun i hi j u hj => ?_⟩
  have : i = 0 := by simpa using hi
  subst this
  have := h.2 j u hj
  simpa using this
end Go.Proofs.YtlmkglgjdmjnkaaGreatDoor
namespace Go.Proofs.YtlmkglgjdmjnkaaGreatDoor
open Go.RowKit Go.Lib
set_option linter.unusedVariables false
set_option linter.unusedSimpArgs false
theorem wp_name {P : Program} {c : Code} {Q : Exit → Act → World → Prop} {a : Act} {w : World} (h : ∀ w', w' = w → c.wp P Q a w') : c.wp P Q a w := h w rfl
end Go.Proofs.YtlmkglgjdmjnkaaGreatDoor
namespace Go.Proofs.YtlmkglgjdmjnkaaGreatDoor
open Go.RowKit Go.Lib
set_option linter.unusedVariables false
set_option linter.unusedSimpArgs false
def zeroC : CutL := ⟨0, zeroV, false⟩
end Go.Proofs.YtlmkglgjdmjnkaaGreatDoor
namespace Go.Proofs.YtlmkglgjdmjnkaaGreatDoor
open Go.RowKit Go.Lib
set_option linter.unusedVariables false
set_option linter.unusedSimpArgs false
end Go.Proofs.YtlmkglgjdmjnkaaGreatDoor
namespace Go.Proofs.YtlmkglgjdmjnkaaGreatDoor
open Go.ChangeShapes Go.WideShapes Go.ChangeAt Go.RowKit
open Go.ChangeMaps (open_string shut_string)
set_option linter.unusedVariables false
set_option linter.unusedSimpArgs false
theorem ownN : ownKnob Tryz.prog.godebug = none := by kernel_rfl
theorem laidN : laidOutB Tryz.prog = true := by kernel_rfl
theorem intsAt_of {W : World} {x : Addr} {zs : List Int} {len : Nat} (hl : len ≤ zs.length) (hcell : ∀ i, i < zs.length → W.cell? (x.add i) = some (.int .i64 (zs.getD i 0))) : IntsAt W (some x) (zs.take len) ∧ (zs.take len).length = len := by
  have hlen : (zs.take len).length = len := by rw [List.length_take]; omega
  refine ⟨?_, hlen⟩
  rcases Nat.eq_zero_or_pos len with rfl | hpos
  · exact .inl (by simp)
  · obtain ⟨b, off, spot⟩ := x
    have hc := hcell 0 (by omega)
    have hspot : spot = none := by simpa [Addr.add] using World.cell?_spot hc
    subst hspot
    refine .inr ⟨b, off, rfl, World.block_lt_of_cell? W _ (by simpa [Addr.add] using hc), fun i hi => ?_⟩
    have := hcell i (by omega)
    have e : (zs.take len).getD i 0 = zs.getD i 0 := by
      rw [hlen] at hi
      simp [List.getD_eq_getElem?_getD, List.getElem?_take_of_lt hi]
    rw [e, ← addr_add0]; exact this
section
variable {H : Type} {enc : TypeId × Value → H} {W : World} {base : Nat} {held : Bool}
theorem ints_read {a : Option Addr} {len cap : Nat} {d : DataW H} {p : List MemPlace} (h : DataW.Trod enc Tryz.prog W base (fun _ => true) held 22 (.slice a len cap) d p) : ∃ z : List Int, z.length = len ∧ IntsAt W a z ∧ z.length ≤ 9223372036854775807 := by
  obtain ⟨fuel, hf⟩ := h
  rcases open_ints Tryz.underlying22 Tryz.underlying3 (by kernel_rfl) hf with ⟨hcs, _⟩ | ⟨x, l, c, zs, hcs, _, hl, hm, hz, _, hcell, _⟩
  · simp [Value.cells] at hcs
    obtain ⟨rfl, rfl, rfl⟩ := hcs
    exact ⟨[], rfl, .inl rfl, by simp⟩
  · simp [Value.cells] at hcs
    obtain ⟨rfl, rfl, rfl⟩ := hcs
    have hz' : zs.length = cap := by simpa using hz
    obtain ⟨h1, h2⟩ := intsAt_of (x := x) (len := len) (by omega) hcell
    unfold maxLen at hm
    exact ⟨_, h2, h1, by omega⟩
end
end Go.Proofs.YtlmkglgjdmjnkaaGreatDoor
namespace Go.Proofs.YtlmkglgjdmjnkaaGreatDoor
open Go.ChangeShapes Go.WideShapes Go.ChangeAt Go.RowKit Go.Deep Go.Joins
open Go.ChangeMaps (open_string shut_string)
set_option linter.unusedVariables false
set_option linter.unusedSimpArgs false
section
variable {H : Type} {enc : TypeId × Value → H} {W : World} {base n : Nat} {spare : Nat → Bool} {held : Bool} {cs : List Value} {x : DataW H × List MemPlace}
end
section
variable {H : Type} {enc : TypeId × Value → H} {W : World} {base : Nat} {held : Bool}
end
end Go.Proofs.YtlmkglgjdmjnkaaGreatDoor
