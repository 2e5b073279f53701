/- A region that draws its order, walked by a plan that may have three operations ready at once; each world behind an operation is named. -/
import Derived.Test.YtlmkglgjdmjnkaaGreatDoorPl
namespace Go.Proofs.YtlmkglgjdmjnkaaGreatDoor
open Go.RowKit Go.Lib
set_option linter.unusedVariables false
set_option linter.unusedSimpArgs false

/-- the order: what comes first, then one that has an effect (or: two, three of them in any order) -/
inductive PlanT where
  | last (seg : List Nat)
  | call (seg : List Nat) (k : Nat) (p : PlanT)
  | two (seg : List Nat) (k l : Nat) (p q : PlanT)
  | three (seg : List Nat) (k l m : Nat) (p q r : PlanT)
def planOkT (md : Region.Mode) (ops : Array Oper) : PlanT → Array Bool → Bool
  | .last seg, l => segThen md ops (fun l => (Region.ready md ops l).isEmpty) seg l
  | .call seg k p, l => segThen md ops (fun l => (Region.ready md ops l == [k]) && planOkT md ops p (l.setIfInBounds k true)) seg l
  | .two seg k m p q, l => segThen md ops (fun l => (Region.ready md ops l == [k, m]) && (planOkT md ops p (l.setIfInBounds k true) && planOkT md ops q (l.setIfInBounds m true))) seg l
  | .three seg k m n p q r, l => segThen md ops (fun l => (Region.ready md ops l == [k, m, n]) && (planOkT md ops p (l.setIfInBounds k true) && (planOkT md ops q (l.setIfInBounds m true) && planOkT md ops r (l.setIfInBounds n true)))) seg l
def planSizeT : PlanT → Nat
  | .last seg => seg.length
  | .call seg _ p => seg.length + (planSizeT p + 1)
  | .two seg _ _ p q => seg.length + (max (planSizeT p) (planSizeT q) + 1)
  | .three seg _ _ _ p q r => seg.length + (max (planSizeT p) (max (planSizeT q) (planSizeT r)) + 1)
section
variable {P : Program} {ops : Array Oper} {S : World → Prop} {Q : Exit → Act → World → Prop} {md : Region.Mode}
/-- one operation, and the walk goes on -/
abbrev stepT (P : Program) (ops : Array Oper) (S : World → Prop) (next : Act → World → Prop) (Q : Exit → Act → World → Prop) (k : Nat) (a : Act) (w : World) : Prop := wpList P ops (planK S next Q) (pickOps ops [k]) a w
def wpPlanT (P : Program) (ops : Array Oper) (S : World → Prop) (Q : Exit → Act → World → Prop) : PlanT → Act → World → Prop
  | .last seg, a, w => wpQuiet P ops S (fun a' => Q .normal a' w) (pickOps ops seg) a
  | .call seg k p, a, w => wpQuiet P ops S (fun a' => stepT P ops S (wpPlanT P ops S Q p) Q k a' w) (pickOps ops seg) a
  | .two seg k l p q, a, w => wpQuiet P ops S (fun a' => stepT P ops S (wpPlanT P ops S Q p) Q k a' w ∧ stepT P ops S (wpPlanT P ops S Q q) Q l a' w) (pickOps ops seg) a
  | .three seg k l m p q r, a, w => wpQuiet P ops S (fun a' => stepT P ops S (wpPlanT P ops S Q p) Q k a' w ∧ stepT P ops S (wpPlanT P ops S Q q) Q l a' w ∧ stepT P ops S (wpPlanT P ops S Q r) Q m a' w) (pickOps ops seg) a
theorem anyH_planT (hs : Region.noSelect ops = true) (hQ : ∀ c a d v w, Q (.panic c) (Act.put a d v) w → Q (.panic c) a w) :
    ∀ (p : PlanT) (l : Array Bool) (a : Act) (w : World) (fuel : Nat), planOkT md ops p l = true → planSizeT p ≤ fuel → S w → wpPlanT P ops S Q p a w → wpAnyH P md ops Q S fuel l a w
  | .last seg, l, a, w, fuel, hp, hf, hc, h => by
    obtain ⟨m, rfl⟩ : ∃ m, fuel = seg.length + m := ⟨fuel - seg.length, by simp only [planSizeT] at hf; omega⟩
    exact anyH_seg hs hQ m hc (fun l' a' hl ha => wpAnyH_done (by simpa using hl) ha m) seg l a hp h
  | .call seg k p, l, a, w, fuel, hp, hf, hc, h => by
    obtain ⟨m, rfl⟩ : ∃ m, fuel = seg.length + (m + 1) := ⟨fuel - seg.length - 1, by simp only [planSizeT] at hf; omega⟩
    refine anyH_seg hs hQ (m + 1) hc (fun l' a' hl ha => ?_) seg l a hp h
    simp only [Bool.and_eq_true, beq_iff_eq] at hl
    refine wpAnyH_all hl.1 (by simp) (fun i hi => ?_)
    obtain rfl : i = k := by simpa using hi
    obtain ⟨o, ho, -⟩ := (mem_ready.1 (show i ∈ Region.ready md ops l' by rw [hl.1]; exact hi)).2
    refine wpOp_mono (fun a2 w2 h2 => ⟨h2.1, ?_⟩) (one_op (Q := Q) ho (by intros; rfl) (by intros; rfl) ha)
    exact anyH_planT hs hQ p _ a2 w2 m hl.2 (by simp only [planSizeT] at hf; omega) h2.1 h2.2
  | .two seg k k2 p q, l, a, w, fuel, hp, hf, hc, h => by
    obtain ⟨m, rfl⟩ : ∃ m, fuel = seg.length + (m + 1) := ⟨fuel - seg.length - 1, by simp only [planSizeT] at hf; omega⟩
    refine anyH_seg hs hQ (m + 1) hc (fun l' a' hl ha => ?_) seg l a hp h
    simp only [Bool.and_eq_true, beq_iff_eq] at hl
    refine wpAnyH_all hl.1 (by simp) (fun i hi => ?_)
    obtain ⟨o, ho, -⟩ := (mem_ready.1 (show i ∈ Region.ready md ops l' by rw [hl.1]; exact hi)).2
    have hi2 : i = k ∨ i = k2 := by simpa using hi
    rcases hi2 with rfl | rfl
    · refine wpOp_mono (fun a2 w2 h2 => ⟨h2.1, ?_⟩) (one_op (Q := Q) ho (by intros; rfl) (by intros; rfl) ha.1)
      exact anyH_planT hs hQ p _ a2 w2 m hl.2.1 (by simp only [planSizeT] at hf; omega) h2.1 h2.2
    · refine wpOp_mono (fun a2 w2 h2 => ⟨h2.1, ?_⟩) (one_op (Q := Q) ho (by intros; rfl) (by intros; rfl) ha.2)
      exact anyH_planT hs hQ q _ a2 w2 m hl.2.2 (by simp only [planSizeT] at hf; omega) h2.1 h2.2
  | .three seg k k2 k3 p q r, l, a, w, fuel, hp, hf, hc, h => by
    obtain ⟨m, rfl⟩ : ∃ m, fuel = seg.length + (m + 1) := ⟨fuel - seg.length - 1, by simp only [planSizeT] at hf; omega⟩
    refine anyH_seg hs hQ (m + 1) hc (fun l' a' hl ha => ?_) seg l a hp h
    simp only [Bool.and_eq_true, beq_iff_eq] at hl
    refine wpAnyH_all hl.1 (by simp) (fun i hi => ?_)
    obtain ⟨o, ho, -⟩ := (mem_ready.1 (show i ∈ Region.ready md ops l' by rw [hl.1]; exact hi)).2
    have hi2 : i = k ∨ i = k2 ∨ i = k3 := by simpa using hi
    rcases hi2 with rfl | rfl | rfl
    · refine wpOp_mono (fun a2 w2 h2 => ⟨h2.1, ?_⟩) (one_op (Q := Q) ho (by intros; rfl) (by intros; rfl) ha.1)
      exact anyH_planT hs hQ p _ a2 w2 m hl.2.1 (by simp only [planSizeT] at hf; omega) h2.1 h2.2
    · refine wpOp_mono (fun a2 w2 h2 => ⟨h2.1, ?_⟩) (one_op (Q := Q) ho (by intros; rfl) (by intros; rfl) ha.2.1)
      exact anyH_planT hs hQ q _ a2 w2 m hl.2.2.1 (by simp only [planSizeT] at hf; omega) h2.1 h2.2
    · refine wpOp_mono (fun a2 w2 h2 => ⟨h2.1, ?_⟩) (one_op (Q := Q) ho (by intros; rfl) (by intros; rfl) ha.2.2)
      exact anyH_planT hs hQ r _ a2 w2 m hl.2.2.2 (by simp only [planSizeT] at hf; omega) h2.1 h2.2
end
/-- the class: worlds of which S holds -/
abbrev ClsT (S : World → Prop) : World → Prop := fun u => ∃ z : SW S, u = z.v
section
variable {P : Program} {ops : Array Oper} {S : World → Prop} {Q : Exit → Act → World → Prop}
theorem wp_planT (S : World → Prop) (p : PlanT) {id : Nat} {a : Act} {w : World} (h0 : S w.drew) (hm : P.follows .mixedOrders = true)
    (hQ : ∀ c a d v w, Q (.panic c) (Act.put a d v) w → Q (.panic c) a w) (hP : (Region.noSelect ops && planOkT .any ops p (Array.replicate ops.size false) && decide (planSizeT p ≤ ops.size)) = true)
    (h : ∀ u, u = w.drew → wpPlanT P ops (ClsT S) Q p a u) : (Code.region id ops true).wp P Q a w := by
  simp only [Bool.and_eq_true, decide_eq_true_eq] at hP
  exact wp_region_held (S := ClsT S) hm (anyH_planT hP.1.1 hQ p _ a _ ops.size hP.1.2 hP.2 ⟨⟨_, h0⟩, rfl⟩ (h _ rfl))
theorem planT_last {seg : List Nat} {w : World} {a : Act} (h : wpQuiet P ops (ClsT S) (fun a' => Q .normal a' w) (pickOps ops seg) a) : wpPlanT P ops (ClsT S) Q (.last seg) a w := h
theorem planT_call {seg : List Nat} {k : Nat} {p : PlanT} {w : World} {a : Act} (h : wpQuiet P ops (ClsT S) (fun a' => wpList P ops (planK (ClsT S) (wpPlanT P ops (ClsT S) Q p) Q) (pickOps ops [k]) a' w) (pickOps ops seg) a) : wpPlanT P ops (ClsT S) Q (.call seg k p) a w := h
theorem planT_two {seg : List Nat} {k l : Nat} {p q : PlanT} {w : World} {a : Act}
    (h : wpQuiet P ops (ClsT S) (fun a' => wpList P ops (planK (ClsT S) (wpPlanT P ops (ClsT S) Q p) Q) (pickOps ops [k]) a' w ∧ wpList P ops (planK (ClsT S) (wpPlanT P ops (ClsT S) Q q) Q) (pickOps ops [l]) a' w) (pickOps ops seg) a) : wpPlanT P ops (ClsT S) Q (.two seg k l p q) a w := h
theorem planT_three {seg : List Nat} {k l m : Nat} {p q r : PlanT} {w : World} {a : Act}
    (h : wpQuiet P ops (ClsT S) (fun a' => wpList P ops (planK (ClsT S) (wpPlanT P ops (ClsT S) Q p) Q) (pickOps ops [k]) a' w ∧ wpList P ops (planK (ClsT S) (wpPlanT P ops (ClsT S) Q q) Q) (pickOps ops [l]) a' w ∧ wpList P ops (planK (ClsT S) (wpPlanT P ops (ClsT S) Q r) Q) (pickOps ops [m]) a' w) (pickOps ops seg) a) : wpPlanT P ops (ClsT S) Q (.three seg k l m p q r) a w := h
/-- behind an operation: its world gets a name -/
theorem planT_on {p : PlanT} {w : World} {a : Act} (h : ∀ u, u = w → S u ∧ wpPlanT P ops (ClsT S) Q p a u) : planK (ClsT S) (wpPlanT P ops (ClsT S) Q p) Q .normal a w :=
  ⟨⟨⟨w, (h w rfl).1⟩, rfl⟩, (h w rfl).2⟩
end
end Go.Proofs.YtlmkglgjdmjnkaaGreatDoor
