/- Parts 5 of the proofs. -/
import Derived.Test.YtlmkglgjdmjnkaaGreatDoorQ4
import Derived.OrdersHeld
import Derived.Deep.Quiet
namespace Go.Proofs.YtlmkglgjdmjnkaaGreatDoor
open Go.RowKit Go.Lib
set_option linter.unusedVariables false
set_option linter.unusedSimpArgs false
def plainOp (o : Oper) : Bool := match o.op with
  | .move _ | .assign _ | .pick _ _ _ | .build _ _ | .load _ _ | .binOp _ _ _ _ _ | .unOp _ _ _ | .convert _ _ _ | .fieldAddr _ _ _ | .field _ _ _ | .indexAddr _ _ _ | .index _ _ _ | .slice _ _ _ _ _ | .extract _ _ | .makeInterface _ _ | .nilCheck _ => true
  | .call c => match c.callee with
    | .builtin .len => true
    | _ => false
  | _ => false
theorem val_run {P : Program} {w w' : World} {n : Next} (s : Sem Value) (h : (do pure (Next.value (← s)) : Sem Next).run P w = .ok n w') : ∃ x, n = .value x := by
  simp only [Sem.run_bind] at h
  cases hs : s.run P w with
  | ok x w1 =>
    rw [hs] at h
    simp only [Result.andThen_ok, Sem.run_pure] at h
    injection h with h1 h2
    exact ⟨x, h1.symm⟩
  | halt x w1 =>
    rw [hs] at h
    simp at h
theorem pick_run {P : Program} {w w' : World} {n : Next} (s : Sem Bool) (f : Bool → Value) (h : (do pure (Next.value (f (← s))) : Sem Next).run P w = .ok n w') : ∃ x, n = .value x := by
  simp only [Sem.run_bind] at h
  cases hs : s.run P w with
  | ok x w1 =>
    rw [hs] at h
    simp only [Result.andThen_ok, Sem.run_pure] at h
    injection h with h1 h2
    exact ⟨f x, h1.symm⟩
  | halt x w1 =>
    rw [hs] at h
    simp at h
theorem nil_run {P : Program} {w w' : World} {n : Next} (h : (runtimePanic .nilDeref : Sem Next).run P w = .ok n w') : False := by
  simp [runtimePanic] at h
theorem nil_two {P : Program} {w' : World} {n : Next} {v : Value} {r : Result (Option Bool)} {u : Unsupported} (h : (r.andThen fun a w' => Sem.run P (if (a != some false) = true then (unsupported u >>= fun _ : PUnit => pure (Next.value v)) else pure (Next.value v)) w') = .ok n w') : ∃ x, n = .value x := by
  cases r with
  | halt x w1 => simp at h
  | ok x w1 =>
    simp only [Result.andThen_ok] at h
    split at h
    · simp at h
    · simp only [Sem.run_pure] at h
      injection h with h1 h2
      exact ⟨_, h1.symm⟩
theorem nilcheck_run {P : Program} {o : Oper} {x : Operand} {ρ : Operand → Value} {w w' : World} {n : Next} (hp : o.op = .nilCheck x) (h : (execOp ρ o).run P w = .ok n w') : ∃ x, n = .value x := by
  unfold execOp at h
  simp only [hp] at h
  split at h
  · exact (nil_run h).elim
  · exact (nil_run h).elim
  · exact (nil_run h).elim
  · split at h
    · exact (nil_run h).elim
    · simp only [Sem.run_bind, run_program, Result.andThen_ok] at h
      exact nil_two h
    · simp only [Sem.run_pure] at h; injection h with h1 h2; exact ⟨_, h1.symm⟩
  · simp only [Sem.run_pure] at h; injection h with h1 h2; exact ⟨_, h1.symm⟩
theorem plain_run {P : Program} {o : Oper} {ρ : Operand → Value} {w w' : World} {n : Next} (hp : plainOp o = true) (h : (execOp ρ o).run P w = .ok n w') : ∃ x, n = .value x := by
  obtain ⟨dst, op, type, pos, after, guard⟩ := o
  cases op <;> first
    | (exfalso; simp only [plainOp, Bool.false_eq_true] at hp; done)
    | (simp only [execOp] at h; exact val_run _ h)
    | (simp only [execOp, Sem.run_pure] at h; injection h with h1 h2; exact ⟨_, h1.symm⟩)
    | (rename_i c x y; simp only [execOp] at h; exact pick_run (asBool (ρ c)) (fun t => if t = true then ρ x else ρ y) h)
    | exact nilcheck_run rfl h
    | skip
  rename_i c
  obtain ⟨callee, args, ats⟩ := c
  cases callee <;> first
    | (exfalso; simp only [plainOp, Bool.false_eq_true] at hp; done)
    | skip
  rename_i b
  cases b <;> first
    | (exfalso; simp only [plainOp, Bool.false_eq_true] at hp; done)
    | skip
  simp only [execOp, resolve, invoke, builtin, Sem.run_bind, Sem.run_pure, Result.andThen_ok] at h
  refine val_run (P := P) (w := w) (w' := w') (Builtin.len_ ats type (args.map ρ)) ?_
  simp only [Sem.run_bind, Sem.run_pure]
  exact h
theorem plain_value {P : Program} {o : Oper} {a : Act} {C : World → Prop} {w : World} {v : Value} (hp : plainOp o = true) (h : Oper.quietAt P o a C w v) : (execOp a.eval o).run P w = .ok (.value v) w := by
  unfold Oper.quietAt at h
  cases hr : (execOp a.eval o).run P w with
  | halt x w' => rw [hr] at h; exact h.elim
  | ok n w' =>
    obtain ⟨x, rfl⟩ := plain_run hp hr
    rw [hr] at h
    obtain ⟨rfl, rfl⟩ := h
    rfl
inductive Plan where
  | last (seg : List Nat)
  | call (seg : List Nat) (k : Nat) (next : Plan)
  | two (seg : List Nat) (k l : Nat) (kl lk : Plan)
def noOp : Oper := { dst := none, op := .move (.tmp 0), type := 0, pos := "", after := #[], guard := none }
def pickOps (ops : Array Oper) (l : List Nat) : List Oper := l.map fun i => (ops[i]?).getD noOp
def segThen (md : Region.Mode) (ops : Array Oper) (f : Array Bool → Bool) : List Nat → Array Bool → Bool
  | [], l => f l
  | i :: is, l => (Region.ready md ops l).contains i && (Region.free md ops l i && (((ops[i]?).map plainOp).getD false && segThen md ops f is (l.setIfInBounds i true)))
def planOk (md : Region.Mode) (ops : Array Oper) : Plan → Array Bool → Bool
  | .last seg, l => segThen md ops (fun l => (Region.ready md ops l).isEmpty) seg l
  | .call seg k next, l => segThen md ops (fun l => (Region.ready md ops l == [k]) && planOk md ops next (l.setIfInBounds k true)) seg l
  | .two seg k m p q, l => segThen md ops (fun l => (Region.ready md ops l == [k, m]) && (planOk md ops p (l.setIfInBounds k true) && planOk md ops q (l.setIfInBounds m true))) seg l
def planSize : Plan → Nat
  | .last seg => seg.length
  | .call seg _ next => seg.length + (planSize next + 1)
  | .two seg _ _ p q => seg.length + (max (planSize p) (planSize q) + 1)
section
variable {P : Program} {ops : Array Oper} {Q : Exit → Act → World → Prop} {md : Region.Mode}
def planK (S : World → Prop) (next : Act → World → Prop) (Q : Exit → Act → World → Prop) : Exit → Act → World → Prop
  | .normal, a, w => S w ∧ next a w
  | e, a, w => Q e a w
def wpPlan (P : Program) (ops : Array Oper) (C : World → World → Prop) (Q : Exit → Act → World → Prop) : Plan → World → Act → World → Prop
  | .last seg, c, a, w => wpQuiet P ops (C c) (fun a' => Q .normal a' w) (pickOps ops seg) a
  | .call seg k next, c, a, w => wpQuiet P ops (C c) (fun a' => wpList P ops (planK (C c) (fun a'' w' => wpPlan P ops C Q next w' a'' w') Q) (pickOps ops [k]) a' w) (pickOps ops seg) a
  | .two seg k l p q, c, a, w => wpQuiet P ops (C c) (fun a' => wpList P ops (planK (C c) (fun a'' w' => wpPlan P ops C Q p w' a'' w') Q) (pickOps ops [k]) a' w ∧
      wpList P ops (planK (C c) (fun a'' w' => wpPlan P ops C Q q w' a'' w') Q) (pickOps ops [l]) a' w) (pickOps ops seg) a
theorem anyH_mono {S S' : World → Prop} (hS : ∀ w, S' w → S w) : ∀ (fuel : Nat) (l : Array Bool) (a : Act) (w : World), wpAnyH P md ops Q S' fuel l a w → wpAnyH P md ops Q S fuel l a w
  | 0, _, _, _, h => h
  | fuel + 1, _, _, _, h => ⟨h.1, fun i hi => wpOp_mono (fun a' w' h' => ⟨hS _ h'.1, anyH_mono hS fuel _ a' w' h'.2⟩) (h.2 i hi)⟩
theorem anyH_seg {S : World → Prop} {f : Array Bool → Bool} {T : Act → Prop} (hs : Region.noSelect ops = true) (hQ : ∀ c a d v w, Q (.panic c) (Act.put a d v) w → Q (.panic c) a w) (fuel : Nat) {w : World} (hS : S w)
    (hT : ∀ l a, f l = true → T a → wpAnyH P md ops Q S fuel l a w) : ∀ (seg : List Nat) (l : Array Bool) (a : Act), segThen md ops f seg l = true → wpQuiet P ops S T (pickOps ops seg) a → wpAnyH P md ops Q S (seg.length + fuel) l a w
  | [], l, a, hf, h => by
    simp only [List.length_nil, Nat.zero_add]
    exact hT l a hf h
  | i :: is, l, a, hf, h => by
    simp only [segThen, Bool.and_eq_true] at hf
    obtain ⟨hr, hfr, hp, hrest⟩ := hf
    obtain ⟨o, ho⟩ : ∃ o, ops[i]? = some o := by
      have := (mem_ready.1 (by simpa using hr : i ∈ Region.ready md ops l)).2
      exact ⟨this.choose, this.choose_spec.1⟩
    rw [ho] at hp
    have e : pickOps ops (i :: is) = o :: pickOps ops is := by simp [pickOps, ho]
    rw [e] at h
    have hlen : (i :: is).length + fuel = (is.length + fuel) + 1 := by simp only [List.length_cons]; omega
    rw [hlen]
    unfold wpQuiet at h
    by_cases hw : Region.wanted o (yielded ops a.tmps) = true
    · rw [if_pos hw] at h
      obtain ⟨v, hv, hk⟩ := h
      exact wpAnyH_take ho hs hfr hr (fun c a w => hQ c a _ _ w) (.inl ⟨hw, fun w' hw' => plain_value hp (hv w' hw')⟩) hS (anyH_seg hs hQ fuel hS hT is _ _ hrest hk)
    · rw [if_neg hw] at h
      exact wpAnyH_take ho hs hfr hr (fun c a w => hQ c a _ _ w) (.inr ⟨by simpa using hw, rfl⟩) hS (anyH_seg hs hQ fuel hS hT is _ _ hrest h)
theorem one_op {K : Exit → Act → World → Prop} {k : Nat} {a : Act} {w : World} {o : Oper} (hk : ops[k]? = some o) (hc : ∀ c a w, K (.panic c) a w = Q (.panic c) a w) (ho : ∀ a w, K .outgrown a w = Q .outgrown a w) (h : wpList P ops K (pickOps ops [k]) a w) : wpOp P ops Q k (K .normal) a w := by
  unfold wpOp
  simp only [hk]
  simp only [pickOps, List.map_cons, hk, List.map_nil, Option.getD_some] at h
  unfold wpList at h
  by_cases hw : Region.wanted o (yielded ops a.tmps) = true
  · rw [if_pos hw] at h ⊢
    rcases h with h | ⟨h1, h2⟩
    · left
      unfold Oper.wp at *
      generalize (execOp a.eval o).run P w = r at *
      cases r with
      | ok n w' =>
        cases n <;> simp only [Oper.upon] at h ⊢ <;> first
          | exact h
          | (refine Calls.mono h fun e w'' he => ?_
             cases e with
             | returned v => exact he
             | panicked c => simp only [hc] at he; exact he
             | outgrown =>
               obtain ⟨a1, w1, h1⟩ := he
               rw [ho] at h1
               exact ⟨a1, w1, h1⟩)
          | exact Rows.mono h fun _ _ he => he
      | halt x w' =>
        cases x <;> simp only [Oper.upon] at h ⊢ <;> first
          | exact h
          | (rw [hc] at h; exact h)
    · right
      obtain ⟨a1, w1, h2⟩ := h2
      rw [ho] at h2
      exact ⟨h1, a1, w1, h2⟩
  · rw [if_neg hw] at h ⊢
    exact h
theorem anyH_plan {C : World → World → Prop} (ht : ∀ c w u, C c w → C w u → C c u) (hrf : ∀ c w, C c w → C w w) (hs : Region.noSelect ops = true) (hQ : ∀ c a d v w, Q (.panic c) (Act.put a d v) w → Q (.panic c) a w) :
    ∀ (p : Plan) (c : World) (l : Array Bool) (a : Act) (w : World) (fuel : Nat), planOk md ops p l = true → planSize p ≤ fuel → C c w → wpPlan P ops C Q p c a w → wpAnyH P md ops Q (C c) fuel l a w
  | .last seg, c, l, a, w, fuel, hp, hf, hc, h => by
    obtain ⟨m, rfl⟩ : ∃ m, fuel = seg.length + m := ⟨fuel - seg.length, by simp only [planSize] at hf; omega⟩
    exact anyH_seg hs hQ m hc (fun l' a' hl ha => wpAnyH_done (by simpa using hl) ha m) seg l a hp h
  | .call seg k next, c, l, a, w, fuel, hp, hf, hc, h => by
    obtain ⟨m, rfl⟩ : ∃ m, fuel = seg.length + (m + 1) := ⟨fuel - seg.length - 1, by simp only [planSize] at hf; omega⟩
    refine anyH_seg hs hQ (m + 1) hc (fun l' a' hl ha => ?_) seg l a hp h
    simp only [Bool.and_eq_true, beq_iff_eq] at hl
    refine wpAnyH_all hl.1 (by simp) (fun i hi => ?_)
    obtain rfl : i = k := by simpa using hi
    obtain ⟨o, ho, -⟩ := (mem_ready.1 (show i ∈ Region.ready md ops l' by rw [hl.1]; exact hi)).2
    refine wpOp_mono (fun a2 w2 h2 => ⟨h2.1, ?_⟩) (one_op (Q := Q) ho (by intros; rfl) (by intros; rfl) ha)
    exact anyH_mono (fun u hu => ht c w2 u h2.1 hu) m _ _ _ (anyH_plan ht hrf hs hQ next w2 _ a2 w2 m hl.2 (by simp only [planSize] at hf; omega) (hrf _ _ h2.1) h2.2)
  | .two seg k k2 p q, c, l, a, w, fuel, hp, hf, hc, h => by
    obtain ⟨m, rfl⟩ : ∃ m, fuel = seg.length + (m + 1) := ⟨fuel - seg.length - 1, by simp only [planSize] at hf; omega⟩
    refine anyH_seg hs hQ (m + 1) hc (fun l' a' hl ha => ?_) seg l a hp h
    simp only [Bool.and_eq_true, beq_iff_eq] at hl
    refine wpAnyH_all hl.1 (by simp) (fun i hi => ?_)
    obtain ⟨o, ho, -⟩ := (mem_ready.1 (show i ∈ Region.ready md ops l' by rw [hl.1]; exact hi)).2
    have hi2 : i = k ∨ i = k2 := by simpa using hi
    rcases hi2 with rfl | rfl
    · refine wpOp_mono (fun a2 w2 h2 => ⟨h2.1, ?_⟩) (one_op (Q := Q) ho (by intros; rfl) (by intros; rfl) ha.1)
      exact anyH_mono (fun u hu => ht c w2 u h2.1 hu) m _ _ _ (anyH_plan ht hrf hs hQ p w2 _ a2 w2 m hl.2.1 (by simp only [planSize] at hf; omega) (hrf _ _ h2.1) h2.2)
    · refine wpOp_mono (fun a2 w2 h2 => ⟨h2.1, ?_⟩) (one_op (Q := Q) ho (by intros; rfl) (by intros; rfl) ha.2)
      exact anyH_mono (fun u hu => ht c w2 u h2.1 hu) m _ _ _ (anyH_plan ht hrf hs hQ q w2 _ a2 w2 m hl.2.2 (by simp only [planSize] at hf; omega) (hrf _ _ h2.1) h2.2)
theorem wp_region_plan (C : World → World → Prop) (ht : ∀ c w u, C c w → C w u → C c u) (hrf : ∀ c w, C c w → C w w) (p : Plan) {id : Nat} {a : Act} {w : World} (h0 : C w w.drew) (hm : P.follows .mixedOrders = true)
    (hQ : ∀ c a d v w, Q (.panic c) (Act.put a d v) w → Q (.panic c) a w) (hP : (Region.noSelect ops && planOk .any ops p (Array.replicate ops.size false) && decide (planSize p ≤ ops.size)) = true)
    (h : wpPlan P ops C Q p w a w.drew) : (Code.region id ops true).wp P Q a w := by
  simp only [Bool.and_eq_true, decide_eq_true_eq] at hP
  exact wp_region_held (S := C w) hm (anyH_plan ht hrf hP.1.1 hQ p w _ a _ ops.size hP.1.2 hP.2 h0 h)
end
def Grown (c u : World) : Prop := ∃ z : BW c, u = z.v
theorem Grown.out {c u : World} (h : Grown c u) : Below c.heap.size c u := by
  obtain ⟨z, rfl⟩ := h
  exact z.ok
theorem plan_call {P : Program} {ops : Array Oper} {C : World → World → Prop} {Q : Exit → Act → World → Prop} {seg : List Nat} {k : Nat} {next : Plan} {c w : World} {a : Act}
    (h : wpQuiet P ops (C c) (fun a' => wpList P ops (planK (C c) (fun a'' w' => wpPlan P ops C Q next w' a'' w') Q) (pickOps ops [k]) a' w) (pickOps ops seg) a) : wpPlan P ops C Q (.call seg k next) c a w := h
theorem plan_two {P : Program} {ops : Array Oper} {C : World → World → Prop} {Q : Exit → Act → World → Prop} {seg : List Nat} {k l : Nat} {p q : Plan} {c w : World} {a : Act}
    (h : wpQuiet P ops (C c) (fun a' => wpList P ops (planK (C c) (fun a'' w' => wpPlan P ops C Q p w' a'' w') Q) (pickOps ops [k]) a' w ∧ wpList P ops (planK (C c) (fun a'' w' => wpPlan P ops C Q q w' a'' w') Q) (pickOps ops [l]) a' w) (pickOps ops seg) a) :
    wpPlan P ops C Q (.two seg k l p q) c a w := h
theorem plan_last {P : Program} {ops : Array Oper} {C : World → World → Prop} {Q : Exit → Act → World → Prop} {seg : List Nat} {c w : World} {a : Act}
    (h : wpQuiet P ops (C c) (fun a' => Q .normal a' w) (pickOps ops seg) a) : wpPlan P ops C Q (.last seg) c a w := h
structure SW (S : World → Prop) where
  v : World
  ok : S v
theorem wp_planS {P : Program} {ops : Array Oper} {Q : Exit → Act → World → Prop} (S : World → Prop) (p : Plan) {id : Nat} {a : Act} {w : World} (h0 : S w.drew) (hm : P.follows .mixedOrders = true)
    (hQ : ∀ c a d v w, Q (.panic c) (Act.put a d v) w → Q (.panic c) a w) (hP : (Region.noSelect ops && planOk .any ops p (Array.replicate ops.size false) && decide (planSize p ≤ ops.size)) = true)
    (h : wpPlan P ops (fun _ u => ∃ z : SW S, u = z.v) Q p w a w.drew) : (Code.region id ops true).wp P Q a w :=
  wp_region_plan (fun _ u => ∃ z : SW S, u = z.v) (fun _ _ _ _ k => k) (fun _ _ h => h) p ⟨⟨_, h0⟩, rfl⟩ hm hQ hP h
theorem plan_onS {P : Program} {ops : Array Oper} {Q : Exit → Act → World → Prop} {S : World → Prop} {p : Plan} {w : World} {a : Act} (h1 : S w) (h2 : wpPlan P ops (fun _ u => ∃ z : SW S, u = z.v) Q p w a w) :
    planK (fun u => ∃ z : SW S, u = z.v) (fun a'' w' => wpPlan P ops (fun _ u => ∃ z : SW S, u = z.v) Q p w' a'' w') Q .normal a w := ⟨⟨⟨w, h1⟩, rfl⟩, h2⟩
end Go.Proofs.YtlmkglgjdmjnkaaGreatDoor
