/- A region that draws its order, by facts about the value of each operation. -/
import Derived.Test.YtlmkglgjdmjnkaaGreatDoorP2
import Derived.RegionTactic
namespace Go.Proofs.YtlmkglgjdmjnkaaGreatDoor
open Go.RowKit Go.Lib
set_option linter.unusedVariables false
set_option linter.unusedSimpArgs false

def upd (T : Nat → Value) (j : Nat) (v : Value) : Nat → Value := fun m => if m = j then v else T m
section
variable {P : Program} {ops : Array Oper} {Q : Exit → Act → World → Prop}
/-- operation i waits for operation j -/
def waits (ops : Array Oper) (i j : Nat) : Bool := match ops[i]? with
  | some o => o.after.any fun e => Region.binds .any e && (e.on == j)
  | none => false
theorem waits_spec {i j : Nat} {o : Oper} (ho : ops[i]? = some o) (h : waits ops i j = true) : ∃ e ∈ o.after, Region.binds .any e = true ∧ e.on = j := by
  unfold waits at h
  rw [ho] at h
  dsimp only at h
  rw [← Array.any_toList, List.any_eq_true] at h
  obtain ⟨e, he, h⟩ := h
  have he := Array.mem_toList_iff.1 he
  simp only [Bool.and_eq_true, beq_iff_eq] at h
  exact ⟨e, he, h⟩
theorem dep_of {d : Nat → Bool} {i j : Nat} {o : Oper} (ho : ops[i]? = some o) (h : waits ops i j = true) (hd : ∀ e ∈ o.after, Region.binds .any e = true → d e.on = true) : d j = true := by
  obtain ⟨e, he, hb, rfl⟩ := waits_spec ho h
  exact hd e he hb
theorem shut_of {d : Nat → Bool} {i j : Nat} (hs : shutD .any ops d) (h : waits ops i j = true) (hi : d i = true) : d j = true := by
  cases ho : ops[i]? with
  | none => unfold waits at h; rw [ho] at h; cases h
  | some o =>
    obtain ⟨e, he, hb, rfl⟩ := waits_spec ho h
    exact hs i o ho hi e he hb
/-- what waits for something has not been carried out ahead of it -/
theorem not_yet {d : Nat → Bool} {i j : Nat} (hs : shutD .any ops d) (h : waits ops i j = true) (hj : d j = false) : d i = false := by
  cases hi : d i
  · rfl
  · rw [shut_of hs h hi] at hj; cases hj
/-- what one operation owes -/
def OpOwes (P : Program) (ops : Array Oper) (Q : Exit → Act → World → Prop) (mk : (Nat → Value) → Act) (F : Nat → (Nat → Bool) → World → Value → Prop) (W : (Nat → Bool) → World → (Nat → Value) → Prop) (j : Nat) : Prop :=
  ∀ (d : Nat → Bool) (T : Nat → Value) (x : World) (o : Oper) (a : Act), ops[j]? = some o → d j = false → (∀ e ∈ o.after, Region.binds .any e = true → d e.on = true) → shutD .any ops d → W d x T → (∀ m, d m = true → F m d x (T m)) → a = mk T →
    wpOp P ops Q j (fun a' x' => ∃ v, a' = mk (upd T j v) ∧ W (more d j) x' (upd T j v) ∧ F j (more d j) x' v ∧ ∀ m u, d m = true → F m d x u → F m (more d j) x' u) a x
theorem wp_region_T (mk : (Nat → Value) → Act) (F : Nat → (Nat → Bool) → World → Value → Prop) (W : (Nat → Bool) → World → (Nat → Value) → Prop) (T0 : Nat → Value) (n : Nat) (hsz : ops.size = n) {id : Nat} {a : Act} {w : World} (hm : P.follows .mixedOrders = true) (hb : backOk .any ops = true) (ha : a = mk T0) (h0 : W (fun _ => false) w.drew T0)
    (step : ∀ j, j < n → OpOwes P ops Q mk F W j)
    (done : ∀ d T x, (∀ i, i < n → d i = true) → W d x T → (∀ m, m < n → F m d x (T m)) → ∀ a, a = mk T → Q .normal a x) : (Code.region id ops true).wp P Q a w := by
  subst hsz
  refine wp_region_inv (fun d a x => ∃ T, a = mk T ∧ W d x T ∧ ∀ m, d m = true → F m d x (T m)) hm hb ⟨T0, ha, h0, fun m h => by cases h⟩ ?_ ?_
  · rintro d a x i o ho hd hdep hsh ⟨T, rfl, hW, hF⟩
    refine wpOp_mono ?_ (step i (Array.getElem?_eq_some_iff.1 ho).1 d T x o _ ho hd hdep hsh hW hF rfl)
    rintro a' x' ⟨v, rfl, hW', hj, hmv⟩
    refine ⟨_, rfl, hW', fun m hmd => ?_⟩
    unfold upd
    split
    · rename_i h; subst h; exact hj
    · rename_i h
      unfold more at hmd
      rw [if_neg h] at hmd
      exact hmv m _ hmd (hF m hmd)
  · rintro d a x hall ⟨T, rfl, hW, hF⟩
    exact done d T x hall hW (fun m hm => hF m (hall m hm)) _ rfl
end
end Go.Proofs.YtlmkglgjdmjnkaaGreatDoor
