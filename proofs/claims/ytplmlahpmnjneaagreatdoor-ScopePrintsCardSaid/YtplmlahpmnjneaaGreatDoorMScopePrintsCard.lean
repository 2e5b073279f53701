/- Rows.ScopePrintsCardSaid is proved: for every input the law returns true and leaves its arguments as they were. Conditions: the listed variables hold what the program's text lays (tied by the card). -/
import Derived.Test.YtplmlahpmnjneaaGreatDoorMFrameT
import Derived.Test.YtplmlahpmnjneaaGreatDoorMScopePrintsOv
import Derived.Test.YtplmlahpmnjneaaGreatDoorTie
import Derived.Test.YtplmlahpmnjneaaGreatDoorCards
import Derived.Test.YtplmlahpmnjneaaGreatDoorMDv
namespace Go.Proofs.YtplmlahpmnjneaaGreatDoor.scopePrintsDone
open Go.ChangeShapes Go.WideShapes Go.ChangeAt Go.RowKit
open Go.ChangeMaps (open_string shut_string)
set_option linter.unusedVariables false
set_option linter.unusedSimpArgs false

set_option maxRecDepth 100000 in
theorem lifted (os : Os) (started : os.Started) (H : Type) (enc : TypeId × Value → H) :
    ReturnsInHanded {} Tryz.checked os 6 .any (fun w args => (Rows.scopePrintsSpec.pre enc Tryz.prog Tryz.f6 [] false w args ∧ laidMet Tryz.prog laid8 w) ∧ sizedMet enc Tryz.prog Tryz.f6 (OpenSpec.ofChange Rows.scopePrintsSpec) false w args)
      (Rows.scopePrintsSpec.post enc Tryz.prog Tryz.f6 false true false false) := by
  refine and_shaped (C := Tryz.checked) (X := fun w _ => laidMet Tryz.prog laid8 w) (fun _ _ _ hh h => h.of_heap hh) ownN started (by kernel_rfl) Tryz.func6
    (ChangeSpec.witness_shaped (enc := enc) (C := Tryz.checked) (os := os) (X := fun w _ => laidMet Tryz.prog laid8 w) false (World.laidAll Tryz.prog os laid8) #[.agg #[.slice none 0 0]] 8 (World.laidAll_os _ _ _) (laid8_shaped os _) (by kernel_rfl) (by kernel_rfl) (by kernel_rfl) (laid8_met os _)) ?_
  intro W base args ds gs before hval0 hW _ _ hL hsh
  have hval : ∀ (j : Nat) t v, Tryz.f6.params[j]? = some t → args[j]? = some v → Value.okWide Tryz.prog W .any base t v := hval0
  have hW' := hW
  obtain ⟨p, q, hA0, hV, rfl, hfz, hnd⟩ := hW
  have hA : DataW.TrodAll enc Tryz.prog W 0 (fun _ => true) true Tryz.f6.params.toList args.toList ds p := hA0
  rw [Tryz.params6] at hA hval
  have hFirst := laid8_of hL hsh
  obtain ⟨v0, vs0, d0, ds0, p0, q0, hargs, rfl, rfl, h0, r0⟩ := trodAll_cons hA
  obtain ⟨rfl, rfl, rfl⟩ := trodAll_nil r0
  obtain rfl : args = #[v0] := by cases args; simp_all
  obtain ⟨rfl, rfl⟩ := trodVars_none hV
  have k0 := h0
  have lt0 : ∀ x ∈ p0, x.block < W.heap.size := by obtain ⟨m, hm⟩ := k0; exact DataW.trod_lt m _ _ _ hm
  obtain ⟨a0, cap0, r0, rfl, w0, m0, n0⟩ := range_read (hval 0 35 v0 rfl rfl) h0
  clear hA0 hval0
  refine (walk_ScopePrints a0 cap0 r0 W w0 m0 n0 hFirst).mono fun e W' ⟨he, bel⟩ => ?_
  subst he
  exact ⟨_, rfl, _, _, _, [], _, [], hW', trodAll_mk1 (shut_bool Tryz.underlying4 _), (trodAll_cons_mk (Go.RowKit.Below.trod laidN (by kernel_rfl) (of_decide_eq_true (by kernel_rfl)) k0 bel lt0) trodAll_mk0), rfl, bel.frame _, fun h => by cases h⟩

theorem over : Rows.ScopePrintsSaid :=
  OpenClaim.holds_of_wide 6 Tryz.f6 rfl rfl rfl rfl rfl rfl rfl ⟨rfl, rfl, rfl, rfl, rfl⟩ rfl rfl rfl rfl rfl (by kernel_rfl) Tryz.func6 closed
    (of_decide_eq_true (by kernel_rfl)) (by unfold Func.isWrapper; first | (rw [if_pos (by decide +kernel)]; kernel_rfl) | (rw [if_neg (by decide +kernel)]; exact ⟨rfl, rfl⟩))
    (fun os started H enc _ => lifted os started H enc)
theorem plain_params : ∀ (j : Nat) (t : TypeId), Tryz.f6.params[j]? = some t → Tryz.prog.wantsStandIn t = false := fun j t ht => by
  rw [Tryz.params6] at ht
  rcases j with _ | j
  · obtain rfl : 35 = t := by simpa using ht
    exact (show Tryz.prog.wantsStandIn 35 = false by kernel_rfl)
  · simp at ht
/-- The statement. -/
theorem proved : Rows.ScopePrintsCardSaid :=
  Claim7.holds_tied_plain_at .later [] [.data, .data, .data, .data, .data, .pinned] true (true, Rows.scopePrintsCard.stood.harness.2) false
    over (fun _ h => by cases h) (by kernel_rfl) (fun _ h => by cases h) scopePrints_row_tie rfl ⟨rfl, rfl⟩ (by kernel_rfl) rfl
    (fun f fn hf hfn => by
      obtain rfl : f = 6 := Option.some.inj ((show Tryz.prog.funcNamed "linchpin/linchpinlaw7.ScopePrints" = some 6 by kernel_rfl).symm.trans hf) |>.symm
      obtain rfl : fn = Tryz.f6 := (Option.some.inj (Tryz.func6.symm.trans hfn)).symm
      exact ⟨by kernel_rfl, plain_params⟩)
    (by kernel_rfl)
#print axioms proved
end Go.Proofs.YtplmlahpmnjneaaGreatDoor.scopePrintsDone
