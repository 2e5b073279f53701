import Derived.Test.YtplmlahpmnjneaaGreatDoorNFrameT
import Derived.Test.YtplmlahpmnjneaaGreatDoorNTellScopesOv
import Derived.Test.YtplmlahpmnjneaaGreatDoorTie
import Derived.Test.YtplmlahpmnjneaaGreatDoorCards
import Derived.Test.YtplmlahpmnjneaaGreatDoorNDy
/- Rows.TellScopesCardSaid is proved: for every input the law returns true and leaves its arguments as they were. Conditions: the listed variables hold what the program's text lays (tied by the card). -/
namespace Go.Proofs.YtplmlahpmnjneaaGreatDoor.tellScopesDone
open Go.ChangeShapes Go.WideShapes Go.ChangeAt Go.RowKit
open Go.ChangeMaps (open_string shut_string)
set_option linter.unusedVariables false
set_option linter.unusedSimpArgs false
set_option maxRecDepth 100000 in
theorem lifted (os : Os) (started : os.Started) (H : Type) (enc : TypeId × Value → H) :
    ReturnsInHanded {} Tryz.checked os 13 .any (fun w args => (Rows.tellScopesSpec.pre enc Tryz.prog Tryz.f13 [] false w args ∧ laidMet Tryz.prog laid8 w) ∧ sizedMet enc Tryz.prog Tryz.f13 (OpenSpec.ofChange Rows.tellScopesSpec) false w args)
      (Rows.tellScopesSpec.post enc Tryz.prog Tryz.f13 false true false false) := by
  refine and_shaped (C := Tryz.checked) (X := fun w _ => laidMet Tryz.prog laid8 w) (fun _ _ _ hh h => h.of_heap hh) ownN started (by kernel_rfl) Tryz.func13
    (ChangeSpec.witness_shaped (enc := enc) (C := Tryz.checked) (os := os) (X := fun w _ => laidMet Tryz.prog laid8 w) false (World.laidAll Tryz.prog os laid8) #[.string ⟨#[]⟩] 8 (World.laidAll_os _ _ _) (laid8_shaped os _) (by kernel_rfl) (by kernel_rfl) (by kernel_rfl) (laid8_met os _)) ?_
  intro W base args ds gs before hval0 hW _ _ hL hsh
  have hval : ∀ (j : Nat) t v, Tryz.f13.params[j]? = some t → args[j]? = some v → Value.okWide Tryz.prog W .any base t v := hval0
  have hW' := hW
  obtain ⟨p, q, hA0, hV, rfl, hfz, hnd⟩ := hW
  have hA : DataW.TrodAll enc Tryz.prog W 0 (fun _ => true) true Tryz.f13.params.toList args.toList ds p := hA0
  rw [Tryz.params13] at hA hval
  have hFirst := laid8_of hL hsh
  obtain ⟨v0, vs0, d0, ds0, p0, q0, hargs, rfl, rfl, h0, r0⟩ := trodAll_cons hA
  obtain ⟨rfl, rfl, rfl⟩ := trodAll_nil r0
  obtain rfl : args = #[v0] := by cases args; simp_all
  obtain ⟨rfl, rfl⟩ := trodVars_none hV
  obtain ⟨a0, rfl, rfl, rfl, w0⟩ := open_string Tryz.underlying9 (hval 0 9 v0 rfl rfl) h0
  clear hA0 hval0
  refine (walk_TellScopes a0 W w0 hFirst).mono fun e W' ⟨he, bel⟩ => ?_
  subst he
  exact ⟨_, rfl, _, _, _, [], _, [], hW', trodAll_mk1 (shut_bool Tryz.underlying4 _), (trodAll_cons_mk (shut_string Tryz.underlying9 w0) trodAll_mk0), rfl, bel.frame _, fun h => by cases h⟩
theorem over : Rows.TellScopesSaid :=
  OpenClaim.holds_of_wide 13 Tryz.f13 rfl rfl rfl rfl rfl rfl rfl ⟨rfl, rfl, rfl, rfl, rfl⟩ rfl rfl rfl rfl rfl (by kernel_rfl) Tryz.func13 closed
    (of_decide_eq_true (by kernel_rfl)) (by unfold Func.isWrapper; first | (rw [if_pos (by decide +kernel)]; kernel_rfl) | (rw [if_neg (by decide +kernel)]; exact ⟨rfl, rfl⟩))
    (fun os started H enc _ => lifted os started H enc)
theorem plain_params : ∀ (j : Nat) (t : TypeId), Tryz.f13.params[j]? = some t → Tryz.prog.wantsStandIn t = false := fun j t ht => by
  rw [Tryz.params13] at ht
  rcases j with _ | j
  · obtain rfl : 9 = t := by simpa using ht
    exact (show Tryz.prog.wantsStandIn 9 = false by kernel_rfl)
  · simp at ht
/-- The statement. -/
theorem proved : Rows.TellScopesCardSaid :=
  Claim7.holds_tied_plain_at .later [] [.data, .data, .data, .data, .data, .pinned] true (true, Rows.tellScopesCard.stood.harness.2) false
    over (fun _ h => by cases h) (by kernel_rfl) (fun _ h => by cases h) tellScopes_row_tie rfl ⟨rfl, rfl⟩ (by kernel_rfl) rfl
    (fun f fn hf hfn => by
      obtain rfl : f = 13 := Option.some.inj ((show Tryz.prog.funcNamed "linchpin/linchpinlaw8.TellScopes" = some 13 by kernel_rfl).symm.trans hf) |>.symm
      obtain rfl : fn = Tryz.f13 := (Option.some.inj (Tryz.func13.symm.trans hfn)).symm
      exact ⟨by kernel_rfl, plain_params⟩)
    (by kernel_rfl)
#print axioms proved
end Go.Proofs.YtplmlahpmnjneaaGreatDoor.tellScopesDone
