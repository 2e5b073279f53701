import Derived.Test.YtiffijoenkcpjaaGreatDoorCards
import Derived.Test.YtiffijoenkcpjaaGreatDoorTie
import Derived.Test.YtiffijoenkcpjaaGreatDoorYFrameT
import Derived.Test.YtiffijoenkcpjaaGreatDoorYPq
import Derived.Test.YtiffijoenkcpjaaGreatDoorYYardHeldOv
/- Rows.YardHeldCardSaid is jK: for every input the law returns true and leaves its arguments as they were. Conditions: the listed variables hold what the program's text lays (tied by the card). -/
namespace Go.Proofs.YtiffijoenkcpjaaGreatDoor.yardHeldDone
open Go.ChangeShapes Go.WideShapes Go.ChangeAt Go.RowKit
open Go.ChangeMaps (open_string shut_string)
set_option linter.unusedVariables false
set_option linter.unusedSimpArgs false
set_option maxRecDepth 100000 in
theorem bY (os : Os) (started : os.Started) (H : Type) (enc : TypeId × Value → H) :
    ReturnsInHanded {} Tryz.checked os 4 .any (fun w args => (Rows.yardHeldSpec.pre enc Tryz.prog Tryz.f4 [] false w args ∧ laidMet Tryz.prog laid8 w) ∧ sizedMet enc Tryz.prog Tryz.f4 (OpenSpec.ofChange Rows.yardHeldSpec) false w args)
      (Rows.yardHeldSpec.post enc Tryz.prog Tryz.f4 false true false false) := by
  refine and_shaped (C := Tryz.checked) (X := fun w _ => laidMet Tryz.prog laid8 w) (fun _ _ _ hh h => h.of_heap hh) V3 started (by kernel_rfl) Tryz.func4
    (ChangeSpec.witness_shaped (enc := enc) (C := Tryz.checked) (os := os) (X := fun w _ => laidMet Tryz.prog laid8 w) false (World.laidAll Tryz.prog os laid8) #[.slice none 0 0, .slice none 0 0] 8 (World.laidAll_os _ _ _) (laid8_shaped os _) (by kernel_rfl) (by kernel_rfl) (by kernel_rfl) (laid8_met os _)) ?_
  intro W base args ds gs before hval0 hW _ _ hL hsh
  have hval : ∀ (j : Nat) t v, Tryz.f4.params[j]? = some t → args[j]? = some v → Value.okWide Tryz.prog W .any base t v := hval0
  have hW' := hW
  obtain ⟨p, q, hA0, hV, rfl, hfz, hnd⟩ := hW
  have hA : DataW.TrodAll enc Tryz.prog W 0 (fun _ => true) true Tryz.f4.params.toList args.toList ds p := hA0
  rw [Tryz.params4] at hA hval
  have hFirst := laid8_of hL hsh
  obtain ⟨v0, vs0, d0, ds0, p0, q0, hargs, rfl, rfl, h0, r0⟩ := trodAll_cons hA
  obtain ⟨v1, vs1, d1, ds1, p1, q1, rfl, rfl, rfl, h1, r1⟩ := trodAll_cons r0
  obtain ⟨rfl, rfl, rfl⟩ := trodAll_nil r1
  obtain rfl : args = #[v0, v1] := by cases args; simp_all
  obtain ⟨rfl, rfl⟩ := trodVars_none hV
  obtain ⟨a0, len0, cap0, rfl⟩ := okWide_slice Tryz.underlying22 (hval 0 22 v0 rfl rfl)
  have k0 := h0
  have lt0 : ∀ x ∈ p0, x.block < W.heap.size := by obtain ⟨m, hm⟩ := k0; exact DataW.trod_lt m _ _ _ hm
  obtain ⟨z0, e0, w0, m0⟩ := oW h0
  subst e0
  obtain ⟨a1, len1, cap1, rfl⟩ := okWide_slice Tryz.underlying22 (hval 1 22 v1 rfl rfl)
  have k1 := h1
  have lt1 : ∀ x ∈ p1, x.block < W.heap.size := by obtain ⟨m, hm⟩ := k1; exact DataW.trod_lt m _ _ _ hm
  obtain ⟨z1, e1, w1, m1⟩ := oW h1
  subst e1
  clear hA0 hval0
  refine (walk_YardHeld a0 cap0 z0 a1 cap1 z1 W w0 m0 w1 m1 hFirst).mono fun e W' ⟨he, bel⟩ => ?_
  subst he
  exact ⟨_, rfl, _, _, _, [], _, [], hW', trodAll_mk1 (shut_bool Tryz.underlying4 _), (trodAll_cons_mk (Go.RowKit.Below.trod X2 (by kernel_rfl) (of_decide_eq_true (by kernel_rfl)) k0 bel lt0) (trodAll_cons_mk (Go.RowKit.Below.trod X2 (by kernel_rfl) (of_decide_eq_true (by kernel_rfl)) k1 bel lt1) trodAll_mk0)), rfl, bel.frame _, fun h => by cases h⟩
theorem Vo : Rows.YardHeldSaid :=
  OpenClaim.holds_of_wide 4 Tryz.f4 rfl rfl rfl rfl rfl rfl rfl ⟨rfl, rfl, rfl, rfl, rfl⟩ rfl rfl rfl rfl rfl (by kernel_rfl) Tryz.func4 Zb
    (of_decide_eq_true (by kernel_rfl)) (by unfold Func.isWrapper; first | (rw [if_pos (by decide +kernel)]; kernel_rfl) | (rw [if_neg (by decide +kernel)]; exact ⟨rfl, rfl⟩))
    (fun os started H enc _ => bY os started H enc)
theorem tE : ∀ (j : Nat) (t : TypeId), Tryz.f4.params[j]? = some t → Tryz.prog.wantsStandIn t = false := fun j t ht => by
  rw [Tryz.params4] at ht
  rcases j with _ | j
  · obtain rfl : 22 = t := by simpa using ht
    exact (show Tryz.prog.wantsStandIn 22 = false by kernel_rfl)
  · rcases j with _ | j
    · obtain rfl : 22 = t := by simpa using ht
      exact (show Tryz.prog.wantsStandIn 22 = false by kernel_rfl)
    · simp at ht
/-- The statement. -/
theorem jK : Rows.YardHeldCardSaid :=
  Claim7.holds_tied_plain_at .later [] [.data, .data, .data, .data, .data, .pinned] true (true, Rows.yardHeldCard.stood.harness.2) true
    Vo (fun _ h => by cases h) (by as_aux_lemma => kernel_rfl) (fun _ h => by cases h) yardHeld_row_tie rfl ⟨rfl, rfl⟩ (by as_aux_lemma => kernel_rfl) rfl
    (fun f fn hf hfn => by
      obtain rfl : f = 4 := Option.some.inj ((show Tryz.prog.funcNamed "linchpin/linchpinlaw17.YardHeld" = some 4 by as_aux_lemma => kernel_rfl).symm.trans hf) |>.symm
      obtain rfl : fn = Tryz.f4 := (Option.some.inj (Tryz.func4.symm.trans hfn)).symm
      exact ⟨by as_aux_lemma => kernel_rfl, tE⟩)
    (by as_aux_lemma => kernel_rfl)
#print axioms jK
end Go.Proofs.YtiffijoenkcpjaaGreatDoor.yardHeldDone
