/- Rows.SetRawCardSaid is proved: for every input the law returns true and leaves its arguments as they were. Conditions: the listed variable set.first holds what the program's text lays (tied by the card). -/
import Derived.Test.YtmnjnoggchgnjaaGreatDoorFrameL
import Derived.Test.YtmnjnoggchgnjaaGreatDoorTie
import Derived.Test.YtmnjnoggchgnjaaGreatDoorCards
import Derived.Test.YtmnjnoggchgnjaaGreatDoorLaw5r
namespace Go.Proofs.YtmnjnoggchgnjaaGreatDoor.setRawDone
open Go.ChangeShapes Go.WideShapes Go.ChangeAt Go.RowKit
open Go.ChangeMaps (open_string shut_string)
set_option linter.unusedVariables false
set_option linter.unusedSimpArgs false

set_option maxRecDepth 100000 in
theorem lifted (os : Os) (started : os.Started) (H : Type) (enc : TypeId × Value → H) :
    ReturnsInHanded {} Tryz.checked os 7 .any (fun w args => (Rows.setRawSpec.pre enc Tryz.prog Tryz.f7 [] false w args ∧ laidMet Tryz.prog [("linchpin/set.first", Rows.laid_linchpin_set_first)] w) ∧ sizedMet enc Tryz.prog Tryz.f7 (OpenSpec.ofChange Rows.setRawSpec) false w args)
      (Rows.setRawSpec.post enc Tryz.prog Tryz.f7 false true false false) := by
  refine returnsInHanded_of_change_and (C := Tryz.checked) (X := fun w _ => laidMet Tryz.prog [("linchpin/set.first", Rows.laid_linchpin_set_first)] w) (fun _ _ _ hh h => h.of_heap hh) ownN started (by kernel_rfl) Tryz.func7
    (ChangeSpec.witness_at (enc := enc) (C := Tryz.checked) (os := os) (X := fun w _ => laidMet Tryz.prog [("linchpin/set.first", Rows.laid_linchpin_set_first)] w) false (laidWorld os) #[.agg #[.slice none 0 0, .slice none 0 0], .agg #[.int .i64 0, .int .i64 0, .int .i64 0, .string ⟨#[]⟩, .string ⟨#[]⟩]] 8 rfl (by kernel_rfl) (by kernel_rfl) (by kernel_rfl) (by kernel_rfl) (by kernel_rfl) (laidWorld_met os _)) ?_
  intro W base args ds gs before hval0 hW _ _ hL _
  have hval : ∀ (j : Nat) t v, Tryz.f7.params[j]? = some t → args[j]? = some v → Value.okWide Tryz.prog W .any base t v := hval0
  have hW' := hW
  obtain ⟨p, q, hA0, hV, rfl, hfz, hnd⟩ := hW
  have hA : DataW.TrodAll enc Tryz.prog W 0 (fun _ => true) true Tryz.f7.params.toList args.toList ds p := hA0
  rw [Tryz.params7] at hA hval
  have hFirst := first_of_laid hL
  obtain ⟨v0, vs0, d0, ds0, p0, q0, hargs, rfl, rfl, h0, r0⟩ := trodAll_cons hA
  obtain ⟨v1, vs1, d1, ds1, p1, q1, rfl, rfl, rfl, h1, r1⟩ := trodAll_cons r0
  obtain ⟨rfl, rfl, rfl⟩ := trodAll_nil r1
  obtain rfl : args = #[v0, v1] := by cases args; simp_all
  obtain ⟨rfl, rfl⟩ := trodVars_none hV
  have k0 := h0
  have lt0 : ∀ x ∈ p0, x.block < W.heap.size := by obtain ⟨m, hm⟩ := k0; exact DataW.trod_lt m _ _ _ hm
  obtain ⟨a0, cap0, b0, dap0, z0, y0, rfl, w0, x0, m0, n0⟩ := set_read (hval 0 25 v0 rfl rfl) h0
  have k1 := h1
  have lt1 : ∀ x ∈ p1, x.block < W.heap.size := by obtain ⟨m, hm⟩ := k1; exact DataW.trod_lt m _ _ _ hm
  obtain ⟨z1, rfl⟩ := version_read (hval 1 28 v1 rfl rfl) h1
  clear hA0 hval0
  refine (walk_SetRaw a0 cap0 b0 dap0 z0 y0 z1 W w0 x0 m0 n0 hFirst).mono fun e W' ⟨he, bel⟩ => ?_
  subst he
  exact ⟨_, rfl, _, _, _, [], _, [], hW', trodAll_mk1 (shut_bool Tryz.underlying4 _), (trodAll_cons_mk (Go.RowKit.Below.trod laidN (by kernel_rfl) (of_decide_eq_true (by kernel_rfl)) k0 bel.toBelow lt0) (trodAll_cons_mk (Go.RowKit.Below.trod laidN (by kernel_rfl) (of_decide_eq_true (by kernel_rfl)) k1 bel.toBelow lt1) trodAll_mk0)), rfl, bel.toBelow.frame _, fun h => by cases h⟩

theorem over : Rows.SetRawSaid :=
  OpenClaim.holds_of_wide 7 Tryz.f7 rfl rfl rfl rfl rfl rfl rfl ⟨rfl, rfl, rfl, rfl, rfl⟩ rfl rfl rfl rfl rfl (by kernel_rfl) Tryz.func7 (by kernel_rfl)
    (of_decide_eq_true (by kernel_rfl)) (by unfold Func.isWrapper; first | (rw [if_pos (by decide +kernel)]; kernel_rfl) | (rw [if_neg (by decide +kernel)]; exact ⟨rfl, rfl⟩))
    (fun os started H enc _ => lifted os started H enc)
theorem plain_params : ∀ (j : Nat) (t : TypeId), Tryz.f7.params[j]? = some t → Tryz.prog.wantsStandIn t = false := fun j t ht => by
  rw [Tryz.params7] at ht
  rcases j with _ | j
  · obtain rfl : 25 = t := by simpa using ht
    exact (show Tryz.prog.wantsStandIn 25 = false by kernel_rfl)
  · rcases j with _ | j
    · obtain rfl : 28 = t := by simpa using ht
      exact (show Tryz.prog.wantsStandIn 28 = false by kernel_rfl)
    · simp at ht
/-- The statement. -/
theorem proved : Rows.SetRawCardSaid :=
  Claim7.holds_tied_plain_at .later [] [.data] true (true, Rows.setRawCard.stood.harness.2) false
    over (fun _ h => by cases h) (by kernel_rfl) (fun _ h => by cases h) setRaw_row_tie rfl ⟨rfl, rfl⟩ (by kernel_rfl) rfl
    (fun f fn hf hfn => by
      obtain rfl : f = 7 := Option.some.inj ((show Tryz.prog.funcNamed "linchpin/linchpinlaw5.SetRaw" = some 7 by kernel_rfl).symm.trans hf) |>.symm
      obtain rfl : fn = Tryz.f7 := (Option.some.inj (Tryz.func7.symm.trans hfn)).symm
      exact ⟨by kernel_rfl, plain_params⟩)
    (by kernel_rfl)
#print axioms proved
end Go.Proofs.YtmnjnoggchgnjaaGreatDoor.setRawDone
