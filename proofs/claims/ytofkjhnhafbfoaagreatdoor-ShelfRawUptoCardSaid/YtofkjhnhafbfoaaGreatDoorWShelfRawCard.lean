import Derived.Test.YtofkjhnhafbfoaaGreatDoorCards
import Derived.Test.YtofkjhnhafbfoaaGreatDoorTie
import Derived.Test.YtofkjhnhafbfoaaGreatDoorWNs
import Derived.Test.YtofkjhnhafbfoaaGreatDoorWShelfRawOv
/- Rows.ShelfRawUptoCardSaid is jK: where what it reads is of bulk at most 1048576 the law returns true and leaves its arguments as they were. Conditions: the listed variables hold what the program's text lays (tied by the card). -/
namespace Go.Proofs.YtofkjhnhafbfoaaGreatDoor.shelfRawDone
open Go.ChangeShapes Go.WideShapes Go.ChangeAt Go.RowKit
open Go.ChangeMaps (open_string shut_string)
set_option linter.unusedVariables false
set_option linter.unusedSimpArgs false
theorem reads (os : Os) {H : Type} (enc : TypeId × Value → H) : ∃ places, DataW.whole enc Tryz.prog ((World.laidAll Tryz.prog os rk).forCall (fun _ _ => 0) ⟨#[], #[(.agg #[.string ⟨#[]⟩, .slice none 0 0] : Value), .string ⟨#[]⟩, .agg #[.int .i64 0, .int .i64 0, .int .i64 0, .string ⟨#[]⟩, .string ⟨#[]⟩]], []⟩).memory Tryz.f9.params.toList Rows.shelfRawSpec.vars false (#[(.agg #[.string ⟨#[]⟩, .slice none 0 0] : Value), .string ⟨#[]⟩, .agg #[.int .i64 0, .int .i64 0, .int .i64 0, .string ⟨#[]⟩, .string ⟨#[]⟩]]).toList 12 = some ([.agg [.lit (.string []), .nil], .lit (.string []), .agg [.lit (.int .i64 0), .lit (.int .i64 0), .lit (.int .i64 0), .lit (.string []), .lit (.string [])]], [], places) :=
  ⟨[], by kernel_rfl⟩
set_option maxRecDepth 100000 in
theorem bY (os : Os) (started : os.Started) (H : Type) (enc : TypeId × Value → H) (F : Stop.Interp) :
    ReturnsInHanded {} Tryz.checked os 9 .any ((Rows.OpenSpec.upto Rows.shelfRawSpec).preRow enc Tryz.prog Tryz.f9 Rows.shelfRawUptoRow.domain false Rows.shelfRawUptoRow.laid) (((Rows.OpenSpec.upto Rows.shelfRawSpec).at F).post enc Tryz.prog Tryz.f9 false true false false) := by
  obtain ⟨places, hx⟩ := reads os enc
  refine returnsInHanded_of_row (C := Tryz.checked) (s := Rows.OpenSpec.upto Rows.shelfRawSpec) V3 started (by kernel_rfl) Tryz.func9
    (witnessU (enc := enc) #[(.agg #[.string ⟨#[]⟩, .slice none 0 0] : Value), .string ⟨#[]⟩, .agg #[.int .i64 0, .int .i64 0, .int .i64 0, .string ⟨#[]⟩, .string ⟨#[]⟩]] (by kernel_rfl) (OpenSpec.preRow_of_cond 12 hx (by kernel_rfl) (fun k hk => by cases hk; kernel_rfl) (by kernel_rfl) (by
      rw [Go.MakeChecks.laidMetH_plain _ _ _ (by kernel_rfl)]
      exact lV os _))) ?_
  intro W base args ds gs before hval0 hW _ hcond _ hLH hsh _
  have hL : laidMet Tryz.prog rk W := by
    rw [Go.MakeChecks.laidMetH_plain _ _ _ (by kernel_rfl)] at hLH
    exact hLH
  have hk0 : Rows.uptoSmall H (ds ++ gs) = true := hcond _ rfl
  have hval : ∀ (j : Nat) t v, Tryz.f9.params[j]? = some t → args[j]? = some v → Value.okWide Tryz.prog W .any base t v := hval0
  have hW' := hW
  obtain ⟨p, q, hA0, hV, rfl, hfz, hnd⟩ := hW
  have hA : DataW.TrodAll enc Tryz.prog W 0 (fun _ => true) true Tryz.f9.params.toList args.toList ds p := hA0
  rw [Tryz.params9] at hA hval
  have hFirst := f9 hL hsh
  obtain ⟨v0, vs0, d0, ds0, p0, q0, hargs, rfl, rfl, h0, r0⟩ := trodAll_cons hA
  obtain ⟨v1, vs1, d1, ds1, p1, q1, rfl, rfl, rfl, h1, r1⟩ := trodAll_cons r0
  obtain ⟨v2, vs2, d2, ds2, p2, q2, rfl, rfl, rfl, h2, r2⟩ := trodAll_cons r1
  obtain ⟨rfl, rfl, rfl⟩ := trodAll_nil r2
  obtain rfl : args = #[v0, v1, v2] := by cases args; simp_all
  obtain ⟨rfl, rfl⟩ := trodVars_none hV
  have hbulk := of_decide_eq_true hk0
  simp only [List.append_nil] at hbulk
  obtain ⟨b0, hbulk⟩ := bulk_cons hbulk
  obtain ⟨b1, hbulk⟩ := bulk_cons hbulk
  obtain ⟨b2, hbulk⟩ := bulk_cons hbulk
  have k0 := h0
  have lt0 : ∀ x ∈ p0, x.block < W.heap.size := by obtain ⟨m, hm⟩ := k0; exact DataW.trod_lt m _ _ _ hm
  obtain ⟨A0, c0, s0, rfl, y0⟩ := shelf_readP (hval 0 24 v0 rfl rfl) h0 b0
  obtain ⟨s1, rfl, rfl, rfl, m1⟩ := open_string Tryz.underlying9 (hval 1 9 v1 rfl rfl) h1
  have y1 := str_sizeP b1
  have k2 := h2
  have lt2 : ∀ x ∈ p2, x.block < W.heap.size := by obtain ⟨m, hm⟩ := k2; exact DataW.trod_lt m _ _ _ hm
  obtain ⟨s2, rfl, y2⟩ := ver_readP (hval 2 26 v2 rfl rfl) h2 b2
  clear hA0 hval0
  simp only [List.append_nil] at hW'
  refine (walk_ShelfRaw s0 A0 c0 s1 s2 W y0 y1 y2 hFirst).mono fun e W' ⟨he, bel⟩ => ?_
  subst he
  exact ⟨_, rfl, _, _, _, [], _, [], hW', trodAll_mk1 (shut_bool Tryz.underlying4 _), (trodAll_cons_mk (Go.RowKit.Below.trod X2 (by kernel_rfl) (of_decide_eq_true (by kernel_rfl)) k0 bel lt0) (trodAll_cons_mk (shut_string Tryz.underlying9 m1) (trodAll_cons_mk (Go.RowKit.Below.trod X2 (by kernel_rfl) (of_decide_eq_true (by kernel_rfl)) k2 bel lt2) trodAll_mk0))), rfl, bel.frame _, fun h => by cases h⟩
set_option maxRecDepth 100000 in
theorem Vo : Rows.ShelfRawUptoSaid :=
  OpenClaim.holds_of_cond 9 Tryz.f9 rfl rfl rfl rfl rfl rfl rfl ⟨rfl, rfl, rfl, rfl, rfl⟩ rfl rfl rfl rfl rfl (by kernel_rfl) Tryz.func9 Zb
    (of_decide_eq_true (by kernel_rfl)) (by unfold Func.isWrapper; first | (rw [if_pos (by decide +kernel)]; kernel_rfl) | (rw [if_neg (by decide +kernel)]; exact ⟨rfl, rfl⟩))
    (fun os started H enc _ F => by rw [OpenClaim.pre_eq_preRow]; exact bY os started H enc F)
theorem tE : ∀ (j : Nat) (t : TypeId), Tryz.f9.params[j]? = some t → Tryz.prog.wantsStandIn t = false := fun j t ht => by
  rw [Tryz.params9] at ht
  rcases j with _ | j
  · obtain rfl : 24 = t := by simpa using ht
    exact (show Tryz.prog.wantsStandIn 24 = false by kernel_rfl)
  · rcases j with _ | j
    · obtain rfl : 9 = t := by simpa using ht
      exact (show Tryz.prog.wantsStandIn 9 = false by kernel_rfl)
    · rcases j with _ | j
      · obtain rfl : 26 = t := by simpa using ht
        exact (show Tryz.prog.wantsStandIn 26 = false by kernel_rfl)
      · simp at ht
/-- The statement. -/
theorem jK : Rows.ShelfRawUptoCardSaid :=
  Claim7.holds_tied_plain_at .later [] [.data, .data, .data, .data, .pinned] true (true, Rows.shelfRawUptoCard.stood.harness.2) false
    Vo (fun _ h => by cases h) (by as_aux_lemma => kernel_rfl) (fun _ h => by cases h) shelfRawUpto_row_tie rfl ⟨rfl, rfl⟩ (by as_aux_lemma => kernel_rfl) rfl
    (fun f fn hf hfn => by
      obtain rfl : f = 9 := Option.some.inj ((show Tryz.prog.funcNamed "linchpin/linchpinlaw13.ShelfRaw" = some 9 by as_aux_lemma => kernel_rfl).symm.trans hf) |>.symm
      obtain rfl : fn = Tryz.f9 := (Option.some.inj (Tryz.func9.symm.trans hfn)).symm
      exact ⟨by as_aux_lemma => kernel_rfl, tE⟩)
    (by as_aux_lemma => kernel_rfl)
#print axioms jK
end Go.Proofs.YtofkjhnhafbfoaaGreatDoor.shelfRawDone
