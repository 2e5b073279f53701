import Derived.Test.YtofkjhnhafbfoaaGreatDoorCards
import Derived.Test.YtofkjhnhafbfoaaGreatDoorTie
import Derived.Test.YtofkjhnhafbfoaaGreatDoorWNt
import Derived.Test.YtofkjhnhafbfoaaGreatDoorWShelfPutsOv
/- Rows.ShelfPutsUptoCardSaid is jK: where what it reads is of bulk at most 1048576 the law returns true and leaves its arguments as they were. Conditions: the listed variables hold what the program's text lays (tied by the card). -/
namespace Go.Proofs.YtofkjhnhafbfoaaGreatDoor.shelfPutsDone
open Go.ChangeShapes Go.WideShapes Go.ChangeAt Go.RowKit
open Go.ChangeMaps (open_string shut_string)
set_option linter.unusedVariables false
set_option linter.unusedSimpArgs false
theorem reads (os : Os) {H : Type} (enc : TypeId × Value → H) : ∃ places, DataW.whole enc Tryz.prog ((World.laidAll Tryz.prog os rk).forCall (fun _ _ => 0) ⟨#[], #[(.agg #[.string ⟨#[]⟩, .slice none 0 0] : Value), .agg #[.string ⟨#[]⟩, .int .i64 0, .int .i64 0, .int .i64 0, .string ⟨#[]⟩, .string ⟨#[]⟩, .slice none 0 0, .slice none 0 0, .slice none 0 0], .string ⟨#[]⟩, .agg #[.int .i64 0, .int .i64 0, .int .i64 0, .string ⟨#[]⟩, .string ⟨#[]⟩], .bool false], []⟩).memory Tryz.f3.params.toList Rows.shelfPutsSpec.vars false (#[(.agg #[.string ⟨#[]⟩, .slice none 0 0] : Value), .agg #[.string ⟨#[]⟩, .int .i64 0, .int .i64 0, .int .i64 0, .string ⟨#[]⟩, .string ⟨#[]⟩, .slice none 0 0, .slice none 0 0, .slice none 0 0], .string ⟨#[]⟩, .agg #[.int .i64 0, .int .i64 0, .int .i64 0, .string ⟨#[]⟩, .string ⟨#[]⟩], .bool false]).toList 12 = some ([.agg [.lit (.string []), .nil], .agg [.lit (.string []), .agg [.lit (.int .i64 0), .lit (.int .i64 0), .lit (.int .i64 0), .lit (.string []), .lit (.string [])], .nil, .nil, .nil], .lit (.string []), .agg [.lit (.int .i64 0), .lit (.int .i64 0), .lit (.int .i64 0), .lit (.string []), .lit (.string [])], .lit (.bool false)], [], places) :=
  ⟨[], by kernel_rfl⟩
set_option maxRecDepth 100000 in
theorem bY (os : Os) (started : os.Started) (H : Type) (enc : TypeId × Value → H) (F : Stop.Interp) :
    ReturnsInHanded {} Tryz.checked os 3 .any ((Rows.OpenSpec.upto Rows.shelfPutsSpec).preRow enc Tryz.prog Tryz.f3 Rows.shelfPutsUptoRow.domain false Rows.shelfPutsUptoRow.laid) (((Rows.OpenSpec.upto Rows.shelfPutsSpec).at F).post enc Tryz.prog Tryz.f3 false true false false) := by
  obtain ⟨places, hx⟩ := reads os enc
  refine returnsInHanded_of_row (C := Tryz.checked) (s := Rows.OpenSpec.upto Rows.shelfPutsSpec) V3 started (by kernel_rfl) Tryz.func3
    (witnessU (enc := enc) #[(.agg #[.string ⟨#[]⟩, .slice none 0 0] : Value), .agg #[.string ⟨#[]⟩, .int .i64 0, .int .i64 0, .int .i64 0, .string ⟨#[]⟩, .string ⟨#[]⟩, .slice none 0 0, .slice none 0 0, .slice none 0 0], .string ⟨#[]⟩, .agg #[.int .i64 0, .int .i64 0, .int .i64 0, .string ⟨#[]⟩, .string ⟨#[]⟩], .bool false] (by kernel_rfl) (OpenSpec.preRow_of_cond 12 hx (by kernel_rfl) (fun k hk => by cases hk; kernel_rfl) (by kernel_rfl) (by
      rw [Go.MakeChecks.laidMetH_plain _ _ _ (by kernel_rfl)]
      exact lV os _))) ?_
  intro W base args ds gs before hval0 hW _ hcond _ hLH hsh _
  have hL : laidMet Tryz.prog rk W := by
    rw [Go.MakeChecks.laidMetH_plain _ _ _ (by kernel_rfl)] at hLH
    exact hLH
  have hk0 : Rows.uptoSmall H (ds ++ gs) = true := hcond _ rfl
  have hval : ∀ (j : Nat) t v, Tryz.f3.params[j]? = some t → args[j]? = some v → Value.okWide Tryz.prog W .any base t v := hval0
  have hW' := hW
  obtain ⟨p, q, hA0, hV, rfl, hfz, hnd⟩ := hW
  have hA : DataW.TrodAll enc Tryz.prog W 0 (fun _ => true) true Tryz.f3.params.toList args.toList ds p := hA0
  rw [Tryz.params3] at hA hval
  have hFirst := f9 hL hsh
  obtain ⟨v0, vs0, d0, ds0, p0, q0, hargs, rfl, rfl, h0, r0⟩ := trodAll_cons hA
  obtain ⟨v1, vs1, d1, ds1, p1, q1, rfl, rfl, rfl, h1, r1⟩ := trodAll_cons r0
  obtain ⟨v2, vs2, d2, ds2, p2, q2, rfl, rfl, rfl, h2, r2⟩ := trodAll_cons r1
  obtain ⟨v3, vs3, d3, ds3, p3, q3, rfl, rfl, rfl, h3, r3⟩ := trodAll_cons r2
  obtain ⟨v4, vs4, d4, ds4, p4, q4, rfl, rfl, rfl, h4, r4⟩ := trodAll_cons r3
  obtain ⟨rfl, rfl, rfl⟩ := trodAll_nil r4
  obtain rfl : args = #[v0, v1, v2, v3, v4] := by cases args; simp_all
  obtain ⟨rfl, rfl⟩ := trodVars_none hV
  have hbulk := of_decide_eq_true hk0
  simp only [List.append_nil] at hbulk
  obtain ⟨b0, hbulk⟩ := bulk_cons hbulk
  obtain ⟨b1, hbulk⟩ := bulk_cons hbulk
  obtain ⟨b2, hbulk⟩ := bulk_cons hbulk
  obtain ⟨b3, hbulk⟩ := bulk_cons hbulk
  obtain ⟨b4, hbulk⟩ := bulk_cons hbulk
  have k0 := h0
  have lt0 : ∀ x ∈ p0, x.block < W.heap.size := by obtain ⟨m, hm⟩ := k0; exact DataW.trod_lt m _ _ _ hm
  obtain ⟨A0, c0, s0, rfl, y0⟩ := shelf_readP (hval 0 24 v0 rfl rfl) h0 b0
  have k1 := h1
  have lt1 : ∀ x ∈ p1, x.block < W.heap.size := by obtain ⟨m, hm⟩ := k1; exact DataW.trod_lt m _ _ _ hm
  obtain ⟨s1, hd1, rfl, y1, z1⟩ := rec_readP (hval 1 31 v1 rfl rfl) h1 b1
  obtain ⟨s2, rfl, rfl, rfl, m2⟩ := open_string Tryz.underlying9 (hval 2 9 v2 rfl rfl) h2
  have y2 := str_sizeP b2
  have k3 := h3
  have lt3 : ∀ x ∈ p3, x.block < W.heap.size := by obtain ⟨m, hm⟩ := k3; exact DataW.trod_lt m _ _ _ hm
  obtain ⟨s3, rfl, y3⟩ := ver_readP (hval 3 26 v3 rfl rfl) h3 b3
  obtain ⟨s4, rfl, rfl, rfl⟩ := open_bool Tryz.underlying4 (hval 4 4 v4 rfl rfl) h4
  clear hA0 hval0
  simp only [List.append_nil] at hW'
  refine (walk_ShelfPuts s0 A0 c0 s1 hd1 s2 s3 s4 W y0 y1 z1 y2 y3 hFirst).mono fun e W' ⟨he, bel⟩ => ?_
  subst he
  exact ⟨_, rfl, _, _, _, [], _, [], hW', trodAll_mk1 (shut_bool Tryz.underlying4 _), (trodAll_cons_mk (Go.RowKit.Below.trod X2 (by kernel_rfl) (of_decide_eq_true (by kernel_rfl)) k0 bel lt0) (trodAll_cons_mk (Go.RowKit.Below.trod X2 (by kernel_rfl) (of_decide_eq_true (by kernel_rfl)) k1 bel lt1) (trodAll_cons_mk (shut_string Tryz.underlying9 m2) (trodAll_cons_mk (Go.RowKit.Below.trod X2 (by kernel_rfl) (of_decide_eq_true (by kernel_rfl)) k3 bel lt3) (trodAll_cons_mk (shut_bool Tryz.underlying4 _) trodAll_mk0))))), rfl, bel.frame _, fun h => by cases h⟩
set_option maxRecDepth 100000 in
theorem Vo : Rows.ShelfPutsUptoSaid :=
  OpenClaim.holds_of_cond 3 Tryz.f3 rfl rfl rfl rfl rfl rfl rfl ⟨rfl, rfl, rfl, rfl, rfl⟩ rfl rfl rfl rfl rfl (by kernel_rfl) Tryz.func3 Zb
    (of_decide_eq_true (by kernel_rfl)) (by unfold Func.isWrapper; first | (rw [if_pos (by decide +kernel)]; kernel_rfl) | (rw [if_neg (by decide +kernel)]; exact ⟨rfl, rfl⟩))
    (fun os started H enc _ F => by rw [OpenClaim.pre_eq_preRow]; exact bY os started H enc F)
theorem tE : ∀ (j : Nat) (t : TypeId), Tryz.f3.params[j]? = some t → Tryz.prog.wantsStandIn t = false := fun j t ht => by
  rw [Tryz.params3] at ht
  rcases j with _ | j
  · obtain rfl : 24 = t := by simpa using ht
    exact (show Tryz.prog.wantsStandIn 24 = false by kernel_rfl)
  · rcases j with _ | j
    · obtain rfl : 31 = t := by simpa using ht
      exact (show Tryz.prog.wantsStandIn 31 = false by kernel_rfl)
    · rcases j with _ | j
      · obtain rfl : 9 = t := by simpa using ht
        exact (show Tryz.prog.wantsStandIn 9 = false by kernel_rfl)
      · rcases j with _ | j
        · obtain rfl : 26 = t := by simpa using ht
          exact (show Tryz.prog.wantsStandIn 26 = false by kernel_rfl)
        · rcases j with _ | j
          · obtain rfl : 4 = t := by simpa using ht
            exact (show Tryz.prog.wantsStandIn 4 = false by kernel_rfl)
          · simp at ht
/-- The statement. -/
theorem jK : Rows.ShelfPutsUptoCardSaid :=
  Claim7.holds_tied_plain_at .later [] [.data, .data, .data, .data, .pinned] true (true, Rows.shelfPutsUptoCard.stood.harness.2) false
    Vo (fun _ h => by cases h) (by as_aux_lemma => kernel_rfl) (fun _ h => by cases h) shelfPutsUpto_row_tie rfl ⟨rfl, rfl⟩ (by as_aux_lemma => kernel_rfl) rfl
    (fun f fn hf hfn => by
      obtain rfl : f = 3 := Option.some.inj ((show Tryz.prog.funcNamed "linchpin/linchpinlaw13.ShelfPuts" = some 3 by as_aux_lemma => kernel_rfl).symm.trans hf) |>.symm
      obtain rfl : fn = Tryz.f3 := (Option.some.inj (Tryz.func3.symm.trans hfn)).symm
      exact ⟨by as_aux_lemma => kernel_rfl, tE⟩)
    (by as_aux_lemma => kernel_rfl)
#print axioms jK
end Go.Proofs.YtofkjhnhafbfoaaGreatDoor.shelfPutsDone
