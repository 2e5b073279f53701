import Derived.Test.YtofkjhnhafbfoaaGreatDoorCards
import Derived.Test.YtofkjhnhafbfoaaGreatDoorTie
import Derived.Test.YtofkjhnhafbfoaaGreatDoorWFrameX
import Derived.Test.YtofkjhnhafbfoaaGreatDoorWShopRawOv
/- Rows.ShopRawUptoCardSaid is jK: where what it reads is of bulk at most 1048576 the law returns true and leaves its arguments as they were. Conditions: the listed variables hold what the program's text lays (tied by the card). -/
namespace Go.Proofs.YtofkjhnhafbfoaaGreatDoor.shopRawDone
open Go.ChangeShapes Go.WideShapes Go.ChangeAt Go.RowKit
open Go.ChangeMaps (open_string shut_string)
set_option linter.unusedVariables false
set_option linter.unusedSimpArgs false
theorem reads (os : Os) {H : Type} (enc : TypeId × Value → H) : ∃ places, DataW.whole enc Tryz.prog ((World.laidAll Tryz.prog os rk).forCall (fun _ _ => 0) ⟨#[], #[(.slice none 0 0 : Value), .slice none 0 0, .string ⟨#[]⟩], []⟩).memory Tryz.f7.params.toList Rows.shopRawSpec.vars false (#[(.slice none 0 0 : Value), .slice none 0 0, .string ⟨#[]⟩]).toList 12 = some ([.nil, .nil, .lit (.string [])], [], places) :=
  ⟨[], by kernel_rfl⟩
set_option maxRecDepth 100000 in
theorem bY (os : Os) (started : os.Started) (H : Type) (enc : TypeId × Value → H) (F : Stop.Interp) :
    ReturnsInHanded {} Tryz.checked os 7 .any ((Rows.OpenSpec.upto Rows.shopRawSpec).preRow enc Tryz.prog Tryz.f7 Rows.shopRawUptoRow.domain false Rows.shopRawUptoRow.laid) (((Rows.OpenSpec.upto Rows.shopRawSpec).at F).post enc Tryz.prog Tryz.f7 false true false false) := by
  obtain ⟨places, hx⟩ := reads os enc
  refine returnsInHanded_of_row (C := Tryz.checked) (s := Rows.OpenSpec.upto Rows.shopRawSpec) V3 started (by kernel_rfl) Tryz.func7
    (witnessU (enc := enc) #[(.slice none 0 0 : Value), .slice none 0 0, .string ⟨#[]⟩] (by kernel_rfl) (OpenSpec.preRow_of_cond 12 hx (by kernel_rfl) (fun k hk => by cases hk; kernel_rfl) (by kernel_rfl) (by
      rw [Go.MakeChecks.laidMetH_plain _ _ _ (by kernel_rfl)]
      exact lV os _))) ?_
  intro W base args ds gs before hval0 hW _ hcond _ hLH hsh _
  have hL : laidMet Tryz.prog rk W := by
    rw [Go.MakeChecks.laidMetH_plain _ _ _ (by kernel_rfl)] at hLH
    exact hLH
  have hk0 : Rows.uptoSmall H (ds ++ gs) = true := hcond _ rfl
  have hval : ∀ (j : Nat) t v, Tryz.f7.params[j]? = some t → args[j]? = some v → Value.okWide Tryz.prog W .any base t v := hval0
  have hW' := hW
  obtain ⟨p, q, hA0, hV, rfl, hfz, hnd⟩ := hW
  have hA : DataW.TrodAll enc Tryz.prog W 0 (fun _ => true) true Tryz.f7.params.toList args.toList ds p := hA0
  rw [Tryz.params7] at hA hval
  have hFirst := f9 hL hsh
  obtain ⟨v0, vs0, d0, ds0, p0, q0, hargs, rfl, rfl, h0, r0⟩ := trodAll_cons hA
  obtain ⟨v1, vs1, d1, ds1, p1, q1, rfl, rfl, rfl, h1, r1⟩ := trodAll_cons r0
  obtain ⟨v2, vs2, d2, ds2, p2, q2, rfl, rfl, rfl, h2, r2⟩ := trodAll_cons r1
  obtain ⟨rfl, rfl, rfl⟩ := trodAll_nil r2
  obtain rfl : args = #[v0, v1, v2] := by cases args; simp_all
  obtain ⟨rfl, rfl⟩ := trodVars_none hV
  have hbulk := of_decide_eq_true hk0
  simp only [List.append_nil] at hbulk
  obtain ⟨b0, hbulk⟩ := bulk_cons hbulk
  obtain ⟨b1, hbulk⟩ := bulk_cons hbulk
  obtain ⟨b2, hbulk⟩ := bulk_cons hbulk
  have k0 := h0
  have lt0 : ∀ x ∈ p0, x.block < W.heap.size := by obtain ⟨m, hm⟩ := k0; exact DataW.trod_lt m _ _ _ hm
  obtain ⟨A0, c0, s0, rfl, y0, z0, u0⟩ := shelves_readP (hval 0 54 v0 rfl rfl) h0 b0
  have k1 := h1
  have lt1 : ∀ x ∈ p1, x.block < W.heap.size := by obtain ⟨m, hm⟩ := k1; exact DataW.trod_lt m _ _ _ hm
  obtain ⟨A1, c1, s1, rfl, y1, z1, u1⟩ := pins_readP (hval 1 55 v1 rfl rfl) h1 b1
  obtain ⟨s2, rfl, rfl, rfl, m2⟩ := open_string Tryz.underlying9 (hval 2 9 v2 rfl rfl) h2
  have y2 := str_sizeP b2
  clear hA0 hval0
  simp only [List.append_nil] at hW'
  refine (walk_ShopRaw A0 c0 s0 A1 c1 s1 s2 W y0 z0 u0 y1 z1 u1 hFirst).mono fun e W' ⟨he, bel⟩ => ?_
  subst he
  exact ⟨_, rfl, _, _, _, [], _, [], hW', trodAll_mk1 (shut_bool Tryz.underlying4 _), (trodAll_cons_mk (Go.RowKit.Below.trod X2 (by kernel_rfl) (of_decide_eq_true (by kernel_rfl)) k0 bel lt0) (trodAll_cons_mk (Go.RowKit.Below.trod X2 (by kernel_rfl) (of_decide_eq_true (by kernel_rfl)) k1 bel lt1) (trodAll_cons_mk (shut_string Tryz.underlying9 m2) trodAll_mk0))), rfl, bel.frame _, fun h => by cases h⟩
set_option maxRecDepth 100000 in
theorem Vo : Rows.ShopRawUptoSaid :=
  OpenClaim.holds_of_cond 7 Tryz.f7 rfl rfl rfl rfl rfl rfl rfl ⟨rfl, rfl, rfl, rfl, rfl⟩ rfl rfl rfl rfl rfl (by kernel_rfl) Tryz.func7 Zb
    (of_decide_eq_true (by kernel_rfl)) (by unfold Func.isWrapper; first | (rw [if_pos (by decide +kernel)]; kernel_rfl) | (rw [if_neg (by decide +kernel)]; exact ⟨rfl, rfl⟩))
    (fun os started H enc _ F => by rw [OpenClaim.pre_eq_preRow]; exact bY os started H enc F)
theorem tE : ∀ (j : Nat) (t : TypeId), Tryz.f7.params[j]? = some t → Tryz.prog.wantsStandIn t = false := fun j t ht => by
  rw [Tryz.params7] at ht
  rcases j with _ | j
  · obtain rfl : 54 = t := by simpa using ht
    exact (show Tryz.prog.wantsStandIn 54 = false by kernel_rfl)
  · rcases j with _ | j
    · obtain rfl : 55 = t := by simpa using ht
      exact (show Tryz.prog.wantsStandIn 55 = false by kernel_rfl)
    · rcases j with _ | j
      · obtain rfl : 9 = t := by simpa using ht
        exact (show Tryz.prog.wantsStandIn 9 = false by kernel_rfl)
      · simp at ht
/-- The statement. -/
theorem jK : Rows.ShopRawUptoCardSaid :=
  Claim7.holds_tied_plain_at .later [] [.data, .data, .data, .data, .pinned] true (true, Rows.shopRawUptoCard.stood.harness.2) false
    Vo (fun _ h => by cases h) (by as_aux_lemma => kernel_rfl) (fun _ h => by cases h) shopRawUpto_row_tie rfl ⟨rfl, rfl⟩ (by as_aux_lemma => kernel_rfl) rfl
    (fun f fn hf hfn => by
      obtain rfl : f = 7 := Option.some.inj ((show Tryz.prog.funcNamed "linchpin/linchpinlaw15.ShopRaw" = some 7 by as_aux_lemma => kernel_rfl).symm.trans hf) |>.symm
      obtain rfl : fn = Tryz.f7 := (Option.some.inj (Tryz.func7.symm.trans hfn)).symm
      exact ⟨by as_aux_lemma => kernel_rfl, tE⟩)
    (by as_aux_lemma => kernel_rfl)
#print axioms jK
end Go.Proofs.YtofkjhnhafbfoaaGreatDoor.shopRawDone
