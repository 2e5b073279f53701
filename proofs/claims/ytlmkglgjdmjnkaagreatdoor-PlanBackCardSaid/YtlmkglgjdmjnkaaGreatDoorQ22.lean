/- Parts 22 of the proofs. -/
import Derived.Test.YtlmkglgjdmjnkaaGreatDoorQ21
import Derived.Stop.RegionWithIn
import Derived.Sort.CutIn
namespace Go.Proofs.YtlmkglgjdmjnkaaGreatDoor
open Go.RowKit Go.Lib
open Rw
set_option linter.unusedVariables false
set_option linter.unusedSimpArgs false
section
variable {F : Fence} {n : Nat} {P : Program} {ops : Array Oper} {Q : Exit → Act → World → Prop}
def noDefer (ops : Array Oper) : Bool := ops.all fun o => match o.op with
  | .defer _ => false
  | _ => true
theorem noDefer_spec (h : noDefer ops = true) {i : Nat} {o : Oper} (ho : ops[i]? = some o) : ∀ c, o.op ≠ .defer c := by
  intro c e
  unfold noDefer at h
  rw [Array.all_eq_true_iff_forall_mem] at h
  obtain ⟨hi, rfl⟩ := Array.getElem?_eq_some_iff.1 ho
  have := h ops[i] (Array.getElem_mem hi)
  rw [e] at this
  cases this
structure WideF (F : Fence) : Prop where
  fn : ∀ f, F.fn f
  depth : F.depth = none
  calls : ∀ {n : Nat} {P : Program} {f : FuncId} {args : Array Value} {w : World} {R : Ending → World → Prop}, Calls P f args w R → CallsIn F n P f args w R
  rows : ∀ {n : Nat} {P : Program} {row : String} {args : Array Value} {w : World} {R : Value → World → Prop}, Rows P row args w R → RowsIn F n P row args w R
theorem rowsIn_wide {n : Nat} {P : Program} {row : String} {args : Array Value} {w : World} {R : Value → World → Prop} (h : Rows P row args w R) : RowsIn Fence.wide n P row args w R := fun c cs _ => let ⟨v, w', r, s⟩ := h c cs; ⟨v, w', r, stepsIn_wide.2 s⟩
theorem wide_round (l : Nat) : WideF (Fence.wide.inRound l) := ⟨fun _ => trivial, rfl, fun h => callsIn_wide.2 h, fun h => rowsIn_wide h⟩
theorem opsIn_of (hF : WideF F) (hd : noDefer ops = true) (hno : ¬ LetsOut Q) : ∀ (l : List Nat) (a : Act) (w : World), wpOps P ops Q l a w → wpOpsIn F n P ops Q l a w
  | [], _, _, h => h
  | i :: rest, a, w, h => by
    unfold wpOps at h
    unfold wpOpsIn
    cases ho : ops[i]? with
    | none =>
      rw [ho] at h
      exact opsIn_of hF hd hno rest a w h
    | some o =>
      rw [ho] at h
      dsimp only at h ⊢
      by_cases hw : Region.wanted o (yielded ops a.tmps) = true
      · rw [if_pos hw] at h ⊢
        rcases h with h | ⟨_, h⟩
        · have h := Oper.wp_mono (fun a' w' hh => opsIn_of hF hd hno rest a' w' hh) h
          refine ⟨fun f _ => hF.fn f, ?_⟩
          rw [Oper.semAt_eq _ _ _ (noDefer_spec hd ho)]
          unfold Oper.wp at h
          generalize (execOp a.eval o).run P w = r at *
          cases r with
          | ok x w' =>
            cases x <;> simp only [Oper.upon, Oper.uponIn] at h ⊢ <;> first
              | exact h
              | exact ⟨fun hh => (by rw [hF.depth] at hh; cases hh), hF.calls h⟩
              | exact ⟨fun hh => (by rw [hF.depth] at hh; cases hh), hF.rows h⟩
          | halt x w' => cases x <;> simp only [Oper.upon, Oper.uponIn] at h ⊢ <;> exact h
        · exact absurd h hno
      · rw [if_neg hw] at h ⊢
        exact ⟨fun f _ => hF.fn f, opsIn_of hF hd hno rest _ w h⟩
theorem wpIn_planS (hF : WideF F) (S : World → Prop) (p : Plan) {id : Nat} {a : Act} {w : World} (hno : ¬ LetsOut Q) (h0 : S w.drew) (hm : P.follows .mixedOrders = true)
    (hQ : ∀ c a d v w, Q (.panic c) (Act.put a d v) w → Q (.panic c) a w) (hP : (noDefer ops && (Region.noSelect ops && planOk .any ops p (Array.replicate ops.size false) && decide (planSize p ≤ ops.size))) = true)
    (h : wpPlan P ops (fun _ u => ∃ z : SW S, u = z.v) Q p w a w.drew) : (Code.region id ops true).wpIn F n P Q a w := by
  simp only [Bool.and_eq_true, decide_eq_true_eq] at hP
  refine wpIn_region_draw fun t => opsIn_of hF hP.1 hno _ _ _ ?_
  simp only [Region.schedule, hm, Bool.true_or, if_true]
  exact wpAny_sound _ _ _ _ _ (wpAny_of_held _ _ _ _ (anyH_plan (C := fun _ u => ∃ z : SW S, u = z.v) (fun _ _ _ _ k => k) (fun _ _ h => h) hP.2.1.1 hQ p w _ a _ ops.size hP.2.1.2 hP.2.2 ⟨⟨_, h0⟩, rfl⟩ h))
theorem wide_fn (f : FuncId) : Fence.wide.fn f = True := rfl
theorem wide_depth : Fence.wide.depth = none := rfl
theorem wpIn_name {c : Code} {a : Act} {w : World} (h : ∀ w', w' = w → c.wpIn F n P Q a w') : c.wpIn F n P Q a w := h w rfl
end
attribute [local go_sem] wide_fn wide_depth
def maskT (nc : Nat) : Int := bits .andNot .i64 (((2 ^ (nc + 1) : Nat) : Int) - 1) 1
theorem mask_bits : ∀ nc : Fin 17, ∀ k : Fin 17, (bits .and .i64 (maskT nc.val) ((2 ^ k.val : Nat) : Int) != 0) = (decide (1 ≤ k.val) && decide (k.val ≤ nc.val)) := by decide +kernel
theorem mask_bit (nc k : Nat) (h1 : nc ≤ 16) (h2 : k ≤ 16) : (bits .and .i64 (maskT nc) ((2 ^ k : Nat) : Int) != 0) = (decide (1 ≤ k) && decide (k ≤ nc)) := mask_bits ⟨nc, by omega⟩ ⟨k, by omega⟩
theorem grown_drewJ (w : World) (row : Option Nat) : w.grownBy w.drew row := ⟨rfl, rfl, rfl, Nat.le_refl _, fun _ _ _ => rfl⟩
def KpM (Bm : Nat) (A B : World) : Prop := B.cell? ⟨Bm, 0, none⟩ = A.cell? ⟨Bm, 0, none⟩
theorem fr_take {n j : Nat} (h : j < n) : (List.finRange n).take (j + 1) = (List.finRange n).take j ++ [⟨j, h⟩] := by
  rw [List.take_succ_eq_append_getElem (by simpa using h)]
  simp
set_option maxRecDepth 100000 in
set_option maxHeartbeats 4000000 in
theorem teach_stops (nc : Nat) (h16 : nc ≤ 16) (Bm : Nat) (w : World) (hm : w.cell? ⟨Bm, 0, none⟩ = some (.int .i64 (maskT nc))) (n : Nat) : SeqStopsK Fence.wide n Tryz.prog 146 #[.pointer (some ⟨Bm, 0, none⟩)] (fun x : Fin nc => #[.int .i64 (x.val : Int)]) (KpM Bm) (fun xs => xs = List.finRange nc) (fun _ => True) nc w := by
  intro l J Jx W hW hJ hJx hY h0
  have hmW : W.cell? ⟨Bm, 0, none⟩ = some (.int .i64 (maskT nc)) := (hW.cell (p := ⟨Bm, 0, none⟩) (cell_lt hm)).trans hm
  have HY := hid hY
  have HJ := hid hJ
  clear hW hm hY hJ hJx
  refine callsIn_of_wp Tryz.func146 rfl trivial ?_ rfl
  simp only [Tryz.ntmps146, List.size_toArray, List.length_cons, List.length_nil, Nat.reduceAdd, Nat.reduceSub, Array.replicate_succ, Array.replicate_zero, List.push_toArray, List.append_toArray, List.nil_append, List.cons_append]
  gi_wp2
  gi_loopw [3] (fun iv wr => ∃ (k : Nat) (z : Int), iv = .int .i64 z ∧ z + 1 = (k : Int) ∧ k ≤ 17 ∧ Hid (J ((List.finRange nc).take (k - 1)) wr) ∧ Hid (wr.cell? ⟨Bm, 0, none⟩ = some (.int .i64 (maskT nc)))) (fun iv _ => 17 - (intOf iv + 1).toNat)
  case atStart => exact ⟨0, -1, rfl, rfl, by omega, hid h0, hid hmW⟩
  case round =>
    clear h0 hmW
    rename World => wr
    obtain ⟨k, z, rfl, hz, hk, HJS, HC⟩ := hrel
    have hcd : wr.drew.cell? ⟨Bm, 0, none⟩ = some (.int .i64 (maskT nc)) := HC.out
    have hJd := HJ.out _ wr wr.drew none HJS.out (grown_drewJ _ _) (fun r e => by cases e)
    by_cases hlt : k ≤ 16
    · have z1 : z < 16 := by omega
      have z0 : -1 ≤ z := by omega
      have HB := hid (fun v => tbit_int z z0 (by omega) v)
      have hzk : (z + 1).toNat = k := by omega
      rw [hzk] at HB
      have hmb := mask_bit nc k h16 hlt
      by_cases g : 1 ≤ k ∧ k ≤ nc
      · obtain ⟨j, rfl⟩ : ∃ j, k = j + 1 := ⟨k - 1, by omega⟩
        obtain rfl : z = (j : Int) := by omega
        have hj : j < nc := by omega
        rw [decide_eq_true g.1, decide_eq_true g.2, Bool.and_true, bne_iff_ne] at hmb
        obtain ⟨bv, hbv⟩ : ∃ b : Int, ((2 ^ (j + 1) : Nat) : Int) = b := ⟨_, rfl⟩
        rw [hbv] at hmb HB
        have HMB := hid hmb
        clear hbv
        rw [Nat.add_sub_cancel] at hJd
        obtain ⟨fn, tmps, assign, body, hy, hR⟩ := HY.out _ ⟨j, hj⟩ _ hJd (by rw [List.length_take]; omega)
        dsimp only at hy hR
        have HR := hid (show RoundIn Fence.wide (n - 1) Tryz.prog l fn tmps assign body wr.drew (fun e W' => ∃ b, e = .returned (.bool b) ∧ (b = true → J ((List.finRange nc).take (j + 1)) W' ∧ W'.cell? ⟨Bm, 0, none⟩ = some (.int .i64 (maskT nc))) ∧ (b = false → Jx ((List.finRange nc).take j ++ [⟨j, hj⟩]) W')) from hR.mono (by
          rintro e W3 (⟨rfl, hJ3, hk3⟩ | ⟨rfl, hJx3⟩)
          · exact ⟨true, rfl, fun _ => ⟨by rw [fr_take hj]; exact hJ3, hk3.trans hcd⟩, fun h => (by cases h)⟩
          · exact ⟨false, rfl, fun h => (by cases h), fun _ => hJx3⟩))
        have j0 : (0 : Int) ≤ (j : Int) := by omega
        have j16 : (j : Int) < 16 := by omega
        have HZ := hid hz
        clear hR hJd hmb hz z1 z0 hzk g
        have hcw := HC.out
        gi_wp2_with fail
        refine wpIn_region_any (by kernel_rfl) ?_
        change wpAnyIn _ _ _ _ _ _ _ _ _ (World.drew _)
        refine wpAnyIn_take (i := 1) (v := .int .i64 (j : Int)) rfl rfl (by kernel_rfl) (by kernel_rfl) (by kernel_rfl) (fun _ _ _ h => h) ⟨Or.inl ⟨by rfl, by intro w; go_simp⟩, fun _ => rfl⟩ ?_
        refine wpAnyIn_ready (rs := [0, 2]) (by kernel_rfl) (by simp) ?_
        refine AllReadyIn.cons rfl (fun K hK => ?_) (AllReadyIn.cons rfl (fun K hK => ?_) AllReadyIn.nil)
        · go_simp
          refine hK _ _ ?_
          clear hK K
          refine wpAnyIn_ready (rs := [2]) (by kernel_rfl) (by simp) ?_
          refine AllReadyIn.cons rfl (fun K hK => ?_) AllReadyIn.nil
          go_simp
          first | (refine ⟨trivial, (fun h => by cases h), ?_⟩) | skip
          refine (callsIn_wide.2 (HB.out _)).mono ?_
          rintro _ _ ⟨rfl, rfl⟩
          refine hK _ _ ?_
          clear hK K
          refine wpAnyIn_take (i := 3) (v := .int .i64 (bits .and .i64 (maskT nc) bv)) rfl rfl (by kernel_rfl) (by kernel_rfl) (by kernel_rfl) (fun _ _ _ h => h) ⟨Or.inl ⟨by rfl, by intro w; go_simp⟩, fun _ => rfl⟩ ?_
          refine wpAnyIn_take (i := 4) (v := .bool true) rfl rfl (by kernel_rfl) (by kernel_rfl) (by kernel_rfl) (fun _ _ _ h => h) ⟨Or.inl ⟨by rfl, by intro w; go_simp; exact HMB.out⟩, fun _ => rfl⟩ ?_
          refine wpAnyIn_take (i := 5) (v := .bool true) rfl rfl (by kernel_rfl) (by kernel_rfl) (by kernel_rfl) (fun _ _ _ h => h) ⟨Or.inl ⟨by rfl, by intro w; go_simp⟩, fun _ => rfl⟩ ?_
          refine wpAnyIn_take (i := 6) (v := .func (.yield l) #[] #[]) rfl rfl (by kernel_rfl) (by kernel_rfl) (by kernel_rfl) (fun _ _ _ h => h) ⟨Or.inl ⟨by rfl, by intro w; go_simp⟩, fun _ => rfl⟩ ?_
          refine wpAnyIn_take (i := 7) (v := .int .i64 (j : Int)) rfl rfl (by kernel_rfl) (by kernel_rfl) (by kernel_rfl) (fun _ _ _ h => h) ⟨Or.inl ⟨by rfl, by intro w; go_simp⟩, fun _ => rfl⟩ ?_
          refine wpAnyIn_ready (rs := [8]) (by kernel_rfl) (by simp) ?_
          refine AllReadyIn.cons rfl (fun K hK => ?_) AllReadyIn.nil
          go_simp
          first | (refine ⟨(fun h => by cases h), ?_⟩; refine HR.out.mono ?_) | (refine ⟨trivial, (fun h => by cases h), ?_⟩; refine HR.out.mono ?_) | (refine HR.out.mono ?_)
          rintro _ W3 ⟨b, rfl, hbt, hbf⟩
          refine hK _ _ ?_
          clear hK K
          refine wpAnyIn_take (i := 9) (v := .bool (!b)) rfl rfl (by kernel_rfl) (by kernel_rfl) (by kernel_rfl) (fun _ _ _ h => h) ⟨Or.inl ⟨by rfl, by intro w; go_simp⟩, fun _ => rfl⟩ ?_
          refine wpAnyIn_take (i := 10) (v := .bool (!b)) rfl rfl (by kernel_rfl) (by kernel_rfl) (by kernel_rfl) (fun _ _ _ h => h) ⟨Or.inl ⟨by rfl, by intro w; go_simp⟩, fun _ => rfl⟩ ?_
          refine wpAnyIn_done (by kernel_rfl) ?_ _
          cases b with
          | true =>
            obtain ⟨hJ3, hc3⟩ := hbt rfl
            gi_wp2
            go_roundw
            case rel => exact ⟨j + 1 + 1, _, rfl, by omega, by omega, hid (by rw [Nat.add_sub_cancel]; exact hJ3), hid hc3⟩
            case measure => simp [intOf] <;> omega
          | false =>
            gi_wp2
            refine bodyPost_ret (results_none rfl _ _ _) rfl ?_
            exact ⟨⟨_, rfl⟩, .inr ⟨_, hbf (by trivial)⟩⟩
        · go_simp
          first | (refine ⟨trivial, (fun h => by cases h), ?_⟩) | skip
          refine (callsIn_wide.2 (HB.out _)).mono ?_
          rintro _ _ ⟨rfl, rfl⟩
          refine hK _ _ ?_
          clear hK K
          refine wpAnyIn_ready (rs := [0]) (by kernel_rfl) (by simp) ?_
          refine AllReadyIn.cons rfl (fun K hK => ?_) AllReadyIn.nil
          go_simp
          refine hK _ _ ?_
          clear hK K
          refine wpAnyIn_take (i := 3) (v := .int .i64 (bits .and .i64 (maskT nc) bv)) rfl rfl (by kernel_rfl) (by kernel_rfl) (by kernel_rfl) (fun _ _ _ h => h) ⟨Or.inl ⟨by rfl, by intro w; go_simp⟩, fun _ => rfl⟩ ?_
          refine wpAnyIn_take (i := 4) (v := .bool true) rfl rfl (by kernel_rfl) (by kernel_rfl) (by kernel_rfl) (fun _ _ _ h => h) ⟨Or.inl ⟨by rfl, by intro w; go_simp; exact HMB.out⟩, fun _ => rfl⟩ ?_
          refine wpAnyIn_take (i := 5) (v := .bool true) rfl rfl (by kernel_rfl) (by kernel_rfl) (by kernel_rfl) (fun _ _ _ h => h) ⟨Or.inl ⟨by rfl, by intro w; go_simp⟩, fun _ => rfl⟩ ?_
          refine wpAnyIn_take (i := 6) (v := .func (.yield l) #[] #[]) rfl rfl (by kernel_rfl) (by kernel_rfl) (by kernel_rfl) (fun _ _ _ h => h) ⟨Or.inl ⟨by rfl, by intro w; go_simp⟩, fun _ => rfl⟩ ?_
          refine wpAnyIn_take (i := 7) (v := .int .i64 (j : Int)) rfl rfl (by kernel_rfl) (by kernel_rfl) (by kernel_rfl) (fun _ _ _ h => h) ⟨Or.inl ⟨by rfl, by intro w; go_simp⟩, fun _ => rfl⟩ ?_
          refine wpAnyIn_ready (rs := [8]) (by kernel_rfl) (by simp) ?_
          refine AllReadyIn.cons rfl (fun K hK => ?_) AllReadyIn.nil
          go_simp
          first | (refine ⟨(fun h => by cases h), ?_⟩; refine HR.out.mono ?_) | (refine ⟨trivial, (fun h => by cases h), ?_⟩; refine HR.out.mono ?_) | (refine HR.out.mono ?_)
          rintro _ W3 ⟨b, rfl, hbt, hbf⟩
          refine hK _ _ ?_
          clear hK K
          refine wpAnyIn_take (i := 9) (v := .bool (!b)) rfl rfl (by kernel_rfl) (by kernel_rfl) (by kernel_rfl) (fun _ _ _ h => h) ⟨Or.inl ⟨by rfl, by intro w; go_simp⟩, fun _ => rfl⟩ ?_
          refine wpAnyIn_take (i := 10) (v := .bool (!b)) rfl rfl (by kernel_rfl) (by kernel_rfl) (by kernel_rfl) (fun _ _ _ h => h) ⟨Or.inl ⟨by rfl, by intro w; go_simp⟩, fun _ => rfl⟩ ?_
          refine wpAnyIn_done (by kernel_rfl) ?_ _
          cases b with
          | true =>
            obtain ⟨hJ3, hc3⟩ := hbt rfl
            gi_wp2
            go_roundw
            case rel => exact ⟨j + 1 + 1, _, rfl, by omega, by omega, hid (by rw [Nat.add_sub_cancel]; exact hJ3), hid hc3⟩
            case measure => simp [intOf] <;> omega
          | false =>
            gi_wp2
            refine bodyPost_ret (results_none rfl _ _ _) rfl ?_
            exact ⟨⟨_, rfl⟩, .inr ⟨_, hbf (by trivial)⟩⟩
      · have hmf : (decide (1 ≤ k) && decide (k ≤ nc)) = false := by simp only [Bool.and_eq_false_iff, decide_eq_false_iff_not]; omega
        rw [hmf, bne_eq_false_iff_eq] at hmb
        obtain ⟨bv, hbv⟩ : ∃ b : Int, ((2 ^ k : Nat) : Int) = b := ⟨_, rfl⟩
        rw [hbv] at hmb HB
        have HMB := hid hmb
        clear hbv
        have hnx : (List.finRange nc).take (k + 1 - 1) = (List.finRange nc).take (k - 1) := by
          by_cases h1 : k = 0
          · subst h1; rfl
          · rw [List.take_of_length_le (by simp; omega), List.take_of_length_le (by simp; omega)]
        have HJD := hid (show J ((List.finRange nc).take (k + 1 - 1)) wr.drew from by rw [hnx]; exact hJd)
        have HZ := hid hz
        clear hmb hJd hmf hnx hz hzk g
        have hcw := HC.out
        gi_wp2_with fail
        refine wpIn_region_any (by kernel_rfl) ?_
        change wpAnyIn _ _ _ _ _ _ _ _ _ (World.drew _)
        refine wpAnyIn_take (i := 1) (v := .int .i64 z) rfl rfl (by kernel_rfl) (by kernel_rfl) (by kernel_rfl) (fun _ _ _ h => h) ⟨Or.inl ⟨by rfl, by intro w; go_simp⟩, fun _ => rfl⟩ ?_
        refine wpAnyIn_ready (rs := [0, 2]) (by kernel_rfl) (by simp) ?_
        refine AllReadyIn.cons rfl (fun K hK => ?_) (AllReadyIn.cons rfl (fun K hK => ?_) AllReadyIn.nil)
        · go_simp
          refine hK _ _ ?_
          clear hK K
          refine wpAnyIn_ready (rs := [2]) (by kernel_rfl) (by simp) ?_
          refine AllReadyIn.cons rfl (fun K hK => ?_) AllReadyIn.nil
          go_simp
          first | (refine ⟨trivial, (fun h => by cases h), ?_⟩) | skip
          refine (callsIn_wide.2 (HB.out _)).mono ?_
          rintro _ _ ⟨rfl, rfl⟩
          refine hK _ _ ?_
          clear hK K
          refine wpAnyIn_take (i := 3) (v := .int .i64 (bits .and .i64 (maskT nc) bv)) rfl rfl (by kernel_rfl) (by kernel_rfl) (by kernel_rfl) (fun _ _ _ h => h) ⟨Or.inl ⟨by rfl, by intro w; go_simp⟩, fun _ => rfl⟩ ?_
          refine wpAnyIn_take (i := 4) (v := .bool false) rfl rfl (by kernel_rfl) (by kernel_rfl) (by kernel_rfl) (fun _ _ _ h => h) ⟨Or.inl ⟨by rfl, by intro w; go_simp; exact HMB.out⟩, fun _ => rfl⟩ ?_
          refine wpAnyIn_take (i := 5) (v := .bool false) rfl rfl (by kernel_rfl) (by kernel_rfl) (by kernel_rfl) (fun _ _ _ h => h) ⟨Or.inl ⟨by rfl, by intro w; go_simp⟩, fun _ => rfl⟩ ?_
          refine wpAnyIn_take (i := 6) (v := undef) rfl rfl (by kernel_rfl) (by kernel_rfl) (by kernel_rfl) (fun _ _ _ h => h) ⟨Or.inr ⟨by kernel_rfl, rfl⟩, fun _ => rfl⟩ ?_
          refine wpAnyIn_take (i := 7) (v := undef) rfl rfl (by kernel_rfl) (by kernel_rfl) (by kernel_rfl) (fun _ _ _ h => h) ⟨Or.inr ⟨by kernel_rfl, rfl⟩, fun _ => rfl⟩ ?_
          refine wpAnyIn_take (i := 8) (v := undef) rfl rfl (by kernel_rfl) (by kernel_rfl) (by kernel_rfl) (fun _ _ _ h => h) ⟨Or.inr ⟨by kernel_rfl, rfl⟩, fun _ => rfl⟩ ?_
          refine wpAnyIn_take (i := 9) (v := undef) rfl rfl (by kernel_rfl) (by kernel_rfl) (by kernel_rfl) (fun _ _ _ h => h) ⟨Or.inr ⟨by kernel_rfl, rfl⟩, fun _ => rfl⟩ ?_
          refine wpAnyIn_take (i := 10) (v := .bool false) rfl rfl (by kernel_rfl) (by kernel_rfl) (by kernel_rfl) (fun _ _ _ h => h) ⟨Or.inl ⟨by rfl, by intro w; go_simp⟩, fun _ => rfl⟩ ?_
          refine wpAnyIn_done (by kernel_rfl) ?_ _
          go_simp
          gi_wp2
          go_roundw
          case rel => exact ⟨k + 1, _, rfl, by have := HZ.out; omega, by omega, HJD, hid hcd⟩
          case measure => have := HZ.out; simp [intOf] <;> omega
        · go_simp
          first | (refine ⟨trivial, (fun h => by cases h), ?_⟩) | skip
          refine (callsIn_wide.2 (HB.out _)).mono ?_
          rintro _ _ ⟨rfl, rfl⟩
          refine hK _ _ ?_
          clear hK K
          refine wpAnyIn_ready (rs := [0]) (by kernel_rfl) (by simp) ?_
          refine AllReadyIn.cons rfl (fun K hK => ?_) AllReadyIn.nil
          go_simp
          refine hK _ _ ?_
          clear hK K
          refine wpAnyIn_take (i := 3) (v := .int .i64 (bits .and .i64 (maskT nc) bv)) rfl rfl (by kernel_rfl) (by kernel_rfl) (by kernel_rfl) (fun _ _ _ h => h) ⟨Or.inl ⟨by rfl, by intro w; go_simp⟩, fun _ => rfl⟩ ?_
          refine wpAnyIn_take (i := 4) (v := .bool false) rfl rfl (by kernel_rfl) (by kernel_rfl) (by kernel_rfl) (fun _ _ _ h => h) ⟨Or.inl ⟨by rfl, by intro w; go_simp; exact HMB.out⟩, fun _ => rfl⟩ ?_
          refine wpAnyIn_take (i := 5) (v := .bool false) rfl rfl (by kernel_rfl) (by kernel_rfl) (by kernel_rfl) (fun _ _ _ h => h) ⟨Or.inl ⟨by rfl, by intro w; go_simp⟩, fun _ => rfl⟩ ?_
          refine wpAnyIn_take (i := 6) (v := undef) rfl rfl (by kernel_rfl) (by kernel_rfl) (by kernel_rfl) (fun _ _ _ h => h) ⟨Or.inr ⟨by kernel_rfl, rfl⟩, fun _ => rfl⟩ ?_
          refine wpAnyIn_take (i := 7) (v := undef) rfl rfl (by kernel_rfl) (by kernel_rfl) (by kernel_rfl) (fun _ _ _ h => h) ⟨Or.inr ⟨by kernel_rfl, rfl⟩, fun _ => rfl⟩ ?_
          refine wpAnyIn_take (i := 8) (v := undef) rfl rfl (by kernel_rfl) (by kernel_rfl) (by kernel_rfl) (fun _ _ _ h => h) ⟨Or.inr ⟨by kernel_rfl, rfl⟩, fun _ => rfl⟩ ?_
          refine wpAnyIn_take (i := 9) (v := undef) rfl rfl (by kernel_rfl) (by kernel_rfl) (by kernel_rfl) (fun _ _ _ h => h) ⟨Or.inr ⟨by kernel_rfl, rfl⟩, fun _ => rfl⟩ ?_
          refine wpAnyIn_take (i := 10) (v := .bool false) rfl rfl (by kernel_rfl) (by kernel_rfl) (by kernel_rfl) (fun _ _ _ h => h) ⟨Or.inl ⟨by rfl, by intro w; go_simp⟩, fun _ => rfl⟩ ?_
          refine wpAnyIn_done (by kernel_rfl) ?_ _
          go_simp
          gi_wp2
          go_roundw
          case rel => exact ⟨k + 1, _, rfl, by have := HZ.out; omega, by omega, HJD, hid hcd⟩
          case measure => have := HZ.out; simp [intOf] <;> omega
    · obtain rfl : k = 17 := by omega
      obtain rfl : z = 16 := by omega
      have HJ2 := hid (show J (List.finRange nc) wr from by
        have h := HJS.out
        rwa [List.take_of_length_le (by simp; omega)] at h)
      gi_wp2
      go_end0
      exact ⟨⟨_, rfl⟩, .inl ⟨_, rfl, HJ2.out⟩⟩
end Go.Proofs.YtlmkglgjdmjnkaaGreatDoor
namespace Go.Proofs.YtlmkglgjdmjnkaaGreatDoor
open Go.RowKit Go.Lib
open Rw
set_option linter.unusedVariables false
set_option linter.unusedSimpArgs false

attribute [local go_sem] Oper.semAt_some wide_fn wide_depth
def foldM (x : WantP) (cs : List CandP) (l : List (Fin cs.length)) : Int := l.foldl (fun r p => if hasS x.fin x.pre cs[p].v then bits .or .i64 r ((2 ^ (p.val + 1) : Nat) : Int) else r) 0
def metT (us : List UnitP) (x : WantP) : Int := match us[x.unit.toNat]? with
  | some y => foldM x y.cands (List.finRange y.cands.length)
  | none => 0
theorem foldM_snoc (x : WantP) (cs : List CandP) (l : List (Fin cs.length)) (p : Fin cs.length) : foldM x cs (l ++ [p]) = if hasS x.fin x.pre cs[p].v then bits .or .i64 (foldM x cs l) ((2 ^ (p.val + 1) : Nat) : Int) else foldM x cs l := by
  unfold foldM
  rw [List.foldl_append]
  rfl
set_option maxRecDepth 100000 in
set_option maxHeartbeats 8000000 in
theorem tmet_any (U : Option Addr) (uc : Nat) (us : List UnitP) (x : WantP) (w : World) (hF : First w) (hU : UnitsAt w U us) (hx : WantIs w x) (hu0 : 0 ≤ x.unit) (hu1 : x.unit < (us.length : Int)) (hc : ∀ y ∈ us, y.cands.length ≤ 16) : Calls Tryz.prog 79 #[.agg #[.slice U us.length uc], .agg #[.int .i64 x.unit, .slice x.A x.fin.length x.c, .slice x.B x.pre.length x.d]] w (IntK w (metT us x)) := by
  have eg : ∀ args w, (callFunc 146 args).run Tryz.prog w = .ok (.enter 146 args) w := enters_of Tryz.func146 (by kernel_rfl) rfl
  obtain ⟨q, hq⟩ := Int.eq_ofNat_of_zero_le hu0
  have hql : q < us.length := by omega
  have hmet : metT us x = foldM x us[q].cands (List.finRange us[q].cands.length) := by unfold metT; rw [hq, Int.toNat_natCast, List.getElem?_eq_getElem hql]
  have hcl := hc us[q] (List.getElem_mem hql)
  obtain ⟨bu, ou, hUu, hui, hbu, -, -, cu⟩ := unit_at hU hql
  have hft : fullT us (q : Int) = ((2 ^ (us[q].cands.length + 1) : Nat) : Int) - 1 := by unfold fullT; rw [Int.toNat_natCast, List.getElem?_eq_getElem hql]; dsimp only; rw [if_pos (by omega)]
  obtain ⟨w1, hw1⟩ : ∃ w1, (w.alloc (.cells #[.slice U us.length uc] 42)).alloc (.cells #[.int .i64 x.unit, .slice x.A x.fin.length x.c, .slice x.B x.pre.length x.d] 89) = w1 := ⟨_, rfl⟩
  have HK1 := hid (show KB w.heap.size w w1 from by rw [← hw1]; exact kb_tr (kb_new _ _) (kb_new _ _))
  have HX1 := hid (show Box w1 w.heap.size [.slice U us.length uc] from by rw [← hw1]; exact (Box.new w [.slice U us.length uc] 42).kb (kb_new _ _))
  have HX2 := hid (show Box w1 (w.heap.size + 1) [.int .i64 x.unit, .slice x.A x.fin.length x.c, .slice x.B x.pre.length x.d] from by rw [← hw1]; have h := Box.new (w.alloc (.cells #[.slice U us.length uc] 42)) [.int .i64 x.unit, .slice x.A x.fin.length x.c, .slice x.B x.pre.length x.d] 89; rwa [World.size_alloc] at h)
  have HW1 := hid hw1
  have HS1 := hid (show w1.heap.size = w.heap.size + 1 + 1 from by rw [← hw1]; simp)
  have HFULL := hid (fun u (hb : KB w1.heap.size w1 u) => tfull_any U uc us (q : Int) u (hU.kb (kb_tr HK1.out hb)) (fun y hy => by have := hc y hy; omega))
  rw [hft] at HFULL
  obtain ⟨fv, hfv⟩ : ∃ v : Int, ((2 ^ (us[q].cands.length + 1) : Nat) : Int) - 1 = v := ⟨_, rfl⟩
  have HMK := hid (show maskT us[q].cands.length = bits .andNot .i64 fv 1 from by rw [← hfv]; rfl)
  rw [hfv] at HFULL
  clear hfv
  have HHAS := hid (fun (k : Nat) (hk : k < us[q].cands.length) u (hb : KB w1.heap.size w1 u) => shas_any x.A x.B x.c x.d x.fin x.pre us[q].cands[k].v u (hF.kb (kb_tr HK1.out hb)) (hx.s1.kb (kb_tr HK1.out hb)) (hx.s2.kb (kb_tr HK1.out hb)) hx.f1 hx.f2 (by have := hx.n1; omega) (by have := hx.n2; omega) (hui.cands.sub _ (List.getElem_mem hk)).v)
  have HCA := hid (fun (k : Nat) (hk : k < us[q].cands.length) => cand_val (hui.cands) hk)
  have HMET := hid hmet
  have HCU := hid (And.intro hbu cu)
  clear hmet hui hft hw1 hbu cu hF hU hx hc
  rw [HMET.out]
  clear HMET
  generalize us[q] = y at *
  obtain ⟨yn, yf, cs, yA, yd⟩ := y
  dsimp only at HHAS HCA HCU HMK hcl ⊢
  have HFS := hid (fun l p => foldM_snoc x cs l p)
  have HF0 := hid (show foldM x cs [] = 0 from rfl)
  generalize foldM x cs = fm at *
  obtain ⟨xu, xf, xp, xA, xc, xB, xd⟩ := x
  dsimp only at hq hu0 hu1 HX2 HHAS HFS HW1 ⊢
  subst hq
  subst hUu
  generalize us.length = m at *
  refine (callsIn_wide (n := 9)).1 (callsIn_of_wp_marks Tryz.func79 rfl trivial ?_ rfl)
  simp only [Tryz.ntmps79, List.size_toArray, List.length_cons, List.length_nil, Nat.reduceAdd, Nat.reduceSub, Array.replicate_succ, Array.replicate_zero, List.push_toArray, List.append_toArray, List.nil_append, List.cons_append]
  gi_upto_region 1 with fail
  refine wpIn_name ?_
  intro u hu
  rw [hu.trans HW1.out]
  clear hu
  gi_upto_region 2 with fail
  refine wpIn_name ?_
  intro u2 hu2
  have HBm := hid (show Boxed u2 w1.heap.size 3 (.int .i64 0) from by rw [hu2]; exact Boxed.new w1 3 (.int .i64 0))
  have HK2 := hid (show KB w1.heap.size w1 u2 from by rw [hu2]; exact kb_new _ _)
  clear hu2
  have x0 := (HX1.out.kb HK2.out).2 0 _ rfl
  have xl := (HX1.out.kb HK2.out).1
  have y0 := (HX2.out.kb HK2.out).2 0 _ rfl
  have yl := (HX2.out.kb HK2.out).1
  gi_wp2_with fail
  refine (callsIn_wide.2 (HFULL.out u2 HK2.out)).mono ?_
  rintro _ u3 ⟨rfl, hb⟩
  have HK3 := hid (kb_tr HK2.out hb)
  have HBm3 := hid (show Boxed u3 w1.heap.size 3 (.int .i64 0) from (hb.block _ HBm.out.lt).trans HBm.out)
  clear hb x0 xl y0 yl HBm HK2
  gi_wp2_with fail
  refine (callsIn_wide.2 (teach_any _ u3)).mono ?_
  rintro _ _ ⟨rfl, rfl⟩
  gi_wp2_with fail
  refine wpIn_name ?_
  intro u4 hu4
  have HBM := hid (show Boxed u4 u3.heap.size 3 (.int .i64 (maskT cs.length)) from by rw [hu4, HMK.out]; exact Boxed.new u3 _ _)
  have HK4 := hid (kb_tr HK3.out (show KB u3.heap.size u3 u4 from by rw [hu4]; exact kb_new _ _))
  have HB4 := hid (show Boxed u4 w1.heap.size 3 (.int .i64 0) from by rw [hu4]; exact HBm3.out.alloc _)
  have HL3 := hid HBm3.out.lt
  clear hu4 HBm3 HK3
  refine wpIn_rangeFunc_ownH (F := Fence.wide) rfl (by omega) (gf := 146) (lb := #[.pointer (some ⟨u3.heap.size, 0, none⟩)]) rfl trivial eg (teach_stops cs.length hcl u3.heap.size u4 HBM.out.cell 8) (fun {A B C} (h : KpM _ A B) (k : KpM _ B C) => Eq.trans k h) (fun W l o o' hl hW _ _ => World.cell?_of_block (World.putObj_heap_other (show u3.heap.size ≠ l from by have := HBM.out.lt; omega))) (Go.RowKit.Below.refl _ _) (fun _ => rfl)
    (fun pre W => Boxed W w1.heap.size 3 (.int .i64 (fm pre)) ∧ (Boxed W u3.heap.size 3 (.int .i64 (maskT cs.length)) ∧ KB w1.heap.size w1 W))
    (fun _ _ _ => False)
    (OwnFrom.and (Go.Own.from (boxed_own _ _ (fun pre => .int .i64 (fm pre))) _) (OwnFrom.and (Go.Own.from (boxed_own _ _ (fun _ => .int .i64 (maskT cs.length))) _) (ownFrom_below (Nat.le_refl _) HK4.out.size)))
    (fun _ _ _ _ _ hs _ _ => hs)
    ⟨by rw [HF0.out]; exact HB4.out, HBM.out, HK4.out⟩
    (fun x a' W => a' = { tmps := #[.agg #[.slice (some ⟨bu, ou, none⟩) m uc], .agg #[.int .i64 (q : Int), .slice xA xf.length xc, .slice xB xp.length xd], .pointer (some ⟨w.heap.size, 0, none⟩), .pointer (some ⟨w.heap.size + 1, 0, none⟩), .int .i64 0, .pointer (some ⟨w1.heap.size, 0, none⟩), .int .i64 (x.val : Int), .agg #[.slice (some ⟨bu, ou, none⟩) m uc], .pointer (some ⟨w.heap.size + 1, 0, none⟩), .int .i64 (q : Int), .int .i64 fv, .int .i64 (bits .andNot .i64 fv 1), .func (.func 146) #[] #[.pointer (some ⟨u3.heap.size, 0, none⟩)], .int .i64 (x.val : Int), undef, undef, undef, undef, undef, undef, undef, undef, undef, undef, undef, undef, undef, undef, undef, undef, undef, undef, undef], defers := [] })
    (fun _ _ _ _ _ _ h _ _ => h)
    ?assign ?body ?done ?stop
  case assign =>
    intro l pre x W K hI hK
    gi_wp2
    exact hK _ _ (KeepsFrom.refl _ _) rfl hI rfl
  case body =>
    rintro l pre x a' W hl hr ⟨hB1, hB2, hKW⟩ rfl hpre
    have HFX := hid (HFS.out pre x)
    obtain ⟨p, hp⟩ := x
    dsimp only at HFX
    obtain ⟨bv, hbv⟩ : ∃ b : Int, ((2 ^ (p + 1) : Nat) : Int) = b := ⟨_, rfl⟩
    have HBIT := hid (fun v => tbit_up p (by omega) v)
    rw [hbv] at HFX HBIT
    clear hbv
    have HKW := hid hKW
    have HB1 := hid hB1
    have HB2 := hid hB2
    have HL := hid (And.intro hl (And.intro hr hpre))
    clear hKW hB1 hB2 hl hr hpre
    obtain ⟨bc, oc, hyA, hci, hbc, hcc⟩ := HCA.out p hp
    subst hyA
    have HCC := hid hcc
    have HBC := hid hbc
    have HSET := hid (HHAS.out p hp)
    have HCX := hid hci
    clear hci hcc hbc
    generalize cs[p] = cd at *
    obtain ⟨cv, csh, cn, cb, cA, ck, cB, cD⟩ := cd
    dsimp only at HFX HSET
    unfold setV at HSET
    generalize hasS xf xp cv = r at *
    generalize xf.length = nf at *
    generalize xp.length = np at *
    have HPC := hid hp
    gi_upto_region 4 with fail
    have p0 : (0 : Int) ≤ (p : Int) := by omega
    have p1 : (p : Int) < (cs.length : Int) := by omega
    have hS : KB w1.heap.size w1 W.drew := kb_drewJ HKW.out
    refine wpIn_planS (wide_round l) (fun u => KB w1.heap.size w1 u) (.call [0, 1, 2, 3, 4, 5, 6, 7, 8, 9, 10, 11, 12] 13 (.last [])) (fun ⟨_, _, h⟩ => h) (by first | assumption | trivial | skip) (by kernel_rfl) (by intro _ _ d _ _ h; cases d <;> exact h) (by kernel_rfl) ?_
    have iS : Nonempty (SW fun u => KB w1.heap.size w1 u) := by first | exact ⟨⟨_, hS⟩⟩ | exact ⟨⟨w, trivial⟩⟩
    have x0 := fun (z : SW fun u => KB w1.heap.size w1 u) => (HX1.out.kb z.ok).2 0 _ rfl
    have xl := fun (z : SW fun u => KB w1.heap.size w1 u) => (HX1.out.kb z.ok).1
    have y0 := fun (z : SW fun u => KB w1.heap.size w1 u) => (HX2.out.kb z.ok).2 0 _ rfl
    have y1 := fun (z : SW fun u => KB w1.heap.size w1 u) => (HX2.out.kb z.ok).2 1 _ rfl
    have y2 := fun (z : SW fun u => KB w1.heap.size w1 u) => (HX2.out.kb z.ok).2 2 _ rfl
    have yl := fun (z : SW fun u => KB w1.heap.size w1 u) => (HX2.out.kb z.ok).1
    have s2 := fun (z : SW fun u => KB w1.heap.size w1 u) => cell_kb HCU.out.1 (kb_tr HK1.out z.ok) HCU.out.2
    have sl := fun (z : SW fun u => KB w1.heap.size w1 u) => Nat.lt_of_lt_of_le HCU.out.1 (kb_tr HK1.out z.ok).size
    have t0 := fun (z : SW fun u => KB w1.heap.size w1 u) => show z.v.cell? ⟨bc, oc + p * 8, none⟩ = _ from HCC.out _ (kb_tr HK1.out z.ok) 0 _ rfl
    have t1 := fun (z : SW fun u => KB w1.heap.size w1 u) => HCC.out _ (kb_tr HK1.out z.ok) 1 _ rfl
    have t2 := fun (z : SW fun u => KB w1.heap.size w1 u) => HCC.out _ (kb_tr HK1.out z.ok) 2 _ rfl
    have t3 := fun (z : SW fun u => KB w1.heap.size w1 u) => HCC.out _ (kb_tr HK1.out z.ok) 3 _ rfl
    have t4 := fun (z : SW fun u => KB w1.heap.size w1 u) => HCC.out _ (kb_tr HK1.out z.ok) 4 _ rfl
    have tl := fun (z : SW fun u => KB w1.heap.size w1 u) => Nat.lt_of_lt_of_le HBC.out (kb_tr HK1.out z.ok).size
    with_reducible refine plan_call ?_
    simp only [pickOps, List.map_cons, List.map_nil, List.getElem?_toArray, List.getElem?_cons_zero, List.getElem?_cons_succ, Option.getD_some]
    repeat go_big_quiet_step (fail)
    refine wpQuiet_nil ?_
    go_wp2_with fail
    refine (HSET.out _ hS).mono ?_
    rintro _ u5 ⟨rfl, hb⟩
    have HK5 := hid (show KB w1.heap.size w1 u5 from kb_tr hS hb.kb)
    have HN1 := hid (show Boxed u5 w1.heap.size 3 (.int .i64 (fm pre)) from (hb.kb.block _ HB1.out.lt).trans HB1.out)
    have HN2 := hid (show Boxed u5 u3.heap.size 3 (.int .i64 (maskT cs.length)) from (hb.kb.block _ HB2.out.lt).trans HB2.out)
    have HKF := hid (show KeepsFrom u4.heap.size W u5 from ⟨hb.kb.size, fun k o _ hk _ => (hb.kb.block k (Array.getElem?_eq_some_iff.1 hk).1).trans hk⟩)
    clear hb
    go_wp2_with fail
    refine plan_onS (HK5.out) ?_
    with_reducible refine plan_last ?_
    simp only [pickOps, List.map_cons, List.map_nil, List.getElem?_toArray, List.getElem?_cons_zero, List.getElem?_cons_succ, Option.getD_some]
    repeat go_big_quiet_step (fail)
    refine wpQuiet_nil ?_
    clear iS x0 xl y0 y1 y2 yl s2 sl t0 t1 t2 t3 t4 tl HCC HBC HCX HSET
    cases r with
    | false =>
      have HFN := hid (show fm (pre ++ [⟨p, hp⟩]) = fm pre from HFX.out.trans (if_neg (by simp)))
      gi_wp2_with fail
      exact ⟨HKF.out, HN2.out.cell.trans HB2.out.cell.symm, by rw [HFN.out]; exact HN1.out, HN2.out, HK5.out⟩
    | true =>
      have HFN := hid (show fm (pre ++ [⟨p, hp⟩]) = bits .or .i64 (fm pre) bv from HFX.out.trans (if_pos rfl))
      gi_upto_region 5 with fail
      have hv := HN1.out.cell
      have hf := HN1.out.frozen
      generalize fm pre = fp at *
      refine wpIn_planS (wide_round l) (fun u => True) (.two [1] 0 2 (.call [] 2 (.call [3] 4 (.last []))) (.call [] 0 (.call [3] 4 (.last [])))) (fun ⟨_, _, h⟩ => h) (by first | assumption | trivial | skip) (by kernel_rfl) (by intro _ _ d _ _ h; cases d <;> exact h) (by kernel_rfl) ?_
      have iS : Nonempty (SW fun u => True) := by first | exact ⟨⟨_, hS⟩⟩ | exact ⟨⟨w, trivial⟩⟩
      with_reducible refine plan_two ?_
      simp only [pickOps, List.map_cons, List.map_nil, List.getElem?_toArray, List.getElem?_cons_zero, List.getElem?_cons_succ, Option.getD_some]
      repeat go_big_quiet_step (fail)
      refine wpQuiet_nil ?_
      refine ⟨?_, ?_⟩
      · go_wp2_with fail
        refine plan_onS trivial ?_
        with_reducible refine plan_call ?_
        simp only [pickOps, List.map_cons, List.map_nil, List.getElem?_toArray, List.getElem?_cons_zero, List.getElem?_cons_succ, Option.getD_some]
        repeat go_big_quiet_step (fail)
        refine wpQuiet_nil ?_
        go_wp2_with fail
        refine (HBIT.out _).mono ?_
        rintro _ _ ⟨rfl, rfl⟩
        go_wp2_with fail
        refine plan_onS (trivial) ?_
        with_reducible refine plan_call ?_
        simp only [pickOps, List.map_cons, List.map_nil, List.getElem?_toArray, List.getElem?_cons_zero, List.getElem?_cons_succ, Option.getD_some]
        repeat go_big_quiet_step (fail)
        refine wpQuiet_nil ?_
        go_wp2_with fail
        refine plan_onS trivial ?_
        with_reducible refine plan_last ?_
        simp only [pickOps, List.map_cons, List.map_nil, List.getElem?_toArray, List.getElem?_cons_zero, List.getElem?_cons_succ, Option.getD_some]
        repeat go_big_quiet_step (fail)
        refine wpQuiet_nil ?_
        gi_wp2_with fail
        exact ⟨HKF.out.trans (((KeepsOthers.drew _).trans (KeepsOthers.setCell _ _ _)).from _), (HN2.out.other (by have := HL3.out; omega) _).cell.trans HB2.out.cell.symm, by rw [HFN.out]; exact HN1.out.set _, HN2.out.other (by have := HL3.out; omega) _, kb_putJ (kb_drewJ HK5.out) (Nat.le_refl _) _⟩
      · go_wp2_with fail
        refine (HBIT.out _).mono ?_
        rintro _ _ ⟨rfl, rfl⟩
        go_wp2_with fail
        refine plan_onS (trivial) ?_
        with_reducible refine plan_call ?_
        simp only [pickOps, List.map_cons, List.map_nil, List.getElem?_toArray, List.getElem?_cons_zero, List.getElem?_cons_succ, Option.getD_some]
        repeat go_big_quiet_step (fail)
        refine wpQuiet_nil ?_
        go_wp2_with fail
        refine plan_onS trivial ?_
        with_reducible refine plan_call ?_
        simp only [pickOps, List.map_cons, List.map_nil, List.getElem?_toArray, List.getElem?_cons_zero, List.getElem?_cons_succ, Option.getD_some]
        repeat go_big_quiet_step (fail)
        refine wpQuiet_nil ?_
        go_wp2_with fail
        refine plan_onS trivial ?_
        with_reducible refine plan_last ?_
        simp only [pickOps, List.map_cons, List.map_nil, List.getElem?_toArray, List.getElem?_cons_zero, List.getElem?_cons_succ, Option.getD_some]
        repeat go_big_quiet_step (fail)
        refine wpQuiet_nil ?_
        gi_wp2_with fail
        exact ⟨HKF.out.trans (((KeepsOthers.drew _).trans (KeepsOthers.setCell _ _ _)).from _), (HN2.out.other (by have := HL3.out; omega) _).cell.trans HB2.out.cell.symm, by rw [HFN.out]; exact HN1.out.set _, HN2.out.other (by have := HL3.out; omega) _, kb_putJ (kb_drewJ HK5.out) (Nat.le_refl _) _⟩
  case done =>
    rintro D ys W hD rfl ⟨hB1, hB2, hKW⟩ hK
    have hv1 := hB1.cell
    gi_wp2
    refine ⟨by simp, .inl ⟨_, _, rfl, run_takeDeferred hK, ?_⟩⟩
    refine ⟨_, results_tmp rfl _ _ _, rfl, ?_⟩
    exact Go.RowKit.Below.trans (kb_tr HK1.out hKW) (belowK_b (w := w) (Nat.le_refl _) W D _ _ (by have := HK4.out.size; have := HK1.out.size; omega) hK rfl rfl)
  case stop =>
    rintro D c pre W hD _ h _
    exact h.elim
end Go.Proofs.YtlmkglgjdmjnkaaGreatDoor
