/- Sets as texts: the walk of linchpinlaw8.TellPrints. -/
import Derived.Test.YtjceaniffooohaaGreatDoorTza
namespace Go.Proofs.YtjceaniffooohaaGreatDoor
open Go.RowKit Go.Lib
open Rw
set_option linter.unusedVariables false
set_option linter.unusedSimpArgs false

set_option maxRecDepth 100000 in
set_option maxHeartbeats 1000000 in
theorem walk_TellPrints (A : Option Addr) (c : Nat) (B : Option Addr) (d : Nat) (l m : List SpanL) (w : World) (hl : Spans w A l) (hm : Spans w B m) (hln : l.length ≤ 9223372036854775807) (hmn : m.length ≤ 9223372036854775807) (hL : Laid w) :
    Calls Tryz.prog 11 #[setV A l.length c B m.length d] w (BoolPost w true) := by
  have HF := hid (fun u (h : Below w.heap.size w u) => fews8_any A B c d l m u (hl.below h) (hm.below h) hln hmn)
  have HAW := hid (fun u (h : Below w.heap.size w u) => tawake_any u (hL.below h))
  have HB := hid (below_new w (.cells [Value.slice A l.length c, .slice B m.length d].toArray 31))
  have HX := hid (Box.new w [.slice A l.length c, .slice B m.length d] 31)
  cases Q : (fewR 8 l && fewR 8 m)
  · rw [Q] at HF
    clear hl hm hL
    generalize l.length = n at *
    generalize m.length = k at *
    go_enter Tryz.func11, Tryz.ntmps11
    go_wp2_with fail
    refine (HF.out _ HB.out).mono ?_
    rintro _ w1 ⟨rfl, hb⟩
    go_wp2_with fail
    refine (HAW.out _ (below_tr HB.out hb)).mono ?_
    rintro _ w2 ⟨rfl, hb2⟩
    go_wp2_with fail
    go_ret
    exact ⟨rfl, below_tr (below_tr HB.out hb) hb2⟩
  · rw [Q] at HF
    simp only [Bool.and_eq_true] at Q
    have ga := few_fit Q.1
    have gb := few_fit Q.2
    have HP := hid (fun u (h : Below w.heap.size w u) => tprint_set A B c d l m u (hL.below h) (hl.below h) (hm.below h) ga.2 gb.2 (by omega) (by omega))
    have HR := hid (fun u (h : Below w.heap.size w u) => rprint8_any A B c d l m u (hl.below h) (hm.below h) ga.2 gb.2 (by omega) (by omega))
    clear hl hm hL ga gb Q
    generalize l.length = n at *
    generalize m.length = k at *
    go_enter Tryz.func11, Tryz.ntmps11
    go_wp2_with fail
    refine (HF.out _ HB.out).mono ?_
    rintro _ w1 ⟨rfl, hb⟩
    have h1 := below_tr HB.out hb
    go_wp2_with fail
    refine wp_plan (.call [] 0 (.call [1, 2, 4] 3 (.call [] 5 (.last [6, 7, 8])))) (by kernel_rfl) (by intro _ _ d _ _ h; cases d <;> exact h) (by kernel_rfl) ?_
    refine plan_call ?_
    simp only [pickOps, List.map_cons, List.map_nil, List.getElem?_toArray, List.getElem?_cons_zero, List.getElem?_cons_succ, Option.getD_some]
    repeat go_big_quiet_step (fail)
    refine wpQuiet_nil ?_
    go_wp2_with fail
    refine (HAW.out _ (below_tr h1 (Below.refl _ _).drew)).mono ?_
    rintro _ u0 ⟨rfl, k0⟩
    have i0 : Below w1.heap.size w1 u0 := below_tr (Below.refl _ _).drew k0
    go_wp2_with fail
    refine plan_on (i0) ?_
    have qa0 := fun (z : BW u0) => ((HX.out.below (below_tr hb i0)).below z.ok).get2.1
    have qa1 := fun (z : BW u0) => ((HX.out.below (below_tr hb i0)).below z.ok).get2.2
    refine plan_call ?_
    simp only [pickOps, List.map_cons, List.map_nil, List.getElem?_toArray, List.getElem?_cons_zero, List.getElem?_cons_succ, Option.getD_some]
    repeat go_big_quiet_step (fail)
    refine wpQuiet_nil ?_
    go_wp2_with fail
    refine (HP.out _ (below_tr h1 i0)).mono ?_
    rintro _ u1 ⟨t1, rfl, ht1, k1⟩
    have i1 := below_tr i0 k1
    have HT1 := hid ht1
    clear ht1 qa0 qa1
    go_wp2_with fail
    refine plan_on (k1) ?_
    refine plan_call ?_
    simp only [pickOps, List.map_cons, List.map_nil, List.getElem?_toArray, List.getElem?_cons_zero, List.getElem?_cons_succ, Option.getD_some]
    repeat go_big_quiet_step (fail)
    refine wpQuiet_nil ?_
    go_wp2_with fail
    refine (HR.out _ (below_tr h1 i1)).mono ?_
    rintro _ u2 ⟨t2, rfl, ht2, k2⟩
    have HE : (t1.toList == t2.toList) = true := by rw [show t1.toList = t2.toList from HT1.out.trans ht2.symm]; exact beq_self_eq_true _
    clear ht2
    go_wp2_with fail
    refine plan_on (k2) ?_
    refine plan_last ?_
    simp only [pickOps, List.map_cons, List.map_nil, List.getElem?_toArray, List.getElem?_cons_zero, List.getElem?_cons_succ, Option.getD_some]
    repeat go_big_quiet_step (fail)
    refine wpQuiet_nil ?_
    go_wp2_with fail
    go_ret
    exact ⟨rfl, below_tr h1 (below_tr i1 k2)⟩
end Go.Proofs.YtjceaniffooohaaGreatDoor
