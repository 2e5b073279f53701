import Derived.Test.YtplmlahpmnjneaaGreatDoorMCp
namespace Go.Proofs.YtplmlahpmnjneaaGreatDoor
open Go.RowKit Go.Lib
open Rw
set_option linter.unusedVariables false
set_option linter.unusedSimpArgs false
set_option maxRecDepth 100000 in
set_option maxHeartbeats 4000000 in
theorem zone_any (c : CompL) (w : World) (hc : c.fit) : Calls Tryz.prog 110 #[c.val] w (RowN w (zoneX c)) := by
  have HMAY := hid (xmay_any c (w.alloc (.cells c.cells.toArray 52)) hc)
  have HBX := hid (Box.new w c.cells 52)
  have HB0 := hid (below_new w (.cells c.cells.toArray 52))
  cases hm : mayX c
  · rw [hm] at HMAY
    have HP := hid (show zoneX c = [] by unfold zoneX; rw [hm]; rfl)
    go_enter Tryz.func110, Tryz.ntmps110
    go_wp2_with fail
    refine HMAY.out.mono ?_
    rintro _ w1 ⟨rfl, hb⟩
    go_wp2_with fail
    go_ret
    rw [HP.out]
    exact rown_nil (below_tr HB0.out hb)
  · rw [hm] at HMAY
    by_cases h4 : 0 < c.v.pre.size
    · obtain ⟨e4, n4⟩ := ne_of_size h4
      have HP := hid (show zoneX c = [⟨⟨0, leastX c.v, false⟩, ⟨0, relV c.v, false⟩⟩] by unfold zoneX; rw [hm, bts, e4]; rfl)
      clear hm
      obtain ⟨op, parts, v⟩ := c
      go_enter Tryz.func110, Tryz.ntmps110
      go_wp2_with fail
      refine HMAY.out.mono ?_
      rintro _ w1 ⟨rfl, hb⟩
      have HX := hid (HBX.out.below hb)
      have HB := hid (below_tr HB0.out hb)
      clear hb HBX HB0 HMAY
      have hX1 : w.heap.size < w1.heap.size := HX.out.1
      obtain ⟨k0, k1, k2, k3, k4, k5, k6⟩ := HX.out.get7
      try dsimp only at h4 e4 n4 HP
      go_wp2_with fail
      go_ret
      rw [HP.out]
      refine ⟨_, _, rfl, ?_, below_tr HB.out (below_tr (below_new _ _) (below_tr (below_new _ _) (below_new _ _)))⟩
      have hq := SpanB.fresh ((w1.alloc (.cells #[.int .i64 v.maj, .int .i64 v.min, .int .i64 v.pat, .string ⟨#[]⟩, .string ⟨#[]⟩] 46)).alloc (.cells #[.int .i64 v.maj, .int .i64 v.min, .int .i64 v.pat, .string ⟨#[48]⟩, .string ⟨#[]⟩] 46)) ⟨⟨0, leastX v, false⟩, ⟨0, relV v, false⟩⟩ 100
      have hz : w.heap.size ≤ ((w1.alloc (.cells #[.int .i64 v.maj, .int .i64 v.min, .int .i64 v.pat, .string ⟨#[]⟩, .string ⟨#[]⟩] 46)).alloc (.cells #[.int .i64 v.maj, .int .i64 v.min, .int .i64 v.pat, .string ⟨#[48]⟩, .string ⟨#[]⟩] 46)).heap.size := Nat.le_trans HB.out.size (Nat.le_trans (below_new _ _).size (below_new _ _).size)
      have hq2 := hq.low hz
      simp only [World.alloc, Array.size_push] at hq2
      exact hq2
    · have e4 := isEmpty_of h4
      have HP := hid (show zoneX c = [] by unfold zoneX; rw [hm, bts, e4]; rfl)
      clear hm
      obtain ⟨op, parts, v⟩ := c
      go_enter Tryz.func110, Tryz.ntmps110
      go_wp2_with fail
      refine HMAY.out.mono ?_
      rintro _ w1 ⟨rfl, hb⟩
      have HX := hid (HBX.out.below hb)
      have HB := hid (below_tr HB0.out hb)
      clear hb HBX HB0 HMAY
      have hX1 : w.heap.size < w1.heap.size := HX.out.1
      obtain ⟨k0, k1, k2, k3, k4, k5, k6⟩ := HX.out.get7
      try dsimp only at h4 e4
      go_wp2_with fail
      go_ret
      rw [HP.out]
      exact rown_nil HB.out
end Go.Proofs.YtplmlahpmnjneaaGreatDoor
namespace Go.Proofs.YtplmlahpmnjneaaGreatDoor
open Go.RowKit Go.Lib
open Rw
set_option linter.unusedVariables false
set_option linter.unusedSimpArgs false
set_option maxRecDepth 100000 in
set_option maxHeartbeats 4000000 in
theorem rzone_any (c : CompL) (w : World) (hc : c.fit) : Calls Tryz.prog 113 #[c.val] w (RowN w (zoneX c)) := by
  have HMAY := hid (rxmay_any c (w.alloc (.cells c.cells.toArray 52)) hc)
  have HBX := hid (Box.new w c.cells 52)
  have HB0 := hid (below_new w (.cells c.cells.toArray 52))
  cases hm : mayX c
  · rw [hm] at HMAY
    have HP := hid (show zoneX c = [] by unfold zoneX; rw [hm]; rfl)
    go_enter Tryz.func113, Tryz.ntmps113
    go_wp2_with fail
    refine HMAY.out.mono ?_
    rintro _ w1 ⟨rfl, hb⟩
    go_wp2_with fail
    go_ret
    rw [HP.out]
    exact rown_nil (below_tr HB0.out hb)
  · rw [hm] at HMAY
    by_cases h4 : 0 < c.v.pre.size
    · obtain ⟨e4, n4⟩ := ne_of_size h4
      have HP := hid (show zoneX c = [⟨⟨0, bareV ⟨c.v.maj, c.v.min, c.v.pat, zeroB, c.v.bld⟩, false⟩, ⟨0, bareV ⟨c.v.maj, c.v.min, c.v.pat, ⟨#[]⟩, c.v.bld⟩, false⟩⟩] by unfold zoneX; rw [hm, bts, e4]; rfl)
      clear hm
      obtain ⟨op, parts, v⟩ := c
      try dsimp only at HP
      go_enter Tryz.func113, Tryz.ntmps113
      go_wp2_with fail
      refine HMAY.out.mono ?_
      rintro _ w1 ⟨rfl, hb⟩
      have HX := hid (HBX.out.below hb)
      have HB := hid (below_tr HB0.out hb)
      clear hb HBX HB0 HMAY
      have hX1 : w.heap.size < w1.heap.size := HX.out.1
      obtain ⟨k0, k1, k2, k3, k4, k5, k6⟩ := HX.out.get7
      try dsimp only at h4 e4 n4
      go_upto_region 7 with fail
      have HBA := hid (fun (d : Bool) u => rbefore_any ⟨v.maj, v.min, v.pat, zeroB, v.bld⟩ u)
      have HBB := hid (fun (d : Bool) u => rbefore_any ⟨v.maj, v.min, v.pat, ⟨#[]⟩, v.bld⟩ u)
      refine wp_name ?_
      intro w2 hw2
      have O3 := hid (show Own w.heap.size w2 w1.heap.size (Ver.cells ⟨v.maj, v.min, v.pat, ⟨#[]⟩, v.bld⟩) by rw [hw2]; exact (Own.new w1 (Ver.cells ⟨v.maj, v.min, v.pat, ⟨#[]⟩, v.bld⟩) 46 HB.out.size).alloc _)
      have O4 := hid (show Own w.heap.size w2 (w1.heap.size + 1) (Ver.cells ⟨v.maj, v.min, v.pat, zeroB, v.bld⟩) by rw [hw2]; exact Own.new2 w1 _ (Ver.cells ⟨v.maj, v.min, v.pat, zeroB, v.bld⟩) 46 HB.out.size)
      have HB2 := hid (show Below w.heap.size w w2 by rw [hw2]; exact below_tr HB.out (below_tr (below_new _ _) (below_new _ _)))
      clear hw2 k0 k1 k2 k3 k4 k5 k6 HX HB
      generalize w1.heap.size + 1 = g4 at *
      generalize w1.heap.size = g3 at *
      have hS : Below w2.heap.size w2 w2.drew := (Below.refl _ _).drew
      refine wp_planS (fun u => Below w2.heap.size w2 u) (.call [0, 2] 1 (.call [] 3 (.call [4] 5 (.last [6])))) (by first | assumption | skip) (by kernel_rfl) (by intro _ _ d _ _ h; cases d <;> exact h) (by kernel_rfl) ?_
      have iS : Nonempty (SW fun u => Below w2.heap.size w2 u) := ⟨⟨_, hS⟩⟩
      have q0 := fun (z : SW fun u => Below w2.heap.size w2 u) => (O3.out.box.below z.ok).get5.1
      have q1 := fun (z : SW fun u => Below w2.heap.size w2 u) => (O3.out.box.below z.ok).get5.2.1
      have q2 := fun (z : SW fun u => Below w2.heap.size w2 u) => (O3.out.box.below z.ok).get5.2.2.1
      have q3 := fun (z : SW fun u => Below w2.heap.size w2 u) => (O3.out.box.below z.ok).get5.2.2.2.1
      have q4 := fun (z : SW fun u => Below w2.heap.size w2 u) => (O3.out.box.below z.ok).get5.2.2.2.2
      have r0 := fun (z : SW fun u => Below w2.heap.size w2 u) => (O4.out.box.below z.ok).get5.1
      have r1 := fun (z : SW fun u => Below w2.heap.size w2 u) => (O4.out.box.below z.ok).get5.2.1
      have r2 := fun (z : SW fun u => Below w2.heap.size w2 u) => (O4.out.box.below z.ok).get5.2.2.1
      have r3 := fun (z : SW fun u => Below w2.heap.size w2 u) => (O4.out.box.below z.ok).get5.2.2.2.1
      have r4 := fun (z : SW fun u => Below w2.heap.size w2 u) => (O4.out.box.below z.ok).get5.2.2.2.2
      refine plan_call ?_
      simp only [pickOps, List.map_cons, List.map_nil, List.getElem?_toArray, List.getElem?_cons_zero, List.getElem?_cons_succ, Option.getD_some]
      repeat go_big_quiet_step (fail)
      refine wpQuiet_nil ?_
      go_wp2_with fail
      refine (HBA.out true _).mono ?_
      rintro _ w3 ⟨rfl, hb3⟩
      have HB3 := hid (below_tr hS hb3)
      go_wp2_with fail
      refine plan_onS (HB3.out) ?_
      refine plan_call ?_
      simp only [pickOps, List.map_cons, List.map_nil, List.getElem?_toArray, List.getElem?_cons_zero, List.getElem?_cons_succ, Option.getD_some]
      repeat go_big_quiet_step (fail)
      refine wpQuiet_nil ?_
      go_wp2_with fail
      refine (HBB.out true _).mono ?_
      rintro _ w4 ⟨rfl, hb4⟩
      have HB4 := hid (below_tr HB3.out hb4)
      go_wp2_with fail
      refine plan_onS (HB4.out) ?_
      refine plan_call ?_
      simp only [pickOps, List.map_cons, List.map_nil, List.getElem?_toArray, List.getElem?_cons_zero, List.getElem?_cons_succ, Option.getD_some]
      repeat go_big_quiet_step (fail)
      refine wpQuiet_nil ?_
      go_wp2_with fail
      go_wp2_with fail
      refine plan_onS (below_tr HB4.out (below_new _ _)) ?_
      refine plan_last ?_
      simp only [pickOps, List.map_cons, List.map_nil, List.getElem?_toArray, List.getElem?_cons_zero, List.getElem?_cons_succ, Option.getD_some]
      repeat go_big_quiet_step (fail)
      refine wpQuiet_nil ?_
      go_wp2_with fail
      go_ret
      rw [HP.out]
      have HB5 := hid (below_tr HB2.out HB4.out)
      generalize bareV ⟨v.maj, v.min, v.pat, zeroB, v.bld⟩ = va at *
      generalize bareV ⟨v.maj, v.min, v.pat, ⟨#[]⟩, v.bld⟩ = vb at *
      exact ⟨_, _, rfl, (SpanB.fresh w4 ⟨⟨0, va, false⟩, ⟨0, vb, false⟩⟩ 100).low HB5.out.size, below_tr HB5.out (below_new _ _)⟩
    · have e4 := isEmpty_of h4
      have HP := hid (show zoneX c = [] by unfold zoneX; rw [hm, bts, e4]; rfl)
      clear hm
      obtain ⟨op, parts, v⟩ := c
      go_enter Tryz.func113, Tryz.ntmps113
      go_wp2_with fail
      refine HMAY.out.mono ?_
      rintro _ w1 ⟨rfl, hb⟩
      have HX := hid (HBX.out.below hb)
      have HB := hid (below_tr HB0.out hb)
      clear hb HBX HB0 HMAY
      have hX1 : w.heap.size < w1.heap.size := HX.out.1
      obtain ⟨k0, k1, k2, k3, k4, k5, k6⟩ := HX.out.get7
      try dsimp only at h4 e4
      go_wp2_with fail
      go_ret
      rw [HP.out]
      exact rown_nil HB.out
end Go.Proofs.YtplmlahpmnjneaaGreatDoor
