import Derived.Test.YtplmlahpmnjneaaGreatDoorNCp
namespace Go.Proofs.YtplmlahpmnjneaaGreatDoor
open Go.RowKit Go.Lib
open Rw
set_option linter.unusedVariables false
set_option linter.unusedSimpArgs false
set_option maxRecDepth 100000 in
set_option maxHeartbeats 4000000 in
theorem zone_any (c : CompL) (w : World) (hc : c.fit) : Calls Tryz.prog 110 #[c.val] w (RowN w (zoneX c)) := by
  have HMAY := hid (xmay_any c (w.alloc (.cells c.cells.toArray 52)) hc)
  have HBX := hid (Box.new w c.cells 52)
  have HB0 := hid (below_new w (.cells c.cells.toArray 52))
  cases hm : mayX c
  · rw [hm] at HMAY
    have HP := hid (show zoneX c = [] by unfold zoneX; rw [hm]; rfl)
    go_enter Tryz.func110, Tryz.ntmps110
    go_wp2_with fail
    refine HMAY.out.mono ?_
    rintro _ w1 ⟨rfl, hb⟩
    go_wp2_with fail
    go_ret
    rw [HP.out]
    exact rown_nil (below_tr HB0.out hb)
  · rw [hm] at HMAY
    by_cases h4 : 0 < c.v.pre.size
    · obtain ⟨e4, n4⟩ := ne_of_size h4
      have HP := hid (show zoneX c = [⟨⟨0, leastX c.v, false⟩, ⟨0, relV c.v, false⟩⟩] by unfold zoneX; rw [hm, bts, e4]; rfl)
      clear hm
      obtain ⟨op, parts, v⟩ := c
      go_enter Tryz.func110, Tryz.ntmps110
      go_wp2_with fail
      refine HMAY.out.mono ?_
      rintro _ w1 ⟨rfl, hb⟩
      have HX := hid (HBX.out.below hb)
      have HB := hid (below_tr HB0.out hb)
      clear hb HBX HB0 HMAY
      have hX1 : w.heap.size < w1.heap.size := HX.out.1
      obtain ⟨k0, k1, k2, k3, k4, k5, k6⟩ := HX.out.get7
      try dsimp only at h4 e4 n4 HP
      go_wp2_with fail
      go_ret
      rw [HP.out]
      refine ⟨_, _, rfl, ?_, below_tr HB.out (below_tr (below_new _ _) (below_tr (below_new _ _) (below_new _ _)))⟩
      have hq := SpanB.fresh ((w1.alloc (.cells #[.int .i64 v.maj, .int .i64 v.min, .int .i64 v.pat, .string ⟨#[]⟩, .string ⟨#[]⟩] 46)).alloc (.cells #[.int .i64 v.maj, .int .i64 v.min, .int .i64 v.pat, .string ⟨#[48]⟩, .string ⟨#[]⟩] 46)) ⟨⟨0, leastX v, false⟩, ⟨0, relV v, false⟩⟩ 100
      have hz : w.heap.size ≤ ((w1.alloc (.cells #[.int .i64 v.maj, .int .i64 v.min, .int .i64 v.pat, .string ⟨#[]⟩, .string ⟨#[]⟩] 46)).alloc (.cells #[.int .i64 v.maj, .int .i64 v.min, .int .i64 v.pat, .string ⟨#[48]⟩, .string ⟨#[]⟩] 46)).heap.size := Nat.le_trans HB.out.size (Nat.le_trans (below_new _ _).size (below_new _ _).size)
      have hq2 := hq.low hz
      simp only [World.alloc, Array.size_push] at hq2
      exact hq2
    · have e4 := isEmpty_of h4
      have HP := hid (show zoneX c = [] by unfold zoneX; rw [hm, bts, e4]; rfl)
      clear hm
      obtain ⟨op, parts, v⟩ := c
      go_enter Tryz.func110, Tryz.ntmps110
      go_wp2_with fail
      refine HMAY.out.mono ?_
      rintro _ w1 ⟨rfl, hb⟩
      have HX := hid (HBX.out.below hb)
      have HB := hid (below_tr HB0.out hb)
      clear hb HBX HB0 HMAY
      have hX1 : w.heap.size < w1.heap.size := HX.out.1
      obtain ⟨k0, k1, k2, k3, k4, k5, k6⟩ := HX.out.get7
      try dsimp only at h4 e4
      go_wp2_with fail
      go_ret
      rw [HP.out]
      exact rown_nil HB.out
end Go.Proofs.YtplmlahpmnjneaaGreatDoor
namespace Go.Proofs.YtplmlahpmnjneaaGreatDoor
open Go.RowKit Go.Lib
open Rw
set_option linter.unusedVariables false
set_option linter.unusedSimpArgs false
end Go.Proofs.YtplmlahpmnjneaaGreatDoor
