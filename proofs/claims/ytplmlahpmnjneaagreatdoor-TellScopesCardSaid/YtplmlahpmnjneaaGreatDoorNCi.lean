import Derived.Test.YtplmlahpmnjneaaGreatDoorNCh
import Derived.Test.YtplmlahpmnjneaaGreatDoorNCf
import Derived.Test.YtplmlahpmnjneaaGreatDoorNTa
import Derived.ArgAppend
import Derived.Test.YtplmlahpmnjneaaGreatDoorNTr
namespace Go.Proofs.YtplmlahpmnjneaaGreatDoor
open Go.RowKit Go.Lib
open Rw
set_option linter.unusedVariables false
set_option linter.unusedSimpArgs false
def XPost (w : World) (o : Option CompL) (e : Ending) (w' : World) : Prop := ∃ c : CompL, e = .returned (.tuple #[c.val, .int .i64 (if o.isSome then 0 else 6)]) ∧ (∀ u, o = some u → c = u) ∧ Below w.heap.size w w'
theorem xpost_none {w w' : World} (h : Below w.heap.size w w') : XPost w none (.returned (.tuple #[zeroX.val, .int .i64 6])) w' := ⟨zeroX, rfl, fun u h => (by cases h), h⟩
theorem b94 (s : ByteArray) : bts ((⟨#[94]⟩ : ByteArray) ++ s) = 94 :: bts s := by rw [bts_append, show bts (⟨#[94]⟩ : ByteArray) = [94] from bts_lit [94]]; rfl
set_option maxRecDepth 100000 in
set_option maxHeartbeats 4000000 in
theorem xparse_any (s : ByteArray) (w : World) (hL : Laid w) (hs : s.size ≤ 20000) : Calls Tryz.prog 57 #[.string s] w (XPost w (parseX (bts s))) := by
  have HR1 := hid (fun u (h : Below w.heap.size w u) => xread_any s u (hL.below h) (by omega))
  have HR2 := hid (fun u (h : Below w.heap.size w u) => xread_any ((⟨#[94]⟩ : ByteArray) ++ s) u (hL.below h) (by rw [ByteArray.size_append]; have : (⟨#[94]⟩ : ByteArray).size = 1 := rfl; omega))
  rw [b94] at HR2
  clear hL
  have HPX := hid (show parseX (bts s) = match readX (bts s) with
    | some c => some c
    | none => readX (94 :: bts s) from rfl)
  generalize parseX (bts s) = po at *
  generalize readX (bts s) = o1 at *
  generalize readX (94 :: bts s) = o2 at *
  go_enter Tryz.func57, Tryz.ntmps57
  go_wp2_with fail
  refine calls_name ?_
  intro w1 hw1
  have O2 := hid (show Own w.heap.size w1 w.heap.size zero7 by rw [hw1]; exact Own.new w zero7 52 (Nat.le_refl _))
  have HB := hid (show Below w.heap.size w w1 by rw [hw1]; exact below_new _ _)
  clear hw1
  refine (HR1.out _ HB.out).mono ?_
  rintro _ w2 ⟨c1, rfl, hc1, hb⟩
  have HC1 := hid hc1
  have O2 := hid (O2.out.below hb)
  have HB := hid (below_tr HB.out hb)
  clear hb hc1
  generalize his : o1.isSome = is1 at *
  have HIS := hid his
  clear his
  go_upto_if 13 with fail
  refine wp_name ?_
  intro w3 hw3
  have O4 := hid (show Own w.heap.size w3 w2.heap.size c1.cells by rw [hw3]; exact Own.new w2 c1.cells 52 HB.out.size)
  have O2 := hid (show Own w.heap.size w3 w.heap.size zero7 by rw [hw3]; exact O2.out.alloc _)
  have HB := hid (show Below w.heap.size w w3 by rw [hw3]; exact below_tr HB.out (below_new _ _))
  clear hw3
  generalize w2.heap.size = g4 at *
  cases is1
  · have HPX2 := hid (show po = o2 by
      rw [HPX.out]
      cases o1 with
      | none => rfl
      | some x => have := HIS.out; cases this)
    go_wp2_with fail
    refine (HR2.out _ HB.out).mono ?_
    rintro _ w4 ⟨c2, rfl, hc2, hb⟩
    have HC2 := hid hc2
    have O2 := hid (O2.out.below hb)
    have HB := hid (below_tr HB.out hb)
    clear hb hc2
    generalize his2 : o2.isSome = is2 at *
    have HIS2 := hid his2
    clear his2
    go_upto_if 21 with fail
    refine wp_name ?_
    intro w5 hw5
    have O6 := hid (show Own w.heap.size w5 w4.heap.size c2.cells by rw [hw5]; exact Own.new w4 c2.cells 52 HB.out.size)
    have O2 := hid (show Own w.heap.size w5 w.heap.size zero7 by rw [hw5]; exact O2.out.alloc _)
    have HB := hid (show Below w.heap.size w w5 by rw [hw5]; exact below_tr HB.out (below_new _ _))
    clear hw5
    generalize w4.heap.size = g6 at *
    cases is2
    · have HNO := hid (show o2 = none by
        cases o2 with
        | none => rfl
        | some x => have := HIS2.out; cases this)
      obtain ⟨x0, x1, x2, x3, x4, x5, x6⟩ := O2.out.box.get7
      have sf2 : ∀ j, w5.frozen? ⟨w.heap.size, j, none⟩ = false := O2.out.soft
      have hlt2 := O2.out.box.1
      go_wp2_with fail
      refine body_name ?_
      intro w9 hw9
      have O9 : Own w.heap.size w9 w.heap.size (zero7) := by rw [hw9]; exact O2.out.set7 _ _ _ _ _ _ _
      have B9 : Below w.heap.size w w9 := by rw [hw9]; exact below_set7 HB.out (Nat.le_refl _) _ _ _ _ _ _ _
      clear hw9
      obtain ⟨k0, k1, k2, k3, k4, k5, k6⟩ := O9.box.get7
      refine bodyPost_ret (v := .tuple #[zeroX.val, .int .i64 6]) (by simp [results, Tryz.results57, go_sem, k0, k1, k2, k3, k4, k5, k6, zeroX, zeroV]) rfl ?_
      rw [HPX2.out, HNO.out]
      exact xpost_none B9
    · obtain ⟨y0, y1, y2, y3, y4, y5, y6⟩ := O6.out.box.get7
      have hlt6 := O6.out.box.1
      obtain ⟨x0, x1, x2, x3, x4, x5, x6⟩ := O2.out.box.get7
      have sf2 : ∀ j, w5.frozen? ⟨w.heap.size, j, none⟩ = false := O2.out.soft
      have hlt2 := O2.out.box.1
      go_wp2_with fail
      refine body_name ?_
      intro w9 hw9
      have O9 : Own w.heap.size w9 w.heap.size (c2.cells) := by rw [hw9]; exact O2.out.set7 _ _ _ _ _ _ _
      have B9 : Below w.heap.size w w9 := by rw [hw9]; exact below_set7 HB.out (Nat.le_refl _) _ _ _ _ _ _ _
      clear hw9
      obtain ⟨k0, k1, k2, k3, k4, k5, k6⟩ := O9.box.get7
      refine bodyPost_ret (v := .tuple #[c2.val, .int .i64 0]) (by simp [results, Tryz.results57, go_sem, k0, k1, k2, k3, k4, k5, k6, zeroX, zeroV]) rfl ?_
      rw [HPX2.out]
      exact ⟨c2, by rw [HIS2.out]; rfl, HC2.out, B9⟩
  · have HPX2 := hid (show po = o1 by
      rw [HPX.out]
      cases o1 with
      | none => have := HIS.out; cases this
      | some x => rfl)
    obtain ⟨y0, y1, y2, y3, y4, y5, y6⟩ := O4.out.box.get7
    have hlt4 := O4.out.box.1
    obtain ⟨x0, x1, x2, x3, x4, x5, x6⟩ := O2.out.box.get7
    have sf2 : ∀ j, w3.frozen? ⟨w.heap.size, j, none⟩ = false := O2.out.soft
    have hlt2 := O2.out.box.1
    go_wp2_with fail
    refine body_name ?_
    intro w9 hw9
    have O9 : Own w.heap.size w9 w.heap.size (c1.cells) := by rw [hw9]; exact O2.out.set7 _ _ _ _ _ _ _
    have B9 : Below w.heap.size w w9 := by rw [hw9]; exact below_set7 HB.out (Nat.le_refl _) _ _ _ _ _ _ _
    clear hw9
    obtain ⟨k0, k1, k2, k3, k4, k5, k6⟩ := O9.box.get7
    refine bodyPost_ret (v := .tuple #[c1.val, .int .i64 0]) (by simp [results, Tryz.results57, go_sem, k0, k1, k2, k3, k4, k5, k6, zeroX, zeroV]) rfl ?_
    rw [HPX2.out]
    exact ⟨c1, by rw [HIS.out]; rfl, HC1.out, B9⟩
end Go.Proofs.YtplmlahpmnjneaaGreatDoor
namespace Go.Proofs.YtplmlahpmnjneaaGreatDoor
open Go.RowKit Go.Lib
open Rw
set_option linter.unusedVariables false
set_option linter.unusedSimpArgs false
end Go.Proofs.YtplmlahpmnjneaaGreatDoor
namespace Go.Proofs.YtplmlahpmnjneaaGreatDoor
open Go.RowKit Go.Lib
open Rw
set_option linter.unusedVariables false
set_option linter.unusedSimpArgs false
end Go.Proofs.YtplmlahpmnjneaaGreatDoor
namespace Go.Proofs.YtplmlahpmnjneaaGreatDoor
open Go.RowKit Go.Lib
open Rw
set_option linter.unusedVariables false
set_option linter.unusedSimpArgs false
end Go.Proofs.YtplmlahpmnjneaaGreatDoor
