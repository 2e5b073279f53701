import Derived.Test.YtplmlahpmnjneaaGreatDoorNTa
import Derived.Deep.CutBlock
import Derived.Deep.CutRange
import Derived.Test.YtplmlahpmnjneaaGreatDoorNTg
namespace Go.Proofs.YtplmlahpmnjneaaGreatDoor
open Go.RowKit Go.Lib
set_option linter.unusedVariables false
set_option linter.unusedSimpArgs false
theorem pre_iff (s p : ByteArray) : Lib.hasPrefix (bts s) (bts p) = (decide (p.size ≤ s.size) && decide (s.extract 0 p.size = p)) := by
  rw [Lib.hasPrefix, Bool.eq_iff_iff, List.isPrefixOf_iff_prefix, Bool.and_eq_true, decide_eq_true_eq, decide_eq_true_eq]
  constructor
  · rintro ⟨t, ht⟩
    have hl := congrArg List.length ht
    rw [List.length_append, bts_len, bts_len] at hl
    refine ⟨by omega, bts_inj ?_⟩
    rw [bts_extract, List.drop_zero, Nat.sub_zero, ← ht, ← bts_len p, List.take_left]
  · rintro ⟨h1, h2⟩
    refine ⟨(bts s).drop p.size, ?_⟩
    have := congrArg bts h2
    rw [bts_extract, List.drop_zero, Nat.sub_zero] at this
    rw [← this]
    exact List.take_append_drop _ _
theorem xbegins_any (s p : ByteArray) (w : World) : Calls Tryz.prog 147 #[.string s, .string p] w fun e w' => e = .returned (.bool (Lib.hasPrefix (bts s) (bts p))) ∧ w = w' := by
  rw [pre_iff]
  by_cases h : p.size ≤ s.size
  · have d1 : decide ((p.size : Int) ≤ (s.size : Int)) = true := by simpa using h
    by_cases he : s.extract 0 p.size = p
    · have hr := hid (show (decide (p.size ≤ s.size) && decide (s.extract 0 p.size = p)) = true by simp [h, he])
      rw [hr.out]
      have d2 : ((s.extract 0 p.size).toList == p.toList) = true := by rw [he]; exact beq_self_eq_true _
      clear he
      go_enter Tryz.func147, Tryz.ntmps147
      go_wp2_with fail
      go_ret
      exact ⟨rfl, rfl⟩
    · have hr := hid (show (decide (p.size ≤ s.size) && decide (s.extract 0 p.size = p)) = false by simp [he])
      rw [hr.out]
      have d2 : ((s.extract 0 p.size).toList == p.toList) = false := by
        rw [Bool.eq_false_iff]
        intro e
        exact he (bts_inj (by simpa using e))
      clear he
      go_enter Tryz.func147, Tryz.ntmps147
      go_wp2_with fail
      go_ret
      exact ⟨rfl, rfl⟩
  · have hr := hid (show (decide (p.size ≤ s.size) && decide (s.extract 0 p.size = p)) = false by simp [h])
    rw [hr.out]
    have h2 : s.size < p.size := by omega
    clear h
    go_enter Tryz.func147, Tryz.ntmps147
    go_wp2_with fail
    go_ret
    exact ⟨rfl, rfl⟩
theorem Own.set7 {B : Nat} {w : World} {g : Nat} {a0 a1 a2 a3 a4 a5 a6 : Value} (h : Own B w g [a0, a1, a2, a3, a4, a5, a6]) (b0 b1 b2 b3 b4 b5 b6 : Value) :
    Own B (((((((w.setCell ⟨g, 0, none⟩ b0).setCell ⟨g, 1, none⟩ b1).setCell ⟨g, 2, none⟩ b2).setCell ⟨g, 3, none⟩ b3).setCell ⟨g, 4, none⟩ b4).setCell ⟨g, 5, none⟩ b5).setCell ⟨g, 6, none⟩ b6) g [b0, b1, b2, b3, b4, b5, b6] :=
  ⟨h.box.set (o := 0) (vs := [b0, b1, b2, b3, b4, b5, b6]) (by simp), h.soft.set (o := 0) (vs := [b0, b1, b2, b3, b4, b5, b6]), h.low⟩
theorem below_set7 {w w1 : World} (h : Below w.heap.size w w1) {g : Nat} (hg : w.heap.size ≤ g) (b0 b1 b2 b3 b4 b5 b6 : Value) :
    Below w.heap.size w (((((((w1.setCell ⟨g, 0, none⟩ b0).setCell ⟨g, 1, none⟩ b1).setCell ⟨g, 2, none⟩ b2).setCell ⟨g, 3, none⟩ b3).setCell ⟨g, 4, none⟩ b4).setCell ⟨g, 5, none⟩ b5).setCell ⟨g, 6, none⟩ b6) :=
  below_put (below_put (below_put (below_put (below_put (below_put (below_put h hg _) hg _) hg _) hg _) hg _) hg _) hg _
theorem strB_sz (l : List UInt8) : (strB l).size = l.length := by rw [← bts_len, bts_strB]
end Go.Proofs.YtplmlahpmnjneaaGreatDoor
namespace Go.Proofs.YtplmlahpmnjneaaGreatDoor
open Go.RowKit Go.Lib
set_option linter.unusedVariables false
set_option linter.unusedSimpArgs false
end Go.Proofs.YtplmlahpmnjneaaGreatDoor
namespace Go.Proofs.YtplmlahpmnjneaaGreatDoor
open Go.RowKit Go.Lib
set_option linter.unusedVariables false
set_option linter.unusedSimpArgs false
end Go.Proofs.YtplmlahpmnjneaaGreatDoor
namespace Go.Proofs.YtplmlahpmnjneaaGreatDoor
open Go.RowKit Go.Lib
open Rw
set_option linter.unusedVariables false
set_option linter.unusedSimpArgs false
end Go.Proofs.YtplmlahpmnjneaaGreatDoor
namespace Go.Proofs.YtplmlahpmnjneaaGreatDoor
open Go.RowKit Go.Lib
open Rw
set_option linter.unusedVariables false
set_option linter.unusedSimpArgs false
def HeldO (w : World) (g off : Nat) (ls : List (List UInt8)) : Prop := g < w.heap.size ∧ ∀ j, j < ls.length → w.cell? ⟨g, off + j, none⟩ = some (.string (strB (ls.getD j [])))
theorem HeldO.below {w w' : World} {g off : Nat} {ls : List (List UInt8)} (h : HeldO w g off ls) (hb : Below w.heap.size w w') : HeldO w' g off ls :=
  ⟨Nat.lt_of_lt_of_le h.1 hb.size, fun j hj => (hb.cell (p := ⟨g, off + j, none⟩) h.1).trans (h.2 j hj)⟩
theorem Own.fr14 {B : Nat} {w : World} {g : Nat} {a b : CutL} (h : Own B w g (SpanL.cells ⟨a, b⟩)) (c : CutL) :
    Own B (((((((w.setCell ⟨g, 0, none⟩ (.int .i64 c.en)).setCell ⟨g, 1, none⟩ (.int .i64 c.v.maj)).setCell ⟨g, 2, none⟩ (.int .i64 c.v.min)).setCell ⟨g, 3, none⟩ (.int .i64 c.v.pat)).setCell ⟨g, 4, none⟩ (.string c.v.pre)).setCell ⟨g, 5, none⟩ (.string c.v.bld)).setCell ⟨g, 6, none⟩ (.bool c.aft)) g (SpanL.cells ⟨c, b⟩) :=
  ⟨h.box.set (o := 0) (vs := c.cells) (by simp), h.soft.set (o := 0) (vs := c.cells), h.low⟩
theorem Own.til14 {B : Nat} {w : World} {g : Nat} {a b : CutL} (h : Own B w g (SpanL.cells ⟨a, b⟩)) (c : CutL) :
    Own B (((((((w.setCell ⟨g, 7, none⟩ (.int .i64 c.en)).setCell ⟨g, 8, none⟩ (.int .i64 c.v.maj)).setCell ⟨g, 9, none⟩ (.int .i64 c.v.min)).setCell ⟨g, 10, none⟩ (.int .i64 c.v.pat)).setCell ⟨g, 11, none⟩ (.string c.v.pre)).setCell ⟨g, 12, none⟩ (.string c.v.bld)).setCell ⟨g, 13, none⟩ (.bool c.aft)) g (SpanL.cells ⟨a, c⟩) :=
  ⟨h.box.set (o := 7) (vs := c.cells) (by simp), h.soft.set (o := 7) (vs := c.cells), h.low⟩
theorem below_cells {w w1 : World} (h : Below w.heap.size w w1) {g : Nat} (hg : w.heap.size ≤ g) (o : Nat) (vs : List Value) : Below w.heap.size w (w1.setCells g o vs) := Below.setCells hg vs o h
theorem Own.set14 {B : Nat} {w : World} {g : Nat} {cs : List Value} (h : Own B w g cs) (hl : cs.length = 14) (s : SpanL) : Own B (w.setCells g 0 s.cells) g s.cells := by
  refine ⟨?_, h.soft.set (o := 0) (vs := s.cells), h.low⟩
  have := h.box.set (o := 0) (vs := s.cells) (by simp [hl])
  rw [List.take_zero, List.nil_append, List.drop_eq_nil_of_le (by simp [hl]), List.append_nil] at this
  exact this
end Go.Proofs.YtplmlahpmnjneaaGreatDoor
