/- Cuts: the data, and the walks of the two Mays. -/
import Derived.Test.YtodicnjoimoiiaaWj
namespace Go.Proofs.Ytodicnjoimoiiaa
open Go.RowKit Go.Lib
set_option linter.unusedVariables false
set_option linter.unusedSimpArgs false

/-- block g holds these cells from its head on -/
def Box (w : World) (g : Nat) (cs : List Value) : Prop := g < w.heap.size ∧ ∀ j u, cs[j]? = some u → w.cell? ⟨g, j, none⟩ = some u
theorem Box.below {w w' : World} {g : Nat} {cs : List Value} (h : Box w g cs) (hb : Below w.heap.size w w') : Box w' g cs :=
  ⟨Nat.lt_of_lt_of_le h.1 hb.size, fun j u hj => (hb.cell (p := ⟨g, j, none⟩) h.1).trans (h.2 j u hj)⟩
theorem Box.new (w : World) (cs : List Value) (t : TypeId) : Box (w.alloc (.cells cs.toArray t)) w.heap.size cs := by
  refine ⟨by simp, fun j u hj => ?_⟩
  rw [World.cell?_alloc_at _ _ _ _ rfl]
  simpa using hj
/-- one box, then a callee -/
theorem box_1 {w w1 : World} {cs : List Value} {t : TypeId} (hb : Below (w.alloc (.cells cs.toArray t)).heap.size (w.alloc (.cells cs.toArray t)) w1) : Box w1 w.heap.size cs ∧ Below w.heap.size w w1 :=
  ⟨(Box.new w cs t).below hb, below_box hb⟩
/-- two boxes, then a callee -/
theorem box_2 {w w1 : World} {cs ds : List Value} {t s : TypeId} (hb : Below ((w.alloc (.cells cs.toArray t)).alloc (.cells ds.toArray s)).heap.size ((w.alloc (.cells cs.toArray t)).alloc (.cells ds.toArray s)) w1) :
    Box w1 w.heap.size cs ∧ Box w1 (w.heap.size + 1) ds ∧ Below w.heap.size w w1 := by
  refine ⟨((Box.new w cs t).below (below_new _ _)).below hb, ?_, below_tr (below_tr (below_new _ _) (below_new _ _)) hb⟩
  have := (Box.new (w.alloc (.cells cs.toArray t)) ds s).below hb
  simpa using this
theorem Box.get5 {w : World} {g : Nat} {x0 x1 x2 x3 x4 : Value} (h : Box w g [x0, x1, x2, x3, x4]) : w.cell? ⟨g, 0, none⟩ = some x0 ∧ w.cell? ⟨g, 1, none⟩ = some x1 ∧ w.cell? ⟨g, 2, none⟩ = some x2 ∧ w.cell? ⟨g, 3, none⟩ = some x3 ∧ w.cell? ⟨g, 4, none⟩ = some x4 :=
  ⟨h.2 0 _ rfl, h.2 1 _ rfl, h.2 2 _ rfl, h.2 3 _ rfl, h.2 4 _ rfl⟩
theorem Box.get7 {w : World} {g : Nat} {x0 x1 x2 x3 x4 x5 x6 : Value} (h : Box w g [x0, x1, x2, x3, x4, x5, x6]) : w.cell? ⟨g, 0, none⟩ = some x0 ∧ w.cell? ⟨g, 1, none⟩ = some x1 ∧ w.cell? ⟨g, 2, none⟩ = some x2 ∧ w.cell? ⟨g, 3, none⟩ = some x3 ∧ w.cell? ⟨g, 4, none⟩ = some x4 ∧ w.cell? ⟨g, 5, none⟩ = some x5 ∧ w.cell? ⟨g, 6, none⟩ = some x6 :=
  ⟨h.2 0 _ rfl, h.2 1 _ rfl, h.2 2 _ rfl, h.2 3 _ rfl, h.2 4 _ rfl, h.2 5 _ rfl, h.2 6 _ rfl⟩

structure CutL where
  en : Int
  v : Ver
  aft : Bool
abbrev CutL.cells (c : CutL) : List Value := [.int .i64 c.en, .int .i64 c.v.maj, .int .i64 c.v.min, .int .i64 c.v.pat, .string c.v.pre, .string c.v.bld, .bool c.aft]
abbrev CutL.val (c : CutL) : Value := .agg #[.int .i64 c.en, .int .i64 c.v.maj, .int .i64 c.v.min, .int .i64 c.v.pat, .string c.v.pre, .string c.v.bld, .bool c.aft]
def CutL.fit (c : CutL) : Prop := c.v.fit
def zeroV : Ver := ⟨0, 0, 0, ⟨#[]⟩, ⟨#[]⟩⟩
def mayC (c : CutL) : Bool := if c.en = 0 then mayV c.v && (bts c.v.bld).isEmpty else (decide (c.en = -1) || decide (c.en = 1)) && eqVer c.v zeroV && !c.aft

theorem eqlV0 (a : Ver) (w : World) : (binOp .eql 24 a.val (.agg #[.int .i64 0, .int .i64 0, .int .i64 0, .string ⟨#[]⟩, .string ⟨#[]⟩])).run Try.prog w = .ok (.bool (eqVer a zeroV)) w := eqlV a zeroV w
theorem eqgV0 (op : BinOp) (x y : Operand) (a : Ver) (w : World) : (eqGuard op 24 x y a.val (.agg #[.int .i64 0, .int .i64 0, .int .i64 0, .string ⟨#[]⟩, .string ⟨#[]⟩])).run Try.prog w = .ok () w := eqgV op x y a zeroV w

theorem mayC_end {c : CutL} (h : c.en = -1 ∨ c.en = 1) : mayC c = (eqVer c.v zeroV && !c.aft) := by
  rw [mayC, if_neg (by omega)]
  rcases h with h | h <;> simp [h]
theorem mayC_zero {c : CutL} (h : c.en = 0) : mayC c = (mayV c.v && (bts c.v.bld).isEmpty) := by rw [mayC, if_pos h]
theorem mayC_else {c : CutL} (h0 : c.en ≠ 0) (h1 : c.en ≠ -1) (h2 : c.en ≠ 1) : mayC c = false := by rw [mayC, if_neg h0]; simp [h1, h2]

set_option maxRecDepth 100000 in
set_option maxHeartbeats 2000000 in
theorem cmay_any (c : CutL) (w : World) (hc : c.fit) : Calls Try.prog 50 #[c.val] w (BoolPost w (mayC c)) := by
  generalize hr : mayC c = r
  have HR := hid hr
  clear hr
  have hq := eqlV0
  have hqg := eqgV0
  by_cases hE : c.en = -1 ∨ c.en = 1
  · have HE := hid (mayC_end hE)
    have hcase : (c.en == -1) = true ∨ ((c.en == -1) = false ∧ (c.en == 1) = true) := by
      rcases hE with h | h
      · exact .inl (by simp [h])
      · exact .inr ⟨by simp [h], by simp [h]⟩
    clear hE
    cases hv : eqVer c.v zeroV
    · rcases hcase with h1 | ⟨h1, h2⟩
      all_goals
        go_enter Try.func50, Try.ntmps50
        go_wp2_with fail
        go_ret
        exact ⟨by rw [← HR.out, HE.out, hv]; rfl, below_new _ _⟩
    · rcases hcase with h1 | ⟨h1, h2⟩
      all_goals
        go_enter Try.func50, Try.ntmps50
        go_wp2_with fail
        go_ret
        exact ⟨by rw [← HR.out, HE.out, hv]; rfl, below_new _ _⟩
  · have h1 : (c.en == -1) = false := by simp; omega
    have h2 : (c.en == 1) = false := by simp; omega
    by_cases hz : c.en = 0
    · have h3 : (c.en != 0) = false := by simp [hz]
      have HE := hid (mayC_zero hz)
      clear hE hz
      cases hv : mayV c.v
      · go_enter Try.func50, Try.ntmps50
        go_wp2_with (go_at_call 61; refine (may_any c.v _ hc).mono ?_; rintro e w1 ⟨rfl, hb1⟩)
        go_ret
        exact ⟨by rw [← HR.out, HE.out, hv]; rfl, below_box hb1⟩
      · go_enter Try.func50, Try.ntmps50
        go_wp2_with fail
        refine (may_any c.v _ hc).mono ?_
        rintro e w1 ⟨rfl, hb1⟩
        obtain ⟨hx, hbw⟩ := box_1 (cs := c.cells) hb1
        obtain ⟨x0, x1, x2, x3, x4, x5, x6⟩ := hx.get7
        clear hx hb1
        go_wp2_with fail
        go_ret
        exact ⟨by rw [← HR.out, HE.out, hv]; rfl, hbw⟩
    · have h3 : (c.en != 0) = true := by simpa using hz
      have HE := hid (mayC_else hz (by omega) (by omega))
      clear hE hz
      go_enter Try.func50, Try.ntmps50
      go_wp2_with fail
      go_ret
      exact ⟨by rw [← HR.out, HE.out]; rfl, below_new _ _⟩

set_option maxRecDepth 100000 in
set_option maxHeartbeats 2000000 in
theorem rcmay_any (c : CutL) (w : World) (hc : c.fit) : Calls Try.prog 55 #[c.val] w (BoolPost w (mayC c)) := by
  generalize hr : mayC c = r
  have HR := hid hr
  clear hr
  have hq := eqlV0
  have hqg := eqgV0
  by_cases hz : c.en = 0
  · have h3 : (c.en == 0) = true := by simp [hz]
    have HE := hid (mayC_zero hz)
    clear hz
    cases hv : mayV c.v
    · go_enter Try.func55, Try.ntmps55
      go_wp2_with (go_at_call 47; refine (rmay_any c.v _ hc).mono ?_; rintro e w1 ⟨rfl, hb1⟩)
      go_ret
      exact ⟨by rw [← HR.out, HE.out, hv]; rfl, below_box hb1⟩
    · go_enter Try.func55, Try.ntmps55
      go_wp2_with fail
      refine (rmay_any c.v _ hc).mono ?_
      rintro e w1 ⟨rfl, hb1⟩
      obtain ⟨hx, hbw⟩ := box_1 (cs := c.cells) hb1
      obtain ⟨x0, x1, x2, x3, x4, x5, x6⟩ := hx.get7
      clear hx hb1
      go_wp2_with fail
      go_ret
      exact ⟨by rw [← HR.out, HE.out, hv]; rfl, hbw⟩
  · have h3 : (c.en == 0) = false := by simpa using hz
    by_cases hE : c.en = -1 ∨ c.en = 1
    · have HE := hid (mayC_end hE)
      have hcase : (c.en == -1) = true ∨ ((c.en == -1) = false ∧ (c.en == 1) = true) := by
        rcases hE with h | h
        · exact .inl (by simp [h])
        · exact .inr ⟨by simp [h], by simp [h]⟩
      clear hE hz
      cases hv : eqVer c.v zeroV
      · rcases hcase with h1 | ⟨h1, h2⟩
        all_goals
          go_enter Try.func55, Try.ntmps55
          go_wp2_with fail
          go_ret
          exact ⟨by rw [← HR.out, HE.out, hv]; rfl, below_new _ _⟩
      · rcases hcase with h1 | ⟨h1, h2⟩
        all_goals
          go_enter Try.func55, Try.ntmps55
          go_wp2_with fail
          go_ret
          exact ⟨by rw [← HR.out, HE.out, hv]; rfl, below_new _ _⟩
    · have h1 : (c.en == -1) = false := by simp; omega
      have h2 : (c.en == 1) = false := by simp; omega
      have HE := hid (mayC_else hz (by omega) (by omega))
      clear hE hz
      go_enter Try.func55, Try.ntmps55
      go_wp2_with fail
      go_ret
      exact ⟨by rw [← HR.out, HE.out]; rfl, below_new _ _⟩
end Go.Proofs.Ytodicnjoimoiiaa
