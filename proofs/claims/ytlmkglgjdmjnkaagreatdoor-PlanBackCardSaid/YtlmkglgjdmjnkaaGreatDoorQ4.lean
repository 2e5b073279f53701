/- Parts 4 of the proofs. -/
import Derived.Test.YtlmkglgjdmjnkaaGreatDoorQ3
import Derived.BigQuiet
namespace Go.Proofs.YtlmkglgjdmjnkaaGreatDoor
open Go.RowKit Go.Lib
set_option linter.unusedVariables false
set_option linter.unusedSimpArgs false
def Box (w : World) (g : Nat) (cs : List Value) : Prop := g < w.heap.size ∧ ∀ j u, cs[j]? = some u → w.cell? ⟨g, j, none⟩ = some u
theorem Box.below {w w' : World} {g : Nat} {cs : List Value} (h : Box w g cs) (hb : Below w.heap.size w w') : Box w' g cs :=
  ⟨Nat.lt_of_lt_of_le h.1 hb.size, fun j u hj => (hb.cell (p := ⟨g, j, none⟩) h.1).trans (h.2 j u hj)⟩
theorem Box.new (w : World) (cs : List Value) (t : TypeId) : Box (w.alloc (.cells cs.toArray t)) w.heap.size cs := by
  refine ⟨by simp, fun j u hj => ?_⟩
  rw [World.cell?_alloc_at _ _ _ _ rfl]
  simpa using hj
theorem box_1 {w w1 : World} {cs : List Value} {t : TypeId} (hb : Below (w.alloc (.cells cs.toArray t)).heap.size (w.alloc (.cells cs.toArray t)) w1) : Box w1 w.heap.size cs ∧ Below w.heap.size w w1 :=
  ⟨(Box.new w cs t).below hb, below_box hb⟩
theorem box_2 {w w1 : World} {cs ds : List Value} {t s : TypeId} (hb : Below ((w.alloc (.cells cs.toArray t)).alloc (.cells ds.toArray s)).heap.size ((w.alloc (.cells cs.toArray t)).alloc (.cells ds.toArray s)) w1) :
    Box w1 w.heap.size cs ∧ Box w1 (w.heap.size + 1) ds ∧ Below w.heap.size w w1 := by
  refine ⟨((Box.new w cs t).below (below_new _ _)).below hb, ?_, below_tr (below_tr (below_new _ _) (below_new _ _)) hb⟩
  have := (Box.new (w.alloc (.cells cs.toArray t)) ds s).below hb
  simpa using this
theorem Box.get5 {w : World} {g : Nat} {x0 x1 x2 x3 x4 : Value} (h : Box w g [x0, x1, x2, x3, x4]) : w.cell? ⟨g, 0, none⟩ = some x0 ∧ w.cell? ⟨g, 1, none⟩ = some x1 ∧ w.cell? ⟨g, 2, none⟩ = some x2 ∧ w.cell? ⟨g, 3, none⟩ = some x3 ∧ w.cell? ⟨g, 4, none⟩ = some x4 :=
  ⟨h.2 0 _ rfl, h.2 1 _ rfl, h.2 2 _ rfl, h.2 3 _ rfl, h.2 4 _ rfl⟩
theorem Box.get7 {w : World} {g : Nat} {x0 x1 x2 x3 x4 x5 x6 : Value} (h : Box w g [x0, x1, x2, x3, x4, x5, x6]) : w.cell? ⟨g, 0, none⟩ = some x0 ∧ w.cell? ⟨g, 1, none⟩ = some x1 ∧ w.cell? ⟨g, 2, none⟩ = some x2 ∧ w.cell? ⟨g, 3, none⟩ = some x3 ∧ w.cell? ⟨g, 4, none⟩ = some x4 ∧ w.cell? ⟨g, 5, none⟩ = some x5 ∧ w.cell? ⟨g, 6, none⟩ = some x6 :=
  ⟨h.2 0 _ rfl, h.2 1 _ rfl, h.2 2 _ rfl, h.2 3 _ rfl, h.2 4 _ rfl, h.2 5 _ rfl, h.2 6 _ rfl⟩
structure CutL where
  en : Int
  v : Ver
  aft : Bool
abbrev CutL.cells (c : CutL) : List Value := [.int .i64 c.en, .int .i64 c.v.maj, .int .i64 c.v.min, .int .i64 c.v.pat, .string c.v.pre, .string c.v.bld, .bool c.aft]
abbrev CutL.val (c : CutL) : Value := .agg #[.int .i64 c.en, .int .i64 c.v.maj, .int .i64 c.v.min, .int .i64 c.v.pat, .string c.v.pre, .string c.v.bld, .bool c.aft]
def CutL.fit (c : CutL) : Prop := c.v.fit
def zeroV : Ver := ⟨0, 0, 0, ⟨#[]⟩, ⟨#[]⟩⟩
def mayC (c : CutL) : Bool := if c.en = 0 then mayV c.v && (bts c.v.bld).isEmpty else (decide (c.en = -1) || decide (c.en = 1)) && eqVer c.v zeroV && !c.aft
theorem eqlV0 (a : Ver) (w : World) : (binOp .eql 29 a.val (.agg #[.int .i64 0, .int .i64 0, .int .i64 0, .string ⟨#[]⟩, .string ⟨#[]⟩])).run Tryz.prog w = .ok (.bool (eqVer a zeroV)) w := eqlV a zeroV w
theorem eqgV0 (op : BinOp) (x y : Operand) (a : Ver) (w : World) : (eqGuard op 29 x y a.val (.agg #[.int .i64 0, .int .i64 0, .int .i64 0, .string ⟨#[]⟩, .string ⟨#[]⟩])).run Tryz.prog w = .ok () w := eqgV op x y a zeroV w
theorem mayC_end {c : CutL} (h : c.en = -1 ∨ c.en = 1) : mayC c = (eqVer c.v zeroV && !c.aft) := by
  rw [mayC, if_neg (by omega)]
  rcases h with h | h <;> simp [h]
theorem mayC_zero {c : CutL} (h : c.en = 0) : mayC c = (mayV c.v && (bts c.v.bld).isEmpty) := by rw [mayC, if_pos h]
theorem mayC_else {c : CutL} (h0 : c.en ≠ 0) (h1 : c.en ≠ -1) (h2 : c.en ≠ 1) : mayC c = false := by rw [mayC, if_neg h0]; simp [h1, h2]
set_option maxRecDepth 100000 in
set_option maxHeartbeats 2000000 in
theorem cmay_any (c : CutL) (w : World) (hc : c.fit) : Calls Tryz.prog 196 #[c.val] w (BoolPost w (mayC c)) := by
  generalize hr : mayC c = r
  have HR := hid hr
  clear hr
  have hq := eqlV0
  have hqg := eqgV0
  by_cases hE : c.en = -1 ∨ c.en = 1
  · have HE := hid (mayC_end hE)
    have hcase : (c.en == -1) = true ∨ ((c.en == -1) = false ∧ (c.en == 1) = true) := by
      rcases hE with h | h
      · exact .inl (by simp [h])
      · exact .inr ⟨by simp [h], by simp [h]⟩
    clear hE
    cases hv : eqVer c.v zeroV
    · rcases hcase with h1 | ⟨h1, h2⟩
      all_goals
        go_enter Tryz.func196, Tryz.ntmps196
        go_wp2_with fail
        go_ret
        exact ⟨by rw [← HR.out, HE.out, hv]; rfl, below_new _ _⟩
    · rcases hcase with h1 | ⟨h1, h2⟩
      all_goals
        go_enter Tryz.func196, Tryz.ntmps196
        go_wp2_with fail
        go_ret
        exact ⟨by rw [← HR.out, HE.out, hv]; rfl, below_new _ _⟩
  · have h1 : (c.en == -1) = false := by simp; omega
    have h2 : (c.en == 1) = false := by simp; omega
    by_cases hz : c.en = 0
    · have h3 : (c.en != 0) = false := by simp [hz]
      have HE := hid (mayC_zero hz)
      clear hE hz
      cases hv : mayV c.v
      · go_enter Tryz.func196, Tryz.ntmps196
        go_wp2_with (go_at_call 143; refine (may_any c.v _ hc).mono ?_; rintro e w1 ⟨rfl, hb1⟩)
        go_ret
        exact ⟨by rw [← HR.out, HE.out, hv]; rfl, below_box hb1⟩
      · go_enter Tryz.func196, Tryz.ntmps196
        go_wp2_with fail
        refine (may_any c.v _ hc).mono ?_
        rintro e w1 ⟨rfl, hb1⟩
        obtain ⟨hx, hbw⟩ := box_1 (cs := c.cells) hb1
        obtain ⟨x0, x1, x2, x3, x4, x5, x6⟩ := hx.get7
        clear hx hb1
        go_wp2_with fail
        go_ret
        exact ⟨by rw [← HR.out, HE.out, hv]; rfl, hbw⟩
    · have h3 : (c.en != 0) = true := by simpa using hz
      have HE := hid (mayC_else hz (by omega) (by omega))
      clear hE hz
      go_enter Tryz.func196, Tryz.ntmps196
      go_wp2_with fail
      go_ret
      exact ⟨by rw [← HR.out, HE.out]; rfl, below_new _ _⟩
set_option maxRecDepth 100000 in
set_option maxHeartbeats 2000000 in
theorem rcmay_any (c : CutL) (w : World) (hc : c.fit) : Calls Tryz.prog 192 #[c.val] w (BoolPost w (mayC c)) := by
  generalize hr : mayC c = r
  have HR := hid hr
  clear hr
  have hq := eqlV0
  have hqg := eqgV0
  by_cases hz : c.en = 0
  · have h3 : (c.en == 0) = true := by simp [hz]
    have HE := hid (mayC_zero hz)
    clear hz
    cases hv : mayV c.v
    · go_enter Tryz.func192, Tryz.ntmps192
      go_wp2_with (go_at_call 61; refine (rmay_any c.v _ hc).mono ?_; rintro e w1 ⟨rfl, hb1⟩)
      go_ret
      exact ⟨by rw [← HR.out, HE.out, hv]; rfl, below_box hb1⟩
    · go_enter Tryz.func192, Tryz.ntmps192
      go_wp2_with fail
      refine (rmay_any c.v _ hc).mono ?_
      rintro e w1 ⟨rfl, hb1⟩
      obtain ⟨hx, hbw⟩ := box_1 (cs := c.cells) hb1
      obtain ⟨x0, x1, x2, x3, x4, x5, x6⟩ := hx.get7
      clear hx hb1
      go_wp2_with fail
      go_ret
      exact ⟨by rw [← HR.out, HE.out, hv]; rfl, hbw⟩
  · have h3 : (c.en == 0) = false := by simpa using hz
    by_cases hE : c.en = -1 ∨ c.en = 1
    · have HE := hid (mayC_end hE)
      have hcase : (c.en == -1) = true ∨ ((c.en == -1) = false ∧ (c.en == 1) = true) := by
        rcases hE with h | h
        · exact .inl (by simp [h])
        · exact .inr ⟨by simp [h], by simp [h]⟩
      clear hE hz
      cases hv : eqVer c.v zeroV
      · rcases hcase with h1 | ⟨h1, h2⟩
        all_goals
          go_enter Tryz.func192, Tryz.ntmps192
          go_wp2_with fail
          go_ret
          exact ⟨by rw [← HR.out, HE.out, hv]; rfl, below_new _ _⟩
      · rcases hcase with h1 | ⟨h1, h2⟩
        all_goals
          go_enter Tryz.func192, Tryz.ntmps192
          go_wp2_with fail
          go_ret
          exact ⟨by rw [← HR.out, HE.out, hv]; rfl, below_new _ _⟩
    · have h1 : (c.en == -1) = false := by simp; omega
      have h2 : (c.en == 1) = false := by simp; omega
      have HE := hid (mayC_else hz (by omega) (by omega))
      clear hE hz
      go_enter Tryz.func192, Tryz.ntmps192
      go_wp2_with fail
      go_ret
      exact ⟨by rw [← HR.out, HE.out]; rfl, below_new _ _⟩
end Go.Proofs.YtlmkglgjdmjnkaaGreatDoor
namespace Go.Proofs.YtlmkglgjdmjnkaaGreatDoor
open Go.RowKit Go.Lib
set_option linter.unusedVariables false
set_option linter.unusedSimpArgs false
def cmpC (a b : CutL) : Int := if mayC a = false ∨ mayC b = false then 0 else if a.en ≠ 0 ∨ b.en ≠ 0 then cmpI a.en b.en else if cmpV a.v b.v ≠ 0 then cmpV a.v b.v else if a.aft = b.aft then 0 else if b.aft then -1 else 1
theorem cmpC_of {a b : CutL} (h1 : mayC a = true) (h2 : mayC b = true) : cmpC a b = if a.en ≠ 0 ∨ b.en ≠ 0 then cmpI a.en b.en else if cmpV a.v b.v ≠ 0 then cmpV a.v b.v else if a.aft = b.aft then 0 else if b.aft then -1 else 1 := by
  rw [cmpC, if_neg (by simp [h1, h2])]
set_option maxRecDepth 100000 in
set_option maxHeartbeats 4000000 in
theorem ccompare_any (a b : CutL) (w : World) (ha : a.fit) (hb : b.fit) : Calls Tryz.prog 190 #[a.val, b.val] w (IntPost w (cmpC a b)) := by
  generalize hr : cmpC a b = r
  have HR := hid hr
  clear hr
  cases h1 : mayC a
  · go_enter Tryz.func190, Tryz.ntmps190
    go_wp2_with fail
    refine (cmay_any a _ ha).mono ?_
    rintro e w1 ⟨rfl, hb1⟩
    obtain ⟨hx, hy, hbw⟩ := box_2 (cs := a.cells) (ds := b.cells) hb1
    clear hx hy hb1
    go_wp2_with fail
    go_ret
    exact ⟨by rw [← HR.out, cmpC, if_pos (.inl h1)]; rfl, hbw⟩
  · cases h2 : mayC b
    · go_enter Tryz.func190, Tryz.ntmps190
      go_wp2_with fail
      refine (cmay_any a _ ha).mono ?_
      rintro e w1 ⟨rfl, hb1⟩
      obtain ⟨hx, hy, hbw⟩ := box_2 (cs := a.cells) (ds := b.cells) hb1
      obtain ⟨y0, y1, y2, y3, y4, y5, y6⟩ := hy.get7
      clear hx hy hb1
      go_wp2_with fail
      refine (cmay_any b _ hb).mono ?_
      rintro e w2 ⟨rfl, hb2⟩
      go_wp2_with fail
      go_ret
      exact ⟨by rw [← HR.out, cmpC, if_pos (.inr h2)]; rfl, below_tr hbw hb2⟩
    · have HV := hid (cmpC_of h1 h2)
      go_enter Tryz.func190, Tryz.ntmps190
      go_wp2_with fail
      refine (cmay_any a _ ha).mono ?_
      rintro e w1 ⟨rfl, hb1⟩
      obtain ⟨hx, hy, hbw⟩ := box_2 (cs := a.cells) (ds := b.cells) hb1
      obtain ⟨y0, y1, y2, y3, y4, y5, y6⟩ := hy.get7
      clear hb1
      go_wp2_with fail
      refine (cmay_any b _ hb).mono ?_
      rintro e w2 ⟨rfl, hb2⟩
      have hx2 := hx.below hb2
      have hy2 := hy.below hb2
      have hbw2 := below_tr hbw hb2
      clear y0 y1 y2 y3 y4 y5 y6 hx hy hbw hb2
      obtain ⟨x0, x1, x2, x3, x4, x5, x6⟩ := hx2.get7
      obtain ⟨y0, y1, y2, y3, y4, y5, y6⟩ := hy2.get7
      by_cases hE : a.en ≠ 0 ∨ b.en ≠ 0
      · have HE := hid (show cmpC a b = cmpI a.en b.en by rw [HV.out, if_pos hE])
        have hcase : (a.en != 0) = true ∨ ((a.en != 0) = false ∧ (b.en != 0) = true) := by
          by_cases h : a.en = 0
          · exact .inr ⟨by simp [h], by simp; omega⟩
          · exact .inl (by simpa using h)
        clear hE hx2 hy2
        rcases hcase with e1 | ⟨e1, e2⟩
        all_goals
          go_wp2_with (go_at_call 173; refine (cmpi_any _ _ _).mono ?_; rintro e w' ⟨rfl, rfl⟩)
          go_ret
          exact ⟨by rw [← HR.out, HE.out]; rfl, hbw2⟩
      · have e1 : (a.en != 0) = false := by simp; omega
        have e2 : (b.en != 0) = false := by simp; omega
        have HE := hid (show cmpC a b = if cmpV a.v b.v ≠ 0 then cmpV a.v b.v else if a.aft = b.aft then 0 else if b.aft then -1 else 1 by rw [HV.out, if_neg hE])
        clear hE
        go_wp2_with fail
        refine (vcompare_any a.v b.v _ ha hb).mono ?_
        rintro e w3 ⟨rfl, hb3⟩
        have hx3 := hx2.below hb3
        have hy3 := hy2.below hb3
        have hbw3 := below_tr hbw2 hb3
        clear x0 x1 x2 x3 x4 x5 x6 y0 y1 y2 y3 y4 y5 y6 hx2 hy2 hbw2 hb3
        obtain ⟨x0, x1, x2, x3, x4, x5, x6⟩ := hx3.get7
        obtain ⟨y0, y1, y2, y3, y4, y5, y6⟩ := hy3.get7
        clear hx3 hy3
        by_cases hc : cmpV a.v b.v = 0
        · have hcond : (cmpV a.v b.v != 0) = false := by simp [hc]
          have HC := hid hc
          clear hc
          cases ka : a.aft <;> cases kb : b.aft
          · go_wp2_with fail
            go_ret
            exact ⟨by rw [← HR.out, HE.out, HC.out, ka, kb]; rfl, hbw3⟩
          · go_wp2_with fail
            go_ret
            exact ⟨by rw [← HR.out, HE.out, HC.out, ka, kb]; rfl, hbw3⟩
          · go_wp2_with fail
            go_ret
            exact ⟨by rw [← HR.out, HE.out, HC.out, ka, kb]; rfl, hbw3⟩
          · go_wp2_with fail
            go_ret
            exact ⟨by rw [← HR.out, HE.out, HC.out, ka, kb]; rfl, hbw3⟩
        · have hcond : (cmpV a.v b.v != 0) = true := by simpa using hc
          have HE2 := hid (show cmpC a b = cmpV a.v b.v by rw [HE.out, if_pos hc])
          clear hc
          go_wp2_with fail
          go_ret
          exact ⟨by rw [← HR.out, HE2.out]; rfl, hbw3⟩
set_option maxRecDepth 100000 in
set_option maxHeartbeats 4000000 in
theorem rccompare_any (a b : CutL) (w : World) (ha : a.fit) (hb : b.fit) : Calls Tryz.prog 183 #[a.val, b.val] w (IntPost w (cmpC a b)) := by
  generalize hr : cmpC a b = r
  have HR := hid hr
  clear hr
  cases h1 : mayC a
  · go_enter Tryz.func183, Tryz.ntmps183
    go_wp2_with fail
    refine (rcmay_any a _ ha).mono ?_
    rintro e w1 ⟨rfl, hb1⟩
    obtain ⟨hx, hy, hbw⟩ := box_2 (cs := a.cells) (ds := b.cells) hb1
    clear hx hy hb1
    go_wp2_with fail
    go_ret
    exact ⟨by rw [← HR.out, cmpC, if_pos (.inl h1)]; rfl, hbw⟩
  · cases h2 : mayC b
    · go_enter Tryz.func183, Tryz.ntmps183
      go_wp2_with fail
      refine (rcmay_any a _ ha).mono ?_
      rintro e w1 ⟨rfl, hb1⟩
      obtain ⟨hx, hy, hbw⟩ := box_2 (cs := a.cells) (ds := b.cells) hb1
      obtain ⟨y0, y1, y2, y3, y4, y5, y6⟩ := hy.get7
      clear hx hy hb1
      go_wp2_with fail
      refine (rcmay_any b _ hb).mono ?_
      rintro e w2 ⟨rfl, hb2⟩
      go_wp2_with fail
      go_ret
      exact ⟨by rw [← HR.out, cmpC, if_pos (.inr h2)]; rfl, below_tr hbw hb2⟩
    · have HV := hid (cmpC_of h1 h2)
      go_enter Tryz.func183, Tryz.ntmps183
      go_wp2_with fail
      refine (rcmay_any a _ ha).mono ?_
      rintro e w1 ⟨rfl, hb1⟩
      obtain ⟨hx, hy, hbw⟩ := box_2 (cs := a.cells) (ds := b.cells) hb1
      obtain ⟨y0, y1, y2, y3, y4, y5, y6⟩ := hy.get7
      clear hb1
      go_wp2_with fail
      refine (rcmay_any b _ hb).mono ?_
      rintro e w2 ⟨rfl, hb2⟩
      have hx2 := hx.below hb2
      have hy2 := hy.below hb2
      have hbw2 := below_tr hbw hb2
      clear y0 y1 y2 y3 y4 y5 y6 hx hy hbw hb2
      obtain ⟨x0, x1, x2, x3, x4, x5, x6⟩ := hx2.get7
      obtain ⟨y0, y1, y2, y3, y4, y5, y6⟩ := hy2.get7
      by_cases hE : a.en ≠ 0 ∨ b.en ≠ 0
      · have HE := hid (show cmpC a b = cmpI a.en b.en by rw [HV.out, if_pos hE])
        have hcase : (a.en != b.en) = true ∨ ((a.en != b.en) = false ∧ (a.en != 0) = true) := by
          by_cases h : a.en = b.en
          · exact .inr ⟨by simp [h], by simp; omega⟩
          · exact .inl (by simpa using h)
        clear hE hx2 hy2
        rcases hcase with e1 | ⟨e1, e2⟩
        all_goals
          go_wp2_with (go_at_call 193; refine (ints_any _ _ _).mono ?_; rintro e w' ⟨rfl, rfl⟩)
          go_ret
          exact ⟨by rw [← HR.out, HE.out]; rfl, hbw2⟩
      · have e1 : (a.en != b.en) = false := by simp; omega
        have e2 : (a.en != 0) = false := by simp; omega
        have HE := hid (show cmpC a b = if cmpV a.v b.v ≠ 0 then cmpV a.v b.v else if a.aft = b.aft then 0 else if b.aft then -1 else 1 by rw [HV.out, if_neg hE])
        clear hE
        go_wp2_with fail
        refine (rcompare_any a.v b.v _ ha hb).mono ?_
        rintro e w3 ⟨rfl, hb3⟩
        have hx3 := hx2.below hb3
        have hy3 := hy2.below hb3
        have hbw3 := below_tr hbw2 hb3
        clear x0 x1 x2 x3 x4 x5 x6 y0 y1 y2 y3 y4 y5 y6 hx2 hy2 hbw2 hb3
        obtain ⟨x0, x1, x2, x3, x4, x5, x6⟩ := hx3.get7
        obtain ⟨y0, y1, y2, y3, y4, y5, y6⟩ := hy3.get7
        clear hx3 hy3
        by_cases hc : cmpV a.v b.v = 0
        · have hcond : (cmpV a.v b.v != 0) = false := by simp [hc]
          have HC := hid hc
          clear hc
          cases ka : a.aft <;> cases kb : b.aft
          · go_wp2_with fail
            go_ret
            exact ⟨by rw [← HR.out, HE.out, HC.out, ka, kb]; rfl, hbw3⟩
          · go_wp2_with fail
            go_ret
            exact ⟨by rw [← HR.out, HE.out, HC.out, ka, kb]; rfl, hbw3⟩
          · go_wp2_with fail
            go_ret
            exact ⟨by rw [← HR.out, HE.out, HC.out, ka, kb]; rfl, hbw3⟩
          · go_wp2_with fail
            go_ret
            exact ⟨by rw [← HR.out, HE.out, HC.out, ka, kb]; rfl, hbw3⟩
        · have hcond : (cmpV a.v b.v != 0) = true := by simpa using hc
          have HE2 := hid (show cmpC a b = cmpV a.v b.v by rw [HE.out, if_pos hc])
          clear hc
          go_wp2_with fail
          go_ret
          exact ⟨by rw [← HR.out, HE2.out]; rfl, hbw3⟩
end Go.Proofs.YtlmkglgjdmjnkaaGreatDoor
namespace Go.Proofs.YtlmkglgjdmjnkaaGreatDoor
open Go.RowKit Go.Lib
set_option linter.unusedVariables false
set_option linter.unusedSimpArgs false
def aheadC (c : CutL) (v : Ver) : Bool := mayC c && mayV v && (if c.en ≠ 0 then decide (c.en < 0) else decide (cmpV c.v v < 0) || (decide (cmpV c.v v = 0) && !c.aft))
structure SpanL where
  fr : CutL
  til : CutL
abbrev SpanL.cells (s : SpanL) : List Value := [.int .i64 s.fr.en, .int .i64 s.fr.v.maj, .int .i64 s.fr.v.min, .int .i64 s.fr.v.pat, .string s.fr.v.pre, .string s.fr.v.bld, .bool s.fr.aft, .int .i64 s.til.en, .int .i64 s.til.v.maj, .int .i64 s.til.v.min, .int .i64 s.til.v.pat, .string s.til.v.pre, .string s.til.v.bld, .bool s.til.aft]
abbrev SpanL.val (s : SpanL) : Value := .agg #[.int .i64 s.fr.en, .int .i64 s.fr.v.maj, .int .i64 s.fr.v.min, .int .i64 s.fr.v.pat, .string s.fr.v.pre, .string s.fr.v.bld, .bool s.fr.aft, .int .i64 s.til.en, .int .i64 s.til.v.maj, .int .i64 s.til.v.min, .int .i64 s.til.v.pat, .string s.til.v.pre, .string s.til.v.bld, .bool s.til.aft]
def SpanL.fit (s : SpanL) : Prop := s.fr.fit ∧ s.til.fit
def spanMay (s : SpanL) : Bool := mayC s.fr && mayC s.til && decide (cmpC s.fr s.til < 0)
def holdsS (s : SpanL) (v : Ver) : Bool := spanMay s && mayV v && aheadC s.fr v && !aheadC s.til v
theorem Box.get14 {w : World} {g : Nat} {x0 x1 x2 x3 x4 x5 x6 x7 x8 x9 x10 x11 x12 x13 : Value} (h : Box w g [x0, x1, x2, x3, x4, x5, x6, x7, x8, x9, x10, x11, x12, x13]) : (w.cell? ⟨g, 0, none⟩ = some x0 ∧ w.cell? ⟨g, 1, none⟩ = some x1 ∧ w.cell? ⟨g, 2, none⟩ = some x2 ∧ w.cell? ⟨g, 3, none⟩ = some x3 ∧ w.cell? ⟨g, 4, none⟩ = some x4 ∧ w.cell? ⟨g, 5, none⟩ = some x5 ∧ w.cell? ⟨g, 6, none⟩ = some x6) ∧
    (w.cell? ⟨g, 7, none⟩ = some x7 ∧ w.cell? ⟨g, 8, none⟩ = some x8 ∧ w.cell? ⟨g, 9, none⟩ = some x9 ∧ w.cell? ⟨g, 10, none⟩ = some x10 ∧ w.cell? ⟨g, 11, none⟩ = some x11 ∧ w.cell? ⟨g, 12, none⟩ = some x12 ∧ w.cell? ⟨g, 13, none⟩ = some x13) :=
  ⟨⟨h.2 0 _ rfl, h.2 1 _ rfl, h.2 2 _ rfl, h.2 3 _ rfl, h.2 4 _ rfl, h.2 5 _ rfl, h.2 6 _ rfl⟩, ⟨h.2 7 _ rfl, h.2 8 _ rfl, h.2 9 _ rfl, h.2 10 _ rfl, h.2 11 _ rfl, h.2 12 _ rfl, h.2 13 _ rfl⟩⟩
def CutPost (w : World) (c : CutL) (e : Ending) (w' : World) : Prop := e = .returned c.val ∧ Below w.heap.size w w'
def firstC : CutL := ⟨-1, zeroV, false⟩
def lastC : CutL := ⟨1, zeroV, false⟩
theorem aheadC_no1 {c : CutL} {v : Ver} (h : mayC c = false) : aheadC c v = false := by simp [aheadC, h]
theorem aheadC_no2 {c : CutL} {v : Ver} (h : mayV v = false) : aheadC c v = false := by simp [aheadC, h]
theorem aheadC_end {c : CutL} {v : Ver} (h1 : mayC c = true) (h2 : mayV v = true) (h : c.en ≠ 0) : aheadC c v = decide (c.en < 0) := by simp [aheadC, h1, h2, h]
theorem aheadC_in {c : CutL} {v : Ver} (h1 : mayC c = true) (h2 : mayV v = true) (h : c.en = 0) : aheadC c v = (decide (cmpV c.v v < 0) || (decide (cmpV c.v v = 0) && !c.aft)) := by simp [aheadC, h1, h2, h]
set_option maxRecDepth 100000 in
set_option maxHeartbeats 4000000 in
theorem ahead_any (c : CutL) (v : Ver) (w : World) (hc : c.fit) (hv : v.fit) : Calls Tryz.prog 191 #[c.val, v.val] w (BoolPost w (aheadC c v)) := by
  generalize hr : aheadC c v = r
  have HR := hid hr
  clear hr
  cases h1 : mayC c
  · go_enter Tryz.func191, Tryz.ntmps191
    go_wp2_with fail
    refine (cmay_any c _ hc).mono ?_
    rintro e w1 ⟨rfl, hb1⟩
    obtain ⟨hx, hy, hbw⟩ := box_2 (cs := c.cells) (ds := v.cells) hb1
    clear hx hy hb1
    go_wp2_with fail
    go_ret
    exact ⟨by rw [← HR.out, aheadC_no1 h1]; rfl, hbw⟩
  · cases h2 : mayV v
    · go_enter Tryz.func191, Tryz.ntmps191
      go_wp2_with fail
      refine (cmay_any c _ hc).mono ?_
      rintro e w1 ⟨rfl, hb1⟩
      obtain ⟨hx, hy, hbw⟩ := box_2 (cs := c.cells) (ds := v.cells) hb1
      obtain ⟨y0, y1, y2, y3, y4⟩ := hy.get5
      clear hx hy hb1
      go_wp2_with fail
      refine (may_any v _ hv).mono ?_
      rintro e w2 ⟨rfl, hb2⟩
      go_wp2_with fail
      go_ret
      exact ⟨by rw [← HR.out, aheadC_no2 h2]; rfl, below_tr hbw hb2⟩
    · go_enter Tryz.func191, Tryz.ntmps191
      go_wp2_with fail
      refine (cmay_any c _ hc).mono ?_
      rintro e w1 ⟨rfl, hb1⟩
      obtain ⟨hx, hy, hbw⟩ := box_2 (cs := c.cells) (ds := v.cells) hb1
      obtain ⟨y0, y1, y2, y3, y4⟩ := hy.get5
      clear hb1
      go_wp2_with fail
      refine (may_any v _ hv).mono ?_
      rintro e w2 ⟨rfl, hb2⟩
      have hx2 := hx.below hb2
      have hy2 := hy.below hb2
      have hbw2 := below_tr hbw hb2
      clear y0 y1 y2 y3 y4 hx hy hbw hb2
      obtain ⟨x0, x1, x2, x3, x4, x5, x6⟩ := hx2.get7
      obtain ⟨y0, y1, y2, y3, y4⟩ := hy2.get5
      by_cases hE : c.en = 0
      · have e1 : (c.en != 0) = false := by simp [hE]
        have HE := hid (aheadC_in h1 h2 hE)
        clear hE
        go_wp2_with fail
        refine (vcompare_any c.v v _ hc hv).mono ?_
        rintro e w3 ⟨rfl, hb3⟩
        have hx3 := hx2.below hb3
        have hbw3 := below_tr hbw2 hb3
        clear x0 x1 x2 x3 x4 x5 x6 y0 y1 y2 y3 y4 hx2 hy2 hbw2 hb3
        obtain ⟨x0, x1, x2, x3, x4, x5, x6⟩ := hx3.get7
        clear hx3
        by_cases hl : cmpV c.v v < 0
        · have hd : decide (cmpV c.v v < 0) = true := by simpa using hl
          go_wp2_with fail
          go_ret
          exact ⟨by rw [← HR.out, HE.out, hd]; rfl, hbw3⟩
        · have hd : decide (cmpV c.v v < 0) = false := by simpa using hl
          by_cases hz : cmpV c.v v = 0
          · have hz1 : (cmpV c.v v == 0) = true := by simp [hz]
            have HZ := hid hz
            clear hz hl
            cases ka : c.aft
            · go_wp2_with fail
              go_ret
              exact ⟨by rw [← HR.out, HE.out, HZ.out, ka]; rfl, hbw3⟩
            · go_wp2_with fail
              go_ret
              exact ⟨by rw [← HR.out, HE.out, HZ.out, ka]; rfl, hbw3⟩
          · have hz1 : (cmpV c.v v == 0) = false := by simpa using hz
            have HZ := hid (show decide (cmpV c.v v = 0) = false by simpa using hz)
            have HD := hid hd
            clear hz hl
            go_wp2_with fail
            go_ret
            exact ⟨by rw [← HR.out, HE.out, HZ.out, HD.out]; rfl, hbw3⟩
      · have e1 : (c.en != 0) = true := by simpa using hE
        have HE := hid (aheadC_end h1 h2 hE)
        clear hE
        go_wp2_with fail
        go_ret
        exact ⟨by rw [← HR.out, HE.out]; rfl, hbw2⟩
set_option maxRecDepth 100000 in
set_option maxHeartbeats 4000000 in
theorem spanmay_any (s : SpanL) (w : World) (hs : s.fit) : Calls Tryz.prog 189 #[s.val] w (BoolPost w (spanMay s)) := by
  generalize hr : spanMay s = r
  have HR := hid hr
  clear hr
  cases h1 : mayC s.fr
  · go_enter Tryz.func189, Tryz.ntmps189
    go_wp2_with fail
    refine (cmay_any s.fr _ hs.1).mono ?_
    rintro e w1 ⟨rfl, hb1⟩
    obtain ⟨hx, hbw⟩ := box_1 (cs := s.cells) hb1
    clear hx hb1
    go_wp2_with fail
    go_ret
    exact ⟨by rw [← HR.out, spanMay, h1]; rfl, hbw⟩
  · cases h2 : mayC s.til
    · go_enter Tryz.func189, Tryz.ntmps189
      go_wp2_with fail
      refine (cmay_any s.fr _ hs.1).mono ?_
      rintro e w1 ⟨rfl, hb1⟩
      obtain ⟨hx, hbw⟩ := box_1 (cs := s.cells) hb1
      obtain ⟨_, y0, y1, y2, y3, y4, y5, y6⟩ := hx.get14
      clear hx hb1
      go_wp2_with fail
      refine (cmay_any s.til _ hs.2).mono ?_
      rintro e w2 ⟨rfl, hb2⟩
      go_wp2_with fail
      go_ret
      exact ⟨by rw [← HR.out, spanMay, h1, h2]; rfl, below_tr hbw hb2⟩
    · go_enter Tryz.func189, Tryz.ntmps189
      go_wp2_with fail
      refine (cmay_any s.fr _ hs.1).mono ?_
      rintro e w1 ⟨rfl, hb1⟩
      obtain ⟨hx, hbw⟩ := box_1 (cs := s.cells) hb1
      obtain ⟨_, y0, y1, y2, y3, y4, y5, y6⟩ := hx.get14
      clear hb1
      go_wp2_with fail
      refine (cmay_any s.til _ hs.2).mono ?_
      rintro e w2 ⟨rfl, hb2⟩
      have hx2 := hx.below hb2
      have hbw2 := below_tr hbw hb2
      clear y0 y1 y2 y3 y4 y5 y6 hx hbw hb2
      obtain ⟨⟨x0, x1, x2, x3, x4, x5, x6⟩, y0, y1, y2, y3, y4, y5, y6⟩ := hx2.get14
      clear hx2
      go_wp2_with fail
      refine (ccompare_any s.fr s.til _ hs.1 hs.2).mono ?_
      rintro e w3 ⟨rfl, hb3⟩
      go_wp2_with fail
      go_ret
      exact ⟨by rw [← HR.out, spanMay, h1, h2]; rfl, below_tr hbw2 hb3⟩
set_option maxRecDepth 100000 in
set_option maxHeartbeats 4000000 in
theorem holds_any (s : SpanL) (v : Ver) (w : World) (hs : s.fit) (hv : v.fit) : Calls Tryz.prog 179 #[s.val, v.val] w (BoolPost w (holdsS s v)) := by
  generalize hr : holdsS s v = r
  have HR := hid hr
  clear hr
  cases h1 : spanMay s
  · go_enter Tryz.func179, Tryz.ntmps179
    go_wp2_with fail
    refine (spanmay_any s _ hs).mono ?_
    rintro e w1 ⟨rfl, hb1⟩
    obtain ⟨hx, hy, hbw⟩ := box_2 (cs := s.cells) (ds := v.cells) hb1
    clear hx hy hb1
    go_wp2_with fail
    go_ret
    exact ⟨by rw [← HR.out, holdsS, h1]; rfl, hbw⟩
  · go_enter Tryz.func179, Tryz.ntmps179
    go_wp2_with fail
    refine (spanmay_any s _ hs).mono ?_
    rintro e w1 ⟨rfl, hb1⟩
    obtain ⟨hx, hy, hbw⟩ := box_2 (cs := s.cells) (ds := v.cells) hb1
    obtain ⟨y0, y1, y2, y3, y4⟩ := hy.get5
    clear hb1
    go_wp2_with fail
    refine (may_any v _ hv).mono ?_
    rintro e w2 ⟨rfl, hb2⟩
    have hx2 := hx.below hb2
    have hy2 := hy.below hb2
    have hbw2 := below_tr hbw hb2
    clear y0 y1 y2 y3 y4 hx hy hbw hb2
    cases h2 : mayV v
    · go_wp2_with fail
      go_ret
      exact ⟨by rw [← HR.out, holdsS, h1, h2]; rfl, hbw2⟩
    · obtain ⟨⟨x0, x1, x2, x3, x4, x5, x6⟩, z0, z1, z2, z3, z4, z5, z6⟩ := hx2.get14
      obtain ⟨y0, y1, y2, y3, y4⟩ := hy2.get5
      clear z0 z1 z2 z3 z4 z5 z6
      go_wp2_with fail
      refine (ahead_any s.fr v _ hs.1 hv).mono ?_
      rintro e w3 ⟨rfl, hb3⟩
      have hx3 := hx2.below hb3
      have hy3 := hy2.below hb3
      have hbw3 := below_tr hbw2 hb3
      clear x0 x1 x2 x3 x4 x5 x6 y0 y1 y2 y3 y4 hx2 hy2 hbw2 hb3
      cases h3 : aheadC s.fr v
      · go_wp2_with fail
        go_ret
        exact ⟨by rw [← HR.out, holdsS, h1, h2, h3]; rfl, hbw3⟩
      · obtain ⟨⟨x0, x1, x2, x3, x4, x5, x6⟩, z0, z1, z2, z3, z4, z5, z6⟩ := hx3.get14
        obtain ⟨y0, y1, y2, y3, y4⟩ := hy3.get5
        clear x0 x1 x2 x3 x4 x5 x6 hx3 hy3
        go_wp2_with fail
        refine (ahead_any s.til v _ hs.2 hv).mono ?_
        rintro e w4 ⟨rfl, hb4⟩
        go_wp2_with fail
        go_ret
        exact ⟨by rw [← HR.out, holdsS, h1, h2, h3]; rfl, below_tr hbw3 hb4⟩
set_option maxRecDepth 100000 in
set_option maxHeartbeats 4000000 in
theorem rahead_any (c : CutL) (v : Ver) (w : World) (hc : c.fit) (hv : v.fit) : Calls Tryz.prog 195 #[c.val, v.val] w (BoolPost w (aheadC c v)) := by
  generalize hr : aheadC c v = r
  have HR := hid hr
  clear hr
  cases h1 : mayC c
  · go_enter Tryz.func195, Tryz.ntmps195
    go_wp2_with fail
    refine (rcmay_any c _ hc).mono ?_
    rintro e w1 ⟨rfl, hb1⟩
    obtain ⟨hx, hy, hbw⟩ := box_2 (cs := c.cells) (ds := v.cells) hb1
    clear hx hy hb1
    go_wp2_with fail
    go_ret
    exact ⟨by rw [← HR.out, aheadC_no1 h1]; rfl, hbw⟩
  · cases h2 : mayV v
    · go_enter Tryz.func195, Tryz.ntmps195
      go_wp2_with fail
      refine (rcmay_any c _ hc).mono ?_
      rintro e w1 ⟨rfl, hb1⟩
      obtain ⟨hx, hy, hbw⟩ := box_2 (cs := c.cells) (ds := v.cells) hb1
      obtain ⟨y0, y1, y2, y3, y4⟩ := hy.get5
      clear hx hy hb1
      go_wp2_with fail
      refine (rmay_any v _ hv).mono ?_
      rintro e w2 ⟨rfl, hb2⟩
      go_wp2_with fail
      go_ret
      exact ⟨by rw [← HR.out, aheadC_no2 h2]; rfl, below_tr hbw hb2⟩
    · go_enter Tryz.func195, Tryz.ntmps195
      go_wp2_with fail
      refine (rcmay_any c _ hc).mono ?_
      rintro e w1 ⟨rfl, hb1⟩
      obtain ⟨hx, hy, hbw⟩ := box_2 (cs := c.cells) (ds := v.cells) hb1
      obtain ⟨y0, y1, y2, y3, y4⟩ := hy.get5
      clear hb1
      go_wp2_with fail
      refine (rmay_any v _ hv).mono ?_
      rintro e w2 ⟨rfl, hb2⟩
      have hx2 := hx.below hb2
      have hy2 := hy.below hb2
      have hbw2 := below_tr hbw hb2
      clear y0 y1 y2 y3 y4 hx hy hbw hb2
      obtain ⟨x0, x1, x2, x3, x4, x5, x6⟩ := hx2.get7
      obtain ⟨y0, y1, y2, y3, y4⟩ := hy2.get5
      by_cases hE : c.en = 0
      · have e1 : (c.en != 0) = false := by simp [hE]
        have HE := hid (aheadC_in h1 h2 hE)
        clear hE
        go_wp2_with fail
        refine (rcompare_any c.v v _ hc hv).mono ?_
        rintro e w3 ⟨rfl, hb3⟩
        have hx3 := hx2.below hb3
        have hbw3 := below_tr hbw2 hb3
        clear x0 x1 x2 x3 x4 x5 x6 y0 y1 y2 y3 y4 hx2 hy2 hbw2 hb3
        obtain ⟨x0, x1, x2, x3, x4, x5, x6⟩ := hx3.get7
        clear hx3
        by_cases hl : cmpV c.v v < 0
        · have hd : decide (cmpV c.v v < 0) = true := by simpa using hl
          go_wp2_with fail
          go_ret
          exact ⟨by rw [← HR.out, HE.out, hd]; rfl, hbw3⟩
        · have hd : decide (cmpV c.v v < 0) = false := by simpa using hl
          by_cases hz : cmpV c.v v = 0
          · have hz1 : (cmpV c.v v == 0) = true := by simp [hz]
            have HZ := hid hz
            clear hz hl
            cases ka : c.aft
            · go_wp2_with fail
              go_ret
              exact ⟨by rw [← HR.out, HE.out, HZ.out, ka]; rfl, hbw3⟩
            · go_wp2_with fail
              go_ret
              exact ⟨by rw [← HR.out, HE.out, HZ.out, ka]; rfl, hbw3⟩
          · have hz1 : (cmpV c.v v == 0) = false := by simpa using hz
            have HZ := hid (show decide (cmpV c.v v = 0) = false by simpa using hz)
            have HD := hid hd
            clear hz hl
            go_wp2_with fail
            go_ret
            exact ⟨by rw [← HR.out, HE.out, HZ.out, HD.out]; rfl, hbw3⟩
      · have e1 : (c.en != 0) = true := by simpa using hE
        have HE := hid (aheadC_end h1 h2 hE)
        clear hE
        go_wp2_with fail
        go_ret
        exact ⟨by rw [← HR.out, HE.out]; rfl, hbw2⟩
set_option maxRecDepth 100000 in
set_option maxHeartbeats 4000000 in
theorem rspanmay_any (s : SpanL) (w : World) (hs : s.fit) : Calls Tryz.prog 182 #[s.val] w (BoolPost w (spanMay s)) := by
  generalize hr : spanMay s = r
  have HR := hid hr
  clear hr
  cases h1 : mayC s.fr
  · go_enter Tryz.func182, Tryz.ntmps182
    go_wp2_with fail
    refine (rcmay_any s.fr _ hs.1).mono ?_
    rintro e w1 ⟨rfl, hb1⟩
    obtain ⟨hx, hbw⟩ := box_1 (cs := s.cells) hb1
    clear hx hb1
    go_wp2_with fail
    go_ret
    exact ⟨by rw [← HR.out, spanMay, h1]; rfl, hbw⟩
  · cases h2 : mayC s.til
    · go_enter Tryz.func182, Tryz.ntmps182
      go_wp2_with fail
      refine (rcmay_any s.fr _ hs.1).mono ?_
      rintro e w1 ⟨rfl, hb1⟩
      obtain ⟨hx, hbw⟩ := box_1 (cs := s.cells) hb1
      obtain ⟨_, y0, y1, y2, y3, y4, y5, y6⟩ := hx.get14
      clear hx hb1
      go_wp2_with fail
      refine (rcmay_any s.til _ hs.2).mono ?_
      rintro e w2 ⟨rfl, hb2⟩
      go_wp2_with fail
      go_ret
      exact ⟨by rw [← HR.out, spanMay, h1, h2]; rfl, below_tr hbw hb2⟩
    · go_enter Tryz.func182, Tryz.ntmps182
      go_wp2_with fail
      refine (rcmay_any s.fr _ hs.1).mono ?_
      rintro e w1 ⟨rfl, hb1⟩
      obtain ⟨hx, hbw⟩ := box_1 (cs := s.cells) hb1
      obtain ⟨_, y0, y1, y2, y3, y4, y5, y6⟩ := hx.get14
      clear hb1
      go_wp2_with fail
      refine (rcmay_any s.til _ hs.2).mono ?_
      rintro e w2 ⟨rfl, hb2⟩
      have hx2 := hx.below hb2
      have hbw2 := below_tr hbw hb2
      clear y0 y1 y2 y3 y4 y5 y6 hx hbw hb2
      obtain ⟨⟨x0, x1, x2, x3, x4, x5, x6⟩, y0, y1, y2, y3, y4, y5, y6⟩ := hx2.get14
      clear hx2
      go_wp2_with fail
      refine (rccompare_any s.fr s.til _ hs.1 hs.2).mono ?_
      rintro e w3 ⟨rfl, hb3⟩
      go_wp2_with fail
      go_ret
      exact ⟨by rw [← HR.out, spanMay, h1, h2]; rfl, below_tr hbw2 hb3⟩
set_option maxRecDepth 100000 in
set_option maxHeartbeats 4000000 in
theorem rholds_any (s : SpanL) (v : Ver) (w : World) (hs : s.fit) (hv : v.fit) : Calls Tryz.prog 185 #[s.val, v.val] w (BoolPost w (holdsS s v)) := by
  generalize hr : holdsS s v = r
  have HR := hid hr
  clear hr
  cases h1 : spanMay s
  · go_enter Tryz.func185, Tryz.ntmps185
    go_wp2_with fail
    refine (rspanmay_any s _ hs).mono ?_
    rintro e w1 ⟨rfl, hb1⟩
    obtain ⟨hx, hy, hbw⟩ := box_2 (cs := s.cells) (ds := v.cells) hb1
    clear hx hy hb1
    go_wp2_with fail
    go_ret
    exact ⟨by rw [← HR.out, holdsS, h1]; rfl, hbw⟩
  · go_enter Tryz.func185, Tryz.ntmps185
    go_wp2_with fail
    refine (rspanmay_any s _ hs).mono ?_
    rintro e w1 ⟨rfl, hb1⟩
    obtain ⟨hx, hy, hbw⟩ := box_2 (cs := s.cells) (ds := v.cells) hb1
    obtain ⟨y0, y1, y2, y3, y4⟩ := hy.get5
    clear hb1
    go_wp2_with fail
    refine (rmay_any v _ hv).mono ?_
    rintro e w2 ⟨rfl, hb2⟩
    have hx2 := hx.below hb2
    have hy2 := hy.below hb2
    have hbw2 := below_tr hbw hb2
    clear y0 y1 y2 y3 y4 hx hy hbw hb2
    cases h2 : mayV v
    · go_wp2_with fail
      go_ret
      exact ⟨by rw [← HR.out, holdsS, h1, h2]; rfl, hbw2⟩
    · obtain ⟨⟨x0, x1, x2, x3, x4, x5, x6⟩, z0, z1, z2, z3, z4, z5, z6⟩ := hx2.get14
      obtain ⟨y0, y1, y2, y3, y4⟩ := hy2.get5
      clear z0 z1 z2 z3 z4 z5 z6
      go_wp2_with fail
      refine (rahead_any s.fr v _ hs.1 hv).mono ?_
      rintro e w3 ⟨rfl, hb3⟩
      have hx3 := hx2.below hb3
      have hy3 := hy2.below hb3
      have hbw3 := below_tr hbw2 hb3
      clear x0 x1 x2 x3 x4 x5 x6 y0 y1 y2 y3 y4 hx2 hy2 hbw2 hb3
      cases h3 : aheadC s.fr v
      · go_wp2_with fail
        go_ret
        exact ⟨by rw [← HR.out, holdsS, h1, h2, h3]; rfl, hbw3⟩
      · obtain ⟨⟨x0, x1, x2, x3, x4, x5, x6⟩, z0, z1, z2, z3, z4, z5, z6⟩ := hx3.get14
        obtain ⟨y0, y1, y2, y3, y4⟩ := hy3.get5
        clear x0 x1 x2 x3 x4 x5 x6 hx3 hy3
        go_wp2_with fail
        refine (rahead_any s.til v _ hs.2 hv).mono ?_
        rintro e w4 ⟨rfl, hb4⟩
        go_wp2_with fail
        go_ret
        exact ⟨by rw [← HR.out, holdsS, h1, h2, h3]; rfl, below_tr hbw3 hb4⟩
theorem first_any (w : World) : Calls Tryz.prog 93 #[] w (CutPost w firstC) := by
  go_enter Tryz.func93, Tryz.ntmps93
  go_wp2
  refine bodyPost_ret (v := firstC.val) (by simp [results, Tryz.results93, go_sem, firstC, zeroV]) rfl ⟨rfl, ?_⟩
  exact below_new _ _
theorem last_any (w : World) : Calls Tryz.prog 95 #[] w (CutPost w lastC) := by
  go_enter Tryz.func95, Tryz.ntmps95
  go_wp2
  refine bodyPost_ret (v := lastC.val) (by simp [results, Tryz.results95, go_sem, lastC, zeroV]) rfl ⟨rfl, ?_⟩
  exact below_new _ _
end Go.Proofs.YtlmkglgjdmjnkaaGreatDoor
namespace Go.Proofs.YtlmkglgjdmjnkaaGreatDoor
open Go.RowKit Go.Lib
set_option linter.unusedVariables false
set_option linter.unusedSimpArgs false
structure BW (w : World) where
  v : World
  ok : Below w.heap.size w v
instance (w : World) : Nonempty (BW w) := ⟨⟨w, Below.refl _ _⟩⟩
theorem wp_region_below {P : Program} {id : Nat} {Q : Exit → Act → World → Prop} {a : Act} {w : World} {l : List Oper} (hm : P.follows .mixedOrders = true) (hB : Region.lexB .any l.toArray = true)
    (h : wpQuiet P l.toArray (fun w' => ∃ z : BW w, w' = z.v) (fun a' => ∀ w', (∃ z : BW w, w' = z.v) → Q .normal a' w') l a) : (Code.region id l.toArray true).wp P Q a w :=
  wp_region_quiet (C := fun w' => ∃ z : BW w, w' = z.v) hm hB ⟨⟨w.drew, (Below.refl _ _).drew⟩, rfl⟩ (by simpa using h)
theorem bw_cell (w : World) (z : BW w) (b o : Nat) (h : b < w.heap.size) : z.v.cell? ⟨b, o, none⟩ = w.cell? ⟨b, o, none⟩ := z.ok.cell (p := ⟨b, o, none⟩) h
theorem bw_bool {P : Program} {f : FuncId} {args : Array Value} {w : World} {z : BW w} {b : Bool} (h : Calls P f args z.v (BoolPost z.v b)) :
    Calls P f args z.v fun e w'' => e = .returned (.bool b) ∧ ∃ z' : BW w, w'' = z'.v := h.mono fun _ w'' ⟨he, hb⟩ => ⟨he, ⟨w'', below_tr z.ok hb⟩, rfl⟩
theorem bw_int {P : Program} {f : FuncId} {args : Array Value} {w : World} {z : BW w} {n : Int} (h : Calls P f args z.v (IntPost z.v n)) :
    Calls P f args z.v fun e w'' => e = .returned (.int .i64 n) ∧ ∃ z' : BW w, w'' = z'.v := h.mono fun _ w'' ⟨he, hb⟩ => ⟨he, ⟨w'', below_tr z.ok hb⟩, rfl⟩
end Go.Proofs.YtlmkglgjdmjnkaaGreatDoor
