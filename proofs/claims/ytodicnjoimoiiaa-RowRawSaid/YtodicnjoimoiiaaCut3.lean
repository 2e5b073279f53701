/- Cuts and versions, spans: the walks of Ahead, SpanMay, Holds, First and Last. -/
import Derived.Test.YtodicnjoimoiiaaCut2
namespace Go.Proofs.Ytodicnjoimoiiaa
open Go.RowKit Go.Lib
set_option linter.unusedVariables false
set_option linter.unusedSimpArgs false

def aheadC (c : CutL) (v : Ver) : Bool := mayC c && mayV v && (if c.en ≠ 0 then decide (c.en < 0) else decide (cmpV c.v v < 0) || (decide (cmpV c.v v = 0) && !c.aft))
structure SpanL where
  fr : CutL
  til : CutL
abbrev SpanL.cells (s : SpanL) : List Value := [.int .i64 s.fr.en, .int .i64 s.fr.v.maj, .int .i64 s.fr.v.min, .int .i64 s.fr.v.pat, .string s.fr.v.pre, .string s.fr.v.bld, .bool s.fr.aft, .int .i64 s.til.en, .int .i64 s.til.v.maj, .int .i64 s.til.v.min, .int .i64 s.til.v.pat, .string s.til.v.pre, .string s.til.v.bld, .bool s.til.aft]
abbrev SpanL.val (s : SpanL) : Value := .agg #[.int .i64 s.fr.en, .int .i64 s.fr.v.maj, .int .i64 s.fr.v.min, .int .i64 s.fr.v.pat, .string s.fr.v.pre, .string s.fr.v.bld, .bool s.fr.aft, .int .i64 s.til.en, .int .i64 s.til.v.maj, .int .i64 s.til.v.min, .int .i64 s.til.v.pat, .string s.til.v.pre, .string s.til.v.bld, .bool s.til.aft]
def SpanL.fit (s : SpanL) : Prop := s.fr.fit ∧ s.til.fit
def spanMay (s : SpanL) : Bool := mayC s.fr && mayC s.til && decide (cmpC s.fr s.til < 0)
def holdsS (s : SpanL) (v : Ver) : Bool := spanMay s && mayV v && aheadC s.fr v && !aheadC s.til v
theorem Box.get14 {w : World} {g : Nat} {x0 x1 x2 x3 x4 x5 x6 x7 x8 x9 x10 x11 x12 x13 : Value} (h : Box w g [x0, x1, x2, x3, x4, x5, x6, x7, x8, x9, x10, x11, x12, x13]) : (w.cell? ⟨g, 0, none⟩ = some x0 ∧ w.cell? ⟨g, 1, none⟩ = some x1 ∧ w.cell? ⟨g, 2, none⟩ = some x2 ∧ w.cell? ⟨g, 3, none⟩ = some x3 ∧ w.cell? ⟨g, 4, none⟩ = some x4 ∧ w.cell? ⟨g, 5, none⟩ = some x5 ∧ w.cell? ⟨g, 6, none⟩ = some x6) ∧
    (w.cell? ⟨g, 7, none⟩ = some x7 ∧ w.cell? ⟨g, 8, none⟩ = some x8 ∧ w.cell? ⟨g, 9, none⟩ = some x9 ∧ w.cell? ⟨g, 10, none⟩ = some x10 ∧ w.cell? ⟨g, 11, none⟩ = some x11 ∧ w.cell? ⟨g, 12, none⟩ = some x12 ∧ w.cell? ⟨g, 13, none⟩ = some x13) :=
  ⟨⟨h.2 0 _ rfl, h.2 1 _ rfl, h.2 2 _ rfl, h.2 3 _ rfl, h.2 4 _ rfl, h.2 5 _ rfl, h.2 6 _ rfl⟩, ⟨h.2 7 _ rfl, h.2 8 _ rfl, h.2 9 _ rfl, h.2 10 _ rfl, h.2 11 _ rfl, h.2 12 _ rfl, h.2 13 _ rfl⟩⟩
/-- a cut has come back; memory has grown at most -/
def CutPost (w : World) (c : CutL) (e : Ending) (w' : World) : Prop := e = .returned c.val ∧ Below w.heap.size w w'
def firstC : CutL := ⟨-1, zeroV, false⟩
def lastC : CutL := ⟨1, zeroV, false⟩

theorem aheadC_no1 {c : CutL} {v : Ver} (h : mayC c = false) : aheadC c v = false := by simp [aheadC, h]
theorem aheadC_no2 {c : CutL} {v : Ver} (h : mayV v = false) : aheadC c v = false := by simp [aheadC, h]
theorem aheadC_end {c : CutL} {v : Ver} (h1 : mayC c = true) (h2 : mayV v = true) (h : c.en ≠ 0) : aheadC c v = decide (c.en < 0) := by simp [aheadC, h1, h2, h]
theorem aheadC_in {c : CutL} {v : Ver} (h1 : mayC c = true) (h2 : mayV v = true) (h : c.en = 0) : aheadC c v = (decide (cmpV c.v v < 0) || (decide (cmpV c.v v = 0) && !c.aft)) := by simp [aheadC, h1, h2, h]

set_option maxRecDepth 100000 in
set_option maxHeartbeats 4000000 in
theorem ahead_any (c : CutL) (v : Ver) (w : World) (hc : c.fit) (hv : v.fit) : Calls Try.prog 62 #[c.val, v.val] w (BoolPost w (aheadC c v)) := by
  generalize hr : aheadC c v = r
  have HR := hid hr
  clear hr
  cases h1 : mayC c
  · go_enter Try.func62, Try.ntmps62
    go_wp2_with fail
    refine (cmay_any c _ hc).mono ?_
    rintro e w1 ⟨rfl, hb1⟩
    obtain ⟨hx, hy, hbw⟩ := box_2 (cs := c.cells) (ds := v.cells) hb1
    clear hx hy hb1
    go_wp2_with fail
    go_ret
    exact ⟨by rw [← HR.out, aheadC_no1 h1]; rfl, hbw⟩
  · cases h2 : mayV v
    · go_enter Try.func62, Try.ntmps62
      go_wp2_with fail
      refine (cmay_any c _ hc).mono ?_
      rintro e w1 ⟨rfl, hb1⟩
      obtain ⟨hx, hy, hbw⟩ := box_2 (cs := c.cells) (ds := v.cells) hb1
      obtain ⟨y0, y1, y2, y3, y4⟩ := hy.get5
      clear hx hy hb1
      go_wp2_with fail
      refine (may_any v _ hv).mono ?_
      rintro e w2 ⟨rfl, hb2⟩
      go_wp2_with fail
      go_ret
      exact ⟨by rw [← HR.out, aheadC_no2 h2]; rfl, below_tr hbw hb2⟩
    · go_enter Try.func62, Try.ntmps62
      go_wp2_with fail
      refine (cmay_any c _ hc).mono ?_
      rintro e w1 ⟨rfl, hb1⟩
      obtain ⟨hx, hy, hbw⟩ := box_2 (cs := c.cells) (ds := v.cells) hb1
      obtain ⟨y0, y1, y2, y3, y4⟩ := hy.get5
      clear hb1
      go_wp2_with fail
      refine (may_any v _ hv).mono ?_
      rintro e w2 ⟨rfl, hb2⟩
      have hx2 := hx.below hb2
      have hy2 := hy.below hb2
      have hbw2 := below_tr hbw hb2
      clear y0 y1 y2 y3 y4 hx hy hbw hb2
      obtain ⟨x0, x1, x2, x3, x4, x5, x6⟩ := hx2.get7
      obtain ⟨y0, y1, y2, y3, y4⟩ := hy2.get5
      by_cases hE : c.en = 0
      · have e1 : (c.en != 0) = false := by simp [hE]
        have HE := hid (aheadC_in h1 h2 hE)
        clear hE
        go_wp2_with fail
        refine (vcompare_any c.v v _ hc hv).mono ?_
        rintro e w3 ⟨rfl, hb3⟩
        have hx3 := hx2.below hb3
        have hbw3 := below_tr hbw2 hb3
        clear x0 x1 x2 x3 x4 x5 x6 y0 y1 y2 y3 y4 hx2 hy2 hbw2 hb3
        obtain ⟨x0, x1, x2, x3, x4, x5, x6⟩ := hx3.get7
        clear hx3
        by_cases hl : cmpV c.v v < 0
        · have hd : decide (cmpV c.v v < 0) = true := by simpa using hl
          go_wp2_with fail
          go_ret
          exact ⟨by rw [← HR.out, HE.out, hd]; rfl, hbw3⟩
        · have hd : decide (cmpV c.v v < 0) = false := by simpa using hl
          by_cases hz : cmpV c.v v = 0
          · have hz1 : (cmpV c.v v == 0) = true := by simp [hz]
            have HZ := hid hz
            clear hz hl
            cases ka : c.aft
            · go_wp2_with fail
              go_ret
              exact ⟨by rw [← HR.out, HE.out, HZ.out, ka]; rfl, hbw3⟩
            · go_wp2_with fail
              go_ret
              exact ⟨by rw [← HR.out, HE.out, HZ.out, ka]; rfl, hbw3⟩
          · have hz1 : (cmpV c.v v == 0) = false := by simpa using hz
            have HZ := hid (show decide (cmpV c.v v = 0) = false by simpa using hz)
            have HD := hid hd
            clear hz hl
            go_wp2_with fail
            go_ret
            exact ⟨by rw [← HR.out, HE.out, HZ.out, HD.out]; rfl, hbw3⟩
      · have e1 : (c.en != 0) = true := by simpa using hE
        have HE := hid (aheadC_end h1 h2 hE)
        clear hE
        go_wp2_with fail
        go_ret
        exact ⟨by rw [← HR.out, HE.out]; rfl, hbw2⟩

set_option maxRecDepth 100000 in
set_option maxHeartbeats 4000000 in
theorem spanmay_any (s : SpanL) (w : World) (hs : s.fit) : Calls Try.prog 34 #[s.val] w (BoolPost w (spanMay s)) := by
  generalize hr : spanMay s = r
  have HR := hid hr
  clear hr
  cases h1 : mayC s.fr
  · go_enter Try.func34, Try.ntmps34
    go_wp2_with fail
    refine (cmay_any s.fr _ hs.1).mono ?_
    rintro e w1 ⟨rfl, hb1⟩
    obtain ⟨hx, hbw⟩ := box_1 (cs := s.cells) hb1
    clear hx hb1
    go_wp2_with fail
    go_ret
    exact ⟨by rw [← HR.out, spanMay, h1]; rfl, hbw⟩
  · cases h2 : mayC s.til
    · go_enter Try.func34, Try.ntmps34
      go_wp2_with fail
      refine (cmay_any s.fr _ hs.1).mono ?_
      rintro e w1 ⟨rfl, hb1⟩
      obtain ⟨hx, hbw⟩ := box_1 (cs := s.cells) hb1
      obtain ⟨_, y0, y1, y2, y3, y4, y5, y6⟩ := hx.get14
      clear hx hb1
      go_wp2_with fail
      refine (cmay_any s.til _ hs.2).mono ?_
      rintro e w2 ⟨rfl, hb2⟩
      go_wp2_with fail
      go_ret
      exact ⟨by rw [← HR.out, spanMay, h1, h2]; rfl, below_tr hbw hb2⟩
    · go_enter Try.func34, Try.ntmps34
      go_wp2_with fail
      refine (cmay_any s.fr _ hs.1).mono ?_
      rintro e w1 ⟨rfl, hb1⟩
      obtain ⟨hx, hbw⟩ := box_1 (cs := s.cells) hb1
      obtain ⟨_, y0, y1, y2, y3, y4, y5, y6⟩ := hx.get14
      clear hb1
      go_wp2_with fail
      refine (cmay_any s.til _ hs.2).mono ?_
      rintro e w2 ⟨rfl, hb2⟩
      have hx2 := hx.below hb2
      have hbw2 := below_tr hbw hb2
      clear y0 y1 y2 y3 y4 y5 y6 hx hbw hb2
      obtain ⟨⟨x0, x1, x2, x3, x4, x5, x6⟩, y0, y1, y2, y3, y4, y5, y6⟩ := hx2.get14
      clear hx2
      go_wp2_with fail
      refine (ccompare_any s.fr s.til _ hs.1 hs.2).mono ?_
      rintro e w3 ⟨rfl, hb3⟩
      go_wp2_with fail
      go_ret
      exact ⟨by rw [← HR.out, spanMay, h1, h2]; rfl, below_tr hbw2 hb3⟩

set_option maxRecDepth 100000 in
set_option maxHeartbeats 4000000 in
theorem holds_any (s : SpanL) (v : Ver) (w : World) (hs : s.fit) (hv : v.fit) : Calls Try.prog 44 #[s.val, v.val] w (BoolPost w (holdsS s v)) := by
  generalize hr : holdsS s v = r
  have HR := hid hr
  clear hr
  cases h1 : spanMay s
  · go_enter Try.func44, Try.ntmps44
    go_wp2_with fail
    refine (spanmay_any s _ hs).mono ?_
    rintro e w1 ⟨rfl, hb1⟩
    obtain ⟨hx, hy, hbw⟩ := box_2 (cs := s.cells) (ds := v.cells) hb1
    clear hx hy hb1
    go_wp2_with fail
    go_ret
    exact ⟨by rw [← HR.out, holdsS, h1]; rfl, hbw⟩
  · go_enter Try.func44, Try.ntmps44
    go_wp2_with fail
    refine (spanmay_any s _ hs).mono ?_
    rintro e w1 ⟨rfl, hb1⟩
    obtain ⟨hx, hy, hbw⟩ := box_2 (cs := s.cells) (ds := v.cells) hb1
    obtain ⟨y0, y1, y2, y3, y4⟩ := hy.get5
    clear hb1
    go_wp2_with fail
    refine (may_any v _ hv).mono ?_
    rintro e w2 ⟨rfl, hb2⟩
    have hx2 := hx.below hb2
    have hy2 := hy.below hb2
    have hbw2 := below_tr hbw hb2
    clear y0 y1 y2 y3 y4 hx hy hbw hb2
    cases h2 : mayV v
    · go_wp2_with fail
      go_ret
      exact ⟨by rw [← HR.out, holdsS, h1, h2]; rfl, hbw2⟩
    · obtain ⟨⟨x0, x1, x2, x3, x4, x5, x6⟩, z0, z1, z2, z3, z4, z5, z6⟩ := hx2.get14
      obtain ⟨y0, y1, y2, y3, y4⟩ := hy2.get5
      clear z0 z1 z2 z3 z4 z5 z6
      go_wp2_with fail
      refine (ahead_any s.fr v _ hs.1 hv).mono ?_
      rintro e w3 ⟨rfl, hb3⟩
      have hx3 := hx2.below hb3
      have hy3 := hy2.below hb3
      have hbw3 := below_tr hbw2 hb3
      clear x0 x1 x2 x3 x4 x5 x6 y0 y1 y2 y3 y4 hx2 hy2 hbw2 hb3
      cases h3 : aheadC s.fr v
      · go_wp2_with fail
        go_ret
        exact ⟨by rw [← HR.out, holdsS, h1, h2, h3]; rfl, hbw3⟩
      · obtain ⟨⟨x0, x1, x2, x3, x4, x5, x6⟩, z0, z1, z2, z3, z4, z5, z6⟩ := hx3.get14
        obtain ⟨y0, y1, y2, y3, y4⟩ := hy3.get5
        clear x0 x1 x2 x3 x4 x5 x6 hx3 hy3
        go_wp2_with fail
        refine (ahead_any s.til v _ hs.2 hv).mono ?_
        rintro e w4 ⟨rfl, hb4⟩
        go_wp2_with fail
        go_ret
        exact ⟨by rw [← HR.out, holdsS, h1, h2, h3]; rfl, below_tr hbw3 hb4⟩

set_option maxRecDepth 100000 in
set_option maxHeartbeats 4000000 in
theorem rahead_any (c : CutL) (v : Ver) (w : World) (hc : c.fit) (hv : v.fit) : Calls Try.prog 48 #[c.val, v.val] w (BoolPost w (aheadC c v)) := by
  generalize hr : aheadC c v = r
  have HR := hid hr
  clear hr
  cases h1 : mayC c
  · go_enter Try.func48, Try.ntmps48
    go_wp2_with fail
    refine (rcmay_any c _ hc).mono ?_
    rintro e w1 ⟨rfl, hb1⟩
    obtain ⟨hx, hy, hbw⟩ := box_2 (cs := c.cells) (ds := v.cells) hb1
    clear hx hy hb1
    go_wp2_with fail
    go_ret
    exact ⟨by rw [← HR.out, aheadC_no1 h1]; rfl, hbw⟩
  · cases h2 : mayV v
    · go_enter Try.func48, Try.ntmps48
      go_wp2_with fail
      refine (rcmay_any c _ hc).mono ?_
      rintro e w1 ⟨rfl, hb1⟩
      obtain ⟨hx, hy, hbw⟩ := box_2 (cs := c.cells) (ds := v.cells) hb1
      obtain ⟨y0, y1, y2, y3, y4⟩ := hy.get5
      clear hx hy hb1
      go_wp2_with fail
      refine (rmay_any v _ hv).mono ?_
      rintro e w2 ⟨rfl, hb2⟩
      go_wp2_with fail
      go_ret
      exact ⟨by rw [← HR.out, aheadC_no2 h2]; rfl, below_tr hbw hb2⟩
    · go_enter Try.func48, Try.ntmps48
      go_wp2_with fail
      refine (rcmay_any c _ hc).mono ?_
      rintro e w1 ⟨rfl, hb1⟩
      obtain ⟨hx, hy, hbw⟩ := box_2 (cs := c.cells) (ds := v.cells) hb1
      obtain ⟨y0, y1, y2, y3, y4⟩ := hy.get5
      clear hb1
      go_wp2_with fail
      refine (rmay_any v _ hv).mono ?_
      rintro e w2 ⟨rfl, hb2⟩
      have hx2 := hx.below hb2
      have hy2 := hy.below hb2
      have hbw2 := below_tr hbw hb2
      clear y0 y1 y2 y3 y4 hx hy hbw hb2
      obtain ⟨x0, x1, x2, x3, x4, x5, x6⟩ := hx2.get7
      obtain ⟨y0, y1, y2, y3, y4⟩ := hy2.get5
      by_cases hE : c.en = 0
      · have e1 : (c.en != 0) = false := by simp [hE]
        have HE := hid (aheadC_in h1 h2 hE)
        clear hE
        go_wp2_with fail
        refine (rcompare_any c.v v _ hc hv).mono ?_
        rintro e w3 ⟨rfl, hb3⟩
        have hx3 := hx2.below hb3
        have hbw3 := below_tr hbw2 hb3
        clear x0 x1 x2 x3 x4 x5 x6 y0 y1 y2 y3 y4 hx2 hy2 hbw2 hb3
        obtain ⟨x0, x1, x2, x3, x4, x5, x6⟩ := hx3.get7
        clear hx3
        by_cases hl : cmpV c.v v < 0
        · have hd : decide (cmpV c.v v < 0) = true := by simpa using hl
          go_wp2_with fail
          go_ret
          exact ⟨by rw [← HR.out, HE.out, hd]; rfl, hbw3⟩
        · have hd : decide (cmpV c.v v < 0) = false := by simpa using hl
          by_cases hz : cmpV c.v v = 0
          · have hz1 : (cmpV c.v v == 0) = true := by simp [hz]
            have HZ := hid hz
            clear hz hl
            cases ka : c.aft
            · go_wp2_with fail
              go_ret
              exact ⟨by rw [← HR.out, HE.out, HZ.out, ka]; rfl, hbw3⟩
            · go_wp2_with fail
              go_ret
              exact ⟨by rw [← HR.out, HE.out, HZ.out, ka]; rfl, hbw3⟩
          · have hz1 : (cmpV c.v v == 0) = false := by simpa using hz
            have HZ := hid (show decide (cmpV c.v v = 0) = false by simpa using hz)
            have HD := hid hd
            clear hz hl
            go_wp2_with fail
            go_ret
            exact ⟨by rw [← HR.out, HE.out, HZ.out, HD.out]; rfl, hbw3⟩
      · have e1 : (c.en != 0) = true := by simpa using hE
        have HE := hid (aheadC_end h1 h2 hE)
        clear hE
        go_wp2_with fail
        go_ret
        exact ⟨by rw [← HR.out, HE.out]; rfl, hbw2⟩

set_option maxRecDepth 100000 in
set_option maxHeartbeats 4000000 in
theorem rspanmay_any (s : SpanL) (w : World) (hs : s.fit) : Calls Try.prog 39 #[s.val] w (BoolPost w (spanMay s)) := by
  generalize hr : spanMay s = r
  have HR := hid hr
  clear hr
  cases h1 : mayC s.fr
  · go_enter Try.func39, Try.ntmps39
    go_wp2_with fail
    refine (rcmay_any s.fr _ hs.1).mono ?_
    rintro e w1 ⟨rfl, hb1⟩
    obtain ⟨hx, hbw⟩ := box_1 (cs := s.cells) hb1
    clear hx hb1
    go_wp2_with fail
    go_ret
    exact ⟨by rw [← HR.out, spanMay, h1]; rfl, hbw⟩
  · cases h2 : mayC s.til
    · go_enter Try.func39, Try.ntmps39
      go_wp2_with fail
      refine (rcmay_any s.fr _ hs.1).mono ?_
      rintro e w1 ⟨rfl, hb1⟩
      obtain ⟨hx, hbw⟩ := box_1 (cs := s.cells) hb1
      obtain ⟨_, y0, y1, y2, y3, y4, y5, y6⟩ := hx.get14
      clear hx hb1
      go_wp2_with fail
      refine (rcmay_any s.til _ hs.2).mono ?_
      rintro e w2 ⟨rfl, hb2⟩
      go_wp2_with fail
      go_ret
      exact ⟨by rw [← HR.out, spanMay, h1, h2]; rfl, below_tr hbw hb2⟩
    · go_enter Try.func39, Try.ntmps39
      go_wp2_with fail
      refine (rcmay_any s.fr _ hs.1).mono ?_
      rintro e w1 ⟨rfl, hb1⟩
      obtain ⟨hx, hbw⟩ := box_1 (cs := s.cells) hb1
      obtain ⟨_, y0, y1, y2, y3, y4, y5, y6⟩ := hx.get14
      clear hb1
      go_wp2_with fail
      refine (rcmay_any s.til _ hs.2).mono ?_
      rintro e w2 ⟨rfl, hb2⟩
      have hx2 := hx.below hb2
      have hbw2 := below_tr hbw hb2
      clear y0 y1 y2 y3 y4 y5 y6 hx hbw hb2
      obtain ⟨⟨x0, x1, x2, x3, x4, x5, x6⟩, y0, y1, y2, y3, y4, y5, y6⟩ := hx2.get14
      clear hx2
      go_wp2_with fail
      refine (rccompare_any s.fr s.til _ hs.1 hs.2).mono ?_
      rintro e w3 ⟨rfl, hb3⟩
      go_wp2_with fail
      go_ret
      exact ⟨by rw [← HR.out, spanMay, h1, h2]; rfl, below_tr hbw2 hb3⟩

set_option maxRecDepth 100000 in
set_option maxHeartbeats 4000000 in
theorem rholds_any (s : SpanL) (v : Ver) (w : World) (hs : s.fit) (hv : v.fit) : Calls Try.prog 23 #[s.val, v.val] w (BoolPost w (holdsS s v)) := by
  generalize hr : holdsS s v = r
  have HR := hid hr
  clear hr
  cases h1 : spanMay s
  · go_enter Try.func23, Try.ntmps23
    go_wp2_with fail
    refine (rspanmay_any s _ hs).mono ?_
    rintro e w1 ⟨rfl, hb1⟩
    obtain ⟨hx, hy, hbw⟩ := box_2 (cs := s.cells) (ds := v.cells) hb1
    clear hx hy hb1
    go_wp2_with fail
    go_ret
    exact ⟨by rw [← HR.out, holdsS, h1]; rfl, hbw⟩
  · go_enter Try.func23, Try.ntmps23
    go_wp2_with fail
    refine (rspanmay_any s _ hs).mono ?_
    rintro e w1 ⟨rfl, hb1⟩
    obtain ⟨hx, hy, hbw⟩ := box_2 (cs := s.cells) (ds := v.cells) hb1
    obtain ⟨y0, y1, y2, y3, y4⟩ := hy.get5
    clear hb1
    go_wp2_with fail
    refine (rmay_any v _ hv).mono ?_
    rintro e w2 ⟨rfl, hb2⟩
    have hx2 := hx.below hb2
    have hy2 := hy.below hb2
    have hbw2 := below_tr hbw hb2
    clear y0 y1 y2 y3 y4 hx hy hbw hb2
    cases h2 : mayV v
    · go_wp2_with fail
      go_ret
      exact ⟨by rw [← HR.out, holdsS, h1, h2]; rfl, hbw2⟩
    · obtain ⟨⟨x0, x1, x2, x3, x4, x5, x6⟩, z0, z1, z2, z3, z4, z5, z6⟩ := hx2.get14
      obtain ⟨y0, y1, y2, y3, y4⟩ := hy2.get5
      clear z0 z1 z2 z3 z4 z5 z6
      go_wp2_with fail
      refine (rahead_any s.fr v _ hs.1 hv).mono ?_
      rintro e w3 ⟨rfl, hb3⟩
      have hx3 := hx2.below hb3
      have hy3 := hy2.below hb3
      have hbw3 := below_tr hbw2 hb3
      clear x0 x1 x2 x3 x4 x5 x6 y0 y1 y2 y3 y4 hx2 hy2 hbw2 hb3
      cases h3 : aheadC s.fr v
      · go_wp2_with fail
        go_ret
        exact ⟨by rw [← HR.out, holdsS, h1, h2, h3]; rfl, hbw3⟩
      · obtain ⟨⟨x0, x1, x2, x3, x4, x5, x6⟩, z0, z1, z2, z3, z4, z5, z6⟩ := hx3.get14
        obtain ⟨y0, y1, y2, y3, y4⟩ := hy3.get5
        clear x0 x1 x2 x3 x4 x5 x6 hx3 hy3
        go_wp2_with fail
        refine (rahead_any s.til v _ hs.2 hv).mono ?_
        rintro e w4 ⟨rfl, hb4⟩
        go_wp2_with fail
        go_ret
        exact ⟨by rw [← HR.out, holdsS, h1, h2, h3]; rfl, below_tr hbw3 hb4⟩

theorem first_any (w : World) : Calls Try.prog 56 #[] w (CutPost w firstC) := by
  go_enter Try.func56, Try.ntmps56
  go_wp2
  refine bodyPost_ret (v := firstC.val) (by simp [results, Try.results56, go_sem, firstC, zeroV]) rfl ⟨rfl, ?_⟩
  exact below_new _ _

theorem last_any (w : World) : Calls Try.prog 57 #[] w (CutPost w lastC) := by
  go_enter Try.func57, Try.ntmps57
  go_wp2
  refine bodyPost_ret (v := lastC.val) (by simp [results, Try.results57, go_sem, lastC, zeroV]) rfl ⟨rfl, ?_⟩
  exact below_new _ _
end Go.Proofs.Ytodicnjoimoiiaa
