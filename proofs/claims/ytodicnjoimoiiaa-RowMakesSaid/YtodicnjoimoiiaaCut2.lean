/- Cuts, compared: the walks of the two Compares. -/
import Derived.Test.YtodicnjoimoiiaaCut
namespace Go.Proofs.Ytodicnjoimoiiaa
open Go.RowKit Go.Lib
set_option linter.unusedVariables false
set_option linter.unusedSimpArgs false

def cmpC (a b : CutL) : Int := if mayC a = false ∨ mayC b = false then 0 else if a.en ≠ 0 ∨ b.en ≠ 0 then cmpI a.en b.en else if cmpV a.v b.v ≠ 0 then cmpV a.v b.v else if a.aft = b.aft then 0 else if b.aft then -1 else 1
theorem cmpC_of {a b : CutL} (h1 : mayC a = true) (h2 : mayC b = true) : cmpC a b = if a.en ≠ 0 ∨ b.en ≠ 0 then cmpI a.en b.en else if cmpV a.v b.v ≠ 0 then cmpV a.v b.v else if a.aft = b.aft then 0 else if b.aft then -1 else 1 := by
  rw [cmpC, if_neg (by simp [h1, h2])]

set_option maxRecDepth 100000 in
set_option maxHeartbeats 4000000 in
theorem ccompare_any (a b : CutL) (w : World) (ha : a.fit) (hb : b.fit) : Calls Try.prog 38 #[a.val, b.val] w (IntPost w (cmpC a b)) := by
  generalize hr : cmpC a b = r
  have HR := hid hr
  clear hr
  cases h1 : mayC a
  · go_enter Try.func38, Try.ntmps38
    go_wp2_with fail
    refine (cmay_any a _ ha).mono ?_
    rintro e w1 ⟨rfl, hb1⟩
    obtain ⟨hx, hy, hbw⟩ := box_2 (cs := a.cells) (ds := b.cells) hb1
    clear hx hy hb1
    go_wp2_with fail
    go_ret
    exact ⟨by rw [← HR.out, cmpC, if_pos (.inl h1)]; rfl, hbw⟩
  · cases h2 : mayC b
    · go_enter Try.func38, Try.ntmps38
      go_wp2_with fail
      refine (cmay_any a _ ha).mono ?_
      rintro e w1 ⟨rfl, hb1⟩
      obtain ⟨hx, hy, hbw⟩ := box_2 (cs := a.cells) (ds := b.cells) hb1
      obtain ⟨y0, y1, y2, y3, y4, y5, y6⟩ := hy.get7
      clear hx hy hb1
      go_wp2_with fail
      refine (cmay_any b _ hb).mono ?_
      rintro e w2 ⟨rfl, hb2⟩
      go_wp2_with fail
      go_ret
      exact ⟨by rw [← HR.out, cmpC, if_pos (.inr h2)]; rfl, below_tr hbw hb2⟩
    · have HV := hid (cmpC_of h1 h2)
      go_enter Try.func38, Try.ntmps38
      go_wp2_with fail
      refine (cmay_any a _ ha).mono ?_
      rintro e w1 ⟨rfl, hb1⟩
      obtain ⟨hx, hy, hbw⟩ := box_2 (cs := a.cells) (ds := b.cells) hb1
      obtain ⟨y0, y1, y2, y3, y4, y5, y6⟩ := hy.get7
      clear hb1
      go_wp2_with fail
      refine (cmay_any b _ hb).mono ?_
      rintro e w2 ⟨rfl, hb2⟩
      have hx2 := hx.below hb2
      have hy2 := hy.below hb2
      have hbw2 := below_tr hbw hb2
      clear y0 y1 y2 y3 y4 y5 y6 hx hy hbw hb2
      obtain ⟨x0, x1, x2, x3, x4, x5, x6⟩ := hx2.get7
      obtain ⟨y0, y1, y2, y3, y4, y5, y6⟩ := hy2.get7
      by_cases hE : a.en ≠ 0 ∨ b.en ≠ 0
      · have HE := hid (show cmpC a b = cmpI a.en b.en by rw [HV.out, if_pos hE])
        have hcase : (a.en != 0) = true ∨ ((a.en != 0) = false ∧ (b.en != 0) = true) := by
          by_cases h : a.en = 0
          · exact .inr ⟨by simp [h], by simp; omega⟩
          · exact .inl (by simpa using h)
        clear hE hx2 hy2
        rcases hcase with e1 | ⟨e1, e2⟩
        all_goals
          go_wp2_with (go_at_call 53; refine (cmpi_any _ _ _).mono ?_; rintro e w' ⟨rfl, rfl⟩)
          go_ret
          exact ⟨by rw [← HR.out, HE.out]; rfl, hbw2⟩
      · have e1 : (a.en != 0) = false := by simp; omega
        have e2 : (b.en != 0) = false := by simp; omega
        have HE := hid (show cmpC a b = if cmpV a.v b.v ≠ 0 then cmpV a.v b.v else if a.aft = b.aft then 0 else if b.aft then -1 else 1 by rw [HV.out, if_neg hE])
        clear hE
        go_wp2_with fail
        refine (vcompare_any a.v b.v _ ha hb).mono ?_
        rintro e w3 ⟨rfl, hb3⟩
        have hx3 := hx2.below hb3
        have hy3 := hy2.below hb3
        have hbw3 := below_tr hbw2 hb3
        clear x0 x1 x2 x3 x4 x5 x6 y0 y1 y2 y3 y4 y5 y6 hx2 hy2 hbw2 hb3
        obtain ⟨x0, x1, x2, x3, x4, x5, x6⟩ := hx3.get7
        obtain ⟨y0, y1, y2, y3, y4, y5, y6⟩ := hy3.get7
        clear hx3 hy3
        by_cases hc : cmpV a.v b.v = 0
        · have hcond : (cmpV a.v b.v != 0) = false := by simp [hc]
          have HC := hid hc
          clear hc
          cases ka : a.aft <;> cases kb : b.aft
          · go_wp2_with fail
            go_ret
            exact ⟨by rw [← HR.out, HE.out, HC.out, ka, kb]; rfl, hbw3⟩
          · go_wp2_with fail
            go_ret
            exact ⟨by rw [← HR.out, HE.out, HC.out, ka, kb]; rfl, hbw3⟩
          · go_wp2_with fail
            go_ret
            exact ⟨by rw [← HR.out, HE.out, HC.out, ka, kb]; rfl, hbw3⟩
          · go_wp2_with fail
            go_ret
            exact ⟨by rw [← HR.out, HE.out, HC.out, ka, kb]; rfl, hbw3⟩
        · have hcond : (cmpV a.v b.v != 0) = true := by simpa using hc
          have HE2 := hid (show cmpC a b = cmpV a.v b.v by rw [HE.out, if_pos hc])
          clear hc
          go_wp2_with fail
          go_ret
          exact ⟨by rw [← HR.out, HE2.out]; rfl, hbw3⟩

set_option maxRecDepth 100000 in
set_option maxHeartbeats 4000000 in
theorem rccompare_any (a b : CutL) (w : World) (ha : a.fit) (hb : b.fit) : Calls Try.prog 43 #[a.val, b.val] w (IntPost w (cmpC a b)) := by
  generalize hr : cmpC a b = r
  have HR := hid hr
  clear hr
  cases h1 : mayC a
  · go_enter Try.func43, Try.ntmps43
    go_wp2_with fail
    refine (rcmay_any a _ ha).mono ?_
    rintro e w1 ⟨rfl, hb1⟩
    obtain ⟨hx, hy, hbw⟩ := box_2 (cs := a.cells) (ds := b.cells) hb1
    clear hx hy hb1
    go_wp2_with fail
    go_ret
    exact ⟨by rw [← HR.out, cmpC, if_pos (.inl h1)]; rfl, hbw⟩
  · cases h2 : mayC b
    · go_enter Try.func43, Try.ntmps43
      go_wp2_with fail
      refine (rcmay_any a _ ha).mono ?_
      rintro e w1 ⟨rfl, hb1⟩
      obtain ⟨hx, hy, hbw⟩ := box_2 (cs := a.cells) (ds := b.cells) hb1
      obtain ⟨y0, y1, y2, y3, y4, y5, y6⟩ := hy.get7
      clear hx hy hb1
      go_wp2_with fail
      refine (rcmay_any b _ hb).mono ?_
      rintro e w2 ⟨rfl, hb2⟩
      go_wp2_with fail
      go_ret
      exact ⟨by rw [← HR.out, cmpC, if_pos (.inr h2)]; rfl, below_tr hbw hb2⟩
    · have HV := hid (cmpC_of h1 h2)
      go_enter Try.func43, Try.ntmps43
      go_wp2_with fail
      refine (rcmay_any a _ ha).mono ?_
      rintro e w1 ⟨rfl, hb1⟩
      obtain ⟨hx, hy, hbw⟩ := box_2 (cs := a.cells) (ds := b.cells) hb1
      obtain ⟨y0, y1, y2, y3, y4, y5, y6⟩ := hy.get7
      clear hb1
      go_wp2_with fail
      refine (rcmay_any b _ hb).mono ?_
      rintro e w2 ⟨rfl, hb2⟩
      have hx2 := hx.below hb2
      have hy2 := hy.below hb2
      have hbw2 := below_tr hbw hb2
      clear y0 y1 y2 y3 y4 y5 y6 hx hy hbw hb2
      obtain ⟨x0, x1, x2, x3, x4, x5, x6⟩ := hx2.get7
      obtain ⟨y0, y1, y2, y3, y4, y5, y6⟩ := hy2.get7
      by_cases hE : a.en ≠ 0 ∨ b.en ≠ 0
      · have HE := hid (show cmpC a b = cmpI a.en b.en by rw [HV.out, if_pos hE])
        have hcase : (a.en != b.en) = true ∨ ((a.en != b.en) = false ∧ (a.en != 0) = true) := by
          by_cases h : a.en = b.en
          · exact .inr ⟨by simp [h], by simp; omega⟩
          · exact .inl (by simpa using h)
        clear hE hx2 hy2
        rcases hcase with e1 | ⟨e1, e2⟩
        all_goals
          go_wp2_with (go_at_call 59; refine (ints_any _ _ _).mono ?_; rintro e w' ⟨rfl, rfl⟩)
          go_ret
          exact ⟨by rw [← HR.out, HE.out]; rfl, hbw2⟩
      · have e1 : (a.en != b.en) = false := by simp; omega
        have e2 : (a.en != 0) = false := by simp; omega
        have HE := hid (show cmpC a b = if cmpV a.v b.v ≠ 0 then cmpV a.v b.v else if a.aft = b.aft then 0 else if b.aft then -1 else 1 by rw [HV.out, if_neg hE])
        clear hE
        go_wp2_with fail
        refine (rcompare_any a.v b.v _ ha hb).mono ?_
        rintro e w3 ⟨rfl, hb3⟩
        have hx3 := hx2.below hb3
        have hy3 := hy2.below hb3
        have hbw3 := below_tr hbw2 hb3
        clear x0 x1 x2 x3 x4 x5 x6 y0 y1 y2 y3 y4 y5 y6 hx2 hy2 hbw2 hb3
        obtain ⟨x0, x1, x2, x3, x4, x5, x6⟩ := hx3.get7
        obtain ⟨y0, y1, y2, y3, y4, y5, y6⟩ := hy3.get7
        clear hx3 hy3
        by_cases hc : cmpV a.v b.v = 0
        · have hcond : (cmpV a.v b.v != 0) = false := by simp [hc]
          have HC := hid hc
          clear hc
          cases ka : a.aft <;> cases kb : b.aft
          · go_wp2_with fail
            go_ret
            exact ⟨by rw [← HR.out, HE.out, HC.out, ka, kb]; rfl, hbw3⟩
          · go_wp2_with fail
            go_ret
            exact ⟨by rw [← HR.out, HE.out, HC.out, ka, kb]; rfl, hbw3⟩
          · go_wp2_with fail
            go_ret
            exact ⟨by rw [← HR.out, HE.out, HC.out, ka, kb]; rfl, hbw3⟩
          · go_wp2_with fail
            go_ret
            exact ⟨by rw [← HR.out, HE.out, HC.out, ka, kb]; rfl, hbw3⟩
        · have hcond : (cmpV a.v b.v != 0) = true := by simpa using hc
          have HE2 := hid (show cmpC a b = cmpV a.v b.v by rw [HE.out, if_pos hc])
          clear hc
          go_wp2_with fail
          go_ret
          exact ⟨by rw [← HR.out, HE2.out]; rfl, hbw3⟩
end Go.Proofs.Ytodicnjoimoiiaa
