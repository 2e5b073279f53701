/- The walks of the reference's Compare of versions. -/
import Derived.Test.YtodicnjoimoiiaaWi
namespace Go.Proofs.Ytodicnjoimoiiaa
open Go.RowKit Go.Lib
set_option linter.unusedVariables false
set_option linter.unusedSimpArgs false

theorem cmpPre_self {a : List UInt8} : cmpPre a a = 0 := by simp [cmpPre]

set_option maxRecDepth 100000 in
set_option maxHeartbeats 4000000 in
theorem pres_any (a b : ByteArray) (w : World) (ha : a.size ≤ 4398046511104) (hb : b.size ≤ 4398046511104) : Calls Try.prog 81 #[.string a, .string b] w (IntPost w (cmpPre (bts a) (bts b))) := by
  generalize hr : cmpPre (bts a) (bts b) = r
  have HR := hid hr
  clear hr
  cases he : a.toList == b.toList
  · have hne : ¬ a.toList = b.toList := by simpa using he
    have HNE := hid hne
    by_cases hp : 0 < a.size
    · obtain ⟨ep, np⟩ := ne_of_size hp
      by_cases hq : 0 < b.size
      · obtain ⟨eq, nq⟩ := ne_of_size hq
        have HT := hid (show cmpPre (bts a) (bts b) = cmpTags (splitP (bts a)) (splitP (bts b)) by rw [cmpPre, if_neg HNE.out, if_neg (by rw [bts]; exact np), if_neg (by rw [bts]; exact nq)])
        clear hne
        go_enter Try.func81, Try.ntmps81
        go_wp2_with fail
        refine (rsplit46 a _ ha).mono ?_
        rintro e w5 ⟨g5, cap5, rfl, hg5, hgs5, hcap5, hcell5, hb5⟩
        have HH5 := hid (show Held w5 g5 (splitP (bts a)) from ⟨hgs5, hcell5⟩)
        clear hcell5
        go_wp2_with fail
        refine (rsplit46 b _ hb).mono ?_
        rintro e w6 ⟨g6, cap6, rfl, hg6, hgs6, hcap6, hcell6, hb6⟩
        have HH6 := hid (show Held w6 g6 (splitP (bts b)) from ⟨hgs6, hcell6⟩)
        clear hcell6
        have hBw6 := below_tr hb5 hb6
        have H5 := hid (HH5.out.below hb6)
        have hnx : (splitP (bts a)).length ≤ 4398046511105 := by have := (splitL_len 46 (bts a) []).2; rw [bts_len] at this; exact Nat.le_trans this (by omega)
        have hny : (splitP (bts b)).length ≤ 4398046511105 := by have := (splitL_len 46 (bts b) []).2; rw [bts_len] at this; exact Nat.le_trans this (by omega)
        generalize hxl : (splitP (bts a)).length = nx at *
        generalize hyl : (splitP (bts b)).length = ny at *
        have HX := hid hxl
        have HY := hid hyl
        clear hxl hyl HH5 hb5 hb6 ep np eq nq hg5 hg6 hcap5 hcap6 hgs5 hgs6 he
        go_wp2_with fail
        go_loopw [7, 8] (fun i d wr => ∃ k : Nat, i = .int .i64 k ∧ k ≤ nx ∧ k ≤ ny ∧ Hid (cmpTags ((splitP (bts a)).drop k) ((splitP (bts b)).drop k) = cmpPre (bts a) (bts b)) ∧ Hid (Held wr g5 (splitP (bts a))) ∧ Hid (Held wr g6 (splitP (bts b))) ∧ Below w.heap.size w wr) (fun i _ _ => nx - (intOf i).toNat)
        case atStart => exact ⟨0, rfl, Nat.zero_le _, Nat.zero_le _, by rw [List.drop_zero, List.drop_zero]; exact HT.out.symm, H5, HH6, hBw6⟩
        case round =>
          obtain ⟨k, rfl, hkx, hky, HC, H5r, H6r, hbr⟩ := hrel
          by_cases hl : k < nx ∧ k < ny
          · obtain ⟨hl1, hl2⟩ := hl
            obtain ⟨x, hx1, hx2, hx3⟩ := held_fact H5r.out HX.out hl1
            obtain ⟨y, hy1, hy2, hy3⟩ := held_fact H6r.out HY.out hl2
            have HT2 := hid (cmpTags_step' (x := splitP (bts a)) (y := splitP (bts b)) (k := k) (by rw [HX.out]; exact hl1) (by rw [HY.out]; exact hl2))
            rw [← hx2, ← hy2] at HT2
            have hi0 : (0 : Int) ≤ (k : Int) := Int.natCast_nonneg _
            have hi1 : (k : Int) < (nx : Int) := by omega
            have hi2 : (k : Int) < (ny : Int) := by omega
            have hg5r := H5r.out.1
            have hg6r := H6r.out.1
            clear hx2 hy2
            go_wp2_with fail
            go_region_held3 (fun w' => w'.cell? ⟨g5, k, none⟩ = some (.string x) ∧ w'.cell? ⟨g6, k, none⟩ = some (.string y)) (go_keep)
              (first | (go_at_call 97; refine (one_any x y _ (by omega) (by omega)).mono ?_; rintro e w7 ⟨rfl, hb7'⟩; have hb7 := below_undrew hb7'; have c7 := (hb7.cell (p := ⟨g5, k, none⟩) hg5r).trans hx1; have d7 := (hb7.cell (p := ⟨g6, k, none⟩) hg6r).trans hy1))
            clear c7 d7 hx1 hy1 hb7'
            by_cases ht : cmpTag (bts x) (bts y) = 0
            · have hcond : (cmpTag (bts x) (bts y) != 0) = false := by simp [ht]
              have HN2 := hid (show cmpTags ((splitP (bts a)).drop (k + 1)) ((splitP (bts b)).drop (k + 1)) = cmpPre (bts a) (bts b) by have := HC.out; rw [HT2.out, if_neg (by simp [ht])] at this; exact this)
              clear ht
              go_wp2_with fail
              go_roundw
              case rel => exact ⟨k + 1, by go_num, by omega, by omega, HN2, H5r.out.below hb7, H6r.out.below hb7, below_tr hbr hb7⟩
              case measure => simp [intOf]; omega
            · have hcond : (cmpTag (bts x) (bts y) != 0) = true := by simpa using ht
              have HN2 := hid (show cmpPre (bts a) (bts b) = cmpTag (bts x) (bts y) by have := HC.out; rw [HT2.out, if_pos ht] at this; exact this.symm)
              clear ht
              go_wp2_with fail
              go_ret
              exact ⟨by rw [← HR.out, HN2.out]; rfl, below_tr hbr hb7⟩
          · have HE := hid (show cmpPre (bts a) (bts b) = cmpI nx ny by rw [← HC.out, cmpTags_end (by rw [HX.out]; exact hkx) (by rw [HY.out]; exact hky) (by rw [HX.out, HY.out]; exact hl), HX.out, HY.out])
            by_cases hl1 : k < nx
            · have hl2 : ¬ k < ny := fun h => hl ⟨hl1, h⟩
              have hd2 : decide ((k : Int) < (ny : Int)) = false := by simp; omega
              have hi1 : (k : Int) < (nx : Int) := by omega
              go_wp2_with (go_at_call 59; refine (ints_any _ _ _).mono ?_; rintro e w' ⟨rfl, rfl⟩)
              go_ret
              exact ⟨by rw [← HR.out, HE.out]; rfl, hbr⟩
            · have hd1 : decide ((k : Int) < (nx : Int)) = false := by simp; omega
              go_wp2_with (go_at_call 59; refine (ints_any _ _ _).mono ?_; rintro e w' ⟨rfl, rfl⟩)
              go_ret
              exact ⟨by rw [← HR.out, HE.out]; rfl, hbr⟩
      · have eq := isEmpty_of hq
        have HE := hid (show cmpPre (bts a) (bts b) = -1 by rw [cmpPre, if_neg HNE.out, if_neg (by rw [bts]; exact np), if_pos (by rw [bts]; exact eq)])
        clear hne
        go_enter Try.func81, Try.ntmps81
        go_wp2_with fail
        go_ret
        exact ⟨by rw [← HR.out, HE.out]; rfl, Below.refl _ _⟩
    · have ep := isEmpty_of hp
      have hq : 0 < b.size := by
        rcases Nat.lt_or_ge 0 b.size with h | h
        · exact h
        · exact absurd (ep.trans (isEmpty_of (by omega)).symm) hne
      obtain ⟨eb, nb⟩ := ne_of_size hq
      have HE := hid (show cmpPre (bts a) (bts b) = 1 by rw [cmpPre, if_neg HNE.out, if_pos (by rw [bts]; exact ep)])
      clear hne
      go_enter Try.func81, Try.ntmps81
      go_wp2_with fail
      go_ret
      exact ⟨by rw [← HR.out, HE.out]; rfl, Below.refl _ _⟩
  · have hee : a = b := bts_inj (by simpa [bts] using he)
    subst hee
    have HE := hid (cmpPre_self (a := bts a))
    clear he
    go_enter Try.func81, Try.ntmps81
    go_wp2_with fail
    go_ret
    exact ⟨by rw [← HR.out, HE.out]; rfl, Below.refl _ _⟩

theorem cmpNum_1 {a b : Ver} (h : cmpI a.maj b.maj ≠ 0) : cmpNum a b = cmpI a.maj b.maj := by rw [cmpNum, if_pos h]
theorem cmpNum_2 {a b : Ver} (h : cmpI a.maj b.maj = 0) (h2 : cmpI a.min b.min ≠ 0) : cmpNum a b = cmpI a.min b.min := by rw [cmpNum, if_neg (by simp [h]), if_pos h2]
theorem cmpNum_3 {a b : Ver} (h : cmpI a.maj b.maj = 0) (h2 : cmpI a.min b.min = 0) : cmpNum a b = cmpI a.pat b.pat := by rw [cmpNum, if_neg (by simp [h]), if_neg (by simp [h2])]
theorem cmpV_of {a b : Ver} (ha : mayV a = true) (hb : mayV b = true) : cmpV a b = if cmpNum a b ≠ 0 then cmpNum a b else cmpPre (bts a.pre) (bts b.pre) := by rw [cmpV, if_neg (by simp [ha, hb])]

set_option maxRecDepth 100000 in
set_option maxHeartbeats 4000000 in
theorem rcompare_any (a b : Ver) (w : World) (ha : a.fit) (hb : b.fit) : Calls Try.prog 60 #[a.val, b.val] w (IntPost w (cmpV a b)) := by
  generalize hr : cmpV a b = r
  have HR := hid hr
  clear hr
  have hB2 := below_box2 w a b
  cases h1 : mayV a
  · go_enter Try.func60, Try.ntmps60
    go_wp2_with (go_at_call 47; refine (rmay_any a _ ha).mono ?_; rintro e w1 ⟨rfl, hb1⟩)
    go_ret
    exact ⟨by rw [← HR.out, cmpV, if_pos (.inl h1)]; rfl, below_tr hB2 hb1⟩
  · cases h2 : mayV b
    · go_enter Try.func60, Try.ntmps60
      go_wp2_with fail
      refine (rmay_any a _ ha).mono ?_
      rintro e w1 ⟨rfl, hb1⟩
      obtain ⟨⟨a0, a1, a2, a3, a4⟩, ⟨b0, b1, b2, b3, b4⟩, hz⟩ := box_ab hb1
      go_wp2_with fail
      refine (rmay_any b _ hb).mono ?_
      rintro e w2 ⟨rfl, hb2⟩
      go_wp2_with fail
      go_ret
      exact ⟨by rw [← HR.out, cmpV, if_pos (.inr h2)]; rfl, below_tr hB2 (below_tr hb1 hb2)⟩
    · have HV := hid (cmpV_of h1 h2)
      go_enter Try.func60, Try.ntmps60
      go_wp2_with fail
      refine (rmay_any a _ ha).mono ?_
      rintro e w1 ⟨rfl, hb1⟩
      obtain ⟨⟨a0, a1, a2, a3, a4⟩, ⟨b0, b1, b2, b3, b4⟩, hz⟩ := box_ab hb1
      go_wp2_with fail
      refine (rmay_any b _ hb).mono ?_
      rintro e w2 ⟨rfl, hb2⟩
      clear a0 a1 a2 a3 a4 b0 b1 b2 b3 b4 hz
      have hbb := below_tr hb1 hb2
      obtain ⟨⟨a0, a1, a2, a3, a4⟩, ⟨b0, b1, b2, b3, b4⟩, hz⟩ := box_ab hbb
      have hbw := below_tr hB2 hbb
      by_cases c1 : cmpI a.maj b.maj = 0
      · have e1 : (cmpI a.maj b.maj != 0) = false := by simp [c1]
        have C1 := hid c1
        clear c1
        by_cases c2 : cmpI a.min b.min = 0
        · have e2 : (cmpI a.min b.min != 0) = false := by simp [c2]
          have C2 := hid c2
          clear c2
          by_cases c3 : cmpI a.pat b.pat = 0
          · have e3 : (cmpI a.pat b.pat != 0) = false := by simp [c3]
            have HE := hid (show cmpV a b = cmpPre (bts a.pre) (bts b.pre) by rw [HV.out, cmpNum_3 C1.out C2.out, if_neg (by simp [c3])])
            clear c3
            go_wp2_with (first | (go_at_call 59; refine (ints_any _ _ _).mono ?_; rintro e w' ⟨rfl, rfl⟩) | (go_at_call 81; refine (pres_any _ _ _ ha.1 hb.1).mono ?_; rintro e w3 ⟨rfl, hb3⟩))
            go_ret
            exact ⟨by rw [← HR.out, HE.out]; rfl, below_tr hbw hb3⟩
          · have e3 : (cmpI a.pat b.pat != 0) = true := by simpa using c3
            have HE := hid (show cmpV a b = cmpI a.pat b.pat by rw [HV.out, cmpNum_3 C1.out C2.out, if_pos c3])
            clear c3
            go_wp2_with (first | (go_at_call 59; refine (ints_any _ _ _).mono ?_; rintro e w' ⟨rfl, rfl⟩))
            go_ret
            exact ⟨by rw [← HR.out, HE.out]; rfl, hbw⟩
        · have e2 : (cmpI a.min b.min != 0) = true := by simpa using c2
          have HE := hid (show cmpV a b = cmpI a.min b.min by rw [HV.out, cmpNum_2 C1.out c2, if_pos c2])
          clear c2
          go_wp2_with (first | (go_at_call 59; refine (ints_any _ _ _).mono ?_; rintro e w' ⟨rfl, rfl⟩))
          go_ret
          exact ⟨by rw [← HR.out, HE.out]; rfl, hbw⟩
      · have e1 : (cmpI a.maj b.maj != 0) = true := by simpa using c1
        have HE := hid (show cmpV a b = cmpI a.maj b.maj by rw [HV.out, cmpNum_1 c1, if_pos c1])
        clear c1
        go_wp2_with (first | (go_at_call 59; refine (ints_any _ _ _).mono ?_; rintro e w' ⟨rfl, rfl⟩))
        go_ret
        exact ⟨by rw [← HR.out, HE.out]; rfl, hbw⟩
end Go.Proofs.Ytodicnjoimoiiaa
