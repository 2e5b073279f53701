/- The walk of version.Compare. -/
import Derived.Test.YtodicnjoimoiiaaWh
import Derived.Deep.DeepCutAuto
namespace Go.Proofs.Ytodicnjoimoiiaa
open Go.RowKit Go.Lib
set_option linter.unusedVariables false
set_option linter.unusedSimpArgs false

def vstop (a b : Ver) : Bool := !mayV a || !mayV b || eqVer a.core b.core
theorem cmpV_stop {a b : Ver} (h : vstop a b = true) : cmpV a b = 0 := by
  cases ha : mayV a
  · simp [cmpV, ha]
  · cases hb : mayV b
    · simp [cmpV, hb]
    · rw [vstop, ha, hb] at h
      have h' := eqVer_iff.1 (by simpa using h)
      rw [cmpV_zero ha hb]
      have e : ∀ v : Ver, v.core.maj = v.maj ∧ v.core.min = v.min ∧ v.core.pat = v.pat ∧ v.core.pre = v.pre := fun v => ⟨rfl, rfl, rfl, rfl⟩
      refine ⟨?_, ?_, ?_, ?_⟩
      · rw [← (e a).1, h', (e b).1]
      · rw [← (e a).2.1, h', (e b).2.1]
      · rw [← (e a).2.2.1, h', (e b).2.2.1]
      · rw [← (e a).2.2.2, h', (e b).2.2.2]
theorem cmpNum_or (a b : Ver) : cmpNum a b = or3 (cmpI a.maj b.maj) (cmpI a.min b.min) (cmpI a.pat b.pat) := rfl
theorem vstop_no {a b : Ver} (h : vstop a b = false) : mayV a = true ∧ mayV b = true ∧ eqVer a.core b.core = false := by
  simp only [vstop, Bool.or_eq_false_iff, Bool.not_eq_false'] at h
  exact ⟨h.1.1, h.1.2, h.2⟩
theorem cmpV_num {a b : Ver} (h : vstop a b = false) (h1 : cmpNum a b ≠ 0) : cmpV a b = cmpNum a b := by
  obtain ⟨ha, hb, _⟩ := vstop_no h
  rw [cmpV, if_neg (by simp [ha, hb]), if_pos h1]
theorem cmpV_pre {a b : Ver} (h : vstop a b = false) (h1 : cmpNum a b = 0) : cmpV a b = if bts a.pre = [] then 1 else if bts b.pre = [] then -1 else cmpTags (splitP (bts a.pre)) (splitP (bts b.pre)) := by
  obtain ⟨ha, hb, hne⟩ := vstop_no h
  rw [cmpV, if_neg (by simp [ha, hb]), if_neg (by simp [h1]), cmpPre, if_neg]
  intro e
  obtain ⟨n1, n2, n3⟩ := cmpNum_zero.1 h1
  have : eqVer a.core b.core = true := by
    rw [eqVer_iff]
    simp only [Ver.core, n1, n2, n3, bts_inj e]
  rw [this] at hne; cases hne

theorem cmpTags_step {x y : List (List UInt8)} {k : Nat} (hx : k < x.length) (hy : k < y.length) : cmpTags (x.drop k) (y.drop k) = if cmpTag x[k] y[k] ≠ 0 then cmpTag x[k] y[k] else cmpTags (x.drop (k + 1)) (y.drop (k + 1)) := by
  rw [List.drop_eq_getElem_cons hx, List.drop_eq_getElem_cons hy]; rfl
theorem cmpTags_end {x y : List (List UInt8)} {k : Nat} (hx : k ≤ x.length) (hy : k ≤ y.length) (h : ¬ (k < x.length ∧ k < y.length)) : cmpTags (x.drop k) (y.drop k) = cmpI x.length y.length := by
  have e : ∀ u v : List (List UInt8), (u = [] ∨ v = []) → cmpTags u v = cmpI u.length v.length := by
    intro u v h
    rcases h with rfl | rfl
    · rfl
    · cases u <;> rfl
  have hc : x.drop k = [] ∨ y.drop k = [] := by
    by_cases h1 : k < x.length
    · exact .inr (List.drop_eq_nil_of_le (by omega))
    · exact .inl (List.drop_eq_nil_of_le (by omega))
  rw [e _ _ hc, List.length_drop, List.length_drop]
  unfold cmpI
  split <;> split <;> (try split) <;> (try split) <;> omega

abbrev boxV (w : World) (a : Ver) : World := w.alloc (.cells #[.int .i64 a.maj, .int .i64 a.min, .int .i64 a.pat, .string a.pre, .string a.bld] 24)
abbrev box2 (w : World) (a b : Ver) : World := boxV (boxV w a) b
theorem below_box2 (w : World) (a b : Ver) : Below w.heap.size w (box2 w a b) := below_tr (below_new _ _) (below_new _ _)

theorem below_undrew {w w1 : World} (h : Below w.drew.heap.size w.drew w1) : Below w.heap.size w w1 := ⟨⟨h.os, h.tape, h.output, h.size, h.block⟩, Nat.le_trans (Nat.le_succ _) h.drawn⟩
def BoxV (w : World) (g : Nat) (v : Ver) : Prop := w.cell? ⟨g, 0, none⟩ = some (.int .i64 v.maj) ∧ w.cell? ⟨g, 1, none⟩ = some (.int .i64 v.min) ∧ w.cell? ⟨g, 2, none⟩ = some (.int .i64 v.pat) ∧ w.cell? ⟨g, 3, none⟩ = some (.string v.pre) ∧ w.cell? ⟨g, 4, none⟩ = some (.string v.bld)
theorem BoxV.new (w : World) (v : Ver) : BoxV (boxV w v) w.heap.size v := by
  refine ⟨?_, ?_, ?_, ?_, ?_⟩ <;> simp [boxV]
theorem BoxV.below {w w' : World} {g : Nat} {v : Ver} (h : BoxV w g v) (hg : g < w.heap.size) (hb : Below w.heap.size w w') : BoxV w' g v := by
  obtain ⟨h0, h1, h2, h3, h4⟩ := h
  exact ⟨(hb.cell (p := ⟨g, 0, none⟩) hg).trans h0, (hb.cell (p := ⟨g, 1, none⟩) hg).trans h1, (hb.cell (p := ⟨g, 2, none⟩) hg).trans h2, (hb.cell (p := ⟨g, 3, none⟩) hg).trans h3, (hb.cell (p := ⟨g, 4, none⟩) hg).trans h4⟩
theorem box_ab {w w1 : World} {a b : Ver} (hb : Below (box2 w a b).heap.size (box2 w a b) w1) : BoxV w1 w.heap.size a ∧ BoxV w1 (w.heap.size + 1) b ∧ w.heap.size + 1 < w1.heap.size := by
  have hs := hb.size
  simp [box2, boxV] at hs
  refine ⟨?_, ?_, by omega⟩
  · exact ((BoxV.new w a).below (by simp [boxV]) (below_new (boxV w a) _)).below (by simp [box2, boxV]; omega) hb
  · have := (BoxV.new (boxV w a) b).below (by simp [boxV]) hb
    simpa [boxV] using this
theorem held_fact {w : World} {g k : Nat} {s : ByteArray} {n : Nat} (h : Held w g (splitP (bts s))) (hn : (splitP (bts s)).length = n) (hk : k < n) : ∃ x : ByteArray, w.cell? ⟨g, k, none⟩ = some (.string x) ∧ bts x = (splitP (bts s)).getD k [] ∧ x.size ≤ s.size := by
  obtain ⟨x, h1, h2, h3⟩ := part_str s k (by omega)
  refine ⟨x, by rw [← h1]; exact h.2 k (by omega), ?_, h3⟩
  rw [h2]; simp [show k < (splitP (bts s)).length by omega]
theorem cmpTags_step' {x y : List (List UInt8)} {k : Nat} (hx : k < x.length) (hy : k < y.length) : cmpTags (x.drop k) (y.drop k) = if cmpTag (x.getD k []) (y.getD k []) ≠ 0 then cmpTag (x.getD k []) (y.getD k []) else cmpTags (x.drop (k + 1)) (y.drop (k + 1)) := by
  rw [cmpTags_step hx hy]; simp [hx, hy]

set_option maxRecDepth 100000 in
set_option maxHeartbeats 4000000 in
theorem vcompare_any (a b : Ver) (w : World) (ha : a.fit) (hb : b.fit) : Calls Try.prog 54 #[a.val, b.val] w (IntPost w (cmpV a b)) := by
  generalize hr : cmpV a b = r
  have HR := hid hr
  clear hr
  have hq := eqlV
  have hqg := eqgV
  have hB2 := below_box2 w a b
  go_enter Try.func54, Try.ntmps54
  go_upto_region 1 with fail
  go_cut [24] (fun c wx => c = .bool (vstop a b) ∧ Below (box2 w a b).heap.size (box2 w a b) wx)
  case first =>
    cases h1 : mayV a
    · go_region_with (go_at_call 61; refine (may_any a _ ha).mono ?_; rintro e w1 ⟨rfl, hb1⟩)
      all_goals (go_wp2_with fail; go_meet; exact ⟨by simp [vstop, h1], below_undrew hb1⟩)
    · cases h2 : mayV b
      · go_region_with (first | (go_at_call_of 61 a.pre; refine (may_any a _ ha).mono ?_; rintro e w1 ⟨rfl, hb1⟩; have hB1 := below_undrew hb1; obtain ⟨⟨a10, a11, a12, a13, a14⟩, ⟨b10, b11, b12, b13, b14⟩, hz1⟩ := box_ab hB1) | (go_at_call_of 61 b.pre; refine (may_any b _ hb).mono ?_; rintro e w2 ⟨rfl, hb2⟩))
        all_goals (go_wp2_with fail; go_meet; exact ⟨by simp [vstop, h1, h2], below_tr hB1 hb2⟩)
      · go_region_with (first | (go_at_call_of 61 a.pre; refine (may_any a _ ha).mono ?_; rintro e w1 ⟨rfl, hb1⟩; have hB1 := below_undrew hb1; obtain ⟨⟨a10, a11, a12, a13, a14⟩, ⟨b10, b11, b12, b13, b14⟩, hz1⟩ := box_ab hB1) | (go_at_call_of 61 b.pre; refine (may_any b _ hb).mono ?_; rintro e w2 ⟨rfl, hb2⟩; have hB2 := below_tr hB1 hb2; obtain ⟨⟨a20, a21, a22, a23, a24⟩, ⟨b20, b21, b22, b23, b24⟩, hz2⟩ := box_ab hB2) | (go_at_call_of 77 a.pre; refine (core_any a _).mono ?_; rintro e w3 ⟨rfl, hb3⟩; have hB3 := below_tr hB2 hb3; obtain ⟨⟨a30, a31, a32, a33, a34⟩, ⟨b30, b31, b32, b33, b34⟩, hz3⟩ := box_ab hB3) | (go_at_call_of 77 b.pre; refine (core_any b _).mono ?_; rintro e w4 ⟨rfl, hb4⟩; have hB4 := below_tr hB3 hb4; obtain ⟨⟨a40, a41, a42, a43, a44⟩, ⟨b40, b41, b42, b43, b44⟩, hz4⟩ := box_ab hB4))
        all_goals (go_wp2_with fail; go_meet; exact ⟨by simp [vstop, h1, h2], below_tr hB3 hb4⟩)
  case rest =>
    obtain ⟨rfl, hB⟩ := hcut
    obtain ⟨⟨a0, a1, a2, a3, a4⟩, ⟨b0, b1, b2, b3, b4⟩, hz⟩ := box_ab hB
    have hBw := below_tr hB2 hB
    have hz0 : w.heap.size < wc.heap.size := by omega
    cases hs : vstop a b
    · have HS := hid hs
      clear hs hq hqg
      go_wp2_with fail
      go_region_held3 (fun w' => w'.cell? ⟨w.heap.size, 0, none⟩ = some (.int .i64 a.maj) ∧ w'.cell? ⟨w.heap.size, 1, none⟩ = some (.int .i64 a.min) ∧ w'.cell? ⟨w.heap.size, 2, none⟩ = some (.int .i64 a.pat) ∧ w'.cell? ⟨w.heap.size + 1, 0, none⟩ = some (.int .i64 b.maj) ∧ w'.cell? ⟨w.heap.size + 1, 1, none⟩ = some (.int .i64 b.min) ∧ w'.cell? ⟨w.heap.size + 1, 2, none⟩ = some (.int .i64 b.pat)) (go_keep)
        (first | (go_at_call 53; refine (cmpi_any _ _ _).mono ?_; rintro e w' ⟨rfl, rfl⟩) | (go_at_call 78; refine (or_any _ (cmpI a.maj b.maj) (cmpI a.min b.min) (cmpI a.pat b.pat) _ ?_ ?_ ?_).mono ?_; (simp); (simp); (simp); rintro e w' ⟨rfl, rfl⟩))
      rw [← cmpNum_or]
      by_cases hn : cmpNum a b = 0
      · have HN := hid hn
        have hn' : (cmpNum a b != 0) = false := by simp [hn]
        clear hn
        have HP := hid (cmpV_pre HS.out HN.out)
        by_cases hp : 0 < a.pre.size
        · obtain ⟨ep, np⟩ := ne_of_size hp
          by_cases hq : 0 < b.pre.size
          · obtain ⟨eq, nq⟩ := ne_of_size hq
            have HT := hid (show cmpV a b = cmpTags (splitP (bts a.pre)) (splitP (bts b.pre)) by rw [HP.out, if_neg (by rw [bts]; exact np), if_neg (by rw [bts]; exact nq)])
            clear a0 a1 a2 b0 b1 b2
            go_wp2_with fail
            go_region_held3 (fun w' => w'.cell? ⟨w.heap.size, 3, none⟩ = some (.string a.pre) ∧ w'.cell? ⟨w.heap.size + 1, 3, none⟩ = some (.string b.pre)) (go_keep)
              (first | (go_at_call_of 79 a.pre; refine (split46 a.pre _ ha.1).mono ?_; rintro e w5 ⟨g5, cap5, rfl, hg5, hgs5, hcap5, hcell5, hb5⟩; have HH5 := hid (show Held w5 g5 (splitP (bts a.pre)) from ⟨hgs5, hcell5⟩); clear hcell5; have hB5 := below_tr (by exact ((hB.alloc hB.size _).drew).drew) hb5; obtain ⟨⟨p0, p1, p2, p3, p4⟩, ⟨q0, q1, q2, q3, q4⟩, hz5⟩ := box_ab hB5; clear p0 p1 p2 p4 q0 q1 q2 q4) | (go_at_call_of 79 b.pre; refine (split46 b.pre _ hb.1).mono ?_; rintro e w6 ⟨g6, cap6, rfl, hg6, hgs6, hcap6, hcell6, hb6⟩; have HH6 := hid (show Held w6 g6 (splitP (bts b.pre)) from ⟨hgs6, hcell6⟩); clear hcell6; have hB6 := below_tr hB5 hb6; obtain ⟨⟨r0, r1, r2, r3, r4⟩, ⟨s0, s1, s2, s3, s4⟩, hz6⟩ := box_ab hB6; clear r0 r1 r2 r4 s0 s1 s2 s4))
            have hBw6 := below_tr hB2 hB6
            have H5 := hid (HH5.out.below hb6)
            have hnx : (splitP (bts a.pre)).length ≤ 4398046511105 := by have := (splitL_len 46 (bts a.pre) []).2; rw [bts_len] at this; exact Nat.le_trans this (by have := ha.1; omega)
            have hny : (splitP (bts b.pre)).length ≤ 4398046511105 := by have := (splitL_len 46 (bts b.pre) []).2; rw [bts_len] at this; exact Nat.le_trans this (by have := hb.1; omega)
            generalize hxl : (splitP (bts a.pre)).length = nx at *
            generalize hyl : (splitP (bts b.pre)).length = ny at *
            have HX := hid hxl
            have HY := hid hyl
            have hpa := ha.1
            have hpb := hb.1
            clear hxl hyl HH5 hb5 hb6 hB5 hB6 hB hBw a3 a4 b3 b4 hz0 hz hB2 ep np eq nq hn' hg5 hg6 hcap5 hcap6 p3 q3 r3 s3 hz5 hz6 hgs5 hgs6
            go_wp2_with fail
            go_loopw [8, 9] (fun i d wr => ∃ k : Nat, i = .int .i64 k ∧ k ≤ nx ∧ k ≤ ny ∧ Hid (cmpTags ((splitP (bts a.pre)).drop k) ((splitP (bts b.pre)).drop k) = cmpV a b) ∧ Hid (Held wr g5 (splitP (bts a.pre))) ∧ Hid (Held wr g6 (splitP (bts b.pre))) ∧ Below w.heap.size w wr) (fun i _ _ => nx - (intOf i).toNat)
            case atStart => exact ⟨0, rfl, Nat.zero_le _, Nat.zero_le _, by rw [List.drop_zero, List.drop_zero]; exact HT.out.symm, H5, HH6, hBw6⟩
            case round =>
              obtain ⟨k, rfl, hkx, hky, HC, H5r, H6r, hbr⟩ := hrel
              by_cases hl : k < nx ∧ k < ny
              · obtain ⟨hl1, hl2⟩ := hl
                obtain ⟨x, hx1, hx2, hx3⟩ := held_fact H5r.out HX.out hl1
                obtain ⟨y, hy1, hy2, hy3⟩ := held_fact H6r.out HY.out hl2
                have HT2 := hid (cmpTags_step' (x := splitP (bts a.pre)) (y := splitP (bts b.pre)) (k := k) (by rw [HX.out]; exact hl1) (by rw [HY.out]; exact hl2))
                rw [← hx2, ← hy2] at HT2
                have hi0 : (0 : Int) ≤ (k : Int) := Int.natCast_nonneg _
                have hi1 : (k : Int) < (nx : Int) := by omega
                have hi2 : (k : Int) < (ny : Int) := by omega
                have hg5r := H5r.out.1
                have hg6r := H6r.out.1
                clear hx2 hy2
                go_wp2_with fail
                go_region_held3 (fun w' => w'.cell? ⟨g5, k, none⟩ = some (.string x) ∧ w'.cell? ⟨g6, k, none⟩ = some (.string y)) (go_keep)
                  (first | (go_at_call 80; refine (tag_any x y _ (by omega) (by omega)).mono ?_; rintro e w7 ⟨rfl, hb7'⟩; have hb7 := below_undrew hb7'; have c7 := (hb7.cell (p := ⟨g5, k, none⟩) hg5r).trans hx1; have d7 := (hb7.cell (p := ⟨g6, k, none⟩) hg6r).trans hy1))
                clear c7 d7 hx1 hy1 hb7'
                by_cases ht : cmpTag (bts x) (bts y) = 0
                · have hcond : (cmpTag (bts x) (bts y) != 0) = false := by simp [ht]
                  have HN2 := hid (show cmpTags ((splitP (bts a.pre)).drop (k + 1)) ((splitP (bts b.pre)).drop (k + 1)) = cmpV a b by have := HC.out; rw [HT2.out, if_neg (by simp [ht])] at this; exact this)
                  clear ht
                  go_wp2_with fail
                  go_roundw
                  case rel => exact ⟨k + 1, by go_num, by omega, by omega, HN2, H5r.out.below hb7, H6r.out.below hb7, below_tr hbr hb7⟩
                  case measure => simp [intOf]; omega
                · have hcond : (cmpTag (bts x) (bts y) != 0) = true := by simpa using ht
                  have HN2 := hid (show cmpV a b = cmpTag (bts x) (bts y) by have := HC.out; rw [HT2.out, if_pos ht] at this; exact this.symm)
                  clear ht
                  go_wp2_with fail
                  go_ret
                  exact ⟨by rw [← HR.out, HN2.out]; rfl, below_tr hbr hb7⟩
              · have HE := hid (show cmpV a b = cmpI nx ny by rw [← HC.out, cmpTags_end (by rw [HX.out]; exact hkx) (by rw [HY.out]; exact hky) (by rw [HX.out, HY.out]; exact hl), HX.out, HY.out])
                by_cases hl1 : k < nx
                · have hl2 : ¬ k < ny := fun h => hl ⟨hl1, h⟩
                  have hd2 : decide ((k : Int) < (ny : Int)) = false := by simp; omega
                  have hi1 : (k : Int) < (nx : Int) := by omega
                  go_wp2_with (go_at_call 53; refine (cmpi_any _ _ _).mono ?_; rintro e w' ⟨rfl, rfl⟩)
                  go_ret
                  exact ⟨by rw [← HR.out, HE.out]; rfl, hbr⟩
                · have hd1 : decide ((k : Int) < (nx : Int)) = false := by simp; omega
                  go_wp2_with (go_at_call 53; refine (cmpi_any _ _ _).mono ?_; rintro e w' ⟨rfl, rfl⟩)
                  go_ret
                  exact ⟨by rw [← HR.out, HE.out]; rfl, hbr⟩
          · have eq := isEmpty_of hq
            have HE := hid (show cmpV a b = -1 by rw [HP.out, if_neg (by rw [bts]; exact np), if_pos (by rw [bts]; exact eq)])
            go_wp2_with fail
            go_ret
            exact ⟨by rw [← HR.out, HE.out]; rfl, (hBw.alloc hBw.size _).drew⟩
        · have ep := isEmpty_of hp
          have HE := hid (show cmpV a b = 1 by rw [HP.out, if_pos (by rw [bts]; exact ep)])
          go_wp2_with fail
          go_ret
          exact ⟨by rw [← HR.out, HE.out]; rfl, (hBw.alloc hBw.size _).drew⟩
      · have hn' : (cmpNum a b != 0) = true := by simpa using hn
        have HE := hid (cmpV_num HS.out hn)
        clear hn
        go_wp2_with fail
        go_ret
        exact ⟨by rw [← HR.out, HE.out]; rfl, (hBw.alloc hBw.size _).drew⟩
    · go_wp2_with fail
      go_ret
      exact ⟨by rw [← HR.out, cmpV_stop hs]; rfl, hBw⟩
end Go.Proofs.Ytodicnjoimoiiaa
