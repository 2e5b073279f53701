/- Contracts: the reference's Parse of versions, whole. -/
import Derived.Test.YtjceaniffooohaaGreatDoorTra
import Derived.Deep.CutBlock
import Derived.Deep.CutRange
namespace Go.Proofs.YtjceaniffooohaaGreatDoor
open Go.RowKit Go.Lib
set_option linter.unusedVariables false
set_option linter.unusedSimpArgs false

theorem drop_in {b : UInt8} {l : List UInt8} (h : b ∈ l) : l.drop (beforeL b l).length = b :: afterL b l := by
  rcases before_or b l with ⟨h1, _, _⟩ | ⟨h1, _⟩
  · exact absurd h h1
  · have e := congrArg (List.drop (beforeL b l).length) h1
    rw [List.drop_left] at e
    exact e
theorem drop_out {b : UInt8} {l : List UInt8} (h : b ∉ l) : l.drop (beforeL b l).length = [] := by rw [(before_none h).1, List.drop_length]
theorem one_size (b : UInt8) (l : List UInt8) : decide ((l.drop (beforeL b l).length).length = 1) = (l.contains b && (afterL b l).isEmpty) := by
  by_cases h : b ∈ l
  · rw [drop_in h, show l.contains b = true by simpa using h]
    cases afterL b l <;> simp
  · rw [drop_out h, show l.contains b = false by simpa using h]; rfl
theorem tail_of (b : UInt8) (l : List UInt8) : (l.drop (beforeL b l).length).drop 1 = afterL b l := by
  by_cases h : b ∈ l
  · rw [drop_in h]; rfl
  · rw [drop_out h, (before_none h).2]; rfl
def withT (v : Ver) (p b : List UInt8) : Ver := ⟨v.maj, v.min, v.pat, strB p, strB b⟩
theorem rparse_form (s : ByteArray) {r1 r2 pre bld : ByteArray} (h1 : bts r1 = beforeL 43 (bts s)) (h2 : bts bld = (bts s).drop (beforeL 43 (bts s)).length) (h3 : bts r2 = beforeL 45 (bts r1)) (h4 : bts pre = (bts r1).drop (beforeL 45 (bts r1)).length) :
    parseV (bts s) = match threeV (splitP (bts r2)) [] [] with
      | some v => if decide (bld.size = 1) || decide (pre.size = 1) then none else if mayV (withT v ((bts pre).drop 1) ((bts bld).drop 1)) then some (withT v ((bts pre).drop 1) ((bts bld).drop 1)) else none
      | none => none := by
  have e1 : decide (bld.size = 1) = ((bts s).contains 43 && (afterL 43 (bts s)).isEmpty) := by rw [← one_size, ← h2, bts_len]
  have e2 : decide (pre.size = 1) = ((beforeL 43 (bts s)).contains 45 && (afterL 45 (beforeL 43 (bts s))).isEmpty) := by rw [← one_size, ← h1, ← h4, bts_len]
  have e3 : (bts bld).drop 1 = afterL 43 (bts s) := by rw [h2, tail_of]
  have e4 : (bts pre).drop 1 = afterL 45 (beforeL 43 (bts s)) := by rw [h4, tail_of, h1]
  rw [← rparseV_eq, rparseV, partsV, ← h1, ← h3, three_of, e1, e2, e3, e4, h1]
  cases threeV (splitP (bts r2)) [] [] <;> rfl
theorem three_shape {ls : List (List UInt8)} {u : Ver} (h : threeV ls [] [] = some u) : u.pre = ⟨#[]⟩ ∧ u.bld = ⟨#[]⟩ := by
  unfold threeV at h
  split at h
  · split at h
    · injection h with h; subst h; exact ⟨rfl, rfl⟩
    · cases h
  · cases h
theorem parse_none {w w' : World} (h : Below w.heap.size w w') : ParsePost w none (.returned (.tuple #[zeroV.val, .int .i64 5])) w' := ⟨rfl, h⟩
theorem tailB (s : ByteArray) : s.extract 1 s.size = strB ((bts s).drop 1) := bts_inj (by
  rw [bts_strB, bts_extract, List.take_of_length_le]
  rw [List.length_drop, bts_len]; omega)
theorem nilB : (⟨#[]⟩ : ByteArray) = strB [] := rfl
theorem drop_nilB {s : ByteArray} (h : s.toList = []) : (bts s).drop 1 = [] := by rw [bts, h]; rfl
set_option maxRecDepth 100000 in
set_option maxHeartbeats 4000000 in
theorem rvparse_any (s : ByteArray) (w : World) (hs : s.size ≤ 4398046511103) : Calls Tryz.prog 211 #[.string s] w (ParsePost w (parseV (bts s))) := by
  have HP1 := hid (fun u => rplace_any s 43 u (by omega))
  have hl1 := (before_len 43 (bts s)).1
  rw [bts_len] at hl1
  have HE1 : Hid (bts (s.extract 0 (beforeL 43 (bts s)).length) = beforeL 43 (bts s)) := hid (by
    rw [bts_extract, List.drop_zero, Nat.sub_zero]
    rcases before_or 43 (bts s) with ⟨_, h2, _⟩ | ⟨h1, _⟩
    · rw [h2, List.take_length]
    · have e := congrArg (List.take (beforeL 43 (bts s)).length) h1
      rw [List.take_left] at e; exact e)
  have HE2 : Hid (bts (s.extract (beforeL 43 (bts s)).length s.size) = (bts s).drop (beforeL 43 (bts s)).length) := hid (by
    rw [bts_extract, List.take_of_length_le]
    rw [List.length_drop, bts_len]; omega)
  have hz1 : (s.extract 0 (beforeL 43 (bts s)).length).size ≤ s.size := by rw [ByteArray.size_extract]; omega
  go_enter Tryz.func211, Tryz.ntmps211
  generalize hn1 : (beforeL 43 (bts s)).length = n1 at *
  go_wp2_with fail
  refine (HP1.out _).mono ?_
  rintro _ _ ⟨rfl, rfl⟩
  go_wp2_with fail
  generalize hr1 : s.extract 0 n1 = r1 at *
  generalize hbl : s.extract n1 s.size = bld at *
  have HP2 := hid (fun u => rplace_any r1 45 u (by omega))
  have hl2 := (before_len 45 (bts r1)).1
  rw [bts_len] at hl2
  have HE3 : Hid (bts (r1.extract 0 (beforeL 45 (bts r1)).length) = beforeL 45 (bts r1)) := hid (by
    rw [bts_extract, List.drop_zero, Nat.sub_zero]
    rcases before_or 45 (bts r1) with ⟨_, h2, _⟩ | ⟨h1, _⟩
    · rw [h2, List.take_length]
    · have e := congrArg (List.take (beforeL 45 (bts r1)).length) h1
      rw [List.take_left] at e; exact e)
  have HE4 : Hid (bts (r1.extract (beforeL 45 (bts r1)).length r1.size) = (bts r1).drop (beforeL 45 (bts r1)).length) := hid (by
    rw [bts_extract, List.take_of_length_le]
    rw [List.length_drop, bts_len]; omega)
  have hz2 : (r1.extract 0 (beforeL 45 (bts r1)).length).size ≤ r1.size := by rw [ByteArray.size_extract]; omega
  generalize hn2 : (beforeL 45 (bts r1)).length = n2 at *
  refine (HP2.out _).mono ?_
  rintro _ _ ⟨rfl, rfl⟩
  go_wp2_with fail
  generalize hr2 : r1.extract 0 n2 = r2 at *
  generalize hpr : r1.extract n2 r1.size = pre at *
  have HF := hid (rparse_form s HE1.out (by rw [HE2.out, hn1]) HE3.out (by rw [HE4.out, hn2]))
  have hfp : pre.size ≤ 4398046511103 := by rw [← bts_len, HE4.out, List.length_drop, bts_len]; omega
  have hfb : bld.size ≤ 4398046511103 := by rw [← bts_len, HE2.out, List.length_drop, bts_len]; omega
  have hr2s : r2.size ≤ 4398046511103 := by omega
  clear HP1 HP2 HE1 HE2 HE3 HE4 hl1 hl2 hz1 hz2 hn1 hn2 hr1 hbl hr2 hpr
  refine calls_name ?_
  intro w1 hw1
  have O1 := hid (show Own w.heap.size w1 w.heap.size zeroV.cells by rw [hw1]; exact Own.new w zeroV.cells 44 (Nat.le_refl _))
  have HB := hid (show Below w.heap.size w w1 by rw [hw1]; exact below_new _ _)
  clear hw1
  refine (rsplit46 r2 w1 (by omega)).mono ?_
  rintro _ w2 ⟨g, cap, rfl, hg, hgl, hcap, hcell, hb⟩
  have HH := hid (show Held w2 g (splitP (bts r2)) from ⟨hgl, hcell⟩)
  have O1 := hid (O1.out.below hb)
  have HB := hid (below_tr HB.out hb)
  have hnb : (splitP (bts r2)).length ≤ 4398046511105 := by have := (splitL_len 46 (bts r2) []).2; rw [bts_len] at this; exact Nat.le_trans this (by omega)
  have HT := hid (fun u (h : Below w2.heap.size w2 u) => three_any g cap (splitP (bts r2)) u (HH.out.below h) hnb)
  clear hg hgl hcap hcell hb hnb HH
  have HSH := hid (fun u (h : threeV (splitP (bts r2)) [] [] = some u) => three_shape h)
  generalize threeV (splitP (bts r2)) [] [] = o at *
  generalize (splitP (bts r2)).length = nl at *
  go_wp2_with fail
  refine (HT.out _ (Below.refl _ _)).mono ?_
  rintro _ w3 ⟨v, rfl, hv, hb⟩
  have HV := hid hv
  have O1 := hid (O1.out.below hb)
  have HB := hid (below_tr HB.out hb)
  clear hb HT hv
  generalize hbad : (!o.isSome || (decide (pre.size = 1) || decide (bld.size = 1))) = bad
  have HBAD := hid hbad
  clear hbad
  generalize his : o.isSome = is at *
  have HIS := hid his
  clear his
  have hne : w.heap.size ≠ w3.heap.size := Nat.ne_of_lt O1.out.box.1
  go_upto_region 8 with fail
  refine wp_name ?_
  intro w4 hw4
  have O1 := hid (show Own w.heap.size w4 w.heap.size zeroV.cells by rw [hw4]; exact O1.out.alloc _)
  have O8 := hid (show Own w.heap.size w4 w3.heap.size v.cells by rw [hw4]; exact Own.new w3 v.cells 44 HB.out.size)
  have HB := hid (show Below w.heap.size w w4 by rw [hw4]; exact below_tr HB.out (below_new _ _))
  clear hw4
  generalize w3.heap.size = g8 at *
  go_cut [43] from 32 to 59 (fun b wx => b = .bool bad ∧ wx = w4)
  case first =>
    cases is
    · have HE := hid (show bad = true by rw [← HBAD.out]; rfl)
      go_wp2_with fail
      go_meet
      case rel => exact ⟨by rw [HE.out], rfl⟩
    · by_cases hp1 : pre.size = 1
      · have HE := hid (show bad = true by rw [← HBAD.out]; simp [hp1])
        have d1 : ((pre.size : Int) == 1) = true := by simp [hp1]
        clear hp1
        go_wp2_with fail
        go_meet
        case rel => exact ⟨by rw [HE.out], rfl⟩
      · have d1 : ((pre.size : Int) == 1) = false := by simp; omega
        by_cases hb1 : bld.size = 1
        · have HE := hid (show bad = true by rw [← HBAD.out]; simp [hb1])
          have d2 : ((bld.size : Int) == 1) = true := by simp [hb1]
          clear hp1 hb1
          go_wp2_with fail
          go_meet
          case rel => exact ⟨by rw [HE.out], rfl⟩
        · have HE := hid (show bad = false by rw [← HBAD.out]; simp [hp1, hb1])
          have d2 : ((bld.size : Int) == 1) = false := by simp; omega
          clear hp1 hb1
          go_wp2_with fail
          go_meet
          case rel => exact ⟨by rw [HE.out], rfl⟩
  case rest =>
    obtain ⟨rfl, rfl⟩ := hcut
    cases bad
    · obtain ⟨u, hu⟩ : ∃ u, o = some u := by
        have h1 := HBAD.out
        rw [← HIS.out] at h1
        cases o with
        | none => simp at h1
        | some u => exact ⟨u, rfl⟩
      subst hu
      obtain rfl := HV.out u rfl
      obtain ⟨hp0, hb0⟩ := HSH.out v rfl
      obtain ⟨i0, i1, i2, vp, vb⟩ := v
      simp only at hp0 hb0
      subst hp0 hb0
      have HF2 : Hid (parseV (bts s) = if mayV ⟨i0, i1, i2, strB ((bts pre).drop 1), strB ((bts bld).drop 1)⟩ then some ⟨i0, i1, i2, strB ((bts pre).drop 1), strB ((bts bld).drop 1)⟩ else none) := hid (by
        rw [HF.out]
        have h1 := HBAD.out
        rw [← HIS.out] at h1
        simp only [Option.isSome_some, Bool.not_true, Bool.false_or] at h1
        simp only
        rw [if_neg (by rw [Bool.or_comm, h1]; simp)]; rfl)
      have HTP := hid (tailB pre)
      have HTB := hid (tailB bld)
      have hsp : (strB ((bts pre).drop 1)).size ≤ 4398046511103 := by rw [← HTP.out, ByteArray.size_extract]; omega
      have hsb : (strB ((bts bld).drop 1)).size ≤ 4398046511103 := by rw [← HTB.out, ByteArray.size_extract]; omega
      have HP0 := hid (fun e => congrArg strB (drop_nilB (s := pre) e))
      have HB0 := hid (fun e => congrArg strB (drop_nilB (s := bld) e))
      generalize strB ((bts pre).drop 1) = p1 at *
      generalize strB ((bts bld).drop 1) = b1 at *
      clear HBAD HIS HSH HV HF
      go_upto_if 46 with fail
      go_cut [] from 45 to 59 (fun wx => Hid (Own w.heap.size wx g8 (Ver.cells ⟨i0, i1, i2, p1, ⟨#[]⟩⟩)) ∧ Hid (Own w.heap.size wx w.heap.size zeroV.cells) ∧ Hid (Below w.heap.size w wx))
      case first =>
        obtain ⟨y0, y1, y2, y3, y4⟩ := O8.out.box.get5
        have sf8 : ∀ j, wc.frozen? ⟨g8, j, none⟩ = false := O8.out.soft
        have hlt8 := O8.out.box.1
        rcases str_case pre with ⟨e4, n4⟩ | e4
        · rw [show (!pre.toList.isEmpty) = true by rw [e4]; rfl]
          have hpos : 0 < pre.size := Nat.pos_of_ne_zero (fun h => n4 (List.length_eq_zero_iff.1 ((bts_len pre).trans h)))
          go_wp2_with fail
          go_meet
          case rel =>
            rw [HTP.out]
            exact ⟨hid (O8.out.put (j := 3) (by simp) _), hid (O1.out.other hne _), hid (below_put HB.out O8.out.low _)⟩
        · have HE := hid (HP0.out e4)
          rw [show (!pre.toList.isEmpty) = false by rw [e4]; rfl]
          go_wp2_with fail
          go_meet
          case rel =>
            rw [HE.out]
            exact ⟨O8, O1, HB⟩
      case rest =>
        obtain ⟨O8, O1, HB⟩ := hcut
        go_upto_if 51 with fail
        go_cut [] from 45 to 59 (fun wx => Hid (Own w.heap.size wx g8 (Ver.cells ⟨i0, i1, i2, p1, b1⟩)) ∧ Hid (Own w.heap.size wx w.heap.size zeroV.cells) ∧ Hid (Below w.heap.size w wx))
        case first =>
          obtain ⟨y0, y1, y2, y3, y4⟩ := O8.out.box.get5
          have sf8 : ∀ j, wc.frozen? ⟨g8, j, none⟩ = false := O8.out.soft
          have hlt8 := O8.out.box.1
          rcases str_case bld with ⟨e4, n4⟩ | e4
          · rw [show (!bld.toList.isEmpty) = true by rw [e4]; rfl]
            have hpos : 0 < bld.size := Nat.pos_of_ne_zero (fun h => n4 (List.length_eq_zero_iff.1 ((bts_len bld).trans h)))
            go_wp2_with fail
            go_meet
            case rel =>
              rw [HTB.out]
              exact ⟨hid (O8.out.put (j := 4) (by simp) _), hid (O1.out.other hne _), hid (below_put HB.out O8.out.low _)⟩
          · have HE := hid (HB0.out e4)
            rw [show (!bld.toList.isEmpty) = false by rw [e4]; rfl]
            go_wp2_with fail
            go_meet
            case rel =>
              rw [HE.out]
              exact ⟨O8, O1, HB⟩
        case rest =>
          obtain ⟨O8, O1, HB⟩ := hcut
          obtain ⟨y0, y1, y2, y3, y4⟩ := O8.out.box.get5
          have HMAY := hid (fun u => rmay_any ⟨i0, i1, i2, p1, b1⟩ u ⟨by simp only; omega, by simp only; omega⟩)
          go_wp2_with fail
          refine (HMAY.out _).mono ?_
          rintro _ w5 ⟨rfl, hb⟩
          have O1 := hid (O1.out.below hb)
          have O8 := hid (O8.out.below hb)
          have HB := hid (below_tr HB.out hb)
          clear hb y0 y1 y2 y3 y4
          obtain ⟨x0, x1, x2, x3, x4⟩ := O1.out.box.get5
          have sf1 : ∀ j, w5.frozen? ⟨w.heap.size, j, none⟩ = false := O1.out.soft
          have hlt1 := O1.out.box.1
          cases hm : mayV ⟨i0, i1, i2, p1, b1⟩
          · have HNO : Hid (parseV (bts s) = none) := hid (by rw [HF2.out, hm]; rfl)
            go_wp2_with fail
            refine body_name ?_
            intro w9 hw9
            have O9 : Own w.heap.size w9 w.heap.size zeroV.cells := by rw [hw9]; exact O1.out.set5 _ _ _ _ _
            have B9 : Below w.heap.size w w9 := by rw [hw9]; exact below_set5 HB.out (Nat.le_refl _) _ _ _ _ _
            clear hw9
            obtain ⟨k0, k1, k2, k3, k4⟩ := O9.box.get5
            refine bodyPost_ret (v := .tuple #[zeroV.val, .int .i64 5]) (by simp [results, Tryz.results211, go_sem, k0, k1, k2, k3, k4, zeroV]) rfl ?_
            rw [show parseV (bts s) = none from HNO.out]
            exact parse_none B9
          · have HYES : Hid (parseV (bts s) = some ⟨i0, i1, i2, p1, b1⟩) := hid (by rw [HF2.out, hm]; rfl)
            obtain ⟨y0, y1, y2, y3, y4⟩ := O8.out.box.get5
            have hlt8 := O8.out.box.1
            go_wp2_with fail
            refine body_name ?_
            intro w9 hw9
            have O9 : Own w.heap.size w9 w.heap.size (Ver.cells ⟨i0, i1, i2, p1, b1⟩) := by rw [hw9]; exact O1.out.set5 _ _ _ _ _
            have B9 : Below w.heap.size w w9 := by rw [hw9]; exact below_set5 HB.out (Nat.le_refl _) _ _ _ _ _
            clear hw9
            obtain ⟨k0, k1, k2, k3, k4⟩ := O9.box.get5
            refine bodyPost_ret (v := .tuple #[Ver.val ⟨i0, i1, i2, p1, b1⟩, .int .i64 0]) (by simp [results, Tryz.results211, go_sem, k0, k1, k2, k3, k4]) rfl ?_
            rw [show parseV (bts s) = some ⟨i0, i1, i2, p1, b1⟩ from HYES.out]
            exact ⟨rfl, B9⟩
    · have HNO : Hid (parseV (bts s) = none) := hid (by
        rw [HF.out]
        cases o with
        | none => rfl
        | some u =>
          have h1 := HBAD.out
          rw [← HIS.out] at h1
          simp only [Option.isSome_some, Bool.not_true, Bool.false_or] at h1
          simp only
          rw [if_pos (by rw [Bool.or_comm]; exact h1)])
      obtain ⟨x0, x1, x2, x3, x4⟩ := O1.out.box.get5
      have sf1 : ∀ j, wc.frozen? ⟨w.heap.size, j, none⟩ = false := O1.out.soft
      have hlt1 := O1.out.box.1
      go_wp2_with fail
      refine body_name ?_
      intro w9 hw9
      have O9 : Own w.heap.size w9 w.heap.size zeroV.cells := by rw [hw9]; exact O1.out.set5 _ _ _ _ _
      have B9 : Below w.heap.size w w9 := by rw [hw9]; exact below_set5 HB.out (Nat.le_refl _) _ _ _ _ _
      clear hw9
      obtain ⟨k0, k1, k2, k3, k4⟩ := O9.box.get5
      refine bodyPost_ret (v := .tuple #[zeroV.val, .int .i64 5]) (by simp [results, Tryz.results211, go_sem, k0, k1, k2, k3, k4, zeroV]) rfl ?_
      rw [show parseV (bts s) = none from HNO.out]
      exact parse_none B9
end Go.Proofs.YtjceaniffooohaaGreatDoor
