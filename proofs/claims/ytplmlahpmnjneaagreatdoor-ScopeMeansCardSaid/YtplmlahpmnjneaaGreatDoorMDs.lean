import Derived.Test.YtplmlahpmnjneaaGreatDoorMDk
namespace Go.Proofs.YtplmlahpmnjneaaGreatDoor
open Go.RowKit Go.Lib
open Rw
set_option linter.unusedVariables false
set_option linter.unusedSimpArgs false
set_option maxRecDepth 100000 in
set_option maxHeartbeats 4000000 in
theorem walk_ScopeMeans (A0 : Option Addr) (c0 : Nat) (z0 : List Int) (w : World) (h0 : IntsAt w A0 z0) (l0 : z0.length ≤ 9223372036854775807) (hL : Laid w) : Calls Tryz.prog 8 #[.slice A0 z0.length c0] w (BoolK w true) := by
  have HL := hid hL
  have P1 := hid (lawrange_any A0 c0 z0 0 w h0 (by omega) (by omega) l0)
  have P2 := hid (fun u (hb : KB w.heap.size w u) => version_any A0 c0 z0 70 u (h0.kb hb) (by omega) (by omega) l0)
  have HVO := hid (versionL_ok z0 70)
  generalize versionL z0 70 = v at *
  clear hL h0
  generalize z0.length = n0 at *
  go_enter Tryz.func8, Tryz.ntmps8
  have HB := hid (kb_refl w)
  go_wp2_with fail
  refine P1.out.mono ?_
  rintro _ w1 ⟨A1, c1, r, he, hal, hmay, hfit, hb⟩
  generalize hnr : r.length = nr at *
  have HNR := hid hnr
  clear hnr
  subst he
  have HA1 := hid hal
  have HM := hid hmay
  have HF := hid hfit
  have HB := hid (kb_tr HB.out hb.kb)
  clear hb hal hmay hfit
  go_wp2_with fail
  refine (P2.out _ HB.out).mono ?_
  rintro _ w2 ⟨rfl, hb⟩
  have HA1 := hid (HA1.out.below hb)
  have HB := hid (kb_tr HB.out hb.kb)
  clear hb
  go_upto_region 2 with fail
  refine wp_name ?_
  intro u1 hu
  have hb2 := box_2 (cs := [.slice A1 nr c1]) (ds := v.cells) (t := 35) (s := 46) (w := w2) (Below.refl _ _)
  have HX := hid (show Box u1 w2.heap.size [.slice A1 nr c1] by rw [hu]; exact hb2.1)
  have HV := hid (show Box u1 (w2.heap.size + 1) v.cells by rw [hu]; exact hb2.2.1)
  have HA1 := hid (show Alts u1 A1 r by rw [hu]; exact HA1.out.below hb2.2.2)
  have HB := hid (show KB w.heap.size w u1 by rw [hu]; exact kb_tr HB.out hb2.2.2.kb)
  clear hu hb2
  generalize w2.heap.size = g at *
  have HLU := hid (HL.out.kb HB.out)
  have HPT := hid (mayG_parts HM.out)
  clear P1 P2
  have hn6 : nr ≤ 6 := by have := HPT.out.1; rwa [HNR.out] at this
  go_upto_block 0 with fail
  go_wp2_with fail
  go_loopw [5, 6] (fun b i wr => ∃ (t : Bool) (k : Nat), b = .bool t ∧ i = .int .i64 k ∧ k ≤ nr ∧ Hid ((r.take k).any (inA v) = t) ∧ Hid (Below u1.heap.size u1 wr)) (fun _ i _ => nr - (intOf i).toNat)
  case atStart => exact ⟨false, 0, rfl, rfl, Nat.zero_le _, hid (by simp), hid (Below.refl _ _)⟩
  case round =>
    obtain ⟨t, k, rfl, rfl, hk, HT, HB1⟩ := hrel
    have x0 := (HX.out.below HB1.out).2 0 _ rfl
    have xl := (HX.out.below HB1.out).1
    by_cases hlt : k < nr
    · have hlt' : k < r.length := by rw [HNR.out]; exact hlt
      obtain ⟨b, off, Ai, ci, hA, hbl, hcell, hcs⟩ := HA1.out.at_ hlt'
      subst hA
      have HC := hid (fun u (hb : Below u1.heap.size u1 u) => (hb.cell (p := ⟨b, off + k, none⟩) hbl).trans hcell)
      have ha6 := HPT.out.2 _ (List.getElem_mem hlt')
      have H1 := hid (fun u (hb : Below u1.heap.size u1 u) => holds7_any Ai ci r[k] v u (hcs.below hb) (HF.out _ (List.getElem_mem hlt')) HVO.out.2 (by omega))
      have H2 := hid (fun u (hb : Below u1.heap.size u1 u) => ahead7_any Ai ci r[k] v u (hcs.below hb) (by omega))
      have HS := hid (show (r.take (k + 1)).any (inA v) = (t || ((r[k].all fun x => hasR (regionX x) v) && ((bts v.pre).isEmpty || r[k].any (aheadX v)))) by
        rw [List.take_succ_eq_append_getElem hlt', List.any_append, HT.out]
        simp [inA])
      clear hcs hcell
      generalize (r[k].all fun x => hasR (regionX x) v) = hall at *
      generalize r[k].any (aheadX v) = hah at *
      generalize r[k].length = m at *
      have i0 : (0 : Int) ≤ (k : Int) := by omega
      have i1 : (k : Int) < (nr : Int) := by omega
      have hS : Below u1.heap.size u1 wr.drew := HB1.out.drew
      cases t
      case true =>
        go_upto_region 6 with fail
        refine wp_planS (fun u => Below u1.heap.size u1 u) (.call [0, 1, 2, 3, 4, 5, 6, 7] 8 (.call [9, 10, 11, 12, 13, 14, 15, 16, 17, 18, 19] 20 (.last [21, 22, 23, 24]))) (by first | assumption | skip) (by kernel_rfl) (by intro _ _ d _ _ h; cases d <;> exact h) (by kernel_rfl) ?_
        have iS : Nonempty (SW fun u => Below u1.heap.size u1 u) := ⟨⟨_, hS⟩⟩
        have q0 := fun (z : SW fun u => Below u1.heap.size u1 u) => (HX.out.below z.ok).2 0 _ rfl
        have q1 := fun (z : SW fun u => Below u1.heap.size u1 u) => HC.out z.v z.ok
        have v0 := fun (z : SW fun u => Below u1.heap.size u1 u) => (HV.out.below z.ok).get5.1
        have v1 := fun (z : SW fun u => Below u1.heap.size u1 u) => (HV.out.below z.ok).get5.2.1
        have v2 := fun (z : SW fun u => Below u1.heap.size u1 u) => (HV.out.below z.ok).get5.2.2.1
        have v3 := fun (z : SW fun u => Below u1.heap.size u1 u) => (HV.out.below z.ok).get5.2.2.2.1
        have v4 := fun (z : SW fun u => Below u1.heap.size u1 u) => (HV.out.below z.ok).get5.2.2.2.2
        have vl := fun (z : SW fun u => Below u1.heap.size u1 u) => (HV.out.below z.ok).1
        with_reducible refine plan_call ?_
        simp only [pickOps, List.map_cons, List.map_nil, List.getElem?_toArray, List.getElem?_cons_zero, List.getElem?_cons_succ, Option.getD_some]
        repeat go_big_quiet_step (fail)
        refine wpQuiet_nil ?_
        go_wp2_with fail
        refine plan_onS (by exact hS) ?_
        with_reducible refine plan_call ?_
        simp only [pickOps, List.map_cons, List.map_nil, List.getElem?_toArray, List.getElem?_cons_zero, List.getElem?_cons_succ, Option.getD_some]
        repeat go_big_quiet_step (fail)
        refine wpQuiet_nil ?_
        go_wp2_with fail
        refine plan_onS (by exact hS) ?_
        with_reducible refine plan_last ?_
        simp only [pickOps, List.map_cons, List.map_nil, List.getElem?_toArray, List.getElem?_cons_zero, List.getElem?_cons_succ, Option.getD_some]
        repeat go_big_quiet_step (fail)
        refine wpQuiet_nil ?_
        clear q0 q1 v0 v1 v2 v3 v4 vl
        go_wp2_with fail
        go_roundw
        case rel => exact ⟨true, k + 1, rfl, by go_num, by omega, hid (by rw [HS.out]; rfl), hid hS⟩
        case measure => simp [intOf]; omega
      cases hall
      case false =>
        go_upto_region 6 with fail
        refine wp_planS (fun u => Below u1.heap.size u1 u) (.call [0, 1, 2, 3, 4, 5, 6, 7] 8 (.call [9, 10, 11, 12, 13, 14, 15, 16, 17, 18, 19] 20 (.last [21, 22, 23, 24]))) (by first | assumption | skip) (by kernel_rfl) (by intro _ _ d _ _ h; cases d <;> exact h) (by kernel_rfl) ?_
        have iS : Nonempty (SW fun u => Below u1.heap.size u1 u) := ⟨⟨_, hS⟩⟩
        have q0 := fun (z : SW fun u => Below u1.heap.size u1 u) => (HX.out.below z.ok).2 0 _ rfl
        have q1 := fun (z : SW fun u => Below u1.heap.size u1 u) => HC.out z.v z.ok
        have v0 := fun (z : SW fun u => Below u1.heap.size u1 u) => (HV.out.below z.ok).get5.1
        have v1 := fun (z : SW fun u => Below u1.heap.size u1 u) => (HV.out.below z.ok).get5.2.1
        have v2 := fun (z : SW fun u => Below u1.heap.size u1 u) => (HV.out.below z.ok).get5.2.2.1
        have v3 := fun (z : SW fun u => Below u1.heap.size u1 u) => (HV.out.below z.ok).get5.2.2.2.1
        have v4 := fun (z : SW fun u => Below u1.heap.size u1 u) => (HV.out.below z.ok).get5.2.2.2.2
        have vl := fun (z : SW fun u => Below u1.heap.size u1 u) => (HV.out.below z.ok).1
        with_reducible refine plan_call ?_
        simp only [pickOps, List.map_cons, List.map_nil, List.getElem?_toArray, List.getElem?_cons_zero, List.getElem?_cons_succ, Option.getD_some]
        repeat go_big_quiet_step (fail)
        refine wpQuiet_nil ?_
        go_wp2_with fail
        refine (H1.out _ hS).mono ?_
        rintro _ u2 ⟨rfl, hb⟩
        have HB2 := hid (Below.trans hS (hb.mono hS.size))
        clear hb
        go_wp2_with fail
        refine plan_onS (HB2.out) ?_
        with_reducible refine plan_call ?_
        simp only [pickOps, List.map_cons, List.map_nil, List.getElem?_toArray, List.getElem?_cons_zero, List.getElem?_cons_succ, Option.getD_some]
        repeat go_big_quiet_step (fail)
        refine wpQuiet_nil ?_
        go_wp2_with fail
        refine plan_onS HB2.out ?_
        with_reducible refine plan_last ?_
        simp only [pickOps, List.map_cons, List.map_nil, List.getElem?_toArray, List.getElem?_cons_zero, List.getElem?_cons_succ, Option.getD_some]
        repeat go_big_quiet_step (fail)
        refine wpQuiet_nil ?_
        clear q0 q1 v0 v1 v2 v3 v4 vl
        go_wp2_with fail
        go_roundw
        case rel => exact ⟨false, k + 1, rfl, by go_num, by omega, hid (by rw [HS.out]; rfl), hid HB2.out⟩
        case measure => simp [intOf]; omega
      rcases str_case v.pre with ⟨e4, n4⟩ | e4
      · have HS2 := hid (show (bts v.pre).isEmpty = false from e4)
        go_upto_region 6 with fail
        refine wp_planS (fun u => Below u1.heap.size u1 u) (.call [0, 1, 2, 3, 4, 5, 6, 7] 8 (.call [9, 10, 11, 12, 13, 14, 15, 16, 17, 18, 19] 20 (.last [21, 22, 23, 24]))) (by first | assumption | skip) (by kernel_rfl) (by intro _ _ d _ _ h; cases d <;> exact h) (by kernel_rfl) ?_
        have iS : Nonempty (SW fun u => Below u1.heap.size u1 u) := ⟨⟨_, hS⟩⟩
        have q0 := fun (z : SW fun u => Below u1.heap.size u1 u) => (HX.out.below z.ok).2 0 _ rfl
        have q1 := fun (z : SW fun u => Below u1.heap.size u1 u) => HC.out z.v z.ok
        have v0 := fun (z : SW fun u => Below u1.heap.size u1 u) => (HV.out.below z.ok).get5.1
        have v1 := fun (z : SW fun u => Below u1.heap.size u1 u) => (HV.out.below z.ok).get5.2.1
        have v2 := fun (z : SW fun u => Below u1.heap.size u1 u) => (HV.out.below z.ok).get5.2.2.1
        have v3 := fun (z : SW fun u => Below u1.heap.size u1 u) => (HV.out.below z.ok).get5.2.2.2.1
        have v4 := fun (z : SW fun u => Below u1.heap.size u1 u) => (HV.out.below z.ok).get5.2.2.2.2
        have vl := fun (z : SW fun u => Below u1.heap.size u1 u) => (HV.out.below z.ok).1
        with_reducible refine plan_call ?_
        simp only [pickOps, List.map_cons, List.map_nil, List.getElem?_toArray, List.getElem?_cons_zero, List.getElem?_cons_succ, Option.getD_some]
        repeat go_big_quiet_step (fail)
        refine wpQuiet_nil ?_
        go_wp2_with fail
        refine (H1.out _ hS).mono ?_
        rintro _ u2 ⟨rfl, hb⟩
        have HB2 := hid (Below.trans hS (hb.mono hS.size))
        clear hb
        go_wp2_with fail
        refine plan_onS (HB2.out) ?_
        with_reducible refine plan_call ?_
        simp only [pickOps, List.map_cons, List.map_nil, List.getElem?_toArray, List.getElem?_cons_zero, List.getElem?_cons_succ, Option.getD_some]
        repeat go_big_quiet_step (fail)
        refine wpQuiet_nil ?_
        go_wp2_with fail
        refine (H2.out _ HB2.out).mono ?_
        rintro _ u3 ⟨rfl, hb⟩
        have HB3 := hid (Below.trans HB2.out (hb.mono HB2.out.size))
        clear hb
        go_wp2_with fail
        refine plan_onS (HB3.out) ?_
        with_reducible refine plan_last ?_
        simp only [pickOps, List.map_cons, List.map_nil, List.getElem?_toArray, List.getElem?_cons_zero, List.getElem?_cons_succ, Option.getD_some]
        repeat go_big_quiet_step (fail)
        refine wpQuiet_nil ?_
        clear q0 q1 v0 v1 v2 v3 v4 vl
        go_wp2_with fail
        go_roundw
        case rel => exact ⟨hah, k + 1, rfl, by go_num, by omega, hid (by rw [HS.out]; rw [HS2.out]; rfl), hid HB3.out⟩
        case measure => simp [intOf]; omega
      · have HS2 := hid (show (bts v.pre).isEmpty = true by rw [bts, e4]; rfl)
        go_upto_region 6 with fail
        refine wp_planS (fun u => Below u1.heap.size u1 u) (.call [0, 1, 2, 3, 4, 5, 6, 7] 8 (.call [9, 10, 11, 12, 13, 14, 15, 16, 17, 18, 19] 20 (.last [21, 22, 23, 24]))) (by first | assumption | skip) (by kernel_rfl) (by intro _ _ d _ _ h; cases d <;> exact h) (by kernel_rfl) ?_
        have iS : Nonempty (SW fun u => Below u1.heap.size u1 u) := ⟨⟨_, hS⟩⟩
        have q0 := fun (z : SW fun u => Below u1.heap.size u1 u) => (HX.out.below z.ok).2 0 _ rfl
        have q1 := fun (z : SW fun u => Below u1.heap.size u1 u) => HC.out z.v z.ok
        have v0 := fun (z : SW fun u => Below u1.heap.size u1 u) => (HV.out.below z.ok).get5.1
        have v1 := fun (z : SW fun u => Below u1.heap.size u1 u) => (HV.out.below z.ok).get5.2.1
        have v2 := fun (z : SW fun u => Below u1.heap.size u1 u) => (HV.out.below z.ok).get5.2.2.1
        have v3 := fun (z : SW fun u => Below u1.heap.size u1 u) => (HV.out.below z.ok).get5.2.2.2.1
        have v4 := fun (z : SW fun u => Below u1.heap.size u1 u) => (HV.out.below z.ok).get5.2.2.2.2
        have vl := fun (z : SW fun u => Below u1.heap.size u1 u) => (HV.out.below z.ok).1
        with_reducible refine plan_call ?_
        simp only [pickOps, List.map_cons, List.map_nil, List.getElem?_toArray, List.getElem?_cons_zero, List.getElem?_cons_succ, Option.getD_some]
        repeat go_big_quiet_step (fail)
        refine wpQuiet_nil ?_
        go_wp2_with fail
        refine (H1.out _ hS).mono ?_
        rintro _ u2 ⟨rfl, hb⟩
        have HB2 := hid (Below.trans hS (hb.mono hS.size))
        clear hb
        go_wp2_with fail
        refine plan_onS (HB2.out) ?_
        with_reducible refine plan_call ?_
        simp only [pickOps, List.map_cons, List.map_nil, List.getElem?_toArray, List.getElem?_cons_zero, List.getElem?_cons_succ, Option.getD_some]
        repeat go_big_quiet_step (fail)
        refine wpQuiet_nil ?_
        go_wp2_with fail
        refine plan_onS HB2.out ?_
        with_reducible refine plan_last ?_
        simp only [pickOps, List.map_cons, List.map_nil, List.getElem?_toArray, List.getElem?_cons_zero, List.getElem?_cons_succ, Option.getD_some]
        repeat go_big_quiet_step (fail)
        refine wpQuiet_nil ?_
        clear q0 q1 v0 v1 v2 v3 v4 vl
        go_wp2_with fail
        go_roundw
        case rel => exact ⟨true, k + 1, rfl, by go_num, by omega, hid (by rw [HS.out]; rw [HS2.out]; rfl), hid HB2.out⟩
        case measure => simp [intOf]; omega
    · obtain rfl : k = nr := by omega
      have hge : ¬ (k : Int) < (k : Int) := by omega
      have HE := hid (show r.any (inA v) = t by
        have := HT.out
        rwa [List.take_of_length_le (by rw [HNR.out]; exact Nat.le_refl _)] at this)
      have HS := hid (set7_any A1 c1 r wr (HLU.out.kb HB1.out.kb) (HA1.out.below HB1.out) HF.out (by have := HPT.out.1; omega) (fun a ha => by have := HPT.out.2 a ha; omega))
      rw [HNR.out] at HS
      have HSG := hid (setG_good HF.out)
      have HH := hid ((setG_has HVO.out.1 HM.out).trans HE.out)
      generalize setG r = s at *
      obtain ⟨s1, s2⟩ := s
      dsimp only at HS HSG HH
      go_upto_region 7 with fail
      have HB1W := hid (kb_tr HB.out HB1.out.kb)
      have HL1 := hid (HLU.out.kb HB1.out.kb)
      have HV1 := hid (HV.out.below HB1.out)
      clear HB HB1 HLU HV HX HA1 HT
      go_wp2_with fail
      refine HS.out.mono ?_
      rintro _ w3 ⟨A3, c3, B3, d3, he, hs1, hs2, hb⟩
      try dsimp only at he hs1 hs2
      generalize hq1 : s1.length = q1 at *
      generalize hq2 : s2.length = q2 at *
      have HQ1 := hid hq1
      have HQ2 := hid hq2
      clear hq1 hq2
      subst he
      have HST := hid (HSG.out.at_ hs1.1 hs2.1)
      have HV3 := hid (HV1.out.kb hb)
      have HB3 := hid (kb_tr HB1W.out hb)
      clear hs1 hs2 x0 xl HS HSG hb
      go_upto_region 8 with fail
      refine wp_name ?_
      intro u4 hu
      have HZ := hid (show Box u4 w3.heap.size [.slice A3 q1 c3, .slice B3 q2 d3] by rw [hu]; exact Box.new w3 [.slice A3 q1 c3, .slice B3 q2 d3] 24)
      have HV4 := hid (show Box u4 (g + 1) v.cells by rw [hu]; exact HV3.out.kb (kb_new _ _))
      have HST := hid (show SetAt 250 u4 A3 s1 B3 s2 by rw [hu]; exact HST.out.kb (kb_new _ _))
      have HB4 := hid (show KB w.heap.size w u4 by rw [hu]; exact kb_tr HB3.out (kb_new _ _))
      clear hu HB3 HV3
      generalize w3.heap.size = g3 at *
      go_wp2_with fail
      refine (awake7_any u4 (HL.out.kb HB4.out)).mono ?_
      rintro _ u5 ⟨rfl, hb⟩
      have HB5 := hid (kb_tr HB4.out hb)
      have HZ5 := hid (HZ.out.kb hb)
      have HV5 := hid (HV4.out.kb hb)
      have HST5 := hid (HST.out.kb hb)
      clear hb
      have HM5 := hid (law_mayR c3 d3 (HL.out.kb HB5.out).first HST5.out (by omega))
      rw [HQ1.out, HQ2.out] at HM5
      obtain ⟨y0, y1⟩ := HZ5.out.get2
      have yl := HZ5.out.1
      go_wp2_with fail
      refine HM5.out.mono ?_
      rintro _ u6 ⟨rfl, hb⟩
      have HB6 := hid (kb_tr HB5.out hb.kb)
      have HST6 := hid (HST5.out.kb hb.kb)
      clear y0 y1 yl
      obtain ⟨y0, y1⟩ := (HZ5.out.below hb).get2
      have yl := (HZ5.out.below hb).1
      obtain ⟨v0, v1, v2, v3, v4⟩ := (HV5.out.below hb).get5
      have vl := (HV5.out.below hb).1
      clear hb
      have HH6 := hid (law_hasR c3 d3 (HL.out.kb HB6.out).first HST6.out HVO.out.2 (by omega))
      rw [HH.out, HQ1.out, HQ2.out] at HH6
      go_wp2_with fail
      refine HH6.out.mono ?_
      rintro _ u7 ⟨rfl, hb⟩
      have HB7 := hid (kb_tr HB6.out hb.kb)
      clear hb y0 y1 yl v0 v1 v2 v3 v4 vl
      cases t
      · go_wp2_with fail
        go_ret
        exact ⟨rfl, HB7.out⟩
      · go_wp2_with fail
        go_ret
        exact ⟨rfl, HB7.out⟩
end Go.Proofs.YtplmlahpmnjneaaGreatDoor
