import Derived.Test.YtplmlahpmnjneaaGreatDoorMDk
namespace Go.Proofs.YtplmlahpmnjneaaGreatDoor
open Go.RowKit Go.Lib
open Rw
set_option linter.unusedVariables false
set_option linter.unusedSimpArgs false
theorem alts_nth {w : World} {b off k : Nat} {r : List (List CompL)} (h : Alts w (some ⟨b, off, none⟩) r) (hk : k < r.length) : Alts w (some ⟨b, off + k, none⟩) [r[k]] := by
  obtain ⟨b', off', Ai, ci, e, hl, hc, hs⟩ := h.at_ hk
  injection e with e
  injection e with e1 e2 e3
  subst e1; subst e2
  refine .inr ⟨b, off + k, rfl, hl, fun i hi => ?_⟩
  obtain rfl : i = 0 := by simpa using hi
  exact ⟨Ai, ci, hc, hs⟩
theorem fit_nth {r : List (List CompL)} (h : fitG r) {a : List CompL} (ha : a ∈ r) : fitG [a] := fun x hx => by
  rw [List.mem_singleton.1 hx]; exact h a ha
theorem print_one (b off c : Nat) (r : List (List CompL)) (k : Nat) (u : World) (hk : k < r.length) (hL : Laid u) (h : Alts u (some ⟨b, off, none⟩) r) (hf : fitG r) (hm : mayG r = true) :
    Calls Tryz.prog 30 #[rangeV (some ⟨b, off + k, none⟩) 1 c] u (StrK u (printG [r[k]])) :=
  print7_any (some ⟨b, off + k, none⟩) c [r[k]] u hL (alts_nth h hk) (fit_nth hf (List.getElem_mem hk)) (by simp) (fun a ha => by
    have := (mayG_parts hm).2 _ (List.getElem_mem hk)
    rw [List.mem_singleton.1 ha]; omega)
set_option maxRecDepth 100000 in
set_option maxHeartbeats 4000000 in
theorem walk_ScopeParts (A0 : Option Addr) (c0 : Nat) (z0 : List Int) (w : World) (h0 : IntsAt w A0 z0) (l0 : z0.length ≤ 9223372036854775807) (hL : Laid w) : Calls Tryz.prog 11 #[.slice A0 z0.length c0] w (BoolK w true) := by
  have HL := hid hL
  have P1 := hid (lawrange_cap A0 c0 z0 0 w h0 (by omega) (by omega) l0)
  clear hL h0
  generalize z0.length = n0 at *
  go_enter Tryz.func11, Tryz.ntmps11
  have HB := hid (kb_refl w)
  go_wp2_with fail
  refine P1.out.mono ?_
  rintro _ w1 ⟨A1, c1, r, he, hal, hmay, hfit, hcap, hb⟩
  generalize hnr : r.length = nr at *
  have HNR := hid hnr
  clear hnr
  subst he
  have HA1 := hid hal
  have HM := hid hmay
  have HF := hid hfit
  have HCAP := hid hcap
  have HB := hid (kb_tr HB.out hb.kb)
  clear hb hal hmay hfit P1
  go_upto_region 2 with fail
  refine wp_name ?_
  intro u1 hu
  have HX := hid (show Box u1 w1.heap.size [.slice A1 nr c1] by rw [hu]; exact Box.new w1 [.slice A1 nr c1] 35)
  have HA1 := hid (show Alts u1 A1 r by rw [hu]; exact HA1.out.kb (kb_new _ _))
  have HB := hid (show KB w.heap.size w u1 by rw [hu]; exact kb_tr HB.out (kb_new _ _))
  clear hu
  generalize w1.heap.size = g1 at *
  have HLU := hid (HL.out.kb HB.out)
  have HPT := hid (mayG_parts HM.out)
  have hn6 : nr ≤ 6 := by have := HPT.out.1; rwa [HNR.out] at this
  go_wp2_with fail
  refine (rsnone_any u1).mono ?_
  rintro _ w2 ⟨rfl, hb⟩
  have HB2 := hid hb.kb
  clear hb
  go_upto_region 3 with fail
  refine wp_name ?_
  intro u2 hu
  have O4 := hid (show Own u1.heap.size u2 w2.heap.size [.slice none 0 0, .slice none 0 0] by rw [hu]; exact Own.new w2 [.slice none 0 0, .slice none 0 0] 24 HB2.out.size)
  have HB2 := hid (show KB u1.heap.size u1 u2 by rw [hu]; exact kb_tr HB2.out (kb_new _ _))
  clear hu
  generalize w2.heap.size = g2 at *
  have hlow := O4.out.low
  go_upto_block 0 with fail
  go_wp2_with fail
  go_loopw [5] (fun i wr => ∃ (k : Nat) (A B : Option Addr) (c d n1 m1 : Nat) (o : List SpanL × List SpanL), i = .int .i64 k ∧ k ≤ nr ∧ Hid (o.1.length = n1) ∧ Hid (o.2.length = m1) ∧ Hid (OrW (r.map altS) k o) ∧ Hid (SpanB wr (g2 + 1) A o.1) ∧ Hid (SpanB wr (g2 + 1) B o.2) ∧ Hid (Own u1.heap.size wr g2 [.slice A n1 c, .slice B m1 d]) ∧ Hid (KB u1.heap.size u1 wr)) (fun i _ => nr - (intOf i).toNat)
  case atStart => exact ⟨0, none, none, 0, 0, 0, 0, ([], []), rfl, Nat.zero_le _, hid rfl, hid rfl, hid (OrW.start _), hid (SpanB.nil _ _), hid (SpanB.nil _ _), O4, HB2⟩
  case round =>
    clear O4 HB2
    obtain ⟨k, A, B, c, d, n1, m1, o, rfl, hk, HN1, HM1, HW, HS1, HS2, O4, HB1⟩ := hrel
    have x0 := (HX.out.kb HB1.out).2 0 _ rfl
    have xl := (HX.out.kb HB1.out).1
    by_cases hlt : k < nr
    · have hlt' : k < r.length := by rw [HNR.out]; exact hlt
      have i0 : (0 : Int) ≤ (k : Int) := by omega
      have i1 : (k : Int) < (nr : Int) := by omega
      have hcap := HCAP.out
      obtain ⟨b, off, hA⟩ : ∃ b off, A1 = some ⟨b, off, none⟩ := by
        obtain ⟨b, off, -, -, e, -⟩ := HA1.out.at_ hlt'
        exact ⟨b, off, e⟩
      subst hA
      have HPR := hid (fun cc => print_one b off cc r k wr hlt' (HLU.out.kb HB1.out) (HA1.out.kb HB1.out) HF.out HM.out)
      have HOF := hid (ofG_one HM.out (List.getElem_mem hlt'))
      have ha6 := HPT.out.2 _ (List.getElem_mem hlt')
      have HSG := hid (altS_sgood (HF.out _ (List.getElem_mem hlt')) ha6)
      have HWN := hid (HW.out.step (by rw [List.length_map]; exact hlt') (by rw [List.getElem_map]; exact HSG.out))
      rw [List.getElem_map] at HWN
      generalize r[k] = a at *
      generalize altS a = s at *
      obtain ⟨s1, s2⟩ := s
      try dsimp only at HSG HWN
      have HOF0 := hid (fun t (ht : bts t = printG [a]) u (hb : KB w.heap.size w u) => (show ofG (bts t) = ((s1, s2), 0) by rw [ht, HOF.out]) ▸ of7_any t u (HL.out.kb hb))
      generalize ho2 : orS o.1 o.2 s1 s2 = o2 at *
      have HOR0 := hid (fun u (hb : KB wr.heap.size wr u) C c2 D d2 (hk : SetAt 40 u C s1 D s2) => law_orR (1 + 2 * (41 * k + 40)) c d c2 d2 ((HLU.out.kb HB1.out).kb hb).first (HW.out.good.at_ (HS1.out.1.kb hb) (HS2.out.1.kb hb)) hk (Nat.le_refl _) (by omega))
      simp only [ho2] at HOR0
      obtain ⟨p1, p2⟩ := o2
      try dsimp only at HWN HOR0 HOF0
      generalize hq1 : s1.length = q1 at *
      generalize hq2 : s2.length = q2 at *
      generalize hr1 : p1.length = r1 at *
      generalize hr2 : p2.length = r2 at *
      have HQ1 := hid hq1
      have HQ2 := hid hq2
      have HR1 := hid hr1
      have HR2 := hid hr2
      have HOR := hid (fun u (hb : KB wr.heap.size wr u) C c2 D d2 (hk : SetAt 40 u C s1 D s2) => callBk HR1.out HR2.out (HOR0.out u hb C c2 D d2 hk))
      simp only [HN1.out, HM1.out, HQ1.out, HQ2.out] at HOR
      have HBW := hid (kb_tr HB.out HB1.out)
      clear hq1 hq2 hr1 hr2 ho2 HOR0 HOF
      go_wp2_with fail
      refine (HPR.out _).mono ?_
      rintro _ w3 ⟨t, rfl, ht, hb⟩
      have HT := hid ht
      have HB3 := hid hb
      clear ht hb x0 xl
      go_wp2_with fail
      refine (HOF0.out t HT.out w3 (kb_tr HBW.out HB3.out)).mono ?_
      rintro _ w4 ⟨A4, c4, B4, d4, he, hs1, hs2, hb⟩
      try dsimp only at he hs1 hs2
      rw [HQ1.out, HQ2.out] at he
      subst he
      have HS4 := hid (HSG.out.at_ hs1.1 hs2.1)
      have HB4 := hid (kb_tr HB3.out hb)
      clear hs1 hs2 hb
      go_upto_region 7 with fail
      refine wp_name ?_
      intro u4 hu
      have HX4 := hid (show Box u4 w4.heap.size [.slice A4 q1 c4, .slice B4 q2 d4] by rw [hu]; exact Box.new w4 [.slice A4 q1 c4, .slice B4 q2 d4] 24)
      have HS4 := hid (show SetAt 40 u4 A4 s1 B4 s2 by rw [hu]; exact HS4.out.kb (kb_new _ _))
      have HB4 := hid (show KB wr.heap.size wr u4 by rw [hu]; exact kb_tr HB4.out (kb_new _ _))
      clear hu
      generalize w4.heap.size = g4 at *
      obtain ⟨x0, x1⟩ := HX4.out.get2
      have xl := HX4.out.1
      have O44 := hid (O4.out.kb HB4.out)
      obtain ⟨y0, y1⟩ := O44.out.box.get2
      have yl := O44.out.box.1
      go_wp2_with fail
      refine (HOR.out u4 HB4.out A4 c4 B4 d4 HS4.out).mono ?_
      rintro _ w5 ⟨A5, c5, B5, d5, rfl, -, t5, v5, hb⟩
      have T5 := hid t5
      have V5 := hid v5
      have O45 := hid (O44.out.kb hb.kb)
      have HB5 := hid (kb_tr HB4.out hb.kb)
      have hg5 : g2 + 1 ≤ u4.heap.size := O44.out.box.1
      clear t5 v5 hb x0 x1 xl y0 y1 yl
      obtain ⟨y0, y1⟩ := O45.out.box.get2
      have sf : ∀ j, w5.frozen? ⟨g2, j, none⟩ = false := O45.out.soft
      have yl := O45.out.box.1
      go_upto_region 5 with fail
      refine wp_name ?_
      intro w6 hw6
      have O46 := hid (show Own u1.heap.size w6 g2 [.slice A5 r1 c5, .slice B5 r2 d5] by rw [hw6]; exact O45.out.set2 _ _)
      have HS16 := hid (show SpanB w6 (g2 + 1) A5 p1 by rw [hw6]; exact spanB_set2 (T5.out.low hg5) (Nat.lt_succ_self _) _ _)
      have HS26 := hid (show SpanB w6 (g2 + 1) B5 p2 by rw [hw6]; exact spanB_set2 (V5.out.low hg5) (Nat.lt_succ_self _) _ _)
      have HB6 := hid (show KB u1.heap.size u1 w6 by rw [hw6]; exact kb_set2 (kb_tr HB1.out HB5.out) O45.out.low _ _)
      clear hw6 y0 y1 yl sf
      go_wp2_with fail
      go_roundw
      case rel => exact ⟨k + 1, A5, B5, c5, d5, r1, r2, (p1, p2), by go_num, by omega, HR1, HR2, HWN, HS16, HS26, O46, HB6⟩
      case measure => simp [intOf]; omega
    · obtain rfl : k = nr := by omega
      have hge : ¬ (k : Int) < (k : Int) := by omega
      have HEE := hid ((HW.out.last (by rw [List.length_map, HNR.out]; exact Nat.le_refl _)).trans (setG_yes HM.out).symm)
      have HPR := hid (print7_any A1 c1 r wr (HLU.out.kb HB1.out) (HA1.out.kb HB1.out) HF.out (by have := HPT.out.1; omega) (fun a ha => by have := HPT.out.2 a ha; omega))
      rw [HNR.out] at HPR
      have HOF := hid (ofG_print HM.out)
      have HST := hid (fun u (hb : KB u1.heap.size u1 u) => set7_any A1 c1 r u (HLU.out.kb hb) (HA1.out.kb hb) HF.out (by have := HPT.out.1; omega) (fun a ha => by have := HPT.out.2 a ha; omega))
      rw [HNR.out] at HST
      have HSG := hid (setG_good HF.out)
      have HBW := hid (kb_tr HB.out HB1.out)
      have hE := HEE.out
      rw [← hE] at HOF HST HSG
      clear hE HEE HW
      obtain ⟨s1, s2⟩ := o
      try dsimp only at HOF HST HSG HN1 HM1 HS1 HS2
      go_wp2_with fail
      refine HPR.out.mono ?_
      rintro _ w3 ⟨t, rfl, ht, hb⟩
      have HOF0 := hid (fun u (hb : KB w.heap.size w u) => (show ofG (bts t) = ((s1, s2), 0) by rw [ht, HOF.out]) ▸ of7_any t u (HL.out.kb hb))
      have HB3 := hid hb
      clear ht hb x0 xl HPR HOF
      try dsimp only at HOF0
      go_wp2_with fail
      refine (HOF0.out w3 (kb_tr HBW.out HB3.out)).mono ?_
      rintro _ w4 ⟨A4, c4, B4, d4, he, hs1, hs2, hb⟩
      try dsimp only at he hs1 hs2
      rw [HN1.out, HM1.out] at he
      subst he
      have HS4 := hid (HSG.out.at_ hs1.1 hs2.1)
      have HB4 := hid (kb_tr HB3.out hb)
      clear hs1 hs2 hb HOF0
      go_upto_region 11 with fail
      refine wp_name ?_
      intro u5 hu
      have HB55 := hid (show Box u5 w4.heap.size [.slice A4 n1 c4, .slice B4 m1 d4] by rw [hu]; exact Box.new w4 [.slice A4 n1 c4, .slice B4 m1 d4] 24)
      have HS4 := hid (show SetAt 250 u5 A4 s1 B4 s2 by rw [hu]; exact HS4.out.kb (kb_new _ _))
      have HB5 := hid (show KB wr.heap.size wr u5 by rw [hu]; exact kb_tr HB4.out (kb_new _ _))
      clear hu HB3 HB4
      generalize w4.heap.size = g4 at *
      have HSA := hid (HSG.out.at_ (HS1.out.1.kb HB5.out) (HS2.out.1.kb HB5.out))
      have HB25 := hid (O4.out.box.kb HB5.out)
      have HX5 := hid (HX.out.kb (kb_tr HB1.out HB5.out))
      have HBU := hid (kb_tr HB1.out HB5.out)
      have HB5W := hid (kb_tr HBW.out HB5.out)
      have HL5 := hid (HL.out.kb HB5W.out)
      try dsimp only at HSA HS4
      have HSM := hid (fun u (hb : KB u5.heap.size u5 u) => law_sameR c4 d4 c d (HS4.out.kb hb) (HSA.out.kb hb) (by omega))
      have HSM2 := hid (fun u (hb : KB u5.heap.size u5 u) A6 c6 B6 d6 (h6 : SetAt 250 u A6 s1 B6 s2) => law_sameR c6 d6 c d h6 (HSA.out.kb hb) (by omega))
      rw [sameS_self, HN1.out, HM1.out] at HSM HSM2
      have hS : KB u5.heap.size u5 u5.drew := (Below.drew (Below.refl _ _)).kb
      refine wp_planS (fun u => KB u5.heap.size u5 u) (.call [] 0 (.call [1, 2, 3, 4, 5, 6, 7] 8 (.call [9, 10, 11, 13] 12 (.call [] 14 (.last [15, 16]))))) (by first | assumption | skip) (by kernel_rfl) (by intro _ _ d _ _ h; cases d <;> exact h) (by kernel_rfl) ?_
      have iS : Nonempty (SW fun u => KB u5.heap.size u5 u) := ⟨⟨_, hS⟩⟩
      have q0 := fun (z : SW fun u => KB u5.heap.size u5 u) => (HX5.out.kb z.ok).2 0 _ rfl
      have q1 := fun (z : SW fun u => KB u5.heap.size u5 u) => (HB25.out.kb z.ok).get2.1
      have q2 := fun (z : SW fun u => KB u5.heap.size u5 u) => (HB25.out.kb z.ok).get2.2
      have q3 := fun (z : SW fun u => KB u5.heap.size u5 u) => (HB55.out.kb z.ok).get2.1
      have q4 := fun (z : SW fun u => KB u5.heap.size u5 u) => (HB55.out.kb z.ok).get2.2
      with_reducible refine plan_call ?_
      simp only [pickOps, List.map_cons, List.map_nil, List.getElem?_toArray, List.getElem?_cons_zero, List.getElem?_cons_succ, Option.getD_some]
      repeat go_big_quiet_step (fail)
      refine wpQuiet_nil ?_
      go_wp2_with fail
      refine (awake7_any u5.drew (HL5.out.kb hS)).mono ?_
      rintro _ u6 ⟨rfl, hb⟩
      have HB6 := hid (kb_tr hS hb)
      clear hb
      go_wp2_with fail
      refine plan_onS (HB6.out) ?_
      with_reducible refine plan_call ?_
      simp only [pickOps, List.map_cons, List.map_nil, List.getElem?_toArray, List.getElem?_cons_zero, List.getElem?_cons_succ, Option.getD_some]
      repeat go_big_quiet_step (fail)
      refine wpQuiet_nil ?_
      go_wp2_with fail
      refine (HSM.out _ HB6.out).mono ?_
      rintro _ u7 ⟨rfl, hb⟩
      have HB7 := hid (kb_tr HB6.out hb.kb)
      clear hb
      go_wp2_with fail
      refine plan_onS (HB7.out) ?_
      with_reducible refine plan_call ?_
      simp only [pickOps, List.map_cons, List.map_nil, List.getElem?_toArray, List.getElem?_cons_zero, List.getElem?_cons_succ, Option.getD_some]
      repeat go_big_quiet_step (fail)
      refine wpQuiet_nil ?_
      go_wp2_with fail
      refine (HST.out u7 (kb_tr HBU.out HB7.out)).mono ?_
      rintro _ u8 ⟨A6, c6, B6, d6, he, hs1, hs2, hb⟩
      try dsimp only at he hs1 hs2
      rw [HN1.out, HM1.out] at he
      subst he
      have HS8 := hid (HSG.out.at_ hs1.1 hs2.1)
      have HB8 := hid (kb_tr HB7.out hb)
      clear hs1 hs2 hb
      go_wp2_with fail
      refine plan_onS (HB8.out) ?_
      with_reducible refine plan_call ?_
      simp only [pickOps, List.map_cons, List.map_nil, List.getElem?_toArray, List.getElem?_cons_zero, List.getElem?_cons_succ, Option.getD_some]
      repeat go_big_quiet_step (fail)
      refine wpQuiet_nil ?_
      go_wp2_with fail
      refine (HSM2.out u8 HB8.out A6 c6 B6 d6 HS8.out).mono ?_
      rintro _ u9 ⟨rfl, hb⟩
      have HB9 := hid (kb_tr HB8.out hb.kb)
      clear hb
      go_wp2_with fail
      refine plan_onS (HB9.out) ?_
      with_reducible refine plan_last ?_
      simp only [pickOps, List.map_cons, List.map_nil, List.getElem?_toArray, List.getElem?_cons_zero, List.getElem?_cons_succ, Option.getD_some]
      repeat go_big_quiet_step (fail)
      refine wpQuiet_nil ?_
      clear q0 q1 q2 q3 q4
      go_wp2_with fail
      go_ret
      exact ⟨rfl, kb_tr HB5W.out HB9.out⟩
end Go.Proofs.YtplmlahpmnjneaaGreatDoor
