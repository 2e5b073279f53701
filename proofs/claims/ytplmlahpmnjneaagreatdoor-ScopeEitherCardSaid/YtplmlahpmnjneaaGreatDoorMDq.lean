import Derived.Test.YtplmlahpmnjneaaGreatDoorMDk
namespace Go.Proofs.YtplmlahpmnjneaaGreatDoor
open Go.RowKit Go.Lib
open Rw
set_option linter.unusedVariables false
set_option linter.unusedSimpArgs false
theorem either_plain (a b : ByteArray) : ((ofG (bts a)).2 = 0 → (ofG (bts b)).2 = 0 → (ofG (bts a ++ [124, 124] ++ bts b)).2 = 0 → orS (ofG (bts a)).1.1 (ofG (bts a)).1.2 (ofG (bts b)).1.1 (ofG (bts b)).1.2 = (ofG (bts a ++ [124, 124] ++ bts b)).1) ∧
    ((ofG (bts a ++ [124, 124] ++ bts b)).2 ≠ 0 → (ofG (bts a ++ [124, 124] ++ bts b)).1 = ([], []) ∧ ((ofG (bts a ++ [124, 124] ++ bts b)).2 = 3 ∨ (ofG (bts a ++ [124, 124] ++ bts b)).2 = 6)) ∧
    ((ofG (bts a ++ [124, 124] ++ bts b)).2 = 0 → (0 : Int) < (a.size : Int) + (b.size : Int)) := by
  refine ⟨fun h k m => (ofG_two h k m).symm, fun h => ofG_bad h, fun h => ?_⟩
  by_cases hz : a.size = 0 ∧ b.size = 0
  · have e1 : bts a = [] := List.eq_nil_of_length_eq_zero (by rw [bts_len]; exact hz.1)
    have e2 : bts b = [] := List.eq_nil_of_length_eq_zero (by rw [bts_len]; exact hz.2)
    rw [e1, e2] at h
    have := ofG_bars
    simp only [List.nil_append, List.append_nil] at h
    omega
  · omega
set_option maxRecDepth 100000 in
set_option maxHeartbeats 4000000 in
theorem walk_ScopeEither (a b : ByteArray) (w : World) (hsa : a.size ≤ 9223372036854775807) (hsb : b.size ≤ 9223372036854775807) (hL : Laid w) : Calls Tryz.prog 12 #[.string a, .string b] w (BoolK w true) := by
  have HL := hid hL
  clear hL
  by_cases hbig : 60 < a.size
  · have hb2 : (60 : Int) < (a.size : Int) := by omega
    go_enter Tryz.func12, Tryz.ntmps12
    go_wp2_with fail
    refine (awake7_any w HL.out).mono ?_
    rintro _ w2 ⟨rfl, hb⟩
    go_wp2_with fail
    go_ret
    exact ⟨rfl, hb⟩
  have hb2 : ¬ (60 : Int) < (a.size : Int) := by omega
  by_cases hbig2 : 60 < b.size
  · have hb3 : (60 : Int) < (b.size : Int) := by omega
    go_enter Tryz.func12, Tryz.ntmps12
    go_wp2_with fail
    refine (awake7_any w HL.out).mono ?_
    rintro _ w2 ⟨rfl, hb⟩
    go_wp2_with fail
    go_ret
    exact ⟨rfl, hb⟩
  have hb3 : ¬ (60 : Int) < (b.size : Int) := by omega
  have HPL := hid (either_plain a b)
  have P1 := hid (fun u (hb : KB w.heap.size w u) => of7_any a u (HL.out.kb hb))
  have P2 := hid (fun u (hb : KB w.heap.size w u) => of7_any b u (HL.out.kb hb))
  have P3 := hid (fun u (t : ByteArray) (ht : bts t = bts a ++ [124, 124] ++ bts b) (hb : KB w.heap.size w u) => ht ▸ of7_any t u (HL.out.kb hb))
  have HG1 := hid (ofG_good (bts a))
  generalize ofG (bts a) = o1 at *
  obtain ⟨⟨s1a, s1b⟩, n1⟩ := o1
  have HG2 := hid (ofG_good (bts b))
  generalize ofG (bts b) = o2 at *
  obtain ⟨⟨s2a, s2b⟩, n2⟩ := o2
  have HG3 := hid (ofG_good (bts a ++ [124, 124] ++ bts b))
  generalize ofG (bts a ++ [124, 124] ++ bts b) = o3 at *
  obtain ⟨⟨s3a, s3b⟩, n3⟩ := o3
  dsimp only at HPL HG1 HG2 HG3 P1 P2 P3
  generalize hk : s1a.length = k1a at *
  have HK1a := hid hk
  clear hk
  generalize hk : s1b.length = k1b at *
  have HK1b := hid hk
  clear hk
  generalize hk : s2a.length = k2a at *
  have HK2a := hid hk
  clear hk
  generalize hk : s2b.length = k2b at *
  have HK2b := hid hk
  clear hk
  generalize hk : s3a.length = k3a at *
  have HK3a := hid hk
  clear hk
  generalize hk : s3b.length = k3b at *
  have HK3b := hid hk
  clear hk
  obtain ⟨hp1, hp2, hp3⟩ := HPL.out
  have HP1 := hid hp1
  have HP2 := hid hp2
  have HP3 := hid hp3
  clear hp1 hp2 hp3 HPL
  go_enter Tryz.func12, Tryz.ntmps12
  have HB := hid (kb_refl w)
  go_wp2_with fail
  refine (P1.out _ (kb_refl _)).mono ?_
  rintro _ w1 ⟨A1, c1, B1, d1, he, hs1, hs2, hb⟩
  dsimp only at he hs1 hs2
  rw [HK1a.out, HK1b.out] at he
  subst he
  have HS1a := hid hs1.1
  have HS1b := hid hs2.1
  clear hs1 hs2
  have HB := hid (kb_tr HB.out hb)
  clear hb
  go_upto_region 4 with fail
  refine wp_name ?_
  intro u1 hu
  have HS1a := hid (show Spans u1 A1 s1a by rw [hu]; exact HS1a.out.kb (kb_new _ _))
  have HS1b := hid (show Spans u1 B1 s1b by rw [hu]; exact HS1b.out.kb (kb_new _ _))
  have HX1 := hid (show Box u1 w1.heap.size [.slice A1 k1a c1, .slice B1 k1b d1] by rw [hu]; exact Box.new w1 [.slice A1 k1a c1, .slice B1 k1b d1] 24)
  have HB := hid (show KB w.heap.size w u1 by rw [hu]; exact kb_tr HB.out (kb_new _ _))
  clear hu
  go_wp2_with fail
  refine (P2.out _ HB.out).mono ?_
  rintro _ w2 ⟨A2, c2, B2, d2, he, hs1, hs2, hb⟩
  dsimp only at he hs1 hs2
  rw [HK2a.out, HK2b.out] at he
  subst he
  have HS2a := hid hs1.1
  have HS2b := hid hs2.1
  clear hs1 hs2
  have HS1a := hid (HS1a.out.kb hb)
  have HS1b := hid (HS1b.out.kb hb)
  have HX1 := hid (HX1.out.kb hb)
  have HB := hid (kb_tr HB.out hb)
  clear hb
  go_upto_region 5 with fail
  refine wp_name ?_
  intro u2 hu
  have HS1a := hid (show Spans u2 A1 s1a by rw [hu]; exact HS1a.out.kb (kb_new _ _))
  have HS1b := hid (show Spans u2 B1 s1b by rw [hu]; exact HS1b.out.kb (kb_new _ _))
  have HX1 := hid (show Box u2 w1.heap.size [.slice A1 k1a c1, .slice B1 k1b d1] by rw [hu]; exact HX1.out.kb (kb_new _ _))
  have HS2a := hid (show Spans u2 A2 s2a by rw [hu]; exact HS2a.out.kb (kb_new _ _))
  have HS2b := hid (show Spans u2 B2 s2b by rw [hu]; exact HS2b.out.kb (kb_new _ _))
  have HX2 := hid (show Box u2 w2.heap.size [.slice A2 k2a c2, .slice B2 k2b d2] by rw [hu]; exact Box.new w2 [.slice A2 k2a c2, .slice B2 k2b d2] 24)
  have HB := hid (show KB w.heap.size w u2 by rw [hu]; exact kb_tr HB.out (kb_new _ _))
  clear hu
  go_wp2_with fail
  refine (P3.out _ _ (by rw [bts_append, bts_append, show bts (⟨#[124, 124]⟩ : ByteArray) = [124, 124] from bts_lit [124, 124]]) HB.out).mono ?_
  rintro _ w3 ⟨A3, c3, B3, d3, he, hs1, hs2, hb⟩
  dsimp only at he hs1 hs2
  rw [HK3a.out, HK3b.out] at he
  subst he
  have HS3a := hid hs1.1
  have HS3b := hid hs2.1
  clear hs1 hs2
  have HS1a := hid (HS1a.out.kb hb)
  have HS1b := hid (HS1b.out.kb hb)
  have HX1 := hid (HX1.out.kb hb)
  have HS2a := hid (HS2a.out.kb hb)
  have HS2b := hid (HS2b.out.kb hb)
  have HX2 := hid (HX2.out.kb hb)
  have HB := hid (kb_tr HB.out hb)
  clear hb
  go_upto_region 6 with fail
  refine wp_name ?_
  intro u3 hu
  have HS1a := hid (show Spans u3 A1 s1a by rw [hu]; exact HS1a.out.kb (kb_new _ _))
  have HS1b := hid (show Spans u3 B1 s1b by rw [hu]; exact HS1b.out.kb (kb_new _ _))
  have HX1 := hid (show Box u3 w1.heap.size [.slice A1 k1a c1, .slice B1 k1b d1] by rw [hu]; exact HX1.out.kb (kb_new _ _))
  have HS2a := hid (show Spans u3 A2 s2a by rw [hu]; exact HS2a.out.kb (kb_new _ _))
  have HS2b := hid (show Spans u3 B2 s2b by rw [hu]; exact HS2b.out.kb (kb_new _ _))
  have HX2 := hid (show Box u3 w2.heap.size [.slice A2 k2a c2, .slice B2 k2b d2] by rw [hu]; exact HX2.out.kb (kb_new _ _))
  have HS3a := hid (show Spans u3 A3 s3a by rw [hu]; exact HS3a.out.kb (kb_new _ _))
  have HS3b := hid (show Spans u3 B3 s3b by rw [hu]; exact HS3b.out.kb (kb_new _ _))
  have HX3 := hid (show Box u3 w3.heap.size [.slice A3 k3a c3, .slice B3 k3b d3] by rw [hu]; exact Box.new w3 [.slice A3 k3a c3, .slice B3 k3b d3] 24)
  have HB := hid (show KB w.heap.size w u3 by rw [hu]; exact kb_tr HB.out (kb_new _ _))
  clear hu
  generalize w1.heap.size = g1 at *
  generalize w2.heap.size = g2 at *
  generalize w3.heap.size = g3 at *
  by_cases hok : n1 = 0 ∧ n2 = 0
  case neg =>
    have HZ := hid (show n3 = 0 ∨ n3 = 3 ∨ n3 = 6 from by
      by_cases h0 : n3 = 0
      · exact .inl h0
      · exact .inr (HP2.out h0).2)
    have hz3 := HP3.out
    have HBU := hid HB.out
    clear HP1 HP2 HP3 HX1 HX2 HX3 HS1a HS1b HS2a HS2b HS3a HS3b P1 P2 P3 HG1 HG2 HG3
    by_cases e1 : n1 = 0
    · have e2 : ¬ n2 = 0 := fun h => hok ⟨e1, h⟩
      subst e1
      rcases HZ.out with rfl | rfl | rfl
      · have hz := hz3 rfl
        go_wp2_with fail
        refine (awake7_any u3 (HL.out.kb HB.out)).mono ?_
        rintro _ u4 ⟨rfl, hb⟩
        have HB4 := hid (kb_tr HBU.out hb)
        clear hb
        go_wp2_with fail
        go_ret
        exact ⟨rfl, HB4.out⟩
      · clear hz3
        go_wp2_with fail
        refine (awake7_any u3 (HL.out.kb HB.out)).mono ?_
        rintro _ u4 ⟨rfl, hb⟩
        have HB4 := hid (kb_tr HBU.out hb)
        clear hb
        go_wp2_with fail
        go_ret
        exact ⟨rfl, HB4.out⟩
      · clear hz3
        go_wp2_with fail
        refine (awake7_any u3 (HL.out.kb HB.out)).mono ?_
        rintro _ u4 ⟨rfl, hb⟩
        have HB4 := hid (kb_tr HBU.out hb)
        clear hb
        go_wp2_with fail
        go_ret
        exact ⟨rfl, HB4.out⟩
    · skip
      rcases HZ.out with rfl | rfl | rfl
      · have hz := hz3 rfl
        go_wp2_with fail
        refine (awake7_any u3 (HL.out.kb HB.out)).mono ?_
        rintro _ u4 ⟨rfl, hb⟩
        have HB4 := hid (kb_tr HBU.out hb)
        clear hb
        go_wp2_with fail
        go_ret
        exact ⟨rfl, HB4.out⟩
      · clear hz3
        go_wp2_with fail
        refine (awake7_any u3 (HL.out.kb HB.out)).mono ?_
        rintro _ u4 ⟨rfl, hb⟩
        have HB4 := hid (kb_tr HBU.out hb)
        clear hb
        go_wp2_with fail
        go_ret
        exact ⟨rfl, HB4.out⟩
      · clear hz3
        go_wp2_with fail
        refine (awake7_any u3 (HL.out.kb HB.out)).mono ?_
        rintro _ u4 ⟨rfl, hb⟩
        have HB4 := hid (kb_tr HBU.out hb)
        clear hb
        go_wp2_with fail
        go_ret
        exact ⟨rfl, HB4.out⟩
  obtain ⟨rfl, rfl⟩ := hok
  have hp1 := HP1.out rfl rfl
  have HO1 := hid hp1
  clear hp1 HP1 HP3
  have HLU := hid (HL.out.kb HB.out)
  have HBU := hid HB.out
  have HF1 := hid (HG1.out.at_ HS1a.out HS1b.out)
  have HF2 := hid (HG2.out.at_ HS2a.out HS2b.out)
  have HF3 := hid (HG3.out.at_ HS3a.out HS3b.out)
  clear P1 P2 P3 HG1 HG2 HG3 HS1a HS1b HS2a HS2b HS3a HS3b HB HL
  dsimp only at HF1 HF2 HF3
  have hS : KB u3.heap.size u3 u3.drew := (Below.drew (Below.refl _ _)).kb
  by_cases e3 : n3 = 0
  · subst e3
    have hO := HO1.out rfl
    have HOR := hid (fun u (hb : KB u3.heap.size u3 u) => law_orR 1001 c1 d1 c2 d2 (HLU.out.kb hb).first (HF1.out.kb hb) (HF2.out.kb hb) (by omega) (by omega))
    rw [hO] at HOR
    dsimp only at HOR
    rw [HK1a.out, HK1b.out, HK2a.out, HK2b.out] at HOR
    clear hO HO1 HP2
    have HSM := hid (fun u (hb : KB u3.heap.size u3 u) A5 c5 B5 d5 (h5 : SetAt 1001 u A5 s3a B5 s3b) => law_sameR c3 d3 c5 d5 (HF3.out.kb hb) h5 (by omega))
    rw [sameS_self, HK3a.out, HK3b.out] at HSM
    go_upto_region 8 with fail
    refine wp_planS (fun u => KB u3.heap.size u3 u) (.call [] 0 (.call [1, 2, 3, 4, 5, 6, 7] 8 (.call [] 9 (.call [10, 11, 12, 13, 14, 15] 16 (.call [] 17 (.last [18, 19, 20, 21])))))) (by first | assumption | skip) (by kernel_rfl) (by intro _ _ d _ _ h; cases d <;> exact h) (by kernel_rfl) ?_
    have iS : Nonempty (SW fun u => KB u3.heap.size u3 u) := ⟨⟨_, hS⟩⟩
    have q1a := fun (z : SW fun u => KB u3.heap.size u3 u) => (HX1.out.kb z.ok).get2.1
    have q1b := fun (z : SW fun u => KB u3.heap.size u3 u) => (HX1.out.kb z.ok).get2.2
    have q2a := fun (z : SW fun u => KB u3.heap.size u3 u) => (HX2.out.kb z.ok).get2.1
    have q2b := fun (z : SW fun u => KB u3.heap.size u3 u) => (HX2.out.kb z.ok).get2.2
    have q3a := fun (z : SW fun u => KB u3.heap.size u3 u) => (HX3.out.kb z.ok).get2.1
    have q3b := fun (z : SW fun u => KB u3.heap.size u3 u) => (HX3.out.kb z.ok).get2.2
    refine plan_call ?_
    simp only [pickOps, List.map_cons, List.map_nil, List.getElem?_toArray, List.getElem?_cons_zero, List.getElem?_cons_succ, Option.getD_some]
    repeat go_big_quiet_step (fail)
    refine wpQuiet_nil ?_
    go_wp2_with fail
    refine (awake7_any u3.drew (HLU.out.kb hS)).mono ?_
    rintro _ u4 ⟨rfl, hb⟩
    have HB4 := hid (kb_tr hS hb)
    clear hb
    go_wp2_with fail
    refine plan_onS (HB4.out) ?_
    refine plan_call ?_
    simp only [pickOps, List.map_cons, List.map_nil, List.getElem?_toArray, List.getElem?_cons_zero, List.getElem?_cons_succ, Option.getD_some]
    repeat go_big_quiet_step (fail)
    refine wpQuiet_nil ?_
    go_wp2_with fail
    refine (HOR.out _ HB4.out).mono ?_
    rintro _ u5 ⟨A5, c5, B5, d5, he, hs5, -, -, hb⟩
    rw [HK3a.out, HK3b.out] at he
    subst he
    have HS5 := hid hs5
    have HB5 := hid (kb_tr HB4.out hb.kb)
    clear hb hs5
    go_wp2_with fail
    refine plan_onS (HB5.out) ?_
    refine plan_call ?_
    simp only [pickOps, List.map_cons, List.map_nil, List.getElem?_toArray, List.getElem?_cons_zero, List.getElem?_cons_succ, Option.getD_some]
    repeat go_big_quiet_step (fail)
    refine wpQuiet_nil ?_
    go_wp2_with fail
    refine (HSM.out _ HB5.out A5 c5 B5 d5 HS5.out).mono ?_
    rintro _ u6 ⟨rfl, hb⟩
    have HB6 := hid (kb_tr HB5.out hb.kb)
    clear hb
    go_wp2_with fail
    refine plan_onS (HB6.out) ?_
    refine plan_call ?_
    simp only [pickOps, List.map_cons, List.map_nil, List.getElem?_toArray, List.getElem?_cons_zero, List.getElem?_cons_succ, Option.getD_some]
    repeat go_big_quiet_step (fail)
    refine wpQuiet_nil ?_
    go_wp2_with fail
    refine plan_onS HB6.out ?_
    refine plan_call ?_
    simp only [pickOps, List.map_cons, List.map_nil, List.getElem?_toArray, List.getElem?_cons_zero, List.getElem?_cons_succ, Option.getD_some]
    repeat go_big_quiet_step (fail)
    refine wpQuiet_nil ?_
    go_wp2_with fail
    refine plan_onS HB6.out ?_
    refine plan_last ?_
    simp only [pickOps, List.map_cons, List.map_nil, List.getElem?_toArray, List.getElem?_cons_zero, List.getElem?_cons_succ, Option.getD_some]
    repeat go_big_quiet_step (fail)
    refine wpQuiet_nil ?_
    clear q1a q1b q2a q2b q3a q3b
    go_wp2_with fail
    go_ret
    exact ⟨rfl, kb_tr HBU.out HB6.out⟩
  · obtain ⟨hn, h36⟩ := HP2.out e3
    have hn1 : s3a = [] := congrArg Prod.fst hn
    have hn2 : s3b = [] := congrArg Prod.snd hn
    have HSM := hid (fun u (hb : KB u3.heap.size u3 u) => law_sameR c3 d3 0 0 (HF3.out.kb hb) (SetAt.none u) (by omega))
    rw [show sameS s3a s3b [] [] = true by rw [hn1, hn2]; rfl, HK3a.out, HK3b.out] at HSM
    clear hn hn1 hn2 HO1 HP2 e3
    rcases h36 with rfl | rfl
    · skip
      go_upto_region 8 with fail
      refine wp_planS (fun u => KB u3.heap.size u3 u) (.call [] 0 (.call [1, 2, 3, 4, 5, 6, 7] 8 (.call [] 9 (.call [10, 11, 12, 13, 14, 15] 16 (.call [] 17 (.last [18, 19, 20, 21])))))) (by first | assumption | skip) (by kernel_rfl) (by intro _ _ d _ _ h; cases d <;> exact h) (by kernel_rfl) ?_
      have iS : Nonempty (SW fun u => KB u3.heap.size u3 u) := ⟨⟨_, hS⟩⟩
      have q1a := fun (z : SW fun u => KB u3.heap.size u3 u) => (HX1.out.kb z.ok).get2.1
      have q1b := fun (z : SW fun u => KB u3.heap.size u3 u) => (HX1.out.kb z.ok).get2.2
      have q2a := fun (z : SW fun u => KB u3.heap.size u3 u) => (HX2.out.kb z.ok).get2.1
      have q2b := fun (z : SW fun u => KB u3.heap.size u3 u) => (HX2.out.kb z.ok).get2.2
      have q3a := fun (z : SW fun u => KB u3.heap.size u3 u) => (HX3.out.kb z.ok).get2.1
      have q3b := fun (z : SW fun u => KB u3.heap.size u3 u) => (HX3.out.kb z.ok).get2.2
      refine plan_call ?_
      simp only [pickOps, List.map_cons, List.map_nil, List.getElem?_toArray, List.getElem?_cons_zero, List.getElem?_cons_succ, Option.getD_some]
      repeat go_big_quiet_step (fail)
      refine wpQuiet_nil ?_
      go_wp2_with fail
      refine (awake7_any u3.drew (HLU.out.kb hS)).mono ?_
      rintro _ u4 ⟨rfl, hb⟩
      have HB4 := hid (kb_tr hS hb)
      clear hb
      go_wp2_with fail
      refine plan_onS (HB4.out) ?_
      refine plan_call ?_
      simp only [pickOps, List.map_cons, List.map_nil, List.getElem?_toArray, List.getElem?_cons_zero, List.getElem?_cons_succ, Option.getD_some]
      repeat go_big_quiet_step (fail)
      refine wpQuiet_nil ?_
      go_wp2_with fail
      refine plan_onS HB4.out ?_
      refine plan_call ?_
      simp only [pickOps, List.map_cons, List.map_nil, List.getElem?_toArray, List.getElem?_cons_zero, List.getElem?_cons_succ, Option.getD_some]
      repeat go_big_quiet_step (fail)
      refine wpQuiet_nil ?_
      go_wp2_with fail
      refine plan_onS HB4.out ?_
      refine plan_call ?_
      simp only [pickOps, List.map_cons, List.map_nil, List.getElem?_toArray, List.getElem?_cons_zero, List.getElem?_cons_succ, Option.getD_some]
      repeat go_big_quiet_step (fail)
      refine wpQuiet_nil ?_
      go_wp2_with fail
      refine (rsnone_any _).mono ?_
      rintro _ u5 ⟨rfl, hb⟩
      have HB5 := hid (kb_tr HB4.out hb.kb)
      clear hb
      go_wp2_with fail
      refine plan_onS (HB5.out) ?_
      refine plan_call ?_
      simp only [pickOps, List.map_cons, List.map_nil, List.getElem?_toArray, List.getElem?_cons_zero, List.getElem?_cons_succ, Option.getD_some]
      repeat go_big_quiet_step (fail)
      refine wpQuiet_nil ?_
      go_wp2_with fail
      refine (HSM.out _ HB5.out).mono ?_
      rintro _ u6 ⟨rfl, hb⟩
      have HB6 := hid (kb_tr HB5.out hb.kb)
      clear hb
      go_wp2_with fail
      refine plan_onS (HB6.out) ?_
      refine plan_last ?_
      simp only [pickOps, List.map_cons, List.map_nil, List.getElem?_toArray, List.getElem?_cons_zero, List.getElem?_cons_succ, Option.getD_some]
      repeat go_big_quiet_step (fail)
      refine wpQuiet_nil ?_
      clear q1a q1b q2a q2b q3a q3b
      go_wp2_with fail
      go_ret
      exact ⟨rfl, kb_tr HBU.out HB6.out⟩
    · skip
      go_upto_region 8 with fail
      refine wp_planS (fun u => KB u3.heap.size u3 u) (.call [] 0 (.call [1, 2, 3, 4, 5, 6, 7] 8 (.call [] 9 (.call [10, 11, 12, 13, 14, 15] 16 (.call [] 17 (.last [18, 19, 20, 21])))))) (by first | assumption | skip) (by kernel_rfl) (by intro _ _ d _ _ h; cases d <;> exact h) (by kernel_rfl) ?_
      have iS : Nonempty (SW fun u => KB u3.heap.size u3 u) := ⟨⟨_, hS⟩⟩
      have q1a := fun (z : SW fun u => KB u3.heap.size u3 u) => (HX1.out.kb z.ok).get2.1
      have q1b := fun (z : SW fun u => KB u3.heap.size u3 u) => (HX1.out.kb z.ok).get2.2
      have q2a := fun (z : SW fun u => KB u3.heap.size u3 u) => (HX2.out.kb z.ok).get2.1
      have q2b := fun (z : SW fun u => KB u3.heap.size u3 u) => (HX2.out.kb z.ok).get2.2
      have q3a := fun (z : SW fun u => KB u3.heap.size u3 u) => (HX3.out.kb z.ok).get2.1
      have q3b := fun (z : SW fun u => KB u3.heap.size u3 u) => (HX3.out.kb z.ok).get2.2
      refine plan_call ?_
      simp only [pickOps, List.map_cons, List.map_nil, List.getElem?_toArray, List.getElem?_cons_zero, List.getElem?_cons_succ, Option.getD_some]
      repeat go_big_quiet_step (fail)
      refine wpQuiet_nil ?_
      go_wp2_with fail
      refine (awake7_any u3.drew (HLU.out.kb hS)).mono ?_
      rintro _ u4 ⟨rfl, hb⟩
      have HB4 := hid (kb_tr hS hb)
      clear hb
      go_wp2_with fail
      refine plan_onS (HB4.out) ?_
      refine plan_call ?_
      simp only [pickOps, List.map_cons, List.map_nil, List.getElem?_toArray, List.getElem?_cons_zero, List.getElem?_cons_succ, Option.getD_some]
      repeat go_big_quiet_step (fail)
      refine wpQuiet_nil ?_
      go_wp2_with fail
      refine plan_onS HB4.out ?_
      refine plan_call ?_
      simp only [pickOps, List.map_cons, List.map_nil, List.getElem?_toArray, List.getElem?_cons_zero, List.getElem?_cons_succ, Option.getD_some]
      repeat go_big_quiet_step (fail)
      refine wpQuiet_nil ?_
      go_wp2_with fail
      refine plan_onS HB4.out ?_
      refine plan_call ?_
      simp only [pickOps, List.map_cons, List.map_nil, List.getElem?_toArray, List.getElem?_cons_zero, List.getElem?_cons_succ, Option.getD_some]
      repeat go_big_quiet_step (fail)
      refine wpQuiet_nil ?_
      go_wp2_with fail
      refine (rsnone_any _).mono ?_
      rintro _ u5 ⟨rfl, hb⟩
      have HB5 := hid (kb_tr HB4.out hb.kb)
      clear hb
      go_wp2_with fail
      refine plan_onS (HB5.out) ?_
      refine plan_call ?_
      simp only [pickOps, List.map_cons, List.map_nil, List.getElem?_toArray, List.getElem?_cons_zero, List.getElem?_cons_succ, Option.getD_some]
      repeat go_big_quiet_step (fail)
      refine wpQuiet_nil ?_
      go_wp2_with fail
      refine (HSM.out _ HB5.out).mono ?_
      rintro _ u6 ⟨rfl, hb⟩
      have HB6 := hid (kb_tr HB5.out hb.kb)
      clear hb
      go_wp2_with fail
      refine plan_onS (HB6.out) ?_
      refine plan_last ?_
      simp only [pickOps, List.map_cons, List.map_nil, List.getElem?_toArray, List.getElem?_cons_zero, List.getElem?_cons_succ, Option.getD_some]
      repeat go_big_quiet_step (fail)
      refine wpQuiet_nil ?_
      clear q1a q1b q2a q2b q3a q3b
      go_wp2_with fail
      go_ret
      exact ⟨rfl, kb_tr HBU.out HB6.out⟩
end Go.Proofs.YtplmlahpmnjneaaGreatDoor
