import Derived.Test.YtplmlahpmnjneaaGreatDoorMDk
namespace Go.Proofs.YtplmlahpmnjneaaGreatDoor
open Go.RowKit Go.Lib
open Rw
set_option linter.unusedVariables false
set_option linter.unusedSimpArgs false
set_option maxRecDepth 100000 in
set_option maxHeartbeats 4000000 in
theorem walk_ScopeReads (t : ByteArray) (w : World) (hsz : t.size ≤ 9223372036854775807) (hL : Laid w) : Calls Tryz.prog 5 #[.string t] w (BoolK w true) := by
  have HL := hid hL
  clear hL
  by_cases hbig : 300 < t.size
  · have hb2 : (300 : Int) < (t.size : Int) := by omega
    go_enter Tryz.func5, Tryz.ntmps5
    go_wp2_with fail
    refine (awake7_any w HL.out).mono ?_
    rintro _ w2 ⟨rfl, hb⟩
    go_wp2_with fail
    go_ret
    exact ⟨rfl, hb⟩
  · have hb2 : ¬ (300 : Int) < (t.size : Int) := by omega
    clear hbig
    have P1 := hid (fun u (hb : KB w.heap.size w u) => parse7_any t u (HL.out.kb hb))
    have P2 := hid (fun u => rparse7_any t u)
    have P3 := hid (fun u (hb : KB w.heap.size w u) => of7_any t u (HL.out.kb hb))
    have P4 := hid (fun u (hb : KB w.heap.size w u) => rof7_any t u (HL.out.kb hb).first)
    have HP := hid (parseG_parts (bts t))
    have HG := hid (ofG_good (bts t))
    generalize parseG (bts t) = p at *
    generalize ofG (bts t) = o at *
    obtain ⟨r, n1⟩ := p
    obtain ⟨⟨s1, s2⟩, n2⟩ := o
    dsimp only at HP HG P1 P2 P3 P4
    generalize hnr : r.length = nr at *
    have HNR := hid hnr
    clear hnr
    generalize hq1 : s1.length = q1 at *
    have HQ1 := hid hq1
    clear hq1
    generalize hq2 : s2.length = q2 at *
    have HQ2 := hid hq2
    clear hq2
    go_enter Tryz.func5, Tryz.ntmps5
    have HB := hid (kb_refl w)
    go_wp2_with fail
    refine (P1.out _ (kb_refl _)).mono ?_
    rintro _ w1 ⟨A1, c1, he, hal, hb⟩
    dsimp only at he hal
    rw [HNR.out] at he
    subst he
    have HA1 := hid hal
    clear hal
    have HB := hid (kb_tr HB.out hb)
    clear hb
    go_upto_region 4 with fail
    refine wp_name ?_
    intro u1 hu
    have HA1 := hid (show Alts u1 A1 r by rw [hu]; exact HA1.out.kb (kb_new _ _))
    have HX1 := hid (show Box u1 w1.heap.size [.slice A1 nr c1] by rw [hu]; exact Box.new w1 [.slice A1 nr c1] 35)
    have HB := hid (show KB w.heap.size w u1 by rw [hu]; exact kb_tr HB.out (kb_new _ _))
    clear hu
    go_wp2_with fail
    refine (P2.out u1).mono ?_
    rintro _ w2 ⟨A2, c2, he, hal, hb⟩
    dsimp only at he hal
    rw [HNR.out] at he
    subst he
    have HA2 := hid hal
    clear hal
    have HA1 := hid (HA1.out.kb hb)
    have HX1 := hid (HX1.out.kb hb)
    have HB := hid (kb_tr HB.out hb)
    clear hb
    go_upto_region 5 with fail
    refine wp_name ?_
    intro u2 hu
    have HA1 := hid (show Alts u2 A1 r by rw [hu]; exact HA1.out.kb (kb_new _ _))
    have HX1 := hid (show Box u2 w1.heap.size [.slice A1 nr c1] by rw [hu]; exact HX1.out.kb (kb_new _ _))
    have HA2 := hid (show Alts u2 A2 r by rw [hu]; exact HA2.out.kb (kb_new _ _))
    have HX2 := hid (show Box u2 w2.heap.size [.slice A2 nr c2] by rw [hu]; exact Box.new w2 [.slice A2 nr c2] 35)
    have HB := hid (show KB w.heap.size w u2 by rw [hu]; exact kb_tr HB.out (kb_new _ _))
    clear hu
    go_wp2_with fail
    refine (P3.out _ HB.out).mono ?_
    rintro _ w3 ⟨A3, c3, B3, d3, he, hs1, hs2, hb⟩
    dsimp only at he hs1 hs2
    rw [HQ1.out, HQ2.out] at he
    subst he
    have HS1 := hid hs1.1
    have HS2 := hid hs2.1
    clear hs1 hs2
    have HA1 := hid (HA1.out.kb hb)
    have HX1 := hid (HX1.out.kb hb)
    have HA2 := hid (HA2.out.kb hb)
    have HX2 := hid (HX2.out.kb hb)
    have HB := hid (kb_tr HB.out hb)
    clear hb
    go_upto_region 6 with fail
    refine wp_name ?_
    intro u3 hu
    have HA1 := hid (show Alts u3 A1 r by rw [hu]; exact HA1.out.kb (kb_new _ _))
    have HX1 := hid (show Box u3 w1.heap.size [.slice A1 nr c1] by rw [hu]; exact HX1.out.kb (kb_new _ _))
    have HA2 := hid (show Alts u3 A2 r by rw [hu]; exact HA2.out.kb (kb_new _ _))
    have HX2 := hid (show Box u3 w2.heap.size [.slice A2 nr c2] by rw [hu]; exact HX2.out.kb (kb_new _ _))
    have HS1 := hid (show Spans u3 A3 s1 by rw [hu]; exact HS1.out.kb (kb_new _ _))
    have HS2 := hid (show Spans u3 B3 s2 by rw [hu]; exact HS2.out.kb (kb_new _ _))
    have HX3 := hid (show Box u3 w3.heap.size [.slice A3 q1 c3, .slice B3 q2 d3] by rw [hu]; exact Box.new w3 [.slice A3 q1 c3, .slice B3 q2 d3] 24)
    have HB := hid (show KB w.heap.size w u3 by rw [hu]; exact kb_tr HB.out (kb_new _ _))
    clear hu
    go_wp2_with fail
    refine (P4.out _ HB.out).mono ?_
    rintro _ w4 ⟨A4, c4, B4, d4, he, hs1, hs2, hb⟩
    dsimp only at he hs1 hs2
    rw [HQ1.out, HQ2.out] at he
    subst he
    have HS3 := hid hs1.1
    have HS4 := hid hs2.1
    clear hs1 hs2
    have HA1 := hid (HA1.out.kb hb)
    have HX1 := hid (HX1.out.kb hb)
    have HA2 := hid (HA2.out.kb hb)
    have HX2 := hid (HX2.out.kb hb)
    have HS1 := hid (HS1.out.kb hb)
    have HS2 := hid (HS2.out.kb hb)
    have HX3 := hid (HX3.out.kb hb)
    have HB := hid (kb_tr HB.out hb)
    clear hb
    go_upto_region 7 with fail
    refine wp_name ?_
    intro u4 hu
    have HA1 := hid (show Alts u4 A1 r by rw [hu]; exact HA1.out.kb (kb_new _ _))
    have HX1 := hid (show Box u4 w1.heap.size [.slice A1 nr c1] by rw [hu]; exact HX1.out.kb (kb_new _ _))
    have HA2 := hid (show Alts u4 A2 r by rw [hu]; exact HA2.out.kb (kb_new _ _))
    have HX2 := hid (show Box u4 w2.heap.size [.slice A2 nr c2] by rw [hu]; exact HX2.out.kb (kb_new _ _))
    have HS1 := hid (show Spans u4 A3 s1 by rw [hu]; exact HS1.out.kb (kb_new _ _))
    have HS2 := hid (show Spans u4 B3 s2 by rw [hu]; exact HS2.out.kb (kb_new _ _))
    have HX3 := hid (show Box u4 w3.heap.size [.slice A3 q1 c3, .slice B3 q2 d3] by rw [hu]; exact HX3.out.kb (kb_new _ _))
    have HS3 := hid (show Spans u4 A4 s1 by rw [hu]; exact HS3.out.kb (kb_new _ _))
    have HS4 := hid (show Spans u4 B4 s2 by rw [hu]; exact HS4.out.kb (kb_new _ _))
    have HX4 := hid (show Box u4 w4.heap.size [.slice A4 q1 c4, .slice B4 q2 d4] by rw [hu]; exact Box.new w4 [.slice A4 q1 c4, .slice B4 q2 d4] 24)
    have HB := hid (show KB w.heap.size w u4 by rw [hu]; exact kb_tr HB.out (kb_new _ _))
    clear hu
    generalize w1.heap.size = g1 at *
    generalize w2.heap.size = g2 at *
    generalize w3.heap.size = g3 at *
    generalize w4.heap.size = g4 at *
    go_wp2_with fail
    refine (awake7_any u4 (HL.out.kb HB.out)).mono ?_
    rintro _ u5 ⟨rfl, hb⟩
    have HA1 := hid (HA1.out.kb hb)
    have HX1 := hid (HX1.out.kb hb)
    have HA2 := hid (HA2.out.kb hb)
    have HX2 := hid (HX2.out.kb hb)
    have HS1 := hid (HS1.out.kb hb)
    have HS2 := hid (HS2.out.kb hb)
    have HX3 := hid (HX3.out.kb hb)
    have HS3 := hid (HS3.out.kb hb)
    have HS4 := hid (HS4.out.kb hb)
    have HX4 := hid (HX4.out.kb hb)
    have HB := hid (kb_tr HB.out hb)
    clear hb
    have SM := hid (same7_any A1 A2 c1 c2 r u5 HA1.out HA2.out (by have := HP.out.1; rw [HNR.out]; omega) HP.out.2)
    rw [HNR.out] at SM
    have x0 := HX1.out.2 0 _ rfl
    have xl := HX1.out.1
    have y0 := HX2.out.2 0 _ rfl
    have yl := HX2.out.1
    go_wp2_with fail
    refine (SM.out).mono ?_
    rintro _ u6 ⟨rfl, hb⟩
    have HA1 := hid (HA1.out.kb hb.kb)
    have HX1 := hid (HX1.out.kb hb.kb)
    have HA2 := hid (HA2.out.kb hb.kb)
    have HX2 := hid (HX2.out.kb hb.kb)
    have HS1 := hid (HS1.out.kb hb.kb)
    have HS2 := hid (HS2.out.kb hb.kb)
    have HX3 := hid (HX3.out.kb hb.kb)
    have HS3 := hid (HS3.out.kb hb.kb)
    have HS4 := hid (HS4.out.kb hb.kb)
    have HX4 := hid (HX4.out.kb hb.kb)
    have HB := hid (kb_tr HB.out hb.kb)
    clear hb
    clear x0 xl y0 yl SM
    have SS := hid (law_sameR c3 d3 c4 d4 (HG.out.at_ HS1.out HS2.out) (HG.out.at_ HS3.out HS4.out) (by omega))
    dsimp only at SS
    rw [sameS_self, HQ1.out, HQ2.out] at SS
    obtain ⟨x0, x1⟩ := HX3.out.get2
    obtain ⟨y0, y1⟩ := HX4.out.get2
    have xl := HX3.out.1
    have yl := HX4.out.1
    go_wp2_with fail
    refine (SS.out).mono ?_
    rintro _ u7 ⟨rfl, hb⟩
    have HA1 := hid (HA1.out.kb hb.kb)
    have HX1 := hid (HX1.out.kb hb.kb)
    have HA2 := hid (HA2.out.kb hb.kb)
    have HX2 := hid (HX2.out.kb hb.kb)
    have HS1 := hid (HS1.out.kb hb.kb)
    have HS2 := hid (HS2.out.kb hb.kb)
    have HX3 := hid (HX3.out.kb hb.kb)
    have HS3 := hid (HS3.out.kb hb.kb)
    have HS4 := hid (HS4.out.kb hb.kb)
    have HX4 := hid (HX4.out.kb hb.kb)
    have HB := hid (kb_tr HB.out hb.kb)
    clear hb
    clear x0 x1 y0 y1 xl yl SS
    go_wp2_with fail
    go_ret
    exact ⟨rfl, HB.out⟩
end Go.Proofs.YtplmlahpmnjneaaGreatDoor
