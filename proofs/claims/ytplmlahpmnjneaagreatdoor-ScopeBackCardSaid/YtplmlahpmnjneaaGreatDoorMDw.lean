/- The walk of linchpinlaw7.ScopeBack. -/
import Derived.Test.YtplmlahpmnjneaaGreatDoorMDwa
import Derived.Test.YtplmlahpmnjneaaGreatDoorMDm
namespace Go.Proofs.YtplmlahpmnjneaaGreatDoor
open Go.RowKit Go.Lib
open Rw
set_option linter.unusedVariables false
set_option linter.unusedSimpArgs false

set_option maxRecDepth 100000 in
set_option maxHeartbeats 4000000 in
theorem walk_ScopeBack (A0 : Option Addr) (c0 : Nat) (z0 : List Int) (w : World) (h0 : IntsAt w A0 z0) (l0 : z0.length ≤ 9223372036854775807) (hL : Laid w) : Calls Tryz.prog 7 #[.slice A0 z0.length c0] w (BoolK w true) := by
  have HL := hid hL
  have P1 := hid (lawrange_cap A0 c0 z0 0 w h0 (by omega) (by omega) l0)
  clear hL h0
  generalize z0.length = n0 at *
  go_enter Tryz.func7, Tryz.ntmps7
  have HB := hid (kb_refl w)
  go_wp2_with fail
  refine P1.out.mono ?_
  rintro _ w1 ⟨A1, c1, r, he, hal, hmay, hfit, hcap, hb⟩
  generalize hnr : r.length = nr at *
  have HNR := hid hnr
  clear hnr hcap
  subst he
  have HA1 := hid hal
  have HM := hid hmay
  have HF := hid hfit
  have HB := hid (kb_tr HB.out hb.kb)
  clear hb hal hmay hfit P1
  go_upto_region 2 with fail
  refine wp_name ?_
  intro u1 hu
  have HX1 := hid (show Box u1 w1.heap.size [.slice A1 nr c1] by rw [hu]; exact Box.new w1 [.slice A1 nr c1] 35)
  have HA1 := hid (show Alts u1 A1 r by rw [hu]; exact HA1.out.kb (kb_new _ _))
  have HB := hid (show KB w.heap.size w u1 by rw [hu]; exact kb_tr HB.out (kb_new _ _))
  clear hu
  generalize w1.heap.size = g1 at *
  have HPT := hid (mayG_parts HM.out)
  have hn6 : nr ≤ 6 := by have := HPT.out.1; rwa [HNR.out] at this
  have HPR := hid (print7_any A1 c1 r u1 (HL.out.kb HB.out) HA1.out HF.out (by have := HPT.out.1; omega) (fun a ha => by have := HPT.out.2 a ha; omega))
  rw [HNR.out] at HPR
  have x0 := HX1.out.2 0 _ rfl
  have xl := HX1.out.1
  go_wp2_with fail
  refine HPR.out.mono ?_
  rintro _ w2 ⟨t, rfl, ht, hb⟩
  have HT := hid ht
  have ht96 : t.size ≤ 96 := by rw [← bts_len, ht]; exact print_len96 HM.out
  have HX1 := hid (HX1.out.kb hb)
  have HA1 := hid (HA1.out.kb hb)
  have HB := hid (kb_tr HB.out hb)
  clear hb ht x0 xl HPR
  have HPA := hid (fun u (hb : KB w.heap.size w u) => (show parseG (bts t) = (r, 0) by rw [HT.out]; exact parseG_back HM.out) ▸ parse7_any t u (HL.out.kb hb))
  go_wp2_with fail
  refine (HPA.out w2 HB.out).mono ?_
  rintro _ w3 ⟨A2, c2, he, hal, hb⟩
  try dsimp only at he hal
  rw [HNR.out] at he
  subst he
  have HA2 := hid hal
  have HX1 := hid (HX1.out.kb hb)
  have HA1 := hid (HA1.out.kb hb)
  have HB := hid (kb_tr HB.out hb)
  clear hal hb HPA
  go_upto_region 4 with fail
  refine wp_name ?_
  intro u3 hu
  have HX1 := hid (show Box u3 g1 [.slice A1 nr c1] by rw [hu]; exact HX1.out.kb (kb_new _ _))
  have HA1 := hid (show Alts u3 A1 r by rw [hu]; exact HA1.out.kb (kb_new _ _))
  have HX2 := hid (show Box u3 w3.heap.size [.slice A2 nr c2] by rw [hu]; exact Box.new w3 [.slice A2 nr c2] 35)
  have HA2 := hid (show Alts u3 A2 r by rw [hu]; exact HA2.out.kb (kb_new _ _))
  have HB := hid (show KB w.heap.size w u3 by rw [hu]; exact kb_tr HB.out (kb_new _ _))
  clear hu
  generalize w3.heap.size = g2 at *
  go_upto_block 0 with fail
  go_wp2_with fail
  go_loopw [7, 8] (fun wv i wr => ∃ (k : Nat) (wide : ByteArray), wv = .string wide ∧ i = .int .i64 k ∧ k ≤ t.size ∧ wide.size ≤ 4 * k ∧ Hid (WideB t wide k) ∧ wr = u3) (fun _ i _ => t.size - (intOf i).toNat)
  case atStart => exact ⟨0, _, rfl, rfl, Nat.zero_le _, Nat.zero_le _, hid (WideB.start t), rfl⟩
  case round =>
    obtain ⟨k, wide, rfl, rfl, hk, hws, HW, rfl⟩ := hrel
    by_cases hlt : k < t.size
    · have hltn : k < t.size := hlt
      have i1 : (k : Int) < (t.size : Int) := by omega
      by_cases hc : t[k] = 44
      · have d1 : ((t[k].toNat : Int) == 44) = true := by rw [hc]; rfl
        have HC := hid hc
        have HSTEP := hid (fun wide' (he : bts wide' = bts wide ++ [32, t[k], 32, 32]) => HW.out.comma hltn HC.out he)
        clear hc
        go_wp2_with fail
        go_roundw
        case rel =>
          have HS := HSTEP.out _ (show bts (wide ++ ⟨#[32]⟩ ++ t.extract k (k + 1) ++ ⟨#[32, 32]⟩) = _ by rw [bts_append, bts_append, bts_append, bts_one hltn, show bts (⟨#[32]⟩ : ByteArray) = [32] from bts_lit [32], show bts (⟨#[32, 32]⟩ : ByteArray) = [32, 32] from bts_lit [32, 32]]; simp)
          exact ⟨k + 1, _, rfl, by go_num, by omega, HS.len, hid HS, by first | rfl | trivial⟩
        case measure => simp [intOf]; omega
      · have d1 : ((t[k].toNat : Int) == 44) = false := beq_u8 (n := 44) (by decide) hc
        have HC := hid hc
        clear hc
        by_cases hc2 : t[k] = 124
        · have d2 : ((t[k].toNat : Int) == 124) = true := by rw [hc2]; rfl
          have HC2 := hid hc2
          clear hc2
          by_cases hlt2 : k + 1 < t.size
          · have hltn2 : k + 1 < t.size := hlt2
            have i2 : (k : Int) + 1 < (t.size : Int) := by omega
            by_cases hc3 : t[k + 1] = 124
            · have d3 : ((t[k + 1].toNat : Int) == 124) = true := by rw [hc3]; rfl
              have HC3 := hid hc3
              clear hc3
              have HSTEP := hid (fun wide' (he : bts wide' = bts wide ++ [t[k]]) => HW.out.one hltn HC.out (fun _ _ => HC3.out) he)
              go_wp2_with fail
              go_roundw
              case rel =>
                have HS := HSTEP.out _ (show bts (wide ++ t.extract k (k + 1)) = _ by rw [bts_append, bts_one hltn])
                exact ⟨k + 1, _, rfl, by go_num, by omega, HS.len, hid HS, by first | rfl | trivial⟩
              case measure => simp [intOf]; omega
            · have d3 : ((t[k + 1].toNat : Int) == 124) = false := beq_u8 (n := 124) (by decide) hc3
              have HC3 := hid hc3
              clear hc3
              have HSTEP := hid (fun wide' (he : bts wide' = bts wide ++ [t[k], 32, 32]) => HW.out.bar hltn2 HC2.out HC3.out he)
              go_wp2_with fail
              go_roundw
              case rel =>
                have HS := HSTEP.out _ (show bts (wide ++ t.extract k (k + 1) ++ ⟨#[32, 32]⟩) = _ by rw [bts_append, bts_append, bts_one hltn, show bts (⟨#[32, 32]⟩ : ByteArray) = [32, 32] from bts_lit [32, 32]]; simp)
                exact ⟨k + 1, _, rfl, by go_num, by omega, HS.len, hid HS, by first | rfl | trivial⟩
              case measure => simp [intOf]; omega
          · have i2 : ¬ (k : Int) + 1 < (t.size : Int) := by omega
            have HSTEP := hid (fun wide' (he : bts wide' = bts wide ++ [t[k]]) => HW.out.one hltn HC.out (fun _ h => absurd h hlt2) he)
            go_wp2_with fail
            go_roundw
            case rel =>
              have HS := HSTEP.out _ (show bts (wide ++ t.extract k (k + 1)) = _ by rw [bts_append, bts_one hltn])
              exact ⟨k + 1, _, rfl, by go_num, by omega, HS.len, hid HS, by first | rfl | trivial⟩
            case measure => simp [intOf]; omega
        · have d2 : ((t[k].toNat : Int) == 124) = false := beq_u8 (n := 124) (by decide) hc2
          have HC2 := hid hc2
          clear hc2
          have HSTEP := hid (fun wide' (he : bts wide' = bts wide ++ [t[k]]) => HW.out.one hltn HC.out (fun e => absurd e HC2.out) he)
          go_wp2_with fail
          go_roundw
          case rel =>
            have HS := HSTEP.out _ (show bts (wide ++ t.extract k (k + 1)) = _ by rw [bts_append, bts_one hltn])
            exact ⟨k + 1, _, rfl, by go_num, by omega, HS.len, hid HS, by first | rfl | trivial⟩
          case measure => simp [intOf]; omega
    · have hge : ¬ (k : Int) < (t.size : Int) := by omega
      have HWE := hid (show bts wide = wideB (printG r) by rw [← HT.out]; exact HW.out.last (by omega))
      have HPW := hid (show parseG (bts wide) = if 96 < wide.size then ([], 3) else (r, 0) by rw [← bts_len, HWE.out]; exact parse_wide HM.out)
      have HSM := hid (fun u A B c d (h : Alts u A r) (k : Alts u B r) => same7_any A B c d r u h k (by have := HPT.out.1; omega) (fun a ha => by have := HPT.out.2 a ha; omega))
      rw [HNR.out] at HSM
      by_cases hlw : 96 < wide.size
      · have b96 : (96 : Int) < (wide.size : Int) := by omega
        have HPA := hid (fun u (hb : KB w.heap.size w u) => (show parseG (bts wide) = ([], 3) by rw [HPW.out, if_pos hlw]) ▸ parse7_any wide u (HL.out.kb hb))
        go_wp2_with fail
        refine (HPA.out _ HB.out).mono ?_
        rintro _ w4 ⟨A3, c3, he, -, hb⟩
        try dsimp only at he
        subst he
        have HX1 := hid (HX1.out.kb hb)
        have HA1 := hid (HA1.out.kb hb)
        have HX2 := hid (HX2.out.kb hb)
        have HA2 := hid (HA2.out.kb hb)
        have HB := hid (kb_tr HB.out hb)
        clear hb HPA
        go_upto_region 14 with fail
        refine wp_name ?_
        intro u4 hu
        have HX1 := hid (show Box u4 g1 [.slice A1 nr c1] by rw [hu]; exact HX1.out.kb (kb_new _ _))
        have HA1 := hid (show Alts u4 A1 r by rw [hu]; exact HA1.out.kb (kb_new _ _))
        have HX2 := hid (show Box u4 g2 [.slice A2 nr c2] by rw [hu]; exact HX2.out.kb (kb_new _ _))
        have HA2 := hid (show Alts u4 A2 r by rw [hu]; exact HA2.out.kb (kb_new _ _))
        have HB := hid (show KB w.heap.size w u4 by rw [hu]; exact kb_tr HB.out (kb_new _ _))
        clear hu
        go_wp2_with fail
        refine (awake7_any _ (HL.out.kb HB.out)).mono ?_
        rintro _ u5 ⟨rfl, hb⟩
        have HX1 := hid (HX1.out.kb hb)
        have HA1 := hid (HA1.out.kb hb)
        have HX2 := hid (HX2.out.kb hb)
        have HA2 := hid (HA2.out.kb hb)
        have HB := hid (kb_tr HB.out hb)
        clear hb
        have x0 := HX1.out.2 0 _ rfl
        have xl := HX1.out.1
        have y0 := HX2.out.2 0 _ rfl
        have yl := HX2.out.1
        go_wp2_with fail
        refine (HSM.out u5 A1 A2 c1 c2 HA1.out HA2.out).mono ?_
        rintro _ u6 ⟨rfl, hb⟩
        have HB := hid (kb_tr HB.out hb.kb)
        clear hb x0 xl y0 yl
        go_wp2_with fail
        go_ret
        exact ⟨rfl, HB.out⟩
      · have b96 : ¬ (96 : Int) < (wide.size : Int) := by omega
        have HPA := hid (fun u (hb : KB w.heap.size w u) => (show parseG (bts wide) = (r, 0) by rw [HPW.out, if_neg hlw]) ▸ parse7_any wide u (HL.out.kb hb))
        go_wp2_with fail
        refine (HPA.out _ HB.out).mono ?_
        rintro _ w4 ⟨A3, c3, he, hal, hb⟩
        try dsimp only at he hal
        rw [HNR.out] at he
        subst he
        have HA3 := hid hal
        have HX1 := hid (HX1.out.kb hb)
        have HA1 := hid (HA1.out.kb hb)
        have HX2 := hid (HX2.out.kb hb)
        have HA2 := hid (HA2.out.kb hb)
        have HB := hid (kb_tr HB.out hb)
        clear hb hal HPA
        go_upto_region 14 with fail
        refine wp_name ?_
        intro u4 hu
        have HX1 := hid (show Box u4 g1 [.slice A1 nr c1] by rw [hu]; exact HX1.out.kb (kb_new _ _))
        have HA1 := hid (show Alts u4 A1 r by rw [hu]; exact HA1.out.kb (kb_new _ _))
        have HX2 := hid (show Box u4 g2 [.slice A2 nr c2] by rw [hu]; exact HX2.out.kb (kb_new _ _))
        have HA2 := hid (show Alts u4 A2 r by rw [hu]; exact HA2.out.kb (kb_new _ _))
        have HX3 := hid (show Box u4 w4.heap.size [.slice A3 nr c3] by rw [hu]; exact Box.new w4 [.slice A3 nr c3] 35)
        have HA3 := hid (show Alts u4 A3 r by rw [hu]; exact HA3.out.kb (kb_new _ _))
        have HB := hid (show KB w.heap.size w u4 by rw [hu]; exact kb_tr HB.out (kb_new _ _))
        clear hu
        generalize w4.heap.size = g3 at *
        go_wp2_with fail
        refine (awake7_any _ (HL.out.kb HB.out)).mono ?_
        rintro _ u5 ⟨rfl, hb⟩
        have HX1 := hid (HX1.out.kb hb)
        have HA1 := hid (HA1.out.kb hb)
        have HX2 := hid (HX2.out.kb hb)
        have HA2 := hid (HA2.out.kb hb)
        have HX3 := hid (HX3.out.kb hb)
        have HA3 := hid (HA3.out.kb hb)
        have HB := hid (kb_tr HB.out hb)
        clear hb
        have x0 := HX1.out.2 0 _ rfl
        have xl := HX1.out.1
        have y0 := HX2.out.2 0 _ rfl
        have yl := HX2.out.1
        go_wp2_with fail
        refine (HSM.out u5 A1 A2 c1 c2 HA1.out HA2.out).mono ?_
        rintro _ u6 ⟨rfl, hb⟩
        have HX1 := hid (HX1.out.kb hb.kb)
        have HA1 := hid (HA1.out.kb hb.kb)
        have HX3 := hid (HX3.out.kb hb.kb)
        have HA3 := hid (HA3.out.kb hb.kb)
        have HB := hid (kb_tr HB.out hb.kb)
        clear hb x0 xl y0 yl
        have x0 := HX1.out.2 0 _ rfl
        have xl := HX1.out.1
        have y0 := HX3.out.2 0 _ rfl
        have yl := HX3.out.1
        go_wp2_with fail
        refine (HSM.out u6 A1 A3 c1 c3 HA1.out HA3.out).mono ?_
        rintro _ u7 ⟨rfl, hb⟩
        have HB := hid (kb_tr HB.out hb.kb)
        clear hb x0 xl y0 yl
        go_wp2_with fail
        go_ret
        exact ⟨rfl, HB.out⟩
end Go.Proofs.YtplmlahpmnjneaaGreatDoor
