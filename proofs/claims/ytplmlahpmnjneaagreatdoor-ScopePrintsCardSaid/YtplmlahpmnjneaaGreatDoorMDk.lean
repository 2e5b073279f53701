import Derived.Test.YtplmlahpmnjneaaGreatDoorMDj
import Derived.Test.YtplmlahpmnjneaaGreatDoorMCt
import Derived.Test.YtplmlahpmnjneaaGreatDoorMSetR
import Derived.Deep.RegionWith
import Derived.Test.YtplmlahpmnjneaaGreatDoorMDm
namespace Go.Proofs.YtplmlahpmnjneaaGreatDoor
open Go.RowKit Go.Lib
open Rw
set_option linter.unusedVariables false
set_option linter.unusedSimpArgs false
set_option maxRecDepth 100000 in
set_option maxHeartbeats 4000000 in
theorem ralt_any (A : Option Addr) (c : Nat) (l : List CompL) (w : World) (h : Comps w A l) (hf : ∀ x ∈ l, CompL.fit x) (hn : l.length ≤ 6) : Calls Tryz.prog 69 #[.slice A l.length c] w (SetPost w (altS l).1 (altS l).2) := by
  have HF := hid hf
  have HA := hid h
  have HAS := hid (show altS l = (smakeL (relA l) (randL (relA l) (zoneA l))).1 from rfl)
  have HGR := hid (relA_good hf)
  have HGZ := hid (zoneA_good l)
  clear hf h
  generalize hn2 : l.length = n at *
  have HN := hid hn2
  clear hn2
  go_enter Tryz.func69, Tryz.ntmps69
  go_upto_region 1 with fail
  refine wp_name ?_
  intro w1 hw1
  have O2 := hid (show Own w.heap.size w1 w.heap.size [.slice none 0 0, .slice none 0 0] by rw [hw1]; exact Own.new w [.slice none 0 0, .slice none 0 0] 24 (Nat.le_refl _))
  have HB := hid (show Below w.heap.size w w1 by rw [hw1]; exact below_new _ _)
  clear hw1
  go_wp2_with fail
  refine (rsall_any w1).mono ?_
  rintro _ w2 ⟨A0, c0, B0, d0, rfl, hs0, -, hb⟩
  have HWH := hid hs0.1
  have O2 := hid (O2.out.below hb)
  have HB := hid (below_tr HB.out hb)
  clear hs0 hb
  have HA := hid (Lies.below HA.out HB.out)
  dsimp only [setV]
  have hfd : ∀ u : World, (Instr.field 24 (.agg #[.slice A0 1 c0, .slice B0 1 d0]) 0).run Tryz.prog u = .ok (.slice A0 1 c0) u := fun _ => by kernel_rfl
  go_wp2_with fail
  clear hfd
  go_loopw [5, 3, 4] (fun i v1 v2 wr => ∃ (k : Nat) (A1 A2 : Option Addr) (c1 c2 n1 n2 : Nat) (L1 L2 : List SpanL), i = .int .i64 k ∧ k ≤ n ∧ v1 = .slice A1 n1 c1 ∧ v2 = .slice A2 n2 c2 ∧ Hid (L1.length = n1) ∧ Hid (L2.length = n2) ∧ Hid (AltW n l k L1 L2) ∧ Hid (Spans wr A1 L1) ∧ Hid (Spans wr A2 L2) ∧ Hid (Below w2.heap.size w2 wr)) (fun i _ _ _ => n - (intOf i).toNat)
  case atStart => exact ⟨0, A0, none, c0, 0, 1, 0, wholeL, [], rfl, Nat.zero_le _, rfl, rfl, hid rfl, hid rfl, hid (AltW.start n l), HWH, hid Spans.nil, hid (Below.refl _ _)⟩
  case round =>
    obtain ⟨k, A1, A2, c1, c2, n1, n2, L1, L2, rfl, hk, rfl, rfl, HN1, HN2, HW, HS1, HS2, HB1⟩ := hrel
    by_cases hlt : k < n
    · have hlt' : k < l.length := by rw [HN.out]; exact hlt
      have i0 : (0 : Int) ≤ (k : Int) := by omega
      have i1 : (k : Int) < (n : Int) := by omega
      obtain ⟨b, off, hA, hbl, hrow⟩ := (Lies.below HA.out HB1.out).at7 hlt'
      subst hA
      have HCF := hid (HF.out _ (List.getElem_mem hlt'))
      have HWN := hid (HW.out.step hlt' HCF.out)
      generalize l[k] = x at *
      have HROW := hid hrow
      have HBL := hid hbl
      clear hrow
      obtain ⟨y0, y1, y2, y3, y4, y5, y6⟩ := HROW.out
      go_wp2_with fail
      refine (rregion_any x wr HCF.out).mono ?_
      rintro _ u2 ⟨A3, c3, rfl, hs3, hb⟩
      have HBU2 := hid hb
      have HRG := hid (regionX_good HCF.out)
      have HAND := hid (callN (rand_any u2.heap.size A1 A3 c1 c3 L1 (regionX x) u2 (HS1.out.below HBU2.out) hs3.1 HW.out.f1 HRG.out.1 (by have := HW.out.l1; have := HRG.out.2; omega) (Nat.le_refl _)))
      rw [HN1.out] at HAND
      clear hb hs3 y0 y1 y2 y3 y4 y5 y6
      generalize hr3 : (regionX x).length = n3 at *
      generalize hr5 : (randL L1 (regionX x)).length = n5 at *
      have HR5 := hid hr5
      clear hr5
      go_wp2_with fail
      refine HAND.out.mono ?_
      rintro _ u3 ⟨A5, c5, he5, hs5, hb⟩
      rw [HR5.out] at he5
      subst he5
      have HBU3 := hid (below_tr HBU2.out hb)
      have HS5 := hid hs5.1
      clear hb hs5 HAND
      obtain ⟨y0, y1, y2, y3, y4, y5, y6⟩ := row7_below HROW.out hbl HBU3.out
      have hbl3 : b < u3.heap.size := Nat.lt_of_lt_of_le hbl HBU3.out.size
      go_wp2_with fail
      refine (rzone_any x u3 HCF.out).mono ?_
      rintro _ u4 ⟨A4, c4, rfl, hs4, hb⟩
      have HBU4 := hid (below_tr HBU3.out hb)
      have HS5 := hid (HS5.out.below hb)
      have HZG := hid (zoneX_good x)
      have HOR := hid (callN (ror_any u4.heap.size A2 A4 c2 c4 L2 (zoneX x) u4 (HS2.out.below HBU4.out) hs4.1 HW.out.f2 HZG.out.1 (by have := HW.out.l2; have := HZG.out.2; omega) (Nat.le_refl _)))
      rw [HN2.out] at HOR
      clear hb hs4 y0 y1 y2 y3 y4 y5 y6 hbl3
      generalize hr4 : (zoneX x).length = n4 at *
      generalize hr6 : (rorL L2 (zoneX x)).length = n6 at *
      have HR6 := hid hr6
      clear hr6
      go_wp2_with fail
      refine HOR.out.mono ?_
      rintro _ u5 ⟨A6, c6, he6, hs6, hb⟩
      rw [HR6.out] at he6
      subst he6
      have HBU5 := hid (below_tr HBU4.out hb)
      have HS5 := hid (HS5.out.below hb)
      have HS6 := hid hs6.1
      clear hb hs6 HOR
      go_wp2_with fail
      go_roundw
      case rel => exact ⟨k + 1, A5, A6, c5, c6, n5, n6, _, _, by go_num, by omega, rfl, rfl, HR5, HR6, HWN, HS5, HS6, hid (below_tr HB1.out HBU5.out)⟩
      case measure => simp [intOf]; omega
    · obtain rfl : k = n := by omega
      have hge : ¬ (k : Int) < (k : Int) := by omega
      have HL := hid (HW.out.last (by rw [HN.out]; exact Nat.le_refl _))
      have e1 := HL.out.1
      have e2 := HL.out.2
      subst e1
      subst e2
      have HBW := hid (below_tr HB.out HB1.out)
      have hgr := HGR.out
      have hgz := HGZ.out
      try rw [HN.out] at hgr
      try rw [HN.out] at hgz
      have HAND := hid (callN (rand_any wr.heap.size A1 A2 c1 c2 (relA l) (zoneA l) wr HS1.out HS2.out hgr.1 hgz.1 (by have := hgr.2; have := hgz.2; omega) (Nat.le_refl _)))
      have HRZ := hid (randL_good hgr.1 hgz.1)
      have hrzl := randL_len hgr.1 hgz.1
      have hg1 := hgr.2
      have hg2 := hgz.2
      have HGR1 := hid hgr.1
      rw [HN1.out] at hg1
      rw [HN2.out] at hg2
      rw [HN1.out, HN2.out] at HAND hrzl
      clear hgr hgz
      generalize hr5 : (randL (relA l) (zoneA l)).length = n5 at *
      have HR5 := hid hr5
      clear hr5
      go_wp2_with fail
      refine HAND.out.mono ?_
      rintro _ u1 ⟨A3, c3, he3, hs3, hb⟩
      rw [HR5.out] at he3
      subst he3
      have HU1 := hid (Own.below (O2.out.below HB1.out) hb)
      have HMK := hid (rsmake_any A1 A3 c1 c3 (relA l) (randL (relA l) (zoneA l)) u1 (HS1.out.below hb) hs3.1 HGR1.out HRZ.out.1 (by rw [HN1.out]; omega) (by rw [HR5.out]; omega))
      rw [HN1.out, HR5.out] at HMK
      have HBW2 := hid (below_tr HBW.out hb)
      have hwu := HU1.out.box.1
      clear hb hs3 HAND
      generalize smakeL (relA l) (randL (relA l) (zoneA l)) = sm at *
      obtain ⟨⟨sm1, sm2⟩, okb⟩ := sm
      try dsimp only at HMK HAS
      generalize hp1 : sm1.length = p1 at *
      generalize hp2 : sm2.length = p2 at *
      have HP1 := hid hp1
      have HP2 := hid hp2
      clear hp1 hp2
      go_wp2_with fail
      refine HMK.out.mono ?_
      rintro _ u2 ⟨A4, c4, B4, d4, he, hsa, hsb, hb⟩
      try dsimp only at he hsa hsb
      rw [HP1.out, HP2.out] at he
      subst he
      have HSA := hid hsa
      have HSB := hid hsb
      have O2 := hid (HU1.out.below hb)
      have HBW3 := hid (below_tr HBW2.out hb)
      clear hsa hsb hb HMK HU1
      go_upto_region 9 with fail
      refine wp_name ?_
      intro u3 hu3
      have HX := hid (show Box u3 u2.heap.size [.slice A4 p1 c4, .slice B4 p2 d4] by rw [hu3]; exact Box.new u2 [.slice A4 p1 c4, .slice B4 p2 d4] 24)
      have HSA := hid (show SpanB u3 u1.heap.size A4 sm1 by rw [hu3]; exact HSA.out.below (below_new _ _))
      have HSB := hid (show SpanB u3 u1.heap.size B4 sm2 by rw [hu3]; exact HSB.out.below (below_new _ _))
      have O2 := hid (show Own w.heap.size u3 w.heap.size [.slice none 0 0, .slice none 0 0] by rw [hu3]; exact O2.out.alloc _)
      have HBW4 := hid (show Below w.heap.size w u3 by rw [hu3]; exact below_tr HBW3.out (below_new _ _))
      clear hu3
      obtain ⟨x0, x1⟩ := HX.out.get2
      have xl := HX.out.1
      obtain ⟨y0, y1⟩ := O2.out.box.get2
      have sf : ∀ j, u3.frozen? ⟨w.heap.size, j, none⟩ = false := O2.out.soft
      have yl := O2.out.box.1
      go_wp2_with fail
      refine body_name ?_
      intro w9 hw9
      have O9 : Own w.heap.size w9 w.heap.size [.slice A4 p1 c4, .slice B4 p2 d4] := by rw [hw9]; exact O2.out.set2 _ _
      have S9 : SpanB w9 u1.heap.size A4 sm1 := by rw [hw9]; exact spanB_set2 HSA.out hwu _ _
      have T9 : SpanB w9 u1.heap.size B4 sm2 := by rw [hw9]; exact spanB_set2 HSB.out hwu _ _
      have B9 : Below w.heap.size w w9 := by rw [hw9]; exact below_set2 HBW4.out (Nat.le_refl _) _ _
      clear hw9
      obtain ⟨k0, k1⟩ := O9.box.get2
      refine bodyPost_ret (v := setV A4 p1 c4 B4 p2 d4) (by simp [results, Tryz.results69, go_sem, k0, k1, setV]) rfl ?_
      rw [HAS.out]
      exact ⟨A4, c4, B4, d4, by rw [HP1.out, HP2.out], S9.low (Nat.le_of_lt hwu), T9.low (Nat.le_of_lt hwu), B9⟩
end Go.Proofs.YtplmlahpmnjneaaGreatDoor
namespace Go.Proofs.YtplmlahpmnjneaaGreatDoor
open Go.RowKit Go.Lib
open Rw
set_option linter.unusedVariables false
set_option linter.unusedSimpArgs false
theorem code_name {P : Program} {c : Code} {Q : Exit → Act → World → Prop} {a : Act} {w : World} (h : ∀ w', w' = w → c.wp P Q a w') : c.wp P Q a w := h w rfl
set_option maxRecDepth 100000 in
set_option maxHeartbeats 8000000 in
theorem rset7_any (A : Option Addr) (c : Nat) (r : List (List CompL)) (w : World) (hg : First w) (h : Alts w A r) (hf : fitG r) (hn : r.length ≤ 4398046511104) (hm : ∀ a ∈ r, a.length ≤ 4398046511104) : Calls Tryz.prog 33 #[rangeV A r.length c] w (SetPost w (setG r).1 (setG r).2) := by
  have HMAY := hid (fun u (hb : Below w.heap.size w u) => rmay7_any A c r u (h.below hb) hf hn hm)
  have HG := hid hg
  have HA := hid h
  have HF := hid hf
  have HSN := hid (setG_no (r := r))
  have HSY := hid (setG_yes (r := r))
  have HMP := hid (mayG_parts (r := r))
  clear h hf hm hg
  have HLE := hn
  generalize hn2 : r.length = n at *
  have HN := hid hn2
  clear hn hn2
  go_enter Tryz.func33, Tryz.ntmps33
  go_upto_region 1 with fail
  refine wp_name ?_
  intro w1 hw1
  have HX := hid (show Box w1 w.heap.size [.slice A n c] by rw [hw1]; exact (Box.new w [.slice A n c] 35).below (below_new _ _))
  have O2 := hid (show Own w.heap.size w1 (w.heap.size + 1) [.slice none 0 0, .slice none 0 0] by rw [hw1]; exact Own.new2 w _ [.slice none 0 0, .slice none 0 0] 24 (Nat.le_refl _))
  have HB := hid (show Below w.heap.size w w1 by rw [hw1]; exact below_tr (below_new _ _) (below_new _ _))
  clear hw1
  have hg2 : w.heap.size ≤ w.heap.size + 1 := Nat.le_succ _
  have hn12 : w.heap.size ≠ w.heap.size + 1 := by omega
  generalize w.heap.size + 1 = g2 at *
  go_wp2_with fail
  refine (rsnone_any w1).mono ?_
  rintro _ w2 ⟨rfl, hb⟩
  have HX := hid (HX.out.below hb)
  have O2 := hid (O2.out.below hb)
  have HB := hid (below_tr HB.out hb)
  clear hb
  go_upto_region 2 with fail
  refine wp_name ?_
  intro w3 hw3
  have hn23 : g2 ≠ w2.heap.size := by have := O2.out.box.1; omega
  have hn13 : w.heap.size ≠ w2.heap.size := by have := HX.out.1; omega
  have hlt23 : g2 < w2.heap.size + 1 := Nat.lt_succ_of_lt O2.out.box.1
  have O3 := hid (show Own w.heap.size w3 w2.heap.size [.slice none 0 0, .slice none 0 0] by rw [hw3]; exact Own.new w2 [.slice none 0 0, .slice none 0 0] 24 HB.out.size)
  have HX := hid (show Box w3 w.heap.size [.slice A n c] by rw [hw3]; exact HX.out.below (below_new _ _))
  have O2 := hid (show Own w.heap.size w3 g2 [.slice none 0 0, .slice none 0 0] by rw [hw3]; exact O2.out.alloc _)
  have HB := hid (show Below w.heap.size w w3 by rw [hw3]; exact below_tr HB.out (below_new _ _))
  clear hw3
  generalize w2.heap.size = g3 at *
  have x0 := HX.out.2 0 _ rfl
  have xl := HX.out.1
  go_wp2_with fail
  refine (HMAY.out _ HB.out).mono ?_
  rintro _ w4 ⟨rfl, hb⟩
  have HX := hid (HX.out.below hb)
  have O2 := hid (O2.out.below hb)
  have O3 := hid (O3.out.below hb)
  have HB := hid (below_tr HB.out hb)
  clear hb x0 xl HMAY
  cases hmg : mayG r
  · have HE := hid (HSN.out hmg)
    obtain ⟨x0, x1⟩ := O3.out.box.get2
    have xl := O3.out.box.1
    obtain ⟨y0, y1⟩ := O2.out.box.get2
    have sf : ∀ j, w4.frozen? ⟨g2, j, none⟩ = false := O2.out.soft
    have yl := O2.out.box.1
    go_wp2_with fail
    refine body_name ?_
    intro w9 hw9
    have O9 : Own w.heap.size w9 g2 [.slice none 0 0, .slice none 0 0] := by rw [hw9]; exact O2.out.set2 _ _
    have B9 : Below w.heap.size w w9 := by rw [hw9]; exact below_set2 HB.out hg2 _ _
    clear hw9
    obtain ⟨k0, k1⟩ := O9.box.get2
    refine bodyPost_ret (v := setV none 0 0 none 0 0) (by simp [results, Tryz.results33, go_sem, k0, k1, setV]) rfl ?_
    rw [HE.out]
    exact ⟨none, 0, none, 0, rfl, SpanB.nil _ _, SpanB.nil _ _, B9⟩
  · have HE := hid (HSY.out hmg)
    have HP := hid (HMP.out hmg)
    have hn6 := HP.out.1
    clear hmg
    go_upto_block 0 with fail
    go_wp2_with fail
    go_loopw [4] (fun i wr => ∃ (k : Nat) (A1 B1 : Option Addr) (c1 d1 n1 m1 : Nat) (o : List SpanL × List SpanL), i = .int .i64 k ∧ k ≤ n ∧ Hid (o.1.length = n1) ∧ Hid (o.2.length = m1) ∧ Hid (OrW (r.map altS) k o) ∧ Hid (SpanB wr (g3 + 1) A1 o.1) ∧ Hid (SpanB wr (g3 + 1) B1 o.2) ∧ Hid (Own w.heap.size wr g3 [.slice A1 n1 c1, .slice B1 m1 d1]) ∧ Hid (Own w.heap.size wr g2 [.slice none 0 0, .slice none 0 0]) ∧ Hid (Box wr w.heap.size [.slice A n c]) ∧ Hid (Below w.heap.size w wr)) (fun i _ => n - (intOf i).toNat)
    case atStart => exact ⟨0, none, none, 0, 0, 0, 0, ([], []), rfl, Nat.zero_le _, hid rfl, hid rfl, hid (OrW.start _), hid (SpanB.nil _ _), hid (SpanB.nil _ _), O3, O2, HX, HB⟩
    case round =>
      obtain ⟨k, A1, B1, c1, d1, n1, m1, o, rfl, hk, HN1, HM1, HW, HS1, HS2, O3, O2, HX, HB⟩ := hrel
      have x0 := HX.out.2 0 _ rfl
      have xl := HX.out.1
      by_cases hlt : k < n
      · have hlt' : k < r.length := by rw [HN.out]; exact hlt
        have i0 : (0 : Int) ≤ (k : Int) := by omega
        have i1 : (k : Int) < (n : Int) := by omega
        obtain ⟨b, off, Ai, ci, hA, hbl, hcell, hcs⟩ := HA.out.at_ hlt'
        subst hA
        have HHC := hid hcell
        have HCS := hid hcs
        have HBL := hid hbl
        have HAF := hid (HF.out _ (List.getElem_mem hlt'))
        have ha6 := HP.out.2 _ (List.getElem_mem hlt')
        have HWN := hid (HW.out.step (by rw [List.length_map]; exact hlt') (by rw [List.getElem_map]; exact altS_sgood HAF.out ha6))
        rw [List.getElem_map] at HWN
        clear hcs hcell
        generalize r[k] = a at *
        have HALT0 := hid (fun u (hb : Below w.heap.size w u) => ralt_any Ai ci a u (HCS.out.below hb) HAF.out ha6)
        have HSG := hid (altS_sgood HAF.out ha6)
        generalize hm : a.length = m at *
        generalize altS a = s at *
        obtain ⟨s1, s2⟩ := s
        dsimp only at HALT0 HSG HWN
        have HALT1 := hid (fun u (hb : Below w.heap.size w u) => (HALT0.out u hb).mono (fun _ _ hp => SetBack.of (n := 40) hp HSG.out.f1 HSG.out.f2 HSG.out.l1 HSG.out.l2 HSG.out.val))
        generalize ho2 : orS o.1 o.2 s1 s2 = o2 at *
        have HOR0 := hid (fun u (hb : Below wr.heap.size wr u) C c2 D d2 (hk : SetAt 40 u C s1 D s2) => law_orR (1 + 2 * (41 * k + 40)) c1 d1 c2 d2 ((HG.out.below HB.out).below hb) (HW.out.good.at_ (HS1.out.1.below hb) (HS2.out.1.below hb)) hk (Nat.le_refl _) (by omega))
        simp only [ho2] at HOR0
        obtain ⟨p1, p2⟩ := o2
        dsimp only at HWN HOR0
        generalize hq1 : s1.length = q1 at *
        generalize hq2 : s2.length = q2 at *
        generalize hr1 : p1.length = r1 at *
        generalize hr2 : p2.length = r2 at *
        have HQ1 := hid hq1
        have HQ2 := hid hq2
        have HR1 := hid hr1
        have HR2 := hid hr2
        have HALT := hid (fun u (hb : Below wr.heap.size wr u) => callBk HQ1.out HQ2.out (HALT1.out u (below_tr HB.out hb)))
        have HOR := hid (fun u (hb : Below wr.heap.size wr u) C c2 D d2 (hk : SetAt 40 u C s1 D s2) => callBk HR1.out HR2.out (HOR0.out u hb C c2 D d2 hk))
        simp only [HN1.out, HM1.out, HQ1.out, HQ2.out] at HOR
        have HSB0 := hid (fun u (hb : Below wr.heap.size wr u) => And.intro (O3.out.box.below hb) (O3.out.soft.below O3.out.box.1 hb))
        have HXB0 := hid (fun u (hb : Below wr.heap.size wr u) => HX.out.below hb)
        have HHB0 := hid (fun u (hb : Below wr.heap.size wr u) => ((below_tr HB.out hb).cell (p := ⟨b, off + k, none⟩) HBL.out).trans HHC.out)
        clear hq1 hq2 hr1 hr2 ho2 HALT0 HALT1 HOR0 HSG hbl
        have hcell := HHB0.out wr (Below.refl _ _)
        obtain ⟨y0, y1⟩ := O3.out.box.get2
        have yl := O3.out.box.1
        have hbl : b < wr.heap.size := Nat.lt_of_lt_of_le HBL.out HB.out.size
        go_upto_region 7 with fail
        go_region_with (first
          | (go_at_call 69; (with_reducible refine (HALT.out _ (by first | assumption | exact (Below.refl _ _).drew)).mono ?_); rintro _ wa ⟨Awa, cwa, Bwa, dwa, rfl, swa, -, -, kwa⟩; have hbwa : Below wr.heap.size wr wa := below_tr (by first | assumption | exact (Below.refl _ _).drew) kwa; obtain ⟨a0, a1⟩ := (HSB0.out _ hbwa).1.get2)
          | (go_at_call 44; (with_reducible refine (HOR.out _ (by first | assumption | exact (Below.refl _ _).drew) _ _ _ _ swa).mono ?_); rintro _ wb ⟨Awb, cwb, Bwb, dwb, rfl, swb, twb, uwb, kwb⟩; have hbwb : Below wr.heap.size wr wb := below_tr (by first | assumption | exact (Below.refl _ _).drew) kwb; obtain ⟨b0, b1⟩ := (HSB0.out _ hbwb).1.get2; have b2 : ∀ j, wb.frozen? ⟨g3, j, none⟩ = false := (HSB0.out _ hbwb).2; have b3 := (HSB0.out _ hbwb).1.1))
        all_goals
          clear y0 y1 a0 a1 b0 b1 b2 b3 x0 xl yl hcell hbl
          refine pname ?_
          intro w6 hw6
          replace hw6 : w6 = (wb.setCell ⟨g3, 0, none⟩ (.slice Awb r1 cwb)).setCell ⟨g3, 1, none⟩ (.slice Bwb r2 dwb) := hw6
          have hga : g3 + 1 ≤ wa.heap.size := Nat.lt_of_lt_of_le O3.out.box.1 hbwa.size
          have O36 := hid (show Own w.heap.size w6 g3 [.slice Awb r1 cwb, .slice Bwb r2 dwb] by rw [hw6]; exact (O3.out.below hbwb).set2 _ _)
          have O26 := hid (show Own w.heap.size w6 g2 [.slice none 0 0, .slice none 0 0] by rw [hw6]; exact ((O2.out.below hbwb).other hn23 _).other hn23 _)
          have HX6 := hid (show Box w6 w.heap.size [.slice (some ⟨b, off, none⟩) n c] by rw [hw6]; exact ((HX.out.below hbwb).putOther hn13 _).putOther hn13 _)
          have HS16 := hid (show SpanB w6 (g3 + 1) Awb p1 by rw [hw6]; exact spanB_set2 (twb.low hga) (Nat.lt_succ_self _) _ _)
          have HS26 := hid (show SpanB w6 (g3 + 1) Bwb p2 by rw [hw6]; exact spanB_set2 (uwb.low hga) (Nat.lt_succ_self _) _ _)
          have HB6 := hid (show Below w.heap.size w w6 by rw [hw6]; exact below_set2 (below_tr HB.out hbwb) O3.out.low _ _)
          clear hw6 swb twb uwb kwa kwb hbwa hbwb swa HSB0 HXB0 HHB0 HALT HOR HS1 HS2 O3 O2 HX HB
          go_wp2_with fail
          go_roundw
          case rel => exact ⟨k + 1, Awb, Bwb, cwb, dwb, r1, r2, (p1, p2), by go_num, by omega, HR1, HR2, HWN, HS16, HS26, O36, O26, HX6, HB6⟩
          case measure => simp [intOf]; omega
      · obtain rfl : k = n := by omega
        have hge : ¬ (k : Int) < (k : Int) := by omega
        have HEE := hid (HW.out.last (by rw [List.length_map, HN.out]; exact Nat.le_refl _))
        obtain ⟨z0, z1⟩ := O3.out.box.get2
        have zl := O3.out.box.1
        obtain ⟨y0, y1⟩ := O2.out.box.get2
        have sf : ∀ j, wr.frozen? ⟨g2, j, none⟩ = false := O2.out.soft
        have yl := O2.out.box.1
        have HLO := hid O3.out.low
        have HL2 := hid hn23
        go_wp2_with fail
        refine body_name ?_
        intro w9 hw9
        have hwg : w.heap.size ≤ g3 + 1 := by have := HLO.out; omega
        have O9 : Own w.heap.size w9 g2 [.slice A1 n1 c1, .slice B1 m1 d1] := by rw [hw9]; exact O2.out.set2 _ _
        have S9 : SpanB w9 w.heap.size A1 o.1 := by rw [hw9]; exact (spanB_set2 (k := g2) HS1.out hlt23 _ _).low hwg
        have T9 : SpanB w9 w.heap.size B1 o.2 := by rw [hw9]; exact (spanB_set2 (k := g2) HS2.out hlt23 _ _).low hwg
        have B9 : Below w.heap.size w w9 := by rw [hw9]; exact below_set2 HB.out hg2 _ _
        clear hw9
        obtain ⟨k0, k1⟩ := O9.box.get2
        refine bodyPost_ret (v := setV A1 n1 c1 B1 m1 d1) (by simp [results, Tryz.results33, go_sem, k0, k1, setV]) rfl ?_
        rw [HE.out, ← HEE.out]
        exact ⟨A1, c1, B1, d1, by rw [HN1.out, HM1.out], S9, T9, B9⟩
def OfK (w : World) (p : (List SpanL × List SpanL) × Int) (e : Ending) (w' : World) : Prop := ∃ A c B d, e = .returned (.tuple #[setV A p.1.1.length c B p.1.2.length d, .int .i64 p.2]) ∧ SpanB w' w.heap.size A p.1.1 ∧ SpanB w' w.heap.size B p.1.2 ∧ KB w.heap.size w w'
set_option maxRecDepth 100000 in
set_option maxHeartbeats 4000000 in
theorem of7_any (s : ByteArray) (w : World) (hL : Laid w) : Calls Tryz.prog 24 #[.string s] w (OfK w (ofG (bts s))) := by
  have HL := hid hL
  clear hL
  have HC := hid (parseG_cases (bts s))
  have HF := hid (parseG_fit (bts s))
  have HOF := hid (show ofG (bts s) = if (parseG (bts s)).2 = 0 then (setG (parseG (bts s)).1, 0) else (([], []), (parseG (bts s)).2) from rfl)
  go_enter Tryz.func24, Tryz.ntmps24
  go_upto_region 1 with fail
  refine wp_name ?_
  intro w1 hw1
  have O2 := hid (show Own w.heap.size w1 w.heap.size [.slice none 0 0, .slice none 0 0] by rw [hw1]; exact Own.new w [.slice none 0 0, .slice none 0 0] 24 (Nat.le_refl _))
  have HB := hid (show KB w.heap.size w w1 by rw [hw1]; exact kb_new _ _)
  clear hw1
  have HPA := hid (parse7_any s w1 (HL.out.kb HB.out))
  generalize parseG (bts s) = p at *
  obtain ⟨r, e⟩ := p
  dsimp only at HC HF HOF HPA
  go_wp2_with fail
  refine HPA.out.mono ?_
  rintro _ w2 ⟨A, c, rfl, hal, hb⟩
  dsimp only at hal ⊢
  have HAL := hid hal
  have O2 := hid (O2.out.kb hb)
  have HB := hid (kb_tr HB.out hb)
  clear hal hb HPA
  generalize hn : r.length = n at *
  have HN := hid hn
  clear hn
  go_upto_if 12 with fail
  refine wp_name ?_
  intro u1 hu1
  have HX := hid (show Box u1 w2.heap.size [.slice A n c] by rw [hu1]; exact Box.new w2 [.slice A n c] 35)
  have HAL := hid (show Alts u1 A r by rw [hu1]; exact HAL.out.below (below_new _ _))
  have O2 := hid (show Own w.heap.size u1 w.heap.size [.slice none 0 0, .slice none 0 0] by rw [hu1]; exact O2.out.alloc _)
  have HB := hid (show KB w.heap.size w u1 by rw [hu1]; exact kb_tr HB.out (kb_new _ _))
  clear hu1
  rcases HC.out with ⟨h0, hm⟩ | ⟨h0, hp, h36⟩
  · subst h0
    have HOE := hid (HOF.out.trans (if_pos rfl))
    have HMP := hid (mayG_parts hm)
    have HST := hid (set7_any A c r u1 (HL.out.kb HB.out) HAL.out HF.out (by have := HMP.out.1; omega) (fun a ha => by have := HMP.out.2 a ha; omega))
    rw [HN.out] at HST
    clear hm
    have x0 := HX.out.2 0 _ rfl
    have xl := HX.out.1
    generalize setG r = sg at *
    obtain ⟨s1, s2⟩ := sg
    dsimp only at HST HOE
    generalize hq1 : s1.length = q1 at *
    generalize hq2 : s2.length = q2 at *
    have HQ1 := hid hq1
    have HQ2 := hid hq2
    clear hq1 hq2
    go_wp2_with fail
    refine HST.out.mono ?_
    rintro _ u2 ⟨A6, c6, B6, d6, he, hs5, hs6, hb⟩
    rw [HQ1.out, HQ2.out] at he
    subst he
    have HS5 := hid hs5
    have HS6 := hid hs6
    have hwu : w.heap.size < u1.heap.size := O2.out.box.1
    have O2 := hid (O2.out.kb hb)
    have HB := hid (kb_tr HB.out hb)
    clear hs5 hs6 hb HST x0 xl
    obtain ⟨y0, y1⟩ := O2.out.box.get2
    have sf : ∀ j, u2.frozen? ⟨w.heap.size, j, none⟩ = false := O2.out.soft
    have yl := O2.out.box.1
    go_wp2_with fail
    refine body_name ?_
    intro w9 hw9
    have O9 : Own w.heap.size w9 w.heap.size [.slice A6 q1 c6, .slice B6 q2 d6] := by rw [hw9]; exact O2.out.set2 _ _
    have S9 : SpanB w9 u1.heap.size A6 s1 := by rw [hw9]; exact spanB_set2 HS5.out hwu _ _
    have T9 : SpanB w9 u1.heap.size B6 s2 := by rw [hw9]; exact spanB_set2 HS6.out hwu _ _
    have B9 : KB w.heap.size w w9 := by rw [hw9]; exact kb_set2 HB.out (Nat.le_refl _) _ _
    clear hw9
    obtain ⟨k0, k1⟩ := O9.box.get2
    refine bodyPost_ret (v := .tuple #[setV A6 q1 c6 B6 q2 d6, .int .i64 0]) (by simp [results, Tryz.results24, go_sem, k0, k1, setV]) rfl ?_
    rw [HOE.out]
    exact ⟨A6, c6, B6, d6, by rw [HQ1.out, HQ2.out], S9.low (Nat.le_of_lt hwu), T9.low (Nat.le_of_lt hwu), B9⟩
  · have HOE := hid (HOF.out.trans (if_neg h0))
    have h0b : (e == 0) = false := by rw [beq_eq_false_iff_ne]; exact h0
    have h0c : (e != 0) = true := by rw [bne_iff_ne]; exact h0
    clear h0 hp h36
    go_wp2_with fail
    refine (snone_any u1).mono ?_
    rintro _ u2 ⟨rfl, hb⟩
    have O2 := hid (O2.out.below hb)
    have HB := hid (kb_tr HB.out hb.kb)
    clear hb
    obtain ⟨y0, y1⟩ := O2.out.box.get2
    have sf : ∀ j, u2.frozen? ⟨w.heap.size, j, none⟩ = false := O2.out.soft
    have yl := O2.out.box.1
    go_wp2_with fail
    refine body_name ?_
    intro w9 hw9
    have O9 : Own w.heap.size w9 w.heap.size [.slice none 0 0, .slice none 0 0] := by rw [hw9]; exact O2.out.set2 _ _
    have B9 : KB w.heap.size w w9 := by rw [hw9]; exact kb_set2 HB.out (Nat.le_refl _) _ _
    clear hw9
    obtain ⟨k0, k1⟩ := O9.box.get2
    refine bodyPost_ret (v := .tuple #[setV none 0 0 none 0 0, .int .i64 e]) (by simp [results, Tryz.results24, go_sem, k0, k1, setV]) rfl ?_
    rw [HOE.out]
    exact ⟨none, 0, none, 0, rfl, SpanB.nil _ _, SpanB.nil _ _, B9⟩
set_option maxRecDepth 100000 in
set_option maxHeartbeats 4000000 in
theorem rof7_any (s : ByteArray) (w : World) (hg : First w) : Calls Tryz.prog 25 #[.string s] w (OfK w (ofG (bts s))) := by
  have HG := hid hg
  clear hg
  have HC := hid (parseG_cases (bts s))
  have HF := hid (parseG_fit (bts s))
  have HOF := hid (show ofG (bts s) = if (parseG (bts s)).2 = 0 then (setG (parseG (bts s)).1, 0) else (([], []), (parseG (bts s)).2) from rfl)
  go_enter Tryz.func25, Tryz.ntmps25
  go_upto_region 1 with fail
  refine wp_name ?_
  intro w1 hw1
  have O2 := hid (show Own w.heap.size w1 w.heap.size [.slice none 0 0, .slice none 0 0] by rw [hw1]; exact Own.new w [.slice none 0 0, .slice none 0 0] 24 (Nat.le_refl _))
  have HB := hid (show KB w.heap.size w w1 by rw [hw1]; exact kb_new _ _)
  clear hw1
  have HPA := hid (rparse7_any s w1)
  generalize parseG (bts s) = p at *
  obtain ⟨r, e⟩ := p
  dsimp only at HC HF HOF HPA
  go_wp2_with fail
  refine HPA.out.mono ?_
  rintro _ w2 ⟨A, c, rfl, hal, hb⟩
  dsimp only at hal ⊢
  have HAL := hid hal
  have O2 := hid (O2.out.kb hb)
  have HB := hid (kb_tr HB.out hb)
  clear hal hb HPA
  generalize hn : r.length = n at *
  have HN := hid hn
  clear hn
  go_upto_if 12 with fail
  refine wp_name ?_
  intro u1 hu1
  have HX := hid (show Box u1 w2.heap.size [.slice A n c] by rw [hu1]; exact Box.new w2 [.slice A n c] 35)
  have HAL := hid (show Alts u1 A r by rw [hu1]; exact HAL.out.below (below_new _ _))
  have O2 := hid (show Own w.heap.size u1 w.heap.size [.slice none 0 0, .slice none 0 0] by rw [hu1]; exact O2.out.alloc _)
  have HB := hid (show KB w.heap.size w u1 by rw [hu1]; exact kb_tr HB.out (kb_new _ _))
  clear hu1
  rcases HC.out with ⟨h0, hm⟩ | ⟨h0, hp, h36⟩
  · subst h0
    have HOE := hid (HOF.out.trans (if_pos rfl))
    have HMP := hid (mayG_parts hm)
    have HST := hid (rset7_any A c r u1 (HG.out.kb HB.out) HAL.out HF.out (by have := HMP.out.1; omega) (fun a ha => by have := HMP.out.2 a ha; omega))
    rw [HN.out] at HST
    clear hm
    have x0 := HX.out.2 0 _ rfl
    have xl := HX.out.1
    generalize setG r = sg at *
    obtain ⟨s1, s2⟩ := sg
    dsimp only at HST HOE
    generalize hq1 : s1.length = q1 at *
    generalize hq2 : s2.length = q2 at *
    have HQ1 := hid hq1
    have HQ2 := hid hq2
    clear hq1 hq2
    go_wp2_with fail
    refine HST.out.mono ?_
    rintro _ u2 ⟨A6, c6, B6, d6, he, hs5, hs6, hb⟩
    rw [HQ1.out, HQ2.out] at he
    subst he
    have HS5 := hid hs5
    have HS6 := hid hs6
    have hwu : w.heap.size < u1.heap.size := O2.out.box.1
    have O2 := hid (O2.out.kb hb.kb)
    have HB := hid (kb_tr HB.out hb.kb)
    clear hs5 hs6 hb HST x0 xl
    obtain ⟨y0, y1⟩ := O2.out.box.get2
    have sf : ∀ j, u2.frozen? ⟨w.heap.size, j, none⟩ = false := O2.out.soft
    have yl := O2.out.box.1
    go_wp2_with fail
    refine body_name ?_
    intro w9 hw9
    have O9 : Own w.heap.size w9 w.heap.size [.slice A6 q1 c6, .slice B6 q2 d6] := by rw [hw9]; exact O2.out.set2 _ _
    have S9 : SpanB w9 u1.heap.size A6 s1 := by rw [hw9]; exact spanB_set2 HS5.out hwu _ _
    have T9 : SpanB w9 u1.heap.size B6 s2 := by rw [hw9]; exact spanB_set2 HS6.out hwu _ _
    have B9 : KB w.heap.size w w9 := by rw [hw9]; exact kb_set2 HB.out (Nat.le_refl _) _ _
    clear hw9
    obtain ⟨k0, k1⟩ := O9.box.get2
    refine bodyPost_ret (v := .tuple #[setV A6 q1 c6 B6 q2 d6, .int .i64 0]) (by simp [results, Tryz.results25, go_sem, k0, k1, setV]) rfl ?_
    rw [HOE.out]
    exact ⟨A6, c6, B6, d6, by rw [HQ1.out, HQ2.out], S9.low (Nat.le_of_lt hwu), T9.low (Nat.le_of_lt hwu), B9⟩
  · have HOE := hid (HOF.out.trans (if_neg h0))
    have h0b : (e == 0) = false := by rw [beq_eq_false_iff_ne]; exact h0
    have h0c : (e != 0) = true := by rw [bne_iff_ne]; exact h0
    clear h0 hp h36
    go_wp2_with fail
    refine (rsnone_any u1).mono ?_
    rintro _ u2 ⟨rfl, hb⟩
    have O2 := hid (O2.out.below hb)
    have HB := hid (kb_tr HB.out hb.kb)
    clear hb
    obtain ⟨y0, y1⟩ := O2.out.box.get2
    have sf : ∀ j, u2.frozen? ⟨w.heap.size, j, none⟩ = false := O2.out.soft
    have yl := O2.out.box.1
    go_wp2_with fail
    refine body_name ?_
    intro w9 hw9
    have O9 : Own w.heap.size w9 w.heap.size [.slice none 0 0, .slice none 0 0] := by rw [hw9]; exact O2.out.set2 _ _
    have B9 : KB w.heap.size w w9 := by rw [hw9]; exact kb_set2 HB.out (Nat.le_refl _) _ _
    clear hw9
    obtain ⟨k0, k1⟩ := O9.box.get2
    refine bodyPost_ret (v := .tuple #[setV none 0 0 none 0 0, .int .i64 e]) (by simp [results, Tryz.results25, go_sem, k0, k1, setV]) rfl ?_
    rw [HOE.out]
    exact ⟨none, 0, none, 0, rfl, SpanB.nil _ _, SpanB.nil _ _, B9⟩
end Go.Proofs.YtplmlahpmnjneaaGreatDoor
namespace Go.Proofs.YtplmlahpmnjneaaGreatDoor
open Go.RowKit Go.Lib
open Rw
set_option linter.unusedVariables false
set_option linter.unusedSimpArgs false
theorem mem_dropWhile_of {p : UInt8 → Bool} {b : UInt8} (hb : p b = false) : ∀ {l : List UInt8}, b ∈ l → b ∈ l.dropWhile p
  | [], h => by cases h
  | a :: l, h => by
    rw [List.dropWhile_cons]
    split
    · rename_i ha
      rcases List.mem_cons.1 h with rfl | h
      · rw [hb] at ha; cases ha
      · exact mem_dropWhile_of hb h
    · exact h
theorem mem_trimL {l : List UInt8} {b c : UInt8} (hb : b ≠ c) (h : b ∈ l) : b ∈ Lib.trimLeftB l c := mem_dropWhile_of (by simpa using hb) h
theorem mem_trimR {b c : UInt8} (hb : b ≠ c) : ∀ (n : Nat) {l : List UInt8}, l.length = n → b ∈ l → b ∈ Lib.trimRightB l c
  | 0, l, hn, h => by rw [List.eq_nil_of_length_eq_zero hn] at h; cases h
  | n + 1, l, hn, h => by
    have hne : l ≠ [] := fun e => by rw [e] at hn; cases hn
    have e := List.dropLast_concat_getLast hne
    rw [← e, trimRight_snoc]
    split
    · rename_i ha
      rw [← e] at h
      rcases List.mem_append.1 h with h | h
      · exact mem_trimR hb n (by rw [List.length_dropLast, hn]; rfl) h
      · rw [List.mem_singleton.1 h] at hb
        exact absurd (by simpa using ha) hb
    · rw [e]; exact h
theorem mem_trimB {l : List UInt8} {b c : UInt8} (hb : b ≠ c) (h : b ∈ l) : b ∈ Lib.trimB l c := by
  rw [← trim_swap]
  exact mem_trimR hb _ rfl (mem_trimL hb h)
theorem parseX_no {s : List UInt8} {c : CompL} (h : parseX s = some c) : (124 : UInt8) ∉ s := by
  intro hm
  have hs := parseX_sound h
  have hno := printX_no (b := 124) (by simp) c
  rcases hs.2 with e | e
  · rw [e] at hno; exact hno hm
  · rw [e] at hno; exact hno (List.mem_cons_of_mem _ hm)
theorem compsP_no : ∀ {ys : List (List UInt8)} {l : List CompL}, compsP ys = some l → ∀ y ∈ ys, (124 : UInt8) ∉ y
  | [], _, _, y, hy => by cases hy
  | z :: ys, l, h, y, hy => by
    rw [compsP] at h
    cases hp : parseX (Lib.trimB z 32) with
    | none => rw [hp] at h; cases h
    | some d =>
      rw [hp] at h
      cases hq : compsP ys with
      | none => rw [hq] at h; cases h
      | some m =>
        rcases List.mem_cons.1 hy with rfl | hy
        · exact fun k => parseX_no hp (mem_trimB (by decide) k)
        · exact compsP_no hq y hy
theorem altsC_no : ∀ {xs : List (List UInt8)} {r : List (List CompL)}, altsC xs = some r → ∀ x ∈ xs, (124 : UInt8) ∉ x
  | [], _, _, y, hy => by cases hy
  | z :: xs, r, h, y, hy => by
    rw [altsC] at h
    cases hp : compsP (splitL 44 [] z) with
    | none => rw [hp] at h; cases h
    | some d =>
      rw [hp] at h
      cases hq : altsC xs with
      | none => rw [hq] at h; cases h
      | some m =>
        rcases List.mem_cons.1 hy with rfl | hy
        · have e := splitL_join_back 44 y []
          rw [List.nil_append] at e
          rw [← e]
          exact joinG_no (b := 124) (sep := [44]) (by decide) (fun w hw => compsP_no hp w hw)
        · exact altsC_no hq y hy
theorem altsC_append : ∀ {xs ys : List (List UInt8)} {r t : List (List CompL)}, altsC xs = some r → altsC ys = some t → altsC (xs ++ ys) = some (r ++ t)
  | [], ys, r, t, h, k => by
    simp only [altsC, Option.some.injEq] at h
    subst h; exact k
  | z :: xs, ys, r, t, h, k => by
    rw [altsC] at h
    cases hp : compsP (splitL 44 [] z) with
    | none => rw [hp] at h; cases h
    | some d =>
      rw [hp] at h
      cases hq : altsC xs with
      | none => rw [hq] at h; cases h
      | some m =>
        rw [hq] at h
        simp only [Option.some.injEq] at h
        subst h
        rw [List.cons_append, altsC, hp, altsC_append hq k]
        rfl
theorem joinS_two (sep : List UInt8) : ∀ {ps qs : List (List UInt8)}, ps ≠ [] → qs ≠ [] → joinS sep (ps ++ qs) = joinS sep ps ++ sep ++ joinS sep qs
  | [], _, h, _ => absurd rfl h
  | [p], q :: qs, _, _ => by simp [joinS]
  | [p], [], _, h => absurd rfl h
  | p :: p2 :: ps, qs, _, h => by
    have ih := joinS_two sep (ps := p2 :: ps) (qs := qs) (by simp) h
    show p ++ sep ++ joinS sep ((p2 :: ps) ++ qs) = p ++ sep ++ joinS sep (p2 :: ps) ++ sep ++ joinS sep qs
    rw [ih]; simp
theorem altsP_back (l : List UInt8) : joinS [124, 124] (altsP [] l) = l := by
  have := (alts_cut l [] (fun j hj => by simp at hj)).2
  rwa [List.nil_append] at this
theorem altsP_two {a b : List UInt8} {r t : List (List CompL)} (h : altsC (altsP [] a) = some r) (k : altsC (altsP [] b) = some t) : altsC (altsP [] (a ++ [124, 124] ++ b)) = some (r ++ t) := by
  have e : a ++ [124, 124] ++ b = joinS [124, 124] (altsP [] a ++ altsP [] b) := by
    rw [joinS_two _ (altsP_ne a []) (altsP_ne b []), altsP_back, altsP_back]
  rw [e, altsP_join _ (by have := altsP_ne a []; simp [this]) (fun p hp => by
    rcases List.mem_append.1 hp with hp | hp
    · exact altsC_no h p hp
    · exact altsC_no k p hp)]
  exact altsC_append h k
theorem parseG_ok {s : List UInt8} (h : (parseG s).2 = 0) : altsC (altsP [] s) = some (parseG s).1 ∧ mayG (parseG s).1 = true := by
  refine ⟨?_, parseG_sound h⟩
  by_cases hl : 96 < s.length
  · rw [parseG_long hl] at h; cases h
  · cases h2 : altsC (altsP [] s) with
    | none => rw [parseG_none hl h2] at h; cases h
    | some r =>
      rw [parseG_some hl h2] at h ⊢
      split at h
      · split at h
        · rename_i h3 h4
          rw [if_pos h3, if_pos h4]
        · cases h
      · cases h
theorem parseG_two {a b : List UInt8} (h : (parseG a).2 = 0) (k : (parseG b).2 = 0) (m : (parseG (a ++ [124, 124] ++ b)).2 = 0) : (parseG (a ++ [124, 124] ++ b)).1 = (parseG a).1 ++ (parseG b).1 := by
  have e1 := altsP_two (parseG_ok h).1 (parseG_ok k).1
  rw [(parseG_ok m).1] at e1
  exact Option.some.inj e1
theorem setG_append {r t : List (List CompL)} (h : mayG r = true) (k : mayG t = true) (m : mayG (r ++ t) = true) : setG (r ++ t) = orS (setG r).1 (setG r).2 (setG t).1 (setG t).2 := by
  rw [setG_yes h, setG_yes k, setG_yes m, List.map_append, orG_append (alts_val r) (alts_val t)]
theorem ofG_snd (s : List UInt8) : (ofG s).2 = (parseG s).2 := by
  unfold ofG
  split
  · rename_i h; rw [h]
  · rfl
theorem ofG_fst {s : List UInt8} (h : (ofG s).2 = 0) : (ofG s).1 = setG (parseG s).1 := by
  rw [ofG_snd] at h
  unfold ofG
  rw [if_pos h]
theorem ofG_bad {s : List UInt8} (h : (ofG s).2 ≠ 0) : (ofG s).1 = ([], []) ∧ ((ofG s).2 = 3 ∨ (ofG s).2 = 6) := by
  rw [ofG_snd] at h ⊢
  refine ⟨?_, ?_⟩
  · unfold ofG; rw [if_neg h]
  · rcases parseG_cases s with ⟨h0, -⟩ | ⟨-, -, h3⟩
    · exact absurd h0 h
    · exact h3
theorem ofG_two {a b : List UInt8} (h : (ofG a).2 = 0) (k : (ofG b).2 = 0) (m : (ofG (a ++ [124, 124] ++ b)).2 = 0) : (ofG (a ++ [124, 124] ++ b)).1 = orS (ofG a).1.1 (ofG a).1.2 (ofG b).1.1 (ofG b).1.2 := by
  rw [ofG_fst h, ofG_fst k, ofG_fst m]
  rw [ofG_snd] at h k m
  rw [parseG_two h k m]
  refine setG_append (parseG_ok h).2 (parseG_ok k).2 ?_
  rw [← parseG_two h k m]
  exact (parseG_ok m).2
theorem ofG_bars : (ofG [124, 124]).2 = 6 := by decide +kernel
theorem orG_one {s : List SpanL × List SpanL} (h : ValS s.1 s.2) : orG [s] = s := by
  have hv := orG_val (l := [s]) (fun x hx => by rw [List.mem_singleton.1 hx]; exact h)
  have e1 : (orG [s]).1 = s.1 := Val.ext _ _ hv.rel h.rel fun x => by
    rw [(orG_mem (l := [s]) (fun x hx => by rw [List.mem_singleton.1 hx]; exact h)).1]; simp
  have e2 : (orG [s]).2 = s.2 := Val.ext _ _ hv.pre h.pre fun x => by
    rw [(orG_mem (l := [s]) (fun x hx => by rw [List.mem_singleton.1 hx]; exact h)).2]; simp
  exact Prod.ext e1 e2
theorem rangeT_mem_len {r : List (List CompL)} {a : List CompL} (h : a ∈ r) : (altT a).length ≤ (rangeT r).length := joinS_mem_len _ (List.mem_map_of_mem h)
theorem mayG_one {r : List (List CompL)} (h : mayG r = true) {a : List CompL} (ha : a ∈ r) : mayG [a] = true := by
  have hp := mayG_few h
  have hl := rangeT_mem_len ha
  rw [mayG, Bool.and_eq_true, decide_eq_true_eq]
  refine ⟨fewG_iff.2 ⟨by simp, by simp, fun x hx => by rw [List.mem_singleton.1 hx]; exact hp.1.may a ha⟩, ?_⟩
  have e : rangeT [a] = altT a := rfl
  rw [e]
  have := hp.2
  omega
theorem setG_one {r : List (List CompL)} (h : mayG r = true) {a : List CompL} (ha : a ∈ r) : setG [a] = altS a := by
  rw [setG_yes (mayG_one h ha), List.map_cons, List.map_nil, orG_one (altS_val a)]
theorem ofG_one {r : List (List CompL)} (h : mayG r = true) {a : List CompL} (ha : a ∈ r) : ofG (printG [a]) = (altS a, 0) := by
  have e := parseG_back (mayG_one h ha)
  unfold ofG
  rw [e]
  simp only [if_pos]
  rw [setG_one h ha]
theorem ofG_print {r : List (List CompL)} (h : mayG r = true) : ofG (printG r) = (setG r, 0) := by
  have e := parseG_back h
  unfold ofG
  rw [e]
  simp only [if_pos]
theorem joinS_total (sep : List UInt8) : ∀ (ps : List (List UInt8)), (joinS sep ps).length + sep.length = (ps.map List.length).sum + sep.length * ps.length + (if ps = [] then sep.length else 0)
  | [] => by simp [joinS]
  | [p] => by simp [joinS]
  | p :: q :: r => by
    have ih := joinS_total sep (q :: r)
    rw [if_neg (by simp)] at ih ⊢
    have e : joinS sep (p :: q :: r) = p ++ sep ++ joinS sep (q :: r) := rfl
    rw [e]
    simp only [List.length_append, List.map_cons, List.sum_cons, List.length_cons, Nat.mul_succ] at ih ⊢
    omega
theorem joinS_perm {sep : List UInt8} {ps qs : List (List UInt8)} (h : ps.map List.length = (qs.map List.length).reverse) : (joinS sep ps).length = (joinS sep qs).length := by
  have h1 := joinS_total sep ps
  have h2 := joinS_total sep qs
  have hl : ps.length = qs.length := by have := congrArg List.length h; simpa using this
  have hs : (ps.map List.length).sum = (qs.map List.length).sum := by rw [h, List.sum_reverse]
  have hn : (ps = []) ↔ (qs = []) := by rw [← List.length_eq_zero_iff, ← List.length_eq_zero_iff, hl]
  rw [hs, hl] at h1
  by_cases hq : qs = []
  · rw [if_pos (hn.2 hq)] at h1
    rw [if_pos hq] at h2
    omega
  · rw [if_neg (fun e => hq (hn.1 e))] at h1
    rw [if_neg hq] at h2
    omega
def turnG (r : List (List CompL)) : List (List CompL) := (r.map List.reverse).reverse
theorem altT_turn (a : List CompL) : (altT a.reverse).length = (altT a).length := joinS_perm (by simp)
theorem rangeT_turn (r : List (List CompL)) : (rangeT (turnG r)).length = (rangeT r).length := by
  refine joinS_perm ?_
  rw [turnG, List.map_reverse, List.map_reverse]
  congr 1
  rw [List.map_map, List.map_map, List.map_map]
  refine List.map_congr_left fun a _ => ?_
  exact altT_turn a
theorem fewA_turn {a : List CompL} (h : FewA a) : FewA a.reverse := ⟨by simpa using h.ne, by simpa using h.le, fun c hc => h.may c (by simpa using hc)⟩
theorem mayG_turn {r : List (List CompL)} (h : mayG r = true) : mayG (turnG r) = true := by
  have hp := mayG_few h
  rw [mayG, Bool.and_eq_true, decide_eq_true_eq, rangeT_turn]
  refine ⟨fewG_iff.2 ⟨by simpa [turnG] using hp.1.ne, by simpa [turnG] using hp.1.le, fun a ha => ?_⟩, hp.2⟩
  rw [turnG, List.mem_reverse, List.mem_map] at ha
  obtain ⟨b, hb, rfl⟩ := ha
  exact fewA_turn (hp.1.may b hb)
theorem setG_turn {r : List (List CompL)} (h : mayG r = true) : setG (turnG r) = setG r := by
  rw [setG_yes h, setG_yes (mayG_turn h)]
  refine orA_set fun s => ?_
  rw [turnG, List.map_reverse, List.mem_reverse, List.map_map]
  have e : (altS ∘ List.reverse) = altS := funext fun a => altS_set fun c => by simp
  rw [e]
theorem fitG_turn {r : List (List CompL)} (h : fitG r) : fitG (turnG r) := fun a ha c hc => by
  rw [turnG, List.mem_reverse, List.mem_map] at ha
  obtain ⟨b, hb, rfl⟩ := ha
  exact h b hb c (by simpa using hc)
end Go.Proofs.YtplmlahpmnjneaaGreatDoor
namespace Go.Proofs.YtplmlahpmnjneaaGreatDoor
open Go.RowKit Go.Lib
open Rw
set_option linter.unusedVariables false
set_option linter.unusedSimpArgs false
def awT1 : List UInt8 := [94, 49, 46, 50, 44, 33, 61, 49, 46, 51, 46, 48, 124, 124, 126, 50]
def awT2 : List UInt8 := [94, 49, 46, 50, 44, 32, 33, 61, 49, 46, 51, 46, 48, 32, 124, 124, 32, 126, 50]
def awT3 : List UInt8 := [94, 49, 46, 50, 44]
def awV1 : Ver := ⟨2, 9, 0, ⟨#[]⟩, ⟨#[]⟩⟩
def awV2 : Ver := ⟨1, 3, 0, ⟨#[]⟩, ⟨#[]⟩⟩
theorem aw_p1 : (parseG awT1).2 = 0 := by decide +kernel
theorem aw_print : printG (parseG awT1).1 = awT2 := by decide +kernel
theorem aw_o2 : (ofG awT2).2 = 0 := by decide +kernel
theorem aw_p3 : (parseG awT3).2 = 6 := by decide +kernel
theorem aw_h1 : hasS (ofG awT2).1.1 (ofG awT2).1.2 awV1 = true := by decide +kernel
theorem aw_h2 : hasS (ofG awT2).1.1 (ofG awT2).1.2 awV2 = false := by decide +kernel
theorem ofG_good (s : List UInt8) : SGood 250 (ofG s).1 := by
  unfold ofG
  split
  · exact setG_good (parseG_fit s)
  · exact SGood.nil _
theorem parseG_parts (s : List UInt8) : (parseG s).1.length ≤ 6 ∧ ∀ a ∈ (parseG s).1, a.length ≤ 6 := by
  rcases parseG_cases s with ⟨-, h⟩ | ⟨-, h, -⟩
  · exact mayG_parts h
  · rw [h]; exact ⟨by simp, fun a ha => by simp at ha⟩
theorem aw_fit1 : awV1.fit := fit_e _ _ _
theorem aw_fit2 : awV2.fit := fit_e _ _ _
set_option maxRecDepth 100000 in
set_option maxHeartbeats 4000000 in
theorem awake7_any (w : World) (hL : Laid w) : Calls Tryz.prog 21 #[] w (BoolK w true) := by
  have HL := hid hL
  clear hL
  have P1 := hid (fun u (hb : KB w.heap.size w u) => parse7_any ⟨#[94, 49, 46, 50, 44, 33, 61, 49, 46, 51, 46, 48, 124, 124, 126, 50]⟩ u (HL.out.kb hb))
  have P2 := hid (fun u (hb : KB w.heap.size w u) => of7_any ⟨#[94, 49, 46, 50, 44, 32, 33, 61, 49, 46, 51, 46, 48, 32, 124, 124, 32, 126, 50]⟩ u (HL.out.kb hb))
  have P3 := hid (fun u (hb : KB w.heap.size w u) => parse7_any ⟨#[94, 49, 46, 50, 44]⟩ u (HL.out.kb hb))
  rw [show bts (⟨#[94, 49, 46, 50, 44, 33, 61, 49, 46, 51, 46, 48, 124, 124, 126, 50]⟩ : ByteArray) = awT1 from bts_lit awT1] at P1
  rw [show bts (⟨#[94, 49, 46, 50, 44, 32, 33, 61, 49, 46, 51, 46, 48, 32, 124, 124, 32, 126, 50]⟩ : ByteArray) = awT2 from bts_lit awT2] at P2
  rw [show bts (⟨#[94, 49, 46, 50, 44]⟩ : ByteArray) = awT3 from bts_lit awT3] at P3
  have e1 := aw_p1
  have e3 := aw_p3
  have e2 := aw_o2
  have HPR := hid aw_print
  have HF := hid (parseG_fit awT1)
  have HP := hid (parseG_parts awT1)
  have HH1 := hid aw_h1
  have HH2 := hid aw_h2
  have HG := hid (ofG_good awT2)
  generalize parseG awT1 = p1 at *
  generalize parseG awT3 = p3 at *
  generalize ofG awT2 = o2 at *
  obtain ⟨r1, n1⟩ := p1
  obtain ⟨r3, n3⟩ := p3
  obtain ⟨⟨s1, s2⟩, n2⟩ := o2
  dsimp only at e1 e2 e3 HPR HF HP HH1 HH2 HG P1 P2 P3
  subst e1
  subst e2
  subst e3
  generalize hr1 : r1.length = nr1 at *
  generalize hr3 : r3.length = nr3 at *
  generalize hq1 : s1.length = q1 at *
  generalize hq2 : s2.length = q2 at *
  have HR1 := hid hr1
  have HR3 := hid hr3
  have HQ1 := hid hq1
  have HQ2 := hid hq2
  clear hr1 hr3 hq1 hq2
  go_enter Tryz.func21, Tryz.ntmps21
  go_wp2_with fail
  refine (P1.out _ (kb_refl _)).mono ?_
  rintro _ w1 ⟨A1, c1, he, hal, hb⟩
  dsimp only at he hal
  rw [HR1.out] at he
  subst he
  have HAL := hid hal
  have HB := hid hb
  clear hal hb
  go_upto_region 2 with fail
  refine wp_name ?_
  intro u1 hu1
  have HX := hid (show Box u1 w1.heap.size [.slice A1 nr1 c1] by rw [hu1]; exact Box.new w1 [.slice A1 nr1 c1] 35)
  have HAL := hid (show Alts u1 A1 r1 by rw [hu1]; exact HAL.out.below (below_new _ _))
  have HB := hid (show KB w.heap.size w u1 by rw [hu1]; exact kb_tr HB.out (kb_new _ _))
  clear hu1
  go_wp2_with fail
  refine (P2.out _ HB.out).mono ?_
  rintro _ w2 ⟨A2, c2, B2, d2, he, hs1, hs2, hb⟩
  dsimp only at he hs1 hs2
  rw [HQ1.out, HQ2.out] at he
  subst he
  have HS1 := hid hs1.1
  have HS2 := hid hs2.1
  have HX := hid (HX.out.kb hb)
  have HAL := hid (HAL.out.kb hb)
  have HB := hid (kb_tr HB.out hb)
  clear hs1 hs2 hb
  go_upto_region 3 with fail
  refine wp_name ?_
  intro u2 hu2
  have HY := hid (show Box u2 w2.heap.size [.slice A2 q1 c2, .slice B2 q2 d2] by rw [hu2]; exact Box.new w2 [.slice A2 q1 c2, .slice B2 q2 d2] 24)
  have HX := hid (show Box u2 w1.heap.size [.slice A1 nr1 c1] by rw [hu2]; exact HX.out.below (below_new _ _))
  have HAL := hid (show Alts u2 A1 r1 by rw [hu2]; exact HAL.out.below (below_new _ _))
  have HS1 := hid (show Spans u2 A2 s1 by rw [hu2]; exact HS1.out.below (below_new _ _))
  have HS2 := hid (show Spans u2 B2 s2 by rw [hu2]; exact HS2.out.below (below_new _ _))
  have HB := hid (show KB w.heap.size w u2 by rw [hu2]; exact kb_tr HB.out (kb_new _ _))
  clear hu2
  go_wp2_with fail
  refine (P3.out _ HB.out).mono ?_
  rintro _ w3 ⟨A3, c3, he, -, hb⟩
  dsimp only at he
  rw [HR3.out] at he
  subst he
  have HX := hid (HX.out.kb hb)
  have HY := hid (HY.out.kb hb)
  have HAL := hid (HAL.out.kb hb)
  have HS1 := hid (HS1.out.kb hb)
  have HS2 := hid (HS2.out.kb hb)
  have HB := hid (kb_tr HB.out hb)
  clear hb
  go_upto_region 4 with fail
  refine wp_name ?_
  intro u3 hu3
  have HX := hid (show Box u3 w1.heap.size [.slice A1 nr1 c1] by rw [hu3]; exact HX.out.below (below_new _ _))
  have HY := hid (show Box u3 w2.heap.size [.slice A2 q1 c2, .slice B2 q2 d2] by rw [hu3]; exact HY.out.below (below_new _ _))
  have HAL := hid (show Alts u3 A1 r1 by rw [hu3]; exact HAL.out.below (below_new _ _))
  have HS1 := hid (show Spans u3 A2 s1 by rw [hu3]; exact HS1.out.below (below_new _ _))
  have HS2 := hid (show Spans u3 B2 s2 by rw [hu3]; exact HS2.out.below (below_new _ _))
  have HB := hid (show KB w.heap.size w u3 by rw [hu3]; exact kb_tr HB.out (kb_new _ _))
  clear hu3
  generalize w1.heap.size = g1 at *
  generalize w2.heap.size = g2 at *
  have HPT := hid (print7_any A1 c1 r1 u3 (HL.out.kb HB.out) HAL.out HF.out (by have := HP.out.1; rw [HR1.out]; omega) (fun a ha => by have := HP.out.2 a ha; omega))
  rw [HR1.out, HPR.out] at HPT
  have HH1C := hid (fun u (hb : KB u3.heap.size u3 u) => law_hasR c2 d2 ((HL.out.kb HB.out).kb hb).first (HG.out.at_ (HS1.out.kb hb) (HS2.out.kb hb)) aw_fit1 (by omega))
  have HH2C := hid (fun u (hb : KB u3.heap.size u3 u) => law_hasR c2 d2 ((HL.out.kb HB.out).kb hb).first (HG.out.at_ (HS1.out.kb hb) (HS2.out.kb hb)) aw_fit2 (by omega))
  dsimp only at HH1C HH2C
  rw [HH1.out, HQ1.out, HQ2.out] at HH1C
  rw [HH2.out, HQ1.out, HQ2.out] at HH2C
  have x0 := HX.out.2 0 _ rfl
  have xl := HX.out.1
  go_wp2_with fail
  refine HPT.out.mono ?_
  rintro _ w4 ⟨t, rfl, ht, hb⟩
  obtain rfl : t = ⟨#[94, 49, 46, 50, 44, 32, 33, 61, 49, 46, 51, 46, 48, 32, 124, 124, 32, 126, 50]⟩ := bts_inj (ht.trans (bts_lit awT2).symm)
  have HB4 := hid hb
  have HBW := hid (kb_tr HB.out hb)
  clear ht hb x0 xl
  obtain ⟨y0, y1⟩ := (HY.out.kb HB4.out).get2
  have yl := (HY.out.kb HB4.out).1
  go_wp2_with fail
  refine (HH1C.out _ HB4.out).mono ?_
  rintro _ w5 ⟨rfl, hb⟩
  have HB5 := hid (kb_tr HB4.out hb.kb)
  have HBW := hid (kb_tr HBW.out hb.kb)
  clear hb y0 y1 yl
  obtain ⟨y0, y1⟩ := (HY.out.kb HB5.out).get2
  have yl := (HY.out.kb HB5.out).1
  go_wp2_with fail
  refine (HH2C.out _ HB5.out).mono ?_
  rintro _ w6 ⟨rfl, hb⟩
  have HBW := hid (kb_tr HBW.out hb.kb)
  clear hb y0 y1 yl
  go_wp2_with fail
  go_ret
  exact ⟨rfl, HBW.out⟩
end Go.Proofs.YtplmlahpmnjneaaGreatDoor
