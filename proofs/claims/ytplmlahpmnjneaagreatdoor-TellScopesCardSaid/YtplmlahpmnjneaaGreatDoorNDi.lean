import Derived.Test.YtplmlahpmnjneaaGreatDoorNDh
import Derived.Test.YtplmlahpmnjneaaGreatDoorNCq
import Derived.Test.YtplmlahpmnjneaaGreatDoorNSetM
import Derived.Test.YtplmlahpmnjneaaGreatDoorNTg
namespace Go.Proofs.YtplmlahpmnjneaaGreatDoor
open Go.RowKit Go.Lib
open Rw
set_option linter.unusedVariables false
set_option linter.unusedSimpArgs false
theorem below_set2 {w w1 : World} (h : Below w.heap.size w w1) {g : Nat} (hg : w.heap.size ≤ g) (b0 b1 : Value) : Below w.heap.size w ((w1.setCell ⟨g, 0, none⟩ b0).setCell ⟨g, 1, none⟩ b1) := below_put (below_put h hg b0) hg b1
theorem spanB_set2 {w : World} {base k : Nat} {A : Option Addr} {l : List SpanL} (h : SpanB w base A l) (hk : k < base) (b0 b1 : Value) : SpanB ((w.setCell ⟨k, 0, none⟩ b0).setCell ⟨k, 1, none⟩ b1) base A l := spanB_put (spanB_put h hk b0) hk b1
structure AltW (n : Nat) (l : List CompL) (k : Nat) (L1 L2 : List SpanL) : Prop where
  f1 : fitL L1
  f2 : fitL L2
  l1 : L1.length ≤ 1 + 3 * k
  l2 : L2.length ≤ 2 * k
  r1 : (l.drop k).foldl (fun o c => randL o (regionX c)) L1 = relA l
  r2 : (l.drop k).foldl (fun o c => rorL o (zoneX c)) L2 = zoneA l
theorem AltW.start (n : Nat) (l : List CompL) : AltW n l 0 wholeL [] := ⟨whole_fit0, fit_nil0, by simp [wholeL], by simp, rfl, rfl⟩
theorem AltW.step {n : Nat} {l : List CompL} {k : Nat} {L1 L2 : List SpanL} (h : AltW n l k L1 L2) (hk : k < l.length) (hf : CompL.fit l[k]) : AltW n l (k + 1) (randL L1 (regionX l[k])) (rorL L2 (zoneX l[k])) := by
  have hd := List.drop_eq_getElem_cons hk
  have g1 := regionX_good hf
  have g2 := zoneX_good l[k]
  have e1 := h.r1
  have e2 := h.r2
  rw [hd, List.foldl_cons] at e1 e2
  refine ⟨(randL_good h.f1 g1.1).1, (rorL_good h.f2 g2.1).1, ?_, ?_, e1, e2⟩
  · have := randL_len h.f1 g1.1; have := h.l1; have := g1.2; omega
  · have := rorL_len h.f2 g2.1; have := h.l2; have := g2.2; omega
theorem AltW.last {n : Nat} {l : List CompL} {k : Nat} {L1 L2 : List SpanL} (h : AltW n l k L1 L2) (hk : l.length ≤ k) : L1 = relA l ∧ L2 = zoneA l := by
  have e1 := h.r1
  have e2 := h.r2
  rw [List.drop_eq_nil_of_le hk] at e1 e2
  exact ⟨e1, e2⟩
set_option maxRecDepth 100000 in
set_option maxHeartbeats 4000000 in
theorem alt_any (A : Option Addr) (c : Nat) (l : List CompL) (w : World) (hg : First w) (h : Comps w A l) (hf : ∀ x ∈ l, CompL.fit x) (hn : l.length ≤ 6) : Calls Tryz.prog 67 #[.slice A l.length c] w (SetPost w (altS l).1 (altS l).2) := by
  have HF := hid hf
  have HA := hid h
  have HG := hid hg
  have HAS := hid (show altS l = (smakeL (relA l) (randL (relA l) (zoneA l))).1 from rfl)
  have HGR := hid (relA_good hf)
  have HGZ := hid (zoneA_good l)
  clear hf h hg
  generalize hn2 : l.length = n at *
  have HN := hid hn2
  clear hn2
  go_enter Tryz.func67, Tryz.ntmps67
  go_upto_region 1 with fail
  refine wp_name ?_
  intro w1 hw1
  have O2 := hid (show Own w.heap.size w1 w.heap.size [.slice none 0 0, .slice none 0 0] by rw [hw1]; exact Own.new w [.slice none 0 0, .slice none 0 0] 24 (Nat.le_refl _))
  have HB := hid (show Below w.heap.size w w1 by rw [hw1]; exact below_new _ _)
  clear hw1
  go_upto_block 0 with fail
  refine wp_name ?_
  intro w2 hw2
  have HWH := hid (show Spans w2 (some ⟨w1.heap.size, 0, none⟩) wholeL by rw [hw2]; exact (SpanB.fresh w1 ⟨firstC, lastC⟩ 100).1)
  have O2 := hid (show Own w.heap.size w2 w.heap.size [.slice none 0 0, .slice none 0 0] by rw [hw2]; exact O2.out.alloc _)
  have HB := hid (show Below w.heap.size w w2 by rw [hw2]; exact below_tr HB.out (below_new _ _))
  clear hw2
  have HA := hid (Lies.below HA.out HB.out)
  generalize w1.heap.size = g1 at *
  go_wp2_with fail
  go_loopw [15, 3, 4] (fun i v1 v2 wr => ∃ (k : Nat) (A1 A2 : Option Addr) (c1 c2 n1 n2 : Nat) (L1 L2 : List SpanL), i = .int .i64 k ∧ k ≤ n ∧ v1 = .slice A1 n1 c1 ∧ v2 = .slice A2 n2 c2 ∧ Hid (L1.length = n1) ∧ Hid (L2.length = n2) ∧ Hid (AltW n l k L1 L2) ∧ Hid (Spans wr A1 L1) ∧ Hid (Spans wr A2 L2) ∧ Hid (Below w2.heap.size w2 wr)) (fun i _ _ _ => n - (intOf i).toNat)
  case atStart => exact ⟨0, some ⟨g1, 0, none⟩, none, 1, 0, 1, 0, wholeL, [], rfl, Nat.zero_le _, rfl, rfl, hid rfl, hid rfl, hid (AltW.start n l), HWH, hid Spans.nil, hid (Below.refl _ _)⟩
  case round =>
    obtain ⟨k, A1, A2, c1, c2, n1, n2, L1, L2, rfl, hk, rfl, rfl, HN1, HN2, HW, HS1, HS2, HB1⟩ := hrel
    by_cases hlt : k < n
    · have hlt' : k < l.length := by rw [HN.out]; exact hlt
      have i0 : (0 : Int) ≤ (k : Int) := by omega
      have i1 : (k : Int) < (n : Int) := by omega
      obtain ⟨b, off, hA, hbl, hrow⟩ := (Lies.below HA.out HB1.out).at7 hlt'
      subst hA
      have HCF := hid (HF.out _ (List.getElem_mem hlt'))
      have HWN := hid (HW.out.step hlt' HCF.out)
      generalize l[k] = x at *
      obtain ⟨y0, y1, y2, y3, y4, y5, y6⟩ := hrow
      go_upto_region 6 with fail
      refine wp_name ?_
      intro u1 hu1
      have HX := hid (show Box u1 wr.heap.size x.cells by rw [hu1]; exact Box.new wr x.cells 52)
      have HBU := hid (show Below wr.heap.size wr u1 by rw [hu1]; exact below_new _ _)
      clear hu1 y0 y1 y2 y3 y4 y5 y6
      obtain ⟨x0, x1, x2, x3, x4, x5, x6⟩ := HX.out.get7
      have xl := HX.out.1
      go_wp2_with fail
      refine (region_any x u1 HCF.out).mono ?_
      rintro _ u2 ⟨A3, c3, rfl, hs3, hb⟩
      have HBU2 := hid (below_tr HBU.out hb)
      have HX := hid (HX.out.below hb)
      have HRG := hid (regionX_good HCF.out)
      have HAND := hid (callN (and_any u2.heap.size A1 A3 c1 c3 L1 (regionX x) u2 (HS1.out.below HBU2.out) hs3.1 HW.out.f1 HRG.out.1 (by have := HW.out.l1; have := HRG.out.2; omega) (Nat.le_refl _)))
      rw [HN1.out] at HAND
      clear hb hs3 x0 x1 x2 x3 x4 x5 x6 xl
      generalize hr3 : (regionX x).length = n3 at *
      generalize hr5 : (randL L1 (regionX x)).length = n5 at *
      have HR5 := hid hr5
      clear hr5
      go_wp2_with fail
      refine HAND.out.mono ?_
      rintro _ u3 ⟨A5, c5, he5, hs5, hb⟩
      rw [HR5.out] at he5
      subst he5
      have HBU3 := hid (below_tr HBU2.out hb)
      have HX := hid (HX.out.below hb)
      have HS5 := hid hs5.1
      clear hb hs5 HAND
      obtain ⟨x0, x1, x2, x3, x4, x5, x6⟩ := HX.out.get7
      have xl := HX.out.1
      go_wp2_with fail
      refine (zone_any x u3 HCF.out).mono ?_
      rintro _ u4 ⟨A4, c4, rfl, hs4, hb⟩
      have HBU4 := hid (below_tr HBU3.out hb)
      have HS5 := hid (HS5.out.below hb)
      have HZG := hid (zoneX_good x)
      have HOR := hid (callN (por_any u4.heap.size A2 A4 c2 c4 L2 (zoneX x) u4 (HS2.out.below HBU4.out) hs4.1 HW.out.f2 HZG.out.1 (by have := HW.out.l2; have := HZG.out.2; omega) (Nat.le_refl _)))
      rw [HN2.out] at HOR
      clear hb hs4 x0 x1 x2 x3 x4 x5 x6 xl
      generalize hr4 : (zoneX x).length = n4 at *
      generalize hr6 : (rorL L2 (zoneX x)).length = n6 at *
      have HR6 := hid hr6
      clear hr6
      go_wp2_with fail
      refine HOR.out.mono ?_
      rintro _ u5 ⟨A6, c6, he6, hs6, hb⟩
      rw [HR6.out] at he6
      subst he6
      have HBU5 := hid (below_tr HBU4.out hb)
      have HS5 := hid (HS5.out.below hb)
      have HS6 := hid hs6.1
      clear hb hs6 HOR
      go_wp2_with fail
      go_roundw
      case rel => exact ⟨k + 1, A5, A6, c5, c6, n5, n6, _, _, by go_num, by omega, rfl, rfl, HR5, HR6, HWN, HS5, HS6, hid (below_tr HB1.out HBU5.out)⟩
      case measure => simp [intOf]; omega
    · obtain rfl : k = n := by omega
      have hge : ¬ (k : Int) < (k : Int) := by omega
      have HL := hid (HW.out.last (by rw [HN.out]; exact Nat.le_refl _))
      have e1 := HL.out.1
      have e2 := HL.out.2
      subst e1
      subst e2
      have HBW := hid (below_tr HB.out HB1.out)
      have hgr := HGR.out
      have hgz := HGZ.out
      try rw [HN.out] at hgr
      try rw [HN.out] at hgz
      have HAND := hid (callN (and_any wr.heap.size A1 A2 c1 c2 (relA l) (zoneA l) wr HS1.out HS2.out hgr.1 hgz.1 (by have := hgr.2; have := hgz.2; omega) (Nat.le_refl _)))
      have HRZ := hid (randL_good hgr.1 hgz.1)
      have hrzl := randL_len hgr.1 hgz.1
      have hg1 := hgr.2
      have hg2 := hgz.2
      have HGR1 := hid hgr.1
      rw [HN1.out] at hg1
      rw [HN2.out] at hg2
      rw [HN1.out, HN2.out] at HAND hrzl
      clear hgr hgz
      generalize hr5 : (randL (relA l) (zoneA l)).length = n5 at *
      have HR5 := hid hr5
      clear hr5
      go_wp2_with fail
      refine HAND.out.mono ?_
      rintro _ u1 ⟨A3, c3, he3, hs3, hb⟩
      rw [HR5.out] at he3
      subst he3
      have HU1 := hid (Own.below (O2.out.below HB1.out) hb)
      have HMK := hid (smake_any A1 A3 c1 c3 (relA l) (randL (relA l) (zoneA l)) u1 ((HG.out.below HBW.out).below hb) (HS1.out.below hb) hs3.1 HGR1.out HRZ.out.1 (by rw [HN1.out]; omega) (by rw [HR5.out]; omega))
      rw [HN1.out, HR5.out] at HMK
      have HBW2 := hid (below_tr HBW.out hb)
      have hwu := HU1.out.box.1
      clear hb hs3 HAND
      generalize smakeL (relA l) (randL (relA l) (zoneA l)) = sm at *
      obtain ⟨⟨sm1, sm2⟩, okb⟩ := sm
      try dsimp only at HMK HAS
      generalize hp1 : sm1.length = p1 at *
      generalize hp2 : sm2.length = p2 at *
      have HP1 := hid hp1
      have HP2 := hid hp2
      clear hp1 hp2
      go_wp2_with fail
      refine HMK.out.mono ?_
      rintro _ u2 ⟨A4, c4, B4, d4, he, hsa, hsb, hb⟩
      try dsimp only at he hsa hsb
      rw [HP1.out, HP2.out] at he
      subst he
      have HSA := hid hsa
      have HSB := hid hsb
      have O2 := hid (HU1.out.below hb)
      have HBW3 := hid (below_tr HBW2.out hb)
      clear hsa hsb hb HMK HU1
      go_upto_region 10 with fail
      refine wp_name ?_
      intro u3 hu3
      have HX := hid (show Box u3 u2.heap.size [.slice A4 p1 c4, .slice B4 p2 d4] by rw [hu3]; exact Box.new u2 [.slice A4 p1 c4, .slice B4 p2 d4] 24)
      have HSA := hid (show SpanB u3 u1.heap.size A4 sm1 by rw [hu3]; exact HSA.out.below (below_new _ _))
      have HSB := hid (show SpanB u3 u1.heap.size B4 sm2 by rw [hu3]; exact HSB.out.below (below_new _ _))
      have O2 := hid (show Own w.heap.size u3 w.heap.size [.slice none 0 0, .slice none 0 0] by rw [hu3]; exact O2.out.alloc _)
      have HBW4 := hid (show Below w.heap.size w u3 by rw [hu3]; exact below_tr HBW3.out (below_new _ _))
      clear hu3
      obtain ⟨x0, x1⟩ := HX.out.get2
      have xl := HX.out.1
      obtain ⟨y0, y1⟩ := O2.out.box.get2
      have sf : ∀ j, u3.frozen? ⟨w.heap.size, j, none⟩ = false := O2.out.soft
      have yl := O2.out.box.1
      go_wp2_with fail
      refine body_name ?_
      intro w9 hw9
      have O9 : Own w.heap.size w9 w.heap.size [.slice A4 p1 c4, .slice B4 p2 d4] := by rw [hw9]; exact O2.out.set2 _ _
      have S9 : SpanB w9 u1.heap.size A4 sm1 := by rw [hw9]; exact spanB_set2 HSA.out hwu _ _
      have T9 : SpanB w9 u1.heap.size B4 sm2 := by rw [hw9]; exact spanB_set2 HSB.out hwu _ _
      have B9 : Below w.heap.size w w9 := by rw [hw9]; exact below_set2 HBW4.out (Nat.le_refl _) _ _
      clear hw9
      obtain ⟨k0, k1⟩ := O9.box.get2
      refine bodyPost_ret (v := setV A4 p1 c4 B4 p2 d4) (by simp [results, Tryz.results67, go_sem, k0, k1, setV]) rfl ?_
      rw [HAS.out]
      exact ⟨A4, c4, B4, d4, by rw [HP1.out, HP2.out], S9.low (Nat.le_of_lt hwu), T9.low (Nat.le_of_lt hwu), B9⟩
end Go.Proofs.YtplmlahpmnjneaaGreatDoor
