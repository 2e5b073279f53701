/- Sets: the walk of linchpinlaw5.SetRaw. -/
import Derived.Test.YtmnjnoggchgnjaaGreatDoorSetM
import Derived.Test.YtmnjnoggchgnjaaGreatDoorSetP
namespace Go.Proofs.YtmnjnoggchgnjaaGreatDoor
open Go.RowKit Go.Lib
open Rw
set_option linter.unusedVariables false
set_option linter.unusedSimpArgs false

set_option maxRecDepth 100000 in
set_option maxHeartbeats 4000000 in
theorem sraw_no1 (As : Option Addr) (cs : Nat) (Bs : Option Addr) (ds : Nat) (sl sm : List SpanL) (v : Ver) (w : World) (Ss : Spans w As sl) (Ts : Spans w Bs sm) (ps : sl.length ≤ 9223372036854775807) (qs : sm.length ≤ 9223372036854775807) (hg : First w) (Q : (fewR 8 sl && fewR 8 sm) = false) : Calls Tryz.prog 7 #[setV As sl.length cs Bs sm.length ds, v.val] w (BoolPost w true) := by
  have HBB := hid (below_tr (below_new w (.cells [Value.slice As sl.length cs, .slice Bs sm.length ds].toArray 25)) (below_new _ (.cells v.cells.toArray 28)))
  have HFA := hid (fun w' (h : Below w.heap.size w w') => fews_any As Bs cs ds sl sm w' (Ss.below h) (Ts.below h) ps qs)
  have HAW := hid (fun w' (h : Below w.heap.size w w') => s5awake_any w' (hg.below h))
  rw [Q] at HFA
  clear Ss Ts hg
  generalize sl.length = ns at *
  generalize sm.length = ms at *
  go_enter Tryz.func7, Tryz.ntmps7
  go_wp2_with fail
  refine (HFA.out _ HBB.out).mono ?_
  rintro _ w1 ⟨rfl, hb1⟩
  obtain ⟨hx0, hx1, hb⟩ := box_2 (cs := [Value.slice As ns cs, .slice Bs ms ds]) (ds := v.cells) hb1
  have HB1 := hid hb
  obtain ⟨t0, t1, t2, t3, t4⟩ := hx1.get5
  clear hb1 hb hx0 hx1
  go_wp2_with fail
  refine (HAW.out _ HB1.out).mono ?_
  rintro _ w2 ⟨rfl, hb2⟩
  go_wp2_with fail
  go_ret
  exact ⟨rfl, below_tr HB1.out hb2⟩
set_option maxRecDepth 100000 in
set_option maxHeartbeats 4000000 in
theorem sraw_no2 (As : Option Addr) (cs : Nat) (Bs : Option Addr) (ds : Nat) (sl sm : List SpanL) (v : Ver) (w : World) (Ss : Spans w As sl) (Ts : Spans w Bs sm) (ps : sl.length ≤ 9223372036854775807) (qs : sm.length ≤ 9223372036854775807) (hg : First w) (Q : (fewR 8 sl && fewR 8 sm) = true) (hd : decide (60 < (v.pre.size : Int)) = true) : Calls Tryz.prog 7 #[setV As sl.length cs Bs sm.length ds, v.val] w (BoolPost w true) := by
  have HBB := hid (below_tr (below_new w (.cells [Value.slice As sl.length cs, .slice Bs sm.length ds].toArray 25)) (below_new _ (.cells v.cells.toArray 28)))
  have HFA := hid (fun w' (h : Below w.heap.size w w') => fews_any As Bs cs ds sl sm w' (Ss.below h) (Ts.below h) ps qs)
  have HAW := hid (fun w' (h : Below w.heap.size w w') => s5awake_any w' (hg.below h))
  rw [Q] at HFA
  clear Ss Ts hg
  generalize sl.length = ns at *
  generalize sm.length = ms at *
  go_enter Tryz.func7, Tryz.ntmps7
  go_wp2_with fail
  refine (HFA.out _ HBB.out).mono ?_
  rintro _ w1 ⟨rfl, hb1⟩
  obtain ⟨hx0, hx1, hb⟩ := box_2 (cs := [Value.slice As ns cs, .slice Bs ms ds]) (ds := v.cells) hb1
  have HB1 := hid hb
  obtain ⟨t0, t1, t2, t3, t4⟩ := hx1.get5
  clear hb1 hb hx0 hx1
  go_wp2_with fail
  refine (HAW.out _ HB1.out).mono ?_
  rintro _ w2 ⟨rfl, hb2⟩
  go_wp2_with fail
  go_ret
  exact ⟨rfl, below_tr HB1.out hb2⟩
set_option maxRecDepth 100000 in
set_option maxHeartbeats 4000000 in
theorem sraw_no3 (As : Option Addr) (cs : Nat) (Bs : Option Addr) (ds : Nat) (sl sm : List SpanL) (v : Ver) (w : World) (Ss : Spans w As sl) (Ts : Spans w Bs sm) (ps : sl.length ≤ 9223372036854775807) (qs : sm.length ≤ 9223372036854775807) (hg : First w) (Q : (fewR 8 sl && fewR 8 sm) = true) (hd : decide (60 < (v.pre.size : Int)) = false) (hd2 : decide (60 < (v.bld.size : Int)) = true) : Calls Tryz.prog 7 #[setV As sl.length cs Bs sm.length ds, v.val] w (BoolPost w true) := by
  have HBB := hid (below_tr (below_new w (.cells [Value.slice As sl.length cs, .slice Bs sm.length ds].toArray 25)) (below_new _ (.cells v.cells.toArray 28)))
  have HFA := hid (fun w' (h : Below w.heap.size w w') => fews_any As Bs cs ds sl sm w' (Ss.below h) (Ts.below h) ps qs)
  have HAW := hid (fun w' (h : Below w.heap.size w w') => s5awake_any w' (hg.below h))
  rw [Q] at HFA
  clear Ss Ts hg
  generalize sl.length = ns at *
  generalize sm.length = ms at *
  go_enter Tryz.func7, Tryz.ntmps7
  go_wp2_with fail
  refine (HFA.out _ HBB.out).mono ?_
  rintro _ w1 ⟨rfl, hb1⟩
  obtain ⟨hx0, hx1, hb⟩ := box_2 (cs := [Value.slice As ns cs, .slice Bs ms ds]) (ds := v.cells) hb1
  have HB1 := hid hb
  obtain ⟨t0, t1, t2, t3, t4⟩ := hx1.get5
  clear hb1 hb hx0 hx1
  go_wp2_with fail
  refine (HAW.out _ HB1.out).mono ?_
  rintro _ w2 ⟨rfl, hb2⟩
  go_wp2_with fail
  go_ret
  exact ⟨rfl, below_tr HB1.out hb2⟩
set_option maxRecDepth 100000 in
set_option maxHeartbeats 4000000 in
theorem sraw_yes (As : Option Addr) (cs : Nat) (Bs : Option Addr) (ds : Nat) (sl sm : List SpanL) (v : Ver) (w : World) (Ss : Spans w As sl) (Ts : Spans w Bs sm) (ps : sl.length ≤ 9223372036854775807) (qs : sm.length ≤ 9223372036854775807) (hg : First w) (Q : (fewR 8 sl && fewR 8 sm) = true) (hd : decide (60 < (v.pre.size : Int)) = false) (hd2 : decide (60 < (v.bld.size : Int)) = false) : Calls Tryz.prog 7 #[setV As sl.length cs Bs sm.length ds, v.val] w (BoolPost w true) := by
  have HBB := hid (below_tr (below_new w (.cells [Value.slice As sl.length cs, .slice Bs sm.length ds].toArray 25)) (below_new _ (.cells v.cells.toArray 28)))
  have HFA := hid (fun w' (h : Below w.heap.size w w') => fews_any As Bs cs ds sl sm w' (Ss.below h) (Ts.below h) ps qs)
  have HAW := hid (fun w' (h : Below w.heap.size w w') => s5awake_any w' (hg.below h))
  rw [Q] at HFA
  rw [Bool.and_eq_true] at Q
  have ga := few_fit Q.1
  have gb := few_fit Q.2
  have HSs : Hid (SetAg 8 w As sl Bs sm) := hid ⟨Ss, Ts, ga.2, gb.2, ga.1, gb.1⟩
  have HOv : Hid (True ∧ v.fit) := hid ⟨True.intro, shortV_fit (by simp [shortV, hd, hd2])⟩
  have HG := hid hg
  have HB : Hid (Below w.heap.size w w) := hid (Below.refl _ _)
  have HSG := hid (smake_good ga.2 gb.2)
  clear Ss Ts hg ga gb Q ps qs
  have HM1 := hid (fun wx (h : Below w.heap.size w wx) => smake_any As Bs cs ds sl sm wx (HG.out.below h) (HSs.out.below h).rel (HSs.out.below h).pre HSs.out.frel HSs.out.fpre (by have := HSs.out.nrel; omega) (by have := HSs.out.npre; omega))
  have HM2 := hid (fun wx (h : Below w.heap.size w wx) => rsmake_any As Bs cs ds sl sm wx (HSs.out.below h).rel (HSs.out.below h).pre HSs.out.frel HSs.out.fpre (by have := HSs.out.nrel; omega) (by have := HSs.out.npre; omega))
  have hn8 := HSs.out.nrel
  have hm8 := HSs.out.npre
  generalize smakeL sl sm = mk at *
  obtain ⟨⟨al, am⟩, ok⟩ := mk
  have hg1 := HSG.out
  dsimp only at hg1
  have hal : al.length ≤ 17 := by have := hg1.2.2.1; omega
  have ham : am.length ≤ 17 := by have := hg1.2.2.2; omega
  have HFI := hid (And.intro hg1.1 hg1.2.1)
  clear hg1 HSG hn8 hm8
  have HLA := hid hal
  have HLB := hid ham
  clear hal ham
  generalize hns : sl.length = ns at *
  generalize hms : sm.length = ms at *
  have LLs := hid hns
  have LMs := hid hms
  clear hns hms
  go_enter Tryz.func7, Tryz.ntmps7
  go_wp2_with fail
  refine (HFA.out _ HBB.out).mono ?_
  rintro _ w1 ⟨rfl, hb1⟩
  obtain ⟨hx0, hx1, hb⟩ := box_2 (cs := [Value.slice As ns cs, .slice Bs ms ds]) (ds := v.cells) hb1
  have HB1 := hid hb
  have HXs := hid hx0
  have HXv := hid hx1
  obtain ⟨t0, t1, t2, t3, t4⟩ := hx1.get5
  have hlv := hx1.1
  obtain ⟨u0, u1⟩ := hx0.get2
  have hls := hx0.1
  clear hb1 hb hx0 hx1 HFA HAW HBB
  go_wp2_with fail
  refine (HM1.out _ HB1.out).mono ?_
  rintro _ w2 ⟨A2, c2, B2, d2, rfl, S1, S2, hb2⟩
  dsimp only
  have HB2 := hid (below_tr HB1.out hb2)
  have HXs := hid (HXs.out.below hb2)
  have HXv := hid (HXv.out.below hb2)
  have HS2 : Hid (SetAg 17 w2 A2 al B2 am) := hid ⟨S1.1, S2.1, HFI.out.1, HFI.out.2, HLA.out, HLB.out⟩
  clear hb2 S1 S2 t0 t1 t2 t3 t4 hlv u0 u1 hls HM1
  obtain ⟨u0, u1⟩ := HXs.out.get2
  have hls := HXs.out.1
  generalize hna : al.length = na at *
  generalize hma : am.length = ma at *
  have LLa := hid hna
  have LMa := hid hma
  clear hna hma
  go_wp2_with fail
  refine (HM2.out _ (below_tr HB2.out (below_new _ _))).mono ?_
  rintro _ w3 ⟨A3, c3, B3, d3, rfl, S1, S2, hb3⟩
  dsimp only
  have hb := below_tr (below_new w2 (.cells [Value.slice A2 na c2, .slice B2 ma d2].toArray 25)) hb3
  have HX2 := hid ((Box.new w2 [Value.slice A2 na c2, .slice B2 ma d2] 25).below hb3)
  have HB3 := hid (below_tr HB2.out hb)
  have HXs := hid (HXs.out.below hb)
  have HXv := hid (HXv.out.below hb)
  have HS2 := hid (HS2.out.below hb)
  have HS3 : Hid (SetAg 17 w3 A3 al B3 am) := hid ⟨S1.1, S2.1, HFI.out.1, HFI.out.2, by have := HLA.out; have := LLa.out; omega, by have := HLB.out; have := LMa.out; omega⟩
  rw [LLa.out, LMa.out]
  clear hb hb3 S1 S2 u0 u1 hls HM2
  generalize w2.heap.size = g2 at *
  go_wp2_with fail
  refine wp_name ?_
  intro w4 hw4
  have hb : Below w3.heap.size w3 w4 := by rw [hw4]; exact below_new _ _
  have HX3 : Hid (Box w4 w3.heap.size [Value.slice A3 na c3, .slice B3 ma d3]) := hid (by rw [hw4]; exact Box.new w3 [Value.slice A3 na c3, .slice B3 ma d3] _)
  have HB := hid (below_tr HB3.out hb)
  have HSs := hid (HSs.out.below HB.out)
  have HSa := hid (HS2.out.below hb)
  have HSb := hid (HS3.out.below hb)
  have HXs := hid (HXs.out.below hb)
  have HXv := hid (HXv.out.below hb)
  have HXa := hid (HX2.out.below hb)
  have HXb := HX3
  have HG := hid (HG.out.below HB.out)
  have LLb := LLa
  have LMb := LMa
  clear hw4 hb HX2 HX3 HS2 HS3 HB1 HB2 HB3
  generalize hp : mayS sl sm = bm at *
  generalize hq : hasS sl sm v = bh at *
  have HP := hid hp
  have HQ := hid hq
  clear hp hq
  have Fr11 := hid (HP.out)
  have Fr12 := hid (HP.out)
  have Fr13 := hid (HQ.out)
  have Fr14 := hid (HQ.out)
  have Fr17 : Hid (sameS (exactS v).1 (exactS v).2 (exactS v).1 (exactS v).2 = true) := hid (by exact sameS_self)
  have Fr18 : Hid (sameS al am al am = true) := hid (by exact sameS_self)
  have HCe := hid (fun wx (h : Below w4.heap.size w4 wx) => law_exactG (v := v) wx (HG.out.below h) HOv.out.2 HOv.out.1)
  generalize hz1 : (exactS v).1 = el at *
  generalize hz2 : (exactS v).2 = em at *
  have HEel := hid hz1
  have HEem := hid hz2
  clear hz1 hz2
  have HCer := hid (fun wx (h : Below w4.heap.size w4 wx) => law_exactRG (v := v) wx (HG.out.below h) HOv.out.2 HOv.out.1)
  simp only [HEel.out, HEem.out] at HCer
  have HQr10 := hid (fun wx (h : Below w4.heap.size w4 wx) => s5awake_any wx (HG.out.below h))
  have HQr11 := hid (fun wx (h : Below w4.heap.size w4 wx) => law_mayG cs ds (HG.out.below h) (HSs.out.below h) (by decide))
  simp only [LLs.out, LMs.out, Fr11.out, Bool.or_self, Bool.or_true, Bool.true_or, Bool.false_or, Bool.or_false, Bool.and_self, Bool.and_true, Bool.true_and, Bool.false_and, Bool.and_false, Bool.not_true, Bool.not_false] at HQr11
  have HQr12 := hid (fun wx (h : Below w4.heap.size w4 wx) => law_mayRG cs ds (HG.out.below h) (HSs.out.below h) (by decide))
  simp only [LLs.out, LMs.out, Fr12.out, Bool.or_self, Bool.or_true, Bool.true_or, Bool.false_or, Bool.or_false, Bool.and_self, Bool.and_true, Bool.true_and, Bool.false_and, Bool.and_false, Bool.not_true, Bool.not_false] at HQr12
  have HQr13 := hid (fun wx (h : Below w4.heap.size w4 wx) => law_hasG (v := v) cs ds (HG.out.below h) (HSs.out.below h) HOv.out.2 (by decide))
  simp only [LLs.out, LMs.out, Fr13.out, Bool.or_self, Bool.or_true, Bool.true_or, Bool.false_or, Bool.or_false, Bool.and_self, Bool.and_true, Bool.true_and, Bool.false_and, Bool.and_false, Bool.not_true, Bool.not_false] at HQr13
  have HQr14 := hid (fun wx (h : Below w4.heap.size w4 wx) => law_hasRG (v := v) cs ds (HG.out.below h) (HSs.out.below h) HOv.out.2 (by decide))
  simp only [LLs.out, LMs.out, Fr14.out, Bool.or_self, Bool.or_true, Bool.true_or, Bool.false_or, Bool.or_false, Bool.and_self, Bool.and_true, Bool.true_and, Bool.false_and, Bool.and_false, Bool.not_true, Bool.not_false] at HQr14
  have HQr17 := hid (fun wx (h : Below w4.heap.size w4 wx) (Ce : Option Addr) (ee : Nat) (De : Option Addr) (fe : Nat) (je : SetAg 1 wx Ce el De em) (Cer : Option Addr) (eer : Nat) (Der : Option Addr) (fer : Nat) (jer : SetAg 1 wx Cer el Der em) => law_sameRG ee fe eer fer je jer (by decide))
  simp only [Fr17.out, Bool.or_self, Bool.or_true, Bool.true_or, Bool.false_or, Bool.or_false, Bool.and_self, Bool.and_true, Bool.true_and, Bool.false_and, Bool.and_false, Bool.not_true, Bool.not_false] at HQr17
  have HQr18 := hid (fun wx (h : Below w4.heap.size w4 wx) => law_sameRG c2 d2 c3 d3 (HSa.out.below h) (HSb.out.below h) (by decide))
  simp only [LLa.out, LMa.out, LLb.out, LMb.out, Fr18.out, Bool.or_self, Bool.or_true, Bool.true_or, Bool.false_or, Bool.or_false, Bool.and_self, Bool.and_true, Bool.true_and, Bool.false_and, Bool.and_false, Bool.not_true, Bool.not_false] at HQr18
  generalize hq : el.length = ne at *
  have LLe := hid hq
  clear hq
  generalize hq : em.length = me at *
  have LMe := hid hq
  clear hq
  have HCe := hid (fun wx (h : Below w4.heap.size w4 wx) => callBg LLe.out LMe.out (HCe.out wx h))
  have HCer := hid (fun wx (h : Below w4.heap.size w4 wx) => callBg LLe.out LMe.out (HCer.out wx h))
  have HSB : Hid (∀ w', Below w4.heap.size w4 w' → w'.cell? ⟨w.heap.size, 0, none⟩ = some (.slice As ns cs) ∧ w'.cell? ⟨w.heap.size, 1, none⟩ = some (.slice Bs ms ds) ∧ w'.cell? ⟨w.heap.size + 1, 0, none⟩ = some (.int .i64 v.maj) ∧ w'.cell? ⟨w.heap.size + 1, 1, none⟩ = some (.int .i64 v.min) ∧ w'.cell? ⟨w.heap.size + 1, 2, none⟩ = some (.int .i64 v.pat) ∧ w'.cell? ⟨w.heap.size + 1, 3, none⟩ = some (.string v.pre) ∧ w'.cell? ⟨w.heap.size + 1, 4, none⟩ = some (.string v.bld) ∧ w'.cell? ⟨g2, 0, none⟩ = some (.slice A2 na c2) ∧ w'.cell? ⟨g2, 1, none⟩ = some (.slice B2 ma d2) ∧ w'.cell? ⟨w3.heap.size, 0, none⟩ = some (.slice A3 na c3) ∧ w'.cell? ⟨w3.heap.size, 1, none⟩ = some (.slice B3 ma d3)) := hid (fun w' h => by
    obtain ⟨a0, a1⟩ := (HXs.out.below h).get2
    obtain ⟨a2, a3, a4, a5, a6⟩ := (HXv.out.below h).get5
    obtain ⟨a7, a8⟩ := (HXa.out.below h).get2
    obtain ⟨a9, a10⟩ := (HXb.out.below h).get2
    exact ⟨a0, a1, a2, a3, a4, a5, a6, a7, a8, a9, a10⟩)
  cases bm <;> cases bh <;> cases ok
  all_goals
    go_region_held3 (fun w' => w'.cell? ⟨w.heap.size, 0, none⟩ = some (.slice As ns cs) ∧ w'.cell? ⟨w.heap.size, 1, none⟩ = some (.slice Bs ms ds) ∧ w'.cell? ⟨w.heap.size + 1, 0, none⟩ = some (.int .i64 v.maj) ∧ w'.cell? ⟨w.heap.size + 1, 1, none⟩ = some (.int .i64 v.min) ∧ w'.cell? ⟨w.heap.size + 1, 2, none⟩ = some (.int .i64 v.pat) ∧ w'.cell? ⟨w.heap.size + 1, 3, none⟩ = some (.string v.pre) ∧ w'.cell? ⟨w.heap.size + 1, 4, none⟩ = some (.string v.bld) ∧ w'.cell? ⟨g2, 0, none⟩ = some (.slice A2 na c2) ∧ w'.cell? ⟨g2, 1, none⟩ = some (.slice B2 ma d2) ∧ w'.cell? ⟨w3.heap.size, 0, none⟩ = some (.slice A3 na c3) ∧ w'.cell? ⟨w3.heap.size, 1, none⟩ = some (.slice B3 ma d3))
      (first | (exact HSB.out _ (by first | assumption | exact (Below.refl _ _).drew)) | go_keep)
      (first
        | (go_at_call_of 27 Ar1e; (with_reducible refine (HQr17.out _ (by first | assumption | exact (Below.refl _ _).drew) _ _ _ _ (sr1e.below kr1er) _ _ _ _ sr1er).mono ?_); rintro _ r1_7 ⟨rfl, kr1_7⟩; have hbr1_7 : Below w4.heap.size w4 r1_7 := below_tr (by first | assumption | exact (Below.refl _ _).drew) kr1_7)
        | (go_at_call 22; (with_reducible refine (HQr10.out _ (by first | assumption | exact (Below.refl _ _).drew)).mono ?_); rintro _ r1_0 ⟨rfl, kr1_0⟩; have hbr1_0 : Below w4.heap.size w4 r1_0 := below_tr (by first | assumption | exact (Below.refl _ _).drew) kr1_0)
        | (go_at_call 35; (with_reducible refine (HQr11.out _ (by first | assumption | exact (Below.refl _ _).drew)).mono ?_); rintro _ r1_1 ⟨rfl, kr1_1⟩; have hbr1_1 : Below w4.heap.size w4 r1_1 := below_tr (by first | assumption | exact (Below.refl _ _).drew) kr1_1)
        | (go_at_call 38; (with_reducible refine (HQr12.out _ (by first | assumption | exact (Below.refl _ _).drew)).mono ?_); rintro _ r1_2 ⟨rfl, kr1_2⟩; have hbr1_2 : Below w4.heap.size w4 r1_2 := below_tr (by first | assumption | exact (Below.refl _ _).drew) kr1_2)
        | (go_at_call 23; (with_reducible refine (HQr13.out _ (by first | assumption | exact (Below.refl _ _).drew)).mono ?_); rintro _ r1_3 ⟨rfl, kr1_3⟩; have hbr1_3 : Below w4.heap.size w4 r1_3 := below_tr (by first | assumption | exact (Below.refl _ _).drew) kr1_3)
        | (go_at_call 39; (with_reducible refine (HQr14.out _ (by first | assumption | exact (Below.refl _ _).drew)).mono ?_); rintro _ r1_4 ⟨rfl, kr1_4⟩; have hbr1_4 : Below w4.heap.size w4 r1_4 := below_tr (by first | assumption | exact (Below.refl _ _).drew) kr1_4)
        | (go_at_call 40; (with_reducible refine (HCe.out _ (by first | assumption | exact (Below.refl _ _).drew)).mono ?_); rintro _ r1e ⟨Ar1e, cr1e, Br1e, dr1e, rfl, sr1e, -, -, kr1e⟩; have hbr1e : Below w4.heap.size w4 r1e := below_tr (by first | assumption | exact (Below.refl _ _).drew) kr1e)
        | (go_at_call 41; (with_reducible refine (HCer.out _ (by first | assumption | exact (Below.refl _ _).drew)).mono ?_); rintro _ r1er ⟨Ar1er, cr1er, Br1er, dr1er, rfl, sr1er, -, -, kr1er⟩; have hbr1er : Below w4.heap.size w4 r1er := below_tr (by first | assumption | exact (Below.refl _ _).drew) kr1er)
        | (go_at_call 27; (with_reducible refine (HQr18.out _ (by first | assumption | exact (Below.refl _ _).drew)).mono ?_); rintro _ r1_8 ⟨rfl, kr1_8⟩; have hbr1_8 : Below w4.heap.size w4 r1_8 := below_tr (by first | assumption | exact (Below.refl _ _).drew) kr1_8))
    have HSs := hid (HSs.out.below hbr1_8)
    have HSa := hid (HSa.out.below hbr1_8)
    have HSb := hid (HSb.out.below hbr1_8)
    have HXs := hid (HXs.out.below hbr1_8)
    have HXv := hid (HXv.out.below hbr1_8)
    have HXa := hid (HXa.out.below hbr1_8)
    have HXb := hid (HXb.out.below hbr1_8)
    have HG := hid (HG.out.below hbr1_8)
    have HB := hid (below_tr HB.out hbr1_8)
    clear HSB Fr11 Fr12 Fr13 Fr14 Fr17 Fr18 HCe HEel HEem HCer HQr10 HQr11 HQr12 HQr13 HQr14 HQr17 HQr18 LLe LMe kr1_0 kr1_1 kr1_2 kr1_3 kr1_4 kr1e kr1er kr1_7 kr1_8 hbr1_0 hbr1_1 hbr1_2 hbr1_3 hbr1_4 hbr1e hbr1er hbr1_7 hbr1_8 sr1e sr1er
    go_wp2_with fail
    go_ret
    exact ⟨rfl, HB.out⟩
theorem walk_SetRaw (As : Option Addr) (cs : Nat) (Bs : Option Addr) (ds : Nat) (sl sm : List SpanL) (v : Ver) (w : World) (Ss : Spans w As sl) (Ts : Spans w Bs sm) (ps : sl.length ≤ 9223372036854775807) (qs : sm.length ≤ 9223372036854775807) (hg : First w) : Calls Tryz.prog 7 #[setV As sl.length cs Bs sm.length ds, v.val] w (BoolPost w true) := by
  cases Q : (fewR 8 sl && fewR 8 sm)
  · exact sraw_no1 As cs Bs ds sl sm v w Ss Ts ps qs hg Q
  · cases hd : decide (60 < (v.pre.size : Int))
    · cases hd2 : decide (60 < (v.bld.size : Int))
      · exact sraw_yes As cs Bs ds sl sm v w Ss Ts ps qs hg Q hd hd2
      · exact sraw_no3 As cs Bs ds sl sm v w Ss Ts ps qs hg Q hd hd2
    · exact sraw_no2 As cs Bs ds sl sm v w Ss Ts ps qs hg Q hd
end Go.Proofs.YtmnjnoggchgnjaaGreatDoor
