/- Sets: the walk of linchpinlaw5.SetMeans. -/
import Derived.Test.YtmnjnoggchgnjaaGreatDoorSe
import Derived.Test.YtmnjnoggchgnjaaGreatDoorPl
namespace Go.Proofs.YtmnjnoggchgnjaaGreatDoor
open Go.RowKit Go.Lib
open Rw
set_option linter.unusedVariables false
set_option linter.unusedSimpArgs false

set_option maxRecDepth 100000 in
set_option maxHeartbeats 4000000 in
theorem walk_SetMeans (A0 : Option Addr) (c0 : Nat) (z0 : List Int) (A1 : Option Addr) (c1 : Nat) (z1 : List Int) (w : World) (h0 : IntsAt w A0 z0) (l0 : z0.length ≤ 9223372036854775807) (h1 : IntsAt w A1 z1) (l1 : z1.length ≤ 9223372036854775807) (hg : First w) : Calls Tryz.prog 5 #[.slice A0 z0.length c0, .slice A1 z1.length c1] w (BoolPost w true) := by
  have HI0 := hid h0
  have HL0 := hid l0
  have HI1 := hid h1
  have HL1 := hid l1
  have HG := hid hg
  have HB : Hid (Below w.heap.size w w) := hid (Below.refl _ _)
  clear hg h0 l0 h1 l1
  go_enter Tryz.func5, Tryz.ntmps5
  go_wp2_with fail
  refine (lawset_any A0 c0 z0 0 w HI0.out (by omega) (by omega) HL0.out).mono ?_
  rintro _ w1 ⟨al, am, Aa, ca, Ba, da, rfl, Sa, -, -, hb⟩
  have HI0 := hid (HI0.out.below hb)
  have HI1 := hid (HI1.out.below hb)
  have HG := hid (HG.out.below hb)
  have HB := hid (below_tr HB.out hb)
  have HSa := hid Sa
  have HVa := hid Sa.val
  clear Sa hb
  generalize hna : al.length = na at *
  generalize hma : am.length = ma at *
  have LLa := hid hna
  have LMa := hid hma
  clear hna hma
  go_wp2_with fail
  refine (lawset_any A1 c1 z1 0 w1 HI1.out (by omega) (by omega) HL1.out).mono ?_
  rintro _ w2 ⟨bl, bm, Ab, cb, Bb, db, rfl, Sb, -, -, hb⟩
  have HI0 := hid (HI0.out.below hb)
  have HI1 := hid (HI1.out.below hb)
  have HSa := hid (HSa.out.below hb)
  have HG := hid (HG.out.below hb)
  have HB := hid (below_tr HB.out hb)
  have HSb := hid Sb
  have HVb := hid Sb.val
  clear Sb hb
  generalize hnb : bl.length = nb at *
  generalize hmb : bm.length = mb at *
  have LLb := hid hnb
  have LMb := hid hmb
  clear hnb hmb
  go_wp2_with fail
  refine (version_any A0 c0 z0 98 w2 HI0.out (by omega) (by omega) HL0.out).mono ?_
  rintro _ w3 ⟨rfl, hb⟩
  have HOv := hid (versionL_ok z0 98)
  generalize versionL z0 98 = v at *
  have HI0 := hid (HI0.out.below hb)
  have HI1 := hid (HI1.out.below hb)
  have HSa := hid (HSa.out.below hb)
  have HSb := hid (HSb.out.below hb)
  have HG := hid (HG.out.below hb)
  have HB := hid (below_tr HB.out hb)
  clear hb
  have H1 := hid (has_orS HVa.out HVb.out HOv.out.1)
  have H2 := hid (has_andS HVa.out HVb.out HOv.out.1)
  have H3 := hid (has_notS HVa.out HOv.out.1)
  have H4 := hid (has_minusS HVa.out HVb.out HOv.out.1)
  have H5 := hid (fun (k1 : withinS al am bl bm = true) (k2 : hasS al am v = true) => within_has HVa.out HVb.out HOv.out.1 k1 k2)
  have H6 := hid (fun (k1 : apartS al am bl bm = true) => apart_has HVa.out HVb.out HOv.out.1 k1)
  generalize hx : hasS al am v = x at *
  generalize hy : hasS bl bm v = y at *
  generalize hp : withinS al am bl bm = bp at *
  generalize hq : apartS al am bl bm = bq at *
  have HHX := hid hx
  have HHY := hid hy
  have HHP := hid hp
  have HHQ := hid hq
  clear hx hy hp hq
  go_wp2_with fail
  refine wp_name ?_
  intro w4 hwn
  obtain ⟨hx0, hx1, hx2, -, hb⟩ := box_3 (cs := [Value.slice Aa na ca, .slice Ba ma da]) (ds := [Value.slice Ab nb cb, .slice Bb mb db]) (es := v.cells) (w := w3) (w1 := w4) (t := 25) (s := 25) (u := 28) (by rw [hwn]; exact Below.refl _ _)
  have HI0 := hid (HI0.out.below hb)
  have HI1 := hid (HI1.out.below hb)
  have HSa := hid (HSa.out.below hb)
  have HSb := hid (HSb.out.below hb)
  have HG := hid (HG.out.below hb)
  have HB := hid (below_tr HB.out hb)
  have HXa := hid hx0
  have HXb := hid hx1
  have HXv := hid hx2
  clear hwn hb hx0 hx1 hx2
  go_wp2_with fail
  have Fr10 := hid (HHX.out)
  have Fr11 := hid (HHY.out)
  have HQr10 := hid (fun wx (h : Below w4.heap.size w4 wx) => law_has (v := v) ca da (HG.out.below h) (HSa.out.below h) HOv.out.2 (by decide))
  simp only [LLa.out, LMa.out, Fr10.out, Bool.or_self, Bool.or_true, Bool.true_or, Bool.false_or, Bool.or_false, Bool.and_self, Bool.and_true, Bool.true_and, Bool.false_and, Bool.and_false, Bool.not_true, Bool.not_false] at HQr10
  have HQr11 := hid (fun wx (h : Below w4.heap.size w4 wx) => law_has (v := v) cb db (HG.out.below h) (HSb.out.below h) HOv.out.2 (by decide))
  simp only [LLb.out, LMb.out, Fr11.out, Bool.or_self, Bool.or_true, Bool.true_or, Bool.false_or, Bool.or_false, Bool.and_self, Bool.and_true, Bool.true_and, Bool.false_and, Bool.and_false, Bool.not_true, Bool.not_false] at HQr11
  refine wp_plan (.call [0, 1, 3, 4] 2 (.call [] 5 (.last [6, 7]))) (by kernel_rfl) (by intro _ _ d _ _ h; cases d <;> exact h) (by kernel_rfl) ?_
  have qa0 := fun (z : BW w4) => (HXa.out.below z.ok).get2.1
  have qa1 := fun (z : BW w4) => (HXa.out.below z.ok).get2.2
  have qb0 := fun (z : BW w4) => (HXb.out.below z.ok).get2.1
  have qb1 := fun (z : BW w4) => (HXb.out.below z.ok).get2.2
  have qv0 := fun (z : BW w4) => (HXv.out.below z.ok).get5.1
  have qv1 := fun (z : BW w4) => (HXv.out.below z.ok).get5.2.1
  have qv2 := fun (z : BW w4) => (HXv.out.below z.ok).get5.2.2.1
  have qv3 := fun (z : BW w4) => (HXv.out.below z.ok).get5.2.2.2.1
  have qv4 := fun (z : BW w4) => (HXv.out.below z.ok).get5.2.2.2.2
  refine plan_call ?_
  simp only [pickOps, List.map_cons, List.map_nil, List.getElem?_toArray, List.getElem?_cons_zero, List.getElem?_cons_succ, Option.getD_some]
  repeat go_big_quiet_step (fail)
  refine wpQuiet_nil ?_
  go_wp2_with fail
  refine (HQr10.out _ (Below.refl _ _).drew).mono ?_
  rintro _ r1_0 ⟨rfl, kr1_0⟩
  have hbr1_0 : Below w4.heap.size w4 r1_0 := below_tr (Below.refl _ _).drew kr1_0
  go_wp2_with fail
  refine plan_on hbr1_0 ?_
  clear qa0 qa1 qb0 qb1 qv0 qv1 qv2 qv3 qv4
  have qa0 := fun (z : BW r1_0) => (HXa.out.below (below_tr hbr1_0 z.ok)).get2.1
  have qa1 := fun (z : BW r1_0) => (HXa.out.below (below_tr hbr1_0 z.ok)).get2.2
  have qb0 := fun (z : BW r1_0) => (HXb.out.below (below_tr hbr1_0 z.ok)).get2.1
  have qb1 := fun (z : BW r1_0) => (HXb.out.below (below_tr hbr1_0 z.ok)).get2.2
  have qv0 := fun (z : BW r1_0) => (HXv.out.below (below_tr hbr1_0 z.ok)).get5.1
  have qv1 := fun (z : BW r1_0) => (HXv.out.below (below_tr hbr1_0 z.ok)).get5.2.1
  have qv2 := fun (z : BW r1_0) => (HXv.out.below (below_tr hbr1_0 z.ok)).get5.2.2.1
  have qv3 := fun (z : BW r1_0) => (HXv.out.below (below_tr hbr1_0 z.ok)).get5.2.2.2.1
  have qv4 := fun (z : BW r1_0) => (HXv.out.below (below_tr hbr1_0 z.ok)).get5.2.2.2.2
  refine plan_call ?_
  simp only [pickOps, List.map_cons, List.map_nil, List.getElem?_toArray, List.getElem?_cons_zero, List.getElem?_cons_succ, Option.getD_some]
  repeat go_big_quiet_step (fail)
  refine wpQuiet_nil ?_
  go_wp2_with fail
  refine (HQr11.out _ hbr1_0).mono ?_
  rintro _ r1_1 ⟨rfl, kr1_1⟩
  have hbr1_1 : Below w4.heap.size w4 r1_1 := below_tr hbr1_0 kr1_1
  go_wp2_with fail
  refine plan_on kr1_1 ?_
  clear qa0 qa1 qb0 qb1 qv0 qv1 qv2 qv3 qv4
  have qa0 := fun (z : BW r1_1) => (HXa.out.below (below_tr hbr1_1 z.ok)).get2.1
  have qa1 := fun (z : BW r1_1) => (HXa.out.below (below_tr hbr1_1 z.ok)).get2.2
  have qb0 := fun (z : BW r1_1) => (HXb.out.below (below_tr hbr1_1 z.ok)).get2.1
  have qb1 := fun (z : BW r1_1) => (HXb.out.below (below_tr hbr1_1 z.ok)).get2.2
  have qv0 := fun (z : BW r1_1) => (HXv.out.below (below_tr hbr1_1 z.ok)).get5.1
  have qv1 := fun (z : BW r1_1) => (HXv.out.below (below_tr hbr1_1 z.ok)).get5.2.1
  have qv2 := fun (z : BW r1_1) => (HXv.out.below (below_tr hbr1_1 z.ok)).get5.2.2.1
  have qv3 := fun (z : BW r1_1) => (HXv.out.below (below_tr hbr1_1 z.ok)).get5.2.2.2.1
  have qv4 := fun (z : BW r1_1) => (HXv.out.below (below_tr hbr1_1 z.ok)).get5.2.2.2.2
  refine plan_last ?_
  simp only [pickOps, List.map_cons, List.map_nil, List.getElem?_toArray, List.getElem?_cons_zero, List.getElem?_cons_succ, Option.getD_some]
  repeat go_big_quiet_step (fail)
  refine wpQuiet_nil ?_
  have HI0 := hid (HI0.out.below hbr1_1)
  have HI1 := hid (HI1.out.below hbr1_1)
  have HSa := hid (HSa.out.below hbr1_1)
  have HSb := hid (HSb.out.below hbr1_1)
  have HXa := hid (HXa.out.below hbr1_1)
  have HXb := hid (HXb.out.below hbr1_1)
  have HXv := hid (HXv.out.below hbr1_1)
  have HG := hid (HG.out.below hbr1_1)
  have HB := hid (below_tr HB.out hbr1_1)
  clear qa0 qa1 qb0 qb1 qv0 qv1 qv2 qv3 qv4 Fr10 Fr11 HQr10 HQr11 kr1_0 kr1_1 hbr1_0 hbr1_1
  go_wp2_with fail
  have Fr21 := hid (H1.out)
  have Fr23 := hid (H2.out)
  have Fr25 := hid (H3.out)
  have Fr27 := hid (H4.out)
  have HCk := hid (fun wx (h : Below r1_1.heap.size r1_1 wx) => law_or 77 ca da cb db (HG.out.below h) (HSa.out.below h) (HSb.out.below h) (by decide) (by decide))
  simp only [LLa.out, LMa.out, LLb.out, LMb.out] at HCk
  generalize hz1 : (orS al am bl bm).1 = kl at *
  generalize hz2 : (orS al am bl bm).2 = km at *
  have HEkl := hid hz1
  have HEkm := hid hz2
  clear hz1 hz2
  have HCe := hid (fun wx (h : Below r1_1.heap.size r1_1 wx) => law_and 77 ca da cb db (HG.out.below h) (HSa.out.below h) (HSb.out.below h) (by decide) (by decide))
  simp only [LLa.out, LMa.out, LLb.out, LMb.out] at HCe
  generalize hz1 : (andS al am bl bm).1 = el at *
  generalize hz2 : (andS al am bl bm).2 = em at *
  have HEel := hid hz1
  have HEem := hid hz2
  clear hz1 hz2
  have HCf := hid (fun wx (h : Below r1_1.heap.size r1_1 wx) => law_not 39 ca da (HG.out.below h) (HSa.out.below h) (by decide) (by decide))
  simp only [LLa.out, LMa.out] at HCf
  generalize hz1 : (notS al am).1 = fl at *
  generalize hz2 : (notS al am).2 = fm at *
  have HEfl := hid hz1
  have HEfm := hid hz2
  clear hz1 hz2
  have HCi := hid (fun wx (h : Below r1_1.heap.size r1_1 wx) => law_minus 117 ca da cb db (HG.out.below h) (HSa.out.below h) (HSb.out.below h) (by decide) (by decide))
  simp only [LLa.out, LMa.out, LLb.out, LMb.out] at HCi
  generalize hz1 : (minusS al am bl bm).1 = il at *
  generalize hz2 : (minusS al am bl bm).2 = im at *
  have HEil := hid hz1
  have HEim := hid hz2
  clear hz1 hz2
  have HQr21 := hid (fun wx (h : Below r1_1.heap.size r1_1 wx) (Ck : Option Addr) (ek : Nat) (Dk : Option Addr) (fk : Nat) (jk : SetAt 77 wx Ck kl Dk km) => law_has (v := v) ek fk (HG.out.below h) jk HOv.out.2 (by decide))
  simp only [Fr21.out, Bool.or_self, Bool.or_true, Bool.true_or, Bool.false_or, Bool.or_false, Bool.and_self, Bool.and_true, Bool.true_and, Bool.false_and, Bool.and_false, Bool.not_true, Bool.not_false] at HQr21
  have HQr23 := hid (fun wx (h : Below r1_1.heap.size r1_1 wx) (Ce : Option Addr) (ee : Nat) (De : Option Addr) (fe : Nat) (je : SetAt 77 wx Ce el De em) => law_has (v := v) ee fe (HG.out.below h) je HOv.out.2 (by decide))
  simp only [Fr23.out, Bool.or_self, Bool.or_true, Bool.true_or, Bool.false_or, Bool.or_false, Bool.and_self, Bool.and_true, Bool.true_and, Bool.false_and, Bool.and_false, Bool.not_true, Bool.not_false] at HQr23
  have HQr25 := hid (fun wx (h : Below r1_1.heap.size r1_1 wx) (Cf : Option Addr) (ef : Nat) (Df : Option Addr) (ff : Nat) (jf : SetAt 39 wx Cf fl Df fm) => law_has (v := v) ef ff (HG.out.below h) jf HOv.out.2 (by decide))
  simp only [Fr25.out, Bool.or_self, Bool.or_true, Bool.true_or, Bool.false_or, Bool.or_false, Bool.and_self, Bool.and_true, Bool.true_and, Bool.false_and, Bool.and_false, Bool.not_true, Bool.not_false] at HQr25
  have HQr27 := hid (fun wx (h : Below r1_1.heap.size r1_1 wx) (Ci : Option Addr) (ei : Nat) (Di : Option Addr) (fi : Nat) (ji : SetAt 117 wx Ci il Di im) => law_has (v := v) ei fi (HG.out.below h) ji HOv.out.2 (by decide))
  simp only [Fr27.out, Bool.or_self, Bool.or_true, Bool.true_or, Bool.false_or, Bool.or_false, Bool.and_self, Bool.and_true, Bool.true_and, Bool.false_and, Bool.and_false, Bool.not_true, Bool.not_false] at HQr27
  generalize hq : kl.length = nk at *
  have LLk := hid hq
  clear hq
  generalize hq : km.length = mk at *
  have LMk := hid hq
  clear hq
  generalize hq : el.length = ne at *
  have LLe := hid hq
  clear hq
  generalize hq : em.length = me at *
  have LMe := hid hq
  clear hq
  generalize hq : fl.length = nf at *
  have LLf := hid hq
  clear hq
  generalize hq : fm.length = mf at *
  have LMf := hid hq
  clear hq
  generalize hq : il.length = ni at *
  have LLi := hid hq
  clear hq
  generalize hq : im.length = mi at *
  have LMi := hid hq
  clear hq
  have HCk := hid (fun wx (h : Below r1_1.heap.size r1_1 wx) => callBk LLk.out LMk.out (HCk.out wx h))
  have HCe := hid (fun wx (h : Below r1_1.heap.size r1_1 wx) => callBk LLe.out LMe.out (HCe.out wx h))
  have HCf := hid (fun wx (h : Below r1_1.heap.size r1_1 wx) => callBk LLf.out LMf.out (HCf.out wx h))
  have HCi := hid (fun wx (h : Below r1_1.heap.size r1_1 wx) => callBk LLi.out LMi.out (HCi.out wx h))
  cases x <;> cases y
  all_goals
    refine wp_plan (.call [0, 1, 3, 5] 2 (.call [] 4 (.call [6, 7, 8, 9, 10, 11, 12, 14, 16] 13 (.call [] 15 (.call [17, 18, 19, 20, 21, 22, 23, 25, 27, 28] 24 (.call [] 26 (.call [29, 30, 31, 32, 33, 35, 37] 34 (.call [] 36 (.last [38, 39, 40, 41, 42, 43, 44]))))))))) (by kernel_rfl) (by intro _ _ d _ _ h; cases d <;> exact h) (by kernel_rfl) ?_
    have qa0 := fun (z : BW r1_1) => (HXa.out.below z.ok).get2.1
    have qa1 := fun (z : BW r1_1) => (HXa.out.below z.ok).get2.2
    have qb0 := fun (z : BW r1_1) => (HXb.out.below z.ok).get2.1
    have qb1 := fun (z : BW r1_1) => (HXb.out.below z.ok).get2.2
    have qv0 := fun (z : BW r1_1) => (HXv.out.below z.ok).get5.1
    have qv1 := fun (z : BW r1_1) => (HXv.out.below z.ok).get5.2.1
    have qv2 := fun (z : BW r1_1) => (HXv.out.below z.ok).get5.2.2.1
    have qv3 := fun (z : BW r1_1) => (HXv.out.below z.ok).get5.2.2.2.1
    have qv4 := fun (z : BW r1_1) => (HXv.out.below z.ok).get5.2.2.2.2
    refine plan_call ?_
    simp only [pickOps, List.map_cons, List.map_nil, List.getElem?_toArray, List.getElem?_cons_zero, List.getElem?_cons_succ, Option.getD_some]
    repeat go_big_quiet_step (fail)
    refine wpQuiet_nil ?_
    go_wp2_with fail
    refine (HCk.out _ (Below.refl _ _).drew).mono ?_
    rintro _ r2_0 ⟨Ar2_0, cr2_0, Br2_0, dr2_0, rfl, Sk, -, -, kr2_0⟩
    have hbr2_0 : Below r1_1.heap.size r1_1 r2_0 := below_tr (Below.refl _ _).drew kr2_0
    go_wp2_with fail
    refine plan_on hbr2_0 ?_
    clear qa0 qa1 qb0 qb1 qv0 qv1 qv2 qv3 qv4
    have qa0 := fun (z : BW r2_0) => (HXa.out.below (below_tr hbr2_0 z.ok)).get2.1
    have qa1 := fun (z : BW r2_0) => (HXa.out.below (below_tr hbr2_0 z.ok)).get2.2
    have qb0 := fun (z : BW r2_0) => (HXb.out.below (below_tr hbr2_0 z.ok)).get2.1
    have qb1 := fun (z : BW r2_0) => (HXb.out.below (below_tr hbr2_0 z.ok)).get2.2
    have qv0 := fun (z : BW r2_0) => (HXv.out.below (below_tr hbr2_0 z.ok)).get5.1
    have qv1 := fun (z : BW r2_0) => (HXv.out.below (below_tr hbr2_0 z.ok)).get5.2.1
    have qv2 := fun (z : BW r2_0) => (HXv.out.below (below_tr hbr2_0 z.ok)).get5.2.2.1
    have qv3 := fun (z : BW r2_0) => (HXv.out.below (below_tr hbr2_0 z.ok)).get5.2.2.2.1
    have qv4 := fun (z : BW r2_0) => (HXv.out.below (below_tr hbr2_0 z.ok)).get5.2.2.2.2
    refine plan_call ?_
    simp only [pickOps, List.map_cons, List.map_nil, List.getElem?_toArray, List.getElem?_cons_zero, List.getElem?_cons_succ, Option.getD_some]
    repeat go_big_quiet_step (fail)
    refine wpQuiet_nil ?_
    go_wp2_with fail
    refine (HQr21.out _ hbr2_0 _ _ _ _ Sk).mono ?_
    rintro _ r2_1 ⟨rfl, kr2_1⟩
    have hbr2_1 : Below r1_1.heap.size r1_1 r2_1 := below_tr hbr2_0 kr2_1
    have Sk := Sk.below kr2_1
    go_wp2_with fail
    refine plan_on kr2_1 ?_
    clear qa0 qa1 qb0 qb1 qv0 qv1 qv2 qv3 qv4
    have qa0 := fun (z : BW r2_1) => (HXa.out.below (below_tr hbr2_1 z.ok)).get2.1
    have qa1 := fun (z : BW r2_1) => (HXa.out.below (below_tr hbr2_1 z.ok)).get2.2
    have qb0 := fun (z : BW r2_1) => (HXb.out.below (below_tr hbr2_1 z.ok)).get2.1
    have qb1 := fun (z : BW r2_1) => (HXb.out.below (below_tr hbr2_1 z.ok)).get2.2
    have qv0 := fun (z : BW r2_1) => (HXv.out.below (below_tr hbr2_1 z.ok)).get5.1
    have qv1 := fun (z : BW r2_1) => (HXv.out.below (below_tr hbr2_1 z.ok)).get5.2.1
    have qv2 := fun (z : BW r2_1) => (HXv.out.below (below_tr hbr2_1 z.ok)).get5.2.2.1
    have qv3 := fun (z : BW r2_1) => (HXv.out.below (below_tr hbr2_1 z.ok)).get5.2.2.2.1
    have qv4 := fun (z : BW r2_1) => (HXv.out.below (below_tr hbr2_1 z.ok)).get5.2.2.2.2
    refine plan_call ?_
    simp only [pickOps, List.map_cons, List.map_nil, List.getElem?_toArray, List.getElem?_cons_zero, List.getElem?_cons_succ, Option.getD_some]
    repeat go_big_quiet_step (fail)
    refine wpQuiet_nil ?_
    go_wp2_with fail
    refine (HCe.out _ hbr2_1).mono ?_
    rintro _ r2_2 ⟨Ar2_2, cr2_2, Br2_2, dr2_2, rfl, Se, -, -, kr2_2⟩
    have hbr2_2 : Below r1_1.heap.size r1_1 r2_2 := below_tr hbr2_1 kr2_2
    have Sk := Sk.below kr2_2
    go_wp2_with fail
    refine plan_on kr2_2 ?_
    clear qa0 qa1 qb0 qb1 qv0 qv1 qv2 qv3 qv4
    have qa0 := fun (z : BW r2_2) => (HXa.out.below (below_tr hbr2_2 z.ok)).get2.1
    have qa1 := fun (z : BW r2_2) => (HXa.out.below (below_tr hbr2_2 z.ok)).get2.2
    have qb0 := fun (z : BW r2_2) => (HXb.out.below (below_tr hbr2_2 z.ok)).get2.1
    have qb1 := fun (z : BW r2_2) => (HXb.out.below (below_tr hbr2_2 z.ok)).get2.2
    have qv0 := fun (z : BW r2_2) => (HXv.out.below (below_tr hbr2_2 z.ok)).get5.1
    have qv1 := fun (z : BW r2_2) => (HXv.out.below (below_tr hbr2_2 z.ok)).get5.2.1
    have qv2 := fun (z : BW r2_2) => (HXv.out.below (below_tr hbr2_2 z.ok)).get5.2.2.1
    have qv3 := fun (z : BW r2_2) => (HXv.out.below (below_tr hbr2_2 z.ok)).get5.2.2.2.1
    have qv4 := fun (z : BW r2_2) => (HXv.out.below (below_tr hbr2_2 z.ok)).get5.2.2.2.2
    refine plan_call ?_
    simp only [pickOps, List.map_cons, List.map_nil, List.getElem?_toArray, List.getElem?_cons_zero, List.getElem?_cons_succ, Option.getD_some]
    repeat go_big_quiet_step (fail)
    refine wpQuiet_nil ?_
    go_wp2_with fail
    refine (HQr23.out _ hbr2_2 _ _ _ _ Se).mono ?_
    rintro _ r2_3 ⟨rfl, kr2_3⟩
    have hbr2_3 : Below r1_1.heap.size r1_1 r2_3 := below_tr hbr2_2 kr2_3
    have Sk := Sk.below kr2_3
    have Se := Se.below kr2_3
    go_wp2_with fail
    refine plan_on kr2_3 ?_
    clear qa0 qa1 qb0 qb1 qv0 qv1 qv2 qv3 qv4
    have qa0 := fun (z : BW r2_3) => (HXa.out.below (below_tr hbr2_3 z.ok)).get2.1
    have qa1 := fun (z : BW r2_3) => (HXa.out.below (below_tr hbr2_3 z.ok)).get2.2
    have qb0 := fun (z : BW r2_3) => (HXb.out.below (below_tr hbr2_3 z.ok)).get2.1
    have qb1 := fun (z : BW r2_3) => (HXb.out.below (below_tr hbr2_3 z.ok)).get2.2
    have qv0 := fun (z : BW r2_3) => (HXv.out.below (below_tr hbr2_3 z.ok)).get5.1
    have qv1 := fun (z : BW r2_3) => (HXv.out.below (below_tr hbr2_3 z.ok)).get5.2.1
    have qv2 := fun (z : BW r2_3) => (HXv.out.below (below_tr hbr2_3 z.ok)).get5.2.2.1
    have qv3 := fun (z : BW r2_3) => (HXv.out.below (below_tr hbr2_3 z.ok)).get5.2.2.2.1
    have qv4 := fun (z : BW r2_3) => (HXv.out.below (below_tr hbr2_3 z.ok)).get5.2.2.2.2
    refine plan_call ?_
    simp only [pickOps, List.map_cons, List.map_nil, List.getElem?_toArray, List.getElem?_cons_zero, List.getElem?_cons_succ, Option.getD_some]
    repeat go_big_quiet_step (fail)
    refine wpQuiet_nil ?_
    go_wp2_with fail
    refine (HCf.out _ hbr2_3).mono ?_
    rintro _ r2_4 ⟨Ar2_4, cr2_4, Br2_4, dr2_4, rfl, Sf, -, -, kr2_4⟩
    have hbr2_4 : Below r1_1.heap.size r1_1 r2_4 := below_tr hbr2_3 kr2_4
    have Sk := Sk.below kr2_4
    have Se := Se.below kr2_4
    go_wp2_with fail
    refine plan_on kr2_4 ?_
    clear qa0 qa1 qb0 qb1 qv0 qv1 qv2 qv3 qv4
    have qa0 := fun (z : BW r2_4) => (HXa.out.below (below_tr hbr2_4 z.ok)).get2.1
    have qa1 := fun (z : BW r2_4) => (HXa.out.below (below_tr hbr2_4 z.ok)).get2.2
    have qb0 := fun (z : BW r2_4) => (HXb.out.below (below_tr hbr2_4 z.ok)).get2.1
    have qb1 := fun (z : BW r2_4) => (HXb.out.below (below_tr hbr2_4 z.ok)).get2.2
    have qv0 := fun (z : BW r2_4) => (HXv.out.below (below_tr hbr2_4 z.ok)).get5.1
    have qv1 := fun (z : BW r2_4) => (HXv.out.below (below_tr hbr2_4 z.ok)).get5.2.1
    have qv2 := fun (z : BW r2_4) => (HXv.out.below (below_tr hbr2_4 z.ok)).get5.2.2.1
    have qv3 := fun (z : BW r2_4) => (HXv.out.below (below_tr hbr2_4 z.ok)).get5.2.2.2.1
    have qv4 := fun (z : BW r2_4) => (HXv.out.below (below_tr hbr2_4 z.ok)).get5.2.2.2.2
    refine plan_call ?_
    simp only [pickOps, List.map_cons, List.map_nil, List.getElem?_toArray, List.getElem?_cons_zero, List.getElem?_cons_succ, Option.getD_some]
    repeat go_big_quiet_step (fail)
    refine wpQuiet_nil ?_
    go_wp2_with fail
    refine (HQr25.out _ hbr2_4 _ _ _ _ Sf).mono ?_
    rintro _ r2_5 ⟨rfl, kr2_5⟩
    have hbr2_5 : Below r1_1.heap.size r1_1 r2_5 := below_tr hbr2_4 kr2_5
    have Sk := Sk.below kr2_5
    have Se := Se.below kr2_5
    have Sf := Sf.below kr2_5
    go_wp2_with fail
    refine plan_on kr2_5 ?_
    clear qa0 qa1 qb0 qb1 qv0 qv1 qv2 qv3 qv4
    have qa0 := fun (z : BW r2_5) => (HXa.out.below (below_tr hbr2_5 z.ok)).get2.1
    have qa1 := fun (z : BW r2_5) => (HXa.out.below (below_tr hbr2_5 z.ok)).get2.2
    have qb0 := fun (z : BW r2_5) => (HXb.out.below (below_tr hbr2_5 z.ok)).get2.1
    have qb1 := fun (z : BW r2_5) => (HXb.out.below (below_tr hbr2_5 z.ok)).get2.2
    have qv0 := fun (z : BW r2_5) => (HXv.out.below (below_tr hbr2_5 z.ok)).get5.1
    have qv1 := fun (z : BW r2_5) => (HXv.out.below (below_tr hbr2_5 z.ok)).get5.2.1
    have qv2 := fun (z : BW r2_5) => (HXv.out.below (below_tr hbr2_5 z.ok)).get5.2.2.1
    have qv3 := fun (z : BW r2_5) => (HXv.out.below (below_tr hbr2_5 z.ok)).get5.2.2.2.1
    have qv4 := fun (z : BW r2_5) => (HXv.out.below (below_tr hbr2_5 z.ok)).get5.2.2.2.2
    refine plan_call ?_
    simp only [pickOps, List.map_cons, List.map_nil, List.getElem?_toArray, List.getElem?_cons_zero, List.getElem?_cons_succ, Option.getD_some]
    repeat go_big_quiet_step (fail)
    refine wpQuiet_nil ?_
    go_wp2_with fail
    refine (HCi.out _ hbr2_5).mono ?_
    rintro _ r2_6 ⟨Ar2_6, cr2_6, Br2_6, dr2_6, rfl, Si, -, -, kr2_6⟩
    have hbr2_6 : Below r1_1.heap.size r1_1 r2_6 := below_tr hbr2_5 kr2_6
    have Sk := Sk.below kr2_6
    have Se := Se.below kr2_6
    have Sf := Sf.below kr2_6
    go_wp2_with fail
    refine plan_on kr2_6 ?_
    clear qa0 qa1 qb0 qb1 qv0 qv1 qv2 qv3 qv4
    have qa0 := fun (z : BW r2_6) => (HXa.out.below (below_tr hbr2_6 z.ok)).get2.1
    have qa1 := fun (z : BW r2_6) => (HXa.out.below (below_tr hbr2_6 z.ok)).get2.2
    have qb0 := fun (z : BW r2_6) => (HXb.out.below (below_tr hbr2_6 z.ok)).get2.1
    have qb1 := fun (z : BW r2_6) => (HXb.out.below (below_tr hbr2_6 z.ok)).get2.2
    have qv0 := fun (z : BW r2_6) => (HXv.out.below (below_tr hbr2_6 z.ok)).get5.1
    have qv1 := fun (z : BW r2_6) => (HXv.out.below (below_tr hbr2_6 z.ok)).get5.2.1
    have qv2 := fun (z : BW r2_6) => (HXv.out.below (below_tr hbr2_6 z.ok)).get5.2.2.1
    have qv3 := fun (z : BW r2_6) => (HXv.out.below (below_tr hbr2_6 z.ok)).get5.2.2.2.1
    have qv4 := fun (z : BW r2_6) => (HXv.out.below (below_tr hbr2_6 z.ok)).get5.2.2.2.2
    refine plan_call ?_
    simp only [pickOps, List.map_cons, List.map_nil, List.getElem?_toArray, List.getElem?_cons_zero, List.getElem?_cons_succ, Option.getD_some]
    repeat go_big_quiet_step (fail)
    refine wpQuiet_nil ?_
    go_wp2_with fail
    refine (HQr27.out _ hbr2_6 _ _ _ _ Si).mono ?_
    rintro _ r2_7 ⟨rfl, kr2_7⟩
    have hbr2_7 : Below r1_1.heap.size r1_1 r2_7 := below_tr hbr2_6 kr2_7
    have Sk := Sk.below kr2_7
    have Se := Se.below kr2_7
    have Sf := Sf.below kr2_7
    have Si := Si.below kr2_7
    go_wp2_with fail
    refine plan_on kr2_7 ?_
    clear qa0 qa1 qb0 qb1 qv0 qv1 qv2 qv3 qv4
    have qa0 := fun (z : BW r2_7) => (HXa.out.below (below_tr hbr2_7 z.ok)).get2.1
    have qa1 := fun (z : BW r2_7) => (HXa.out.below (below_tr hbr2_7 z.ok)).get2.2
    have qb0 := fun (z : BW r2_7) => (HXb.out.below (below_tr hbr2_7 z.ok)).get2.1
    have qb1 := fun (z : BW r2_7) => (HXb.out.below (below_tr hbr2_7 z.ok)).get2.2
    have qv0 := fun (z : BW r2_7) => (HXv.out.below (below_tr hbr2_7 z.ok)).get5.1
    have qv1 := fun (z : BW r2_7) => (HXv.out.below (below_tr hbr2_7 z.ok)).get5.2.1
    have qv2 := fun (z : BW r2_7) => (HXv.out.below (below_tr hbr2_7 z.ok)).get5.2.2.1
    have qv3 := fun (z : BW r2_7) => (HXv.out.below (below_tr hbr2_7 z.ok)).get5.2.2.2.1
    have qv4 := fun (z : BW r2_7) => (HXv.out.below (below_tr hbr2_7 z.ok)).get5.2.2.2.2
    refine plan_last ?_
    simp only [pickOps, List.map_cons, List.map_nil, List.getElem?_toArray, List.getElem?_cons_zero, List.getElem?_cons_succ, Option.getD_some]
    repeat go_big_quiet_step (fail)
    refine wpQuiet_nil ?_
    have HI0 := hid (HI0.out.below hbr2_7)
    have HI1 := hid (HI1.out.below hbr2_7)
    have HSa := hid (HSa.out.below hbr2_7)
    have HSb := hid (HSb.out.below hbr2_7)
    have HXa := hid (HXa.out.below hbr2_7)
    have HXb := hid (HXb.out.below hbr2_7)
    have HXv := hid (HXv.out.below hbr2_7)
    have HG := hid (HG.out.below hbr2_7)
    have HB := hid (below_tr HB.out hbr2_7)
    clear qa0 qa1 qb0 qb1 qv0 qv1 qv2 qv3 qv4 Fr21 Fr23 Fr25 Fr27 HCk HEkl HEkm HCe HEel HEem HCf HEfl HEfm HCi HEil HEim HQr21 HQr23 HQr25 HQr27 LLk LMk LLe LMe LLf LMf LLi LMi kr2_0 kr2_1 hbr2_0 kr2_2 hbr2_1 kr2_3 hbr2_2 kr2_4 hbr2_3 kr2_5 hbr2_4 kr2_6 hbr2_5 kr2_7 hbr2_6 Sk Se Sf Si hbr2_7
    cases bp <;> try (exfalso; have hshut := H5.out; simp at hshut; done)
    all_goals
      have HQ := hid (fun wx (h : Below r2_7.heap.size r2_7 wx) => law_within ca da cb db (HG.out.below h) (HSa.out.below h) (HSb.out.below h) (by decide))
      have HF := hid (HHP.out)
      simp only [LLa.out, LMa.out, LLb.out, LMb.out, HF.out] at HQ
      obtain ⟨u0, u1⟩ := HXa.out.get2
      obtain ⟨u2, u3⟩ := HXb.out.get2
      go_wp2_with fail
      refine (HQ.out _ (Below.refl _ _)).mono ?_
      rintro _ w5 ⟨rfl, hb⟩
      have HI0 := hid (HI0.out.below hb)
      have HI1 := hid (HI1.out.below hb)
      have HSa := hid (HSa.out.below hb)
      have HSb := hid (HSb.out.below hb)
      have HXa := hid (HXa.out.below hb)
      have HXb := hid (HXb.out.below hb)
      have HXv := hid (HXv.out.below hb)
      have HG := hid (HG.out.below hb)
      have HB := hid (below_tr HB.out hb)
      clear hb u0 u1 u2 u3 HQ HF
      cases bq <;> try (exfalso; have hshut := H6.out; simp at hshut; done)
      all_goals
        go_wp2_with fail
        have Fr31 := hid (HHQ.out)
        have Fr33 : Hid (hasS wholeL wholeL v = true) := hid (by exact all_has HOv.out.1)
        have Fr35 : Hid (hasS [] [] v = false) := hid (by exact none_has)
        have HCall : Hid (∀ wx, Calls Tryz.prog 18 #[] wx (SetBack 1 wx wholeL wholeL)) := hid law_all
        generalize hz1 : wholeL = allL at *
        clear hz1
        have HQr30 := hid (fun wx (h : Below w5.heap.size w5 wx) => s5awake_any wx (HG.out.below h))
        have HQr31 := hid (fun wx (h : Below w5.heap.size w5 wx) => law_apart ca da cb db (HG.out.below h) (HSa.out.below h) (HSb.out.below h) (by decide))
        simp only [LLa.out, LMa.out, LLb.out, LMb.out, Fr31.out, Bool.or_self, Bool.or_true, Bool.true_or, Bool.false_or, Bool.or_false, Bool.and_self, Bool.and_true, Bool.true_and, Bool.false_and, Bool.and_false, Bool.not_true, Bool.not_false] at HQr31
        have HQr33 := hid (fun wx (h : Below w5.heap.size w5 wx) (Call : Option Addr) (eall : Nat) (Dall : Option Addr) (fall : Nat) (jall : SetAt 1 wx Call allL Dall allL) => law_has (v := v) eall fall (HG.out.below h) jall HOv.out.2 (by decide))
        simp only [Fr33.out, Bool.or_self, Bool.or_true, Bool.true_or, Bool.false_or, Bool.or_false, Bool.and_self, Bool.and_true, Bool.true_and, Bool.false_and, Bool.and_false, Bool.not_true, Bool.not_false] at HQr33
        have HQr35 := hid (fun wx (h : Below w5.heap.size w5 wx) => law_has (v := v) 0 0 (HG.out.below h) (SetAt.none wx) HOv.out.2 (by decide))
        simp only [Fr35.out, Bool.or_self, Bool.or_true, Bool.true_or, Bool.false_or, Bool.or_false, Bool.and_self, Bool.and_true, Bool.true_and, Bool.false_and, Bool.and_false, Bool.not_true, Bool.not_false] at HQr35
        generalize hq : allL.length = nall at *
        have Lall := hid hq
        clear hq
        have HCall := hid (fun wx => callBk Lall.out Lall.out (HCall.out wx))
        simp only [List.length_nil] at HQr35
        refine wp_plan (.call [] 0 (.call [1, 2, 3, 4, 5, 6, 7, 8, 9] 10 (.call [11, 12, 13, 14, 15, 16, 17, 18, 19, 20, 21, 23] 22 (.call [] 24 (.call [25, 26, 28] 27 (.call [] 29 (.last [30, 31, 32]))))))) (by kernel_rfl) (by intro _ _ d _ _ h; cases d <;> exact h) (by kernel_rfl) ?_
        have qa0 := fun (z : BW w5) => (HXa.out.below z.ok).get2.1
        have qa1 := fun (z : BW w5) => (HXa.out.below z.ok).get2.2
        have qb0 := fun (z : BW w5) => (HXb.out.below z.ok).get2.1
        have qb1 := fun (z : BW w5) => (HXb.out.below z.ok).get2.2
        have qv0 := fun (z : BW w5) => (HXv.out.below z.ok).get5.1
        have qv1 := fun (z : BW w5) => (HXv.out.below z.ok).get5.2.1
        have qv2 := fun (z : BW w5) => (HXv.out.below z.ok).get5.2.2.1
        have qv3 := fun (z : BW w5) => (HXv.out.below z.ok).get5.2.2.2.1
        have qv4 := fun (z : BW w5) => (HXv.out.below z.ok).get5.2.2.2.2
        refine plan_call ?_
        simp only [pickOps, List.map_cons, List.map_nil, List.getElem?_toArray, List.getElem?_cons_zero, List.getElem?_cons_succ, Option.getD_some]
        repeat go_big_quiet_step (fail)
        refine wpQuiet_nil ?_
        go_wp2_with fail
        refine (HQr30.out _ (Below.refl _ _).drew).mono ?_
        rintro _ r3_0 ⟨rfl, kr3_0⟩
        have hbr3_0 : Below w5.heap.size w5 r3_0 := below_tr (Below.refl _ _).drew kr3_0
        go_wp2_with fail
        refine plan_on hbr3_0 ?_
        clear qa0 qa1 qb0 qb1 qv0 qv1 qv2 qv3 qv4
        have qa0 := fun (z : BW r3_0) => (HXa.out.below (below_tr hbr3_0 z.ok)).get2.1
        have qa1 := fun (z : BW r3_0) => (HXa.out.below (below_tr hbr3_0 z.ok)).get2.2
        have qb0 := fun (z : BW r3_0) => (HXb.out.below (below_tr hbr3_0 z.ok)).get2.1
        have qb1 := fun (z : BW r3_0) => (HXb.out.below (below_tr hbr3_0 z.ok)).get2.2
        have qv0 := fun (z : BW r3_0) => (HXv.out.below (below_tr hbr3_0 z.ok)).get5.1
        have qv1 := fun (z : BW r3_0) => (HXv.out.below (below_tr hbr3_0 z.ok)).get5.2.1
        have qv2 := fun (z : BW r3_0) => (HXv.out.below (below_tr hbr3_0 z.ok)).get5.2.2.1
        have qv3 := fun (z : BW r3_0) => (HXv.out.below (below_tr hbr3_0 z.ok)).get5.2.2.2.1
        have qv4 := fun (z : BW r3_0) => (HXv.out.below (below_tr hbr3_0 z.ok)).get5.2.2.2.2
        refine plan_call ?_
        simp only [pickOps, List.map_cons, List.map_nil, List.getElem?_toArray, List.getElem?_cons_zero, List.getElem?_cons_succ, Option.getD_some]
        repeat go_big_quiet_step (fail)
        refine wpQuiet_nil ?_
        go_wp2_with fail
        refine (HQr31.out _ hbr3_0).mono ?_
        rintro _ r3_1 ⟨rfl, kr3_1⟩
        have hbr3_1 : Below w5.heap.size w5 r3_1 := below_tr hbr3_0 kr3_1
        go_wp2_with fail
        refine plan_on kr3_1 ?_
        clear qa0 qa1 qb0 qb1 qv0 qv1 qv2 qv3 qv4
        have qa0 := fun (z : BW r3_1) => (HXa.out.below (below_tr hbr3_1 z.ok)).get2.1
        have qa1 := fun (z : BW r3_1) => (HXa.out.below (below_tr hbr3_1 z.ok)).get2.2
        have qb0 := fun (z : BW r3_1) => (HXb.out.below (below_tr hbr3_1 z.ok)).get2.1
        have qb1 := fun (z : BW r3_1) => (HXb.out.below (below_tr hbr3_1 z.ok)).get2.2
        have qv0 := fun (z : BW r3_1) => (HXv.out.below (below_tr hbr3_1 z.ok)).get5.1
        have qv1 := fun (z : BW r3_1) => (HXv.out.below (below_tr hbr3_1 z.ok)).get5.2.1
        have qv2 := fun (z : BW r3_1) => (HXv.out.below (below_tr hbr3_1 z.ok)).get5.2.2.1
        have qv3 := fun (z : BW r3_1) => (HXv.out.below (below_tr hbr3_1 z.ok)).get5.2.2.2.1
        have qv4 := fun (z : BW r3_1) => (HXv.out.below (below_tr hbr3_1 z.ok)).get5.2.2.2.2
        refine plan_call ?_
        simp only [pickOps, List.map_cons, List.map_nil, List.getElem?_toArray, List.getElem?_cons_zero, List.getElem?_cons_succ, Option.getD_some]
        repeat go_big_quiet_step (fail)
        refine wpQuiet_nil ?_
        go_wp2_with fail
        refine (HCall.out _).mono ?_
        rintro _ r3_2 ⟨Ar3_2, cr3_2, Br3_2, dr3_2, rfl, Sall, -, -, kr3_2⟩
        have hbr3_2 : Below w5.heap.size w5 r3_2 := below_tr hbr3_1 kr3_2
        go_wp2_with fail
        refine plan_on kr3_2 ?_
        clear qa0 qa1 qb0 qb1 qv0 qv1 qv2 qv3 qv4
        have qa0 := fun (z : BW r3_2) => (HXa.out.below (below_tr hbr3_2 z.ok)).get2.1
        have qa1 := fun (z : BW r3_2) => (HXa.out.below (below_tr hbr3_2 z.ok)).get2.2
        have qb0 := fun (z : BW r3_2) => (HXb.out.below (below_tr hbr3_2 z.ok)).get2.1
        have qb1 := fun (z : BW r3_2) => (HXb.out.below (below_tr hbr3_2 z.ok)).get2.2
        have qv0 := fun (z : BW r3_2) => (HXv.out.below (below_tr hbr3_2 z.ok)).get5.1
        have qv1 := fun (z : BW r3_2) => (HXv.out.below (below_tr hbr3_2 z.ok)).get5.2.1
        have qv2 := fun (z : BW r3_2) => (HXv.out.below (below_tr hbr3_2 z.ok)).get5.2.2.1
        have qv3 := fun (z : BW r3_2) => (HXv.out.below (below_tr hbr3_2 z.ok)).get5.2.2.2.1
        have qv4 := fun (z : BW r3_2) => (HXv.out.below (below_tr hbr3_2 z.ok)).get5.2.2.2.2
        refine plan_call ?_
        simp only [pickOps, List.map_cons, List.map_nil, List.getElem?_toArray, List.getElem?_cons_zero, List.getElem?_cons_succ, Option.getD_some]
        repeat go_big_quiet_step (fail)
        refine wpQuiet_nil ?_
        go_wp2_with fail
        refine (HQr33.out _ hbr3_2 _ _ _ _ Sall).mono ?_
        rintro _ r3_3 ⟨rfl, kr3_3⟩
        have hbr3_3 : Below w5.heap.size w5 r3_3 := below_tr hbr3_2 kr3_3
        have Sall := Sall.below kr3_3
        go_wp2_with fail
        refine plan_on kr3_3 ?_
        clear qa0 qa1 qb0 qb1 qv0 qv1 qv2 qv3 qv4
        have qa0 := fun (z : BW r3_3) => (HXa.out.below (below_tr hbr3_3 z.ok)).get2.1
        have qa1 := fun (z : BW r3_3) => (HXa.out.below (below_tr hbr3_3 z.ok)).get2.2
        have qb0 := fun (z : BW r3_3) => (HXb.out.below (below_tr hbr3_3 z.ok)).get2.1
        have qb1 := fun (z : BW r3_3) => (HXb.out.below (below_tr hbr3_3 z.ok)).get2.2
        have qv0 := fun (z : BW r3_3) => (HXv.out.below (below_tr hbr3_3 z.ok)).get5.1
        have qv1 := fun (z : BW r3_3) => (HXv.out.below (below_tr hbr3_3 z.ok)).get5.2.1
        have qv2 := fun (z : BW r3_3) => (HXv.out.below (below_tr hbr3_3 z.ok)).get5.2.2.1
        have qv3 := fun (z : BW r3_3) => (HXv.out.below (below_tr hbr3_3 z.ok)).get5.2.2.2.1
        have qv4 := fun (z : BW r3_3) => (HXv.out.below (below_tr hbr3_3 z.ok)).get5.2.2.2.2
        refine plan_call ?_
        simp only [pickOps, List.map_cons, List.map_nil, List.getElem?_toArray, List.getElem?_cons_zero, List.getElem?_cons_succ, Option.getD_some]
        repeat go_big_quiet_step (fail)
        refine wpQuiet_nil ?_
        go_wp2_with fail
        refine (snone_any _).mono ?_
        rintro _ r3_4 ⟨rfl, kr3_4⟩
        have hbr3_4 : Below w5.heap.size w5 r3_4 := below_tr hbr3_3 kr3_4
        have Sall := Sall.below kr3_4
        go_wp2_with fail
        refine plan_on kr3_4 ?_
        clear qa0 qa1 qb0 qb1 qv0 qv1 qv2 qv3 qv4
        have qa0 := fun (z : BW r3_4) => (HXa.out.below (below_tr hbr3_4 z.ok)).get2.1
        have qa1 := fun (z : BW r3_4) => (HXa.out.below (below_tr hbr3_4 z.ok)).get2.2
        have qb0 := fun (z : BW r3_4) => (HXb.out.below (below_tr hbr3_4 z.ok)).get2.1
        have qb1 := fun (z : BW r3_4) => (HXb.out.below (below_tr hbr3_4 z.ok)).get2.2
        have qv0 := fun (z : BW r3_4) => (HXv.out.below (below_tr hbr3_4 z.ok)).get5.1
        have qv1 := fun (z : BW r3_4) => (HXv.out.below (below_tr hbr3_4 z.ok)).get5.2.1
        have qv2 := fun (z : BW r3_4) => (HXv.out.below (below_tr hbr3_4 z.ok)).get5.2.2.1
        have qv3 := fun (z : BW r3_4) => (HXv.out.below (below_tr hbr3_4 z.ok)).get5.2.2.2.1
        have qv4 := fun (z : BW r3_4) => (HXv.out.below (below_tr hbr3_4 z.ok)).get5.2.2.2.2
        refine plan_call ?_
        simp only [pickOps, List.map_cons, List.map_nil, List.getElem?_toArray, List.getElem?_cons_zero, List.getElem?_cons_succ, Option.getD_some]
        repeat go_big_quiet_step (fail)
        refine wpQuiet_nil ?_
        go_wp2_with fail
        refine (HQr35.out _ hbr3_4).mono ?_
        rintro _ r3_5 ⟨rfl, kr3_5⟩
        have hbr3_5 : Below w5.heap.size w5 r3_5 := below_tr hbr3_4 kr3_5
        have Sall := Sall.below kr3_5
        go_wp2_with fail
        refine plan_on kr3_5 ?_
        clear qa0 qa1 qb0 qb1 qv0 qv1 qv2 qv3 qv4
        have qa0 := fun (z : BW r3_5) => (HXa.out.below (below_tr hbr3_5 z.ok)).get2.1
        have qa1 := fun (z : BW r3_5) => (HXa.out.below (below_tr hbr3_5 z.ok)).get2.2
        have qb0 := fun (z : BW r3_5) => (HXb.out.below (below_tr hbr3_5 z.ok)).get2.1
        have qb1 := fun (z : BW r3_5) => (HXb.out.below (below_tr hbr3_5 z.ok)).get2.2
        have qv0 := fun (z : BW r3_5) => (HXv.out.below (below_tr hbr3_5 z.ok)).get5.1
        have qv1 := fun (z : BW r3_5) => (HXv.out.below (below_tr hbr3_5 z.ok)).get5.2.1
        have qv2 := fun (z : BW r3_5) => (HXv.out.below (below_tr hbr3_5 z.ok)).get5.2.2.1
        have qv3 := fun (z : BW r3_5) => (HXv.out.below (below_tr hbr3_5 z.ok)).get5.2.2.2.1
        have qv4 := fun (z : BW r3_5) => (HXv.out.below (below_tr hbr3_5 z.ok)).get5.2.2.2.2
        refine plan_last ?_
        simp only [pickOps, List.map_cons, List.map_nil, List.getElem?_toArray, List.getElem?_cons_zero, List.getElem?_cons_succ, Option.getD_some]
        repeat go_big_quiet_step (fail)
        refine wpQuiet_nil ?_
        have HI0 := hid (HI0.out.below hbr3_5)
        have HI1 := hid (HI1.out.below hbr3_5)
        have HSa := hid (HSa.out.below hbr3_5)
        have HSb := hid (HSb.out.below hbr3_5)
        have HXa := hid (HXa.out.below hbr3_5)
        have HXb := hid (HXb.out.below hbr3_5)
        have HXv := hid (HXv.out.below hbr3_5)
        have HG := hid (HG.out.below hbr3_5)
        have HB := hid (below_tr HB.out hbr3_5)
        clear qa0 qa1 qb0 qb1 qv0 qv1 qv2 qv3 qv4 Fr31 Fr33 Fr35 HCall HQr30 HQr31 HQr33 HQr35 Lall kr3_0 kr3_1 hbr3_0 kr3_2 hbr3_1 kr3_3 hbr3_2 kr3_4 hbr3_3 kr3_5 hbr3_4 Sall hbr3_5
        go_wp2_with fail
        go_ret
        exact ⟨rfl, HB.out⟩
end Go.Proofs.YtmnjnoggchgnjaaGreatDoor
