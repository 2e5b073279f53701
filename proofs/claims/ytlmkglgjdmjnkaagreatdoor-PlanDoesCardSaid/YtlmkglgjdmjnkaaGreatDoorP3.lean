/- Lines compared: linchpinref33.SameLine, SameLines; a line in a row: linchpinref39.named, has. -/
import Derived.Test.YtlmkglgjdmjnkaaGreatDoorP2
namespace Go.Proofs.YtlmkglgjdmjnkaaGreatDoor
open Go.RowKit Go.Lib
open Rw
set_option linter.unusedVariables false
set_option linter.unusedSimpArgs false

set_option maxRecDepth 100000 in
set_option maxHeartbeats 2000000 in
theorem sameline_any (x y : LockL) (hx hy : LockH) (w : World) (h1 : LockIs w x hx) (h2 : LockIs w y hy) : Calls Tryz.prog 27 #[x.val hx, y.val hy] w (BoolK w (eqLk x y)) := by
  have HX := hid h1.tx
  have HY := hid h2.tx
  have hxl := h1.ln
  have HV := hid (show eqLk x y = (sameB x.name y.name && (eqVer x.v y.v && (sameB x.shelf y.shelf && ((x.sum == y.sum) && eqL sameB x.feats y.feats)))) from rfl)
  have HL := hid (fun h => eqL_len (f := sameB) (a := x.feats) (b := y.feats) h)
  have hnv := fun u => neqVv x.v y.v u
  have hgv := fun op a b u => eqgV op a b x.v y.v u
  have H2 := hid (two_boxes w (x.cells hx) (y.cells hy) 33 33)
  clear h1 h2
  obtain ⟨xn, xv, xs, xm, xf⟩ := x
  obtain ⟨yn, yv, ys, ym, yf⟩ := y
  dsimp only [LockL.cells, LockL.val, Ver.val] at HX HY hxl HV HL hnv hgv H2 ⊢
  generalize eqLk _ _ = res at *
  obtain ⟨q1, e1⟩ : ∃ q, (xn.toList == yn.toList) = q := ⟨_, rfl⟩
  have e1n : (xn.toList != yn.toList) = !q1 := by rw [bne, e1]
  obtain ⟨q3, e3⟩ : ∃ q, (xs.toList == ys.toList) = q := ⟨_, rfl⟩
  have e3n : (xs.toList != ys.toList) = !q3 := by rw [bne, e3]
  obtain ⟨q4, e4⟩ : ∃ q, (xm == ym) = q := ⟨_, rfl⟩
  have e4n : (xm != ym) = !q4 := by rw [bne, e4]
  replace HV := hid (show res = (q1 && (eqVer xv yv && (q3 && (q4 && eqL sameB xf yf)))) from by rw [HV.out, sameB, sameB, e1, e3, e4])
  generalize eqVer xv yv = q2 at *
  generalize hna : xf.length = n at *
  generalize hnb : yf.length = m at *
  have HN := hid hna
  have HM := hid hnb
  clear hna hnb
  go_enter Tryz.func27, Tryz.ntmps27
  go_upto_region 1 with fail
  refine wp_name ?_
  intro u1 hu
  have HG := hid (show Box u1 w.heap.size _ ∧ Box u1 (w.heap.size + 1) _ ∧ KB w.heap.size w u1 from by rw [hu]; exact H2.out)
  have G1 := hid HG.out.1
  have G2 := hid HG.out.2.1
  have HB1 := hid HG.out.2.2
  clear hu H2 HG
  generalize w.heap.size + 1 = g2 at *
  have x0 := G1.out.2 0 _ rfl
  have x1 := G1.out.2 1 _ rfl
  have x2 := G1.out.2 2 _ rfl
  have x3 := G1.out.2 3 _ rfl
  have x4 := G1.out.2 4 _ rfl
  have x5 := G1.out.2 5 _ rfl
  have x6 := G1.out.2 6 _ rfl
  have x7 := G1.out.2 7 _ rfl
  have x8 := G1.out.2 8 _ rfl
  have xl := G1.out.1
  have y0 := G2.out.2 0 _ rfl
  have y1 := G2.out.2 1 _ rfl
  have y2 := G2.out.2 2 _ rfl
  have y3 := G2.out.2 3 _ rfl
  have y4 := G2.out.2 4 _ rfl
  have y5 := G2.out.2 5 _ rfl
  have y6 := G2.out.2 6 _ rfl
  have y7 := G2.out.2 7 _ rfl
  have y8 := G2.out.2 8 _ rfl
  have yl := G2.out.1
  cases q1
  · go_wp2_with fail
    try rw [Exit.noGoto_ret]
    try go_ret
    exact ⟨by rw [HV.out] <;> rfl, HB1.out⟩
  cases q2
  · go_wp2_with fail
    try rw [Exit.noGoto_ret]
    try go_ret
    exact ⟨by rw [HV.out] <;> rfl, HB1.out⟩
  cases q3
  · go_wp2_with fail
    try rw [Exit.noGoto_ret]
    try go_ret
    exact ⟨by rw [HV.out] <;> rfl, HB1.out⟩
  cases q4
  · go_wp2_with fail
    try rw [Exit.noGoto_ret]
    try go_ret
    exact ⟨by rw [HV.out] <;> rfl, HB1.out⟩
  by_cases hnm : n = m
  · subst hnm
    have e9 : ((n : Int) != (n : Int)) = false := by simp
    replace HV := hid (show res = eqL sameB xf yf from by rw [HV.out]; rfl)
    go_upto_block 0 with fail
    go_wp2_with fail
    clear x0 x1 x2 x3 x4 x5 x6 x7 x8 xl y0 y1 y2 y3 y4 y5 y6 y7 y8 yl e1 e1n e3 e3n e4 e4n hnv hgv e9
    go_loopw [5] (fun i wr => ∃ k : Nat, i = .int .i64 (k : Int) ∧ k ≤ n ∧ Hid (res = eqL sameB (xf.drop k) (yf.drop k)) ∧ Hid (KB u1.heap.size u1 wr)) (fun i _ => n - (intOf i).toNat)
    case atStart => exact ⟨0, rfl, Nat.zero_le _, hid HV.out, hid (kb_refl _)⟩
    case round =>
      rename World => wr
      obtain ⟨k, rfl, hk, HD, HK⟩ := hrel
      have k0 : (0 : Int) ≤ (k : Int) := by omega
      have x8 := (G1.out.kb HK.out).2 8 _ rfl
      have xl := (G1.out.kb HK.out).1
      have y8 := (G2.out.kb HK.out).2 8 _ rfl
      have yl := (G2.out.kb HK.out).1
      by_cases hlt : k < n
      · have h1 : k < xf.length := by rw [HN.out]; exact hlt
        have h2 : k < yf.length := by rw [HM.out]; exact hlt
        obtain ⟨p, off, hA, hpl, cx⟩ := RowOf.at_ (HX.out.kb (kb_tr HB1.out HK.out)) h1
        obtain ⟨q, of2, hB, hql, cy⟩ := RowOf.at_ (HY.out.kb (kb_tr HB1.out HK.out)) h2
        rw [hA] at x8
        rw [hB] at y8
        have HS := hid (eqL_drop (f := sameB) h1 h2)
        have k1 : (k : Int) < (n : Int) := by omega
        unfold TextAt at cx cy
        rw [Nat.mul_one] at cx cy
        generalize xf[k] = a at *
        generalize yf[k] = b at *
        obtain ⟨q0, hq0⟩ : ∃ q0, (a.toList == b.toList) = q0 := ⟨_, rfl⟩
        have hq1 : (a.toList != b.toList) = !q0 := by rw [bne, hq0]
        have HQ0 := hid (show sameB a b = q0 from hq0)
        have HC := hid (And.intro cx cy)
        have HL2 := hid (And.intro hpl hql)
        have HX8 := hid (And.intro x8 y8)
        have HXL := hid (And.intro xl yl)
        go_upto_region 6 with fail
        clear cx cy hpl hql x8 y8 xl yl
        have hS : KB wr.heap.size wr wr.drew := kb_drewJ (kb_refl _)
        refine wp_planS (fun u => KB wr.heap.size wr u) (.last [0, 1, 2, 3, 4, 5, 6, 7, 8, 9, 10]) (by first | assumption | skip) (by kernel_rfl) (by intro _ _ d _ _ h; cases d <;> exact h) (by kernel_rfl) ?_
        have iS : Nonempty (SW fun u => KB wr.heap.size wr u) := ⟨⟨_, hS⟩⟩
        have cx := fun (z : SW fun u => KB wr.heap.size wr u) => cell_kb HL2.out.1 z.ok HC.out.1
        have cy := fun (z : SW fun u => KB wr.heap.size wr u) => cell_kb HL2.out.2 z.ok HC.out.2
        have pl := fun (z : SW fun u => KB wr.heap.size wr u) => Nat.lt_of_lt_of_le HL2.out.1 z.ok.size
        have ql := fun (z : SW fun u => KB wr.heap.size wr u) => Nat.lt_of_lt_of_le HL2.out.2 z.ok.size
        have x8 := fun (z : SW fun u => KB wr.heap.size wr u) => cell_kb HXL.out.1 z.ok HX8.out.1
        have y8 := fun (z : SW fun u => KB wr.heap.size wr u) => cell_kb HXL.out.2 z.ok HX8.out.2
        have xl := fun (z : SW fun u => KB wr.heap.size wr u) => Nat.lt_of_lt_of_le HXL.out.1 z.ok.size
        have yl := fun (z : SW fun u => KB wr.heap.size wr u) => Nat.lt_of_lt_of_le HXL.out.2 z.ok.size
        with_reducible refine plan_last ?_
        simp only [pickOps, List.map_cons, List.map_nil, List.getElem?_toArray, List.getElem?_cons_zero, List.getElem?_cons_succ, Option.getD_some]
        repeat go_big_quiet_step (fail)
        refine wpQuiet_nil ?_
        clear cx cy pl ql x8 y8 xl yl iS
        clear hq0 hq1
        cases q0
        · have HW := hid (HD.out.trans (HS.out.trans (by rw [HQ0.out, Bool.false_and])))
          go_wp2_with fail
          try rw [Exit.noGoto_ret]
          try go_ret
          exact ⟨by rw [HW.out] <;> rfl, kb_tr HB1.out (kb_tr HK.out hS)⟩
        · have HW := hid (HS.out.trans (by rw [HQ0.out, Bool.true_and]))
          go_wp2_with fail
          go_roundw
          case rel => exact ⟨k + 1, by go_num, by omega, hid (HD.out.trans HW.out), hid (kb_tr HK.out hS)⟩
          case measure => simp [intOf] <;> omega
      · obtain rfl : k = n := by omega
        have k1 : ¬ (k : Int) < (k : Int) := by omega
        have HW := hid (HD.out.trans (eqL_end (by rw [HN.out]; exact Nat.le_refl _) (by rw [HM.out]; exact Nat.le_refl _)))
        go_wp2_with fail
        try rw [Exit.noGoto_ret]
        try go_ret
        exact ⟨by rw [HW.out] <;> rfl, kb_tr HB1.out HK.out⟩
  · have e9 : ((n : Int) != (m : Int)) = true := by rw [bne_iff_ne]; omega
    have HW := hid (HL.out hnm)
    go_wp2_with fail
    try rw [Exit.noGoto_ret]
    try go_ret
    exact ⟨by rw [HV.out, HW.out] <;> rfl, HB1.out⟩
/-- two rows of lines -/
def eqLks (a b : List LP) : Bool := eqL eqLk (a.map (·.1)) (b.map (·.1))
set_option maxRecDepth 100000 in
set_option maxHeartbeats 2000000 in
theorem samelines_any (A B : Option Addr) (c d : Nat) (a b : List LP) (w : World) (ha : Locks w A a) (hb : Locks w B b) (hn : a.length ≤ 9223372036854775807) : Calls Tryz.prog 11 #[.slice A a.length c, .slice B b.length d] w (BoolK w (eqLks a b)) := by
  have HA := hid ha
  have HB := hid hb
  have HL := hid (fun h => eqL_len (f := eqLk) (a := a.map (·.1)) (b := b.map (·.1)) h)
  have HV := hid (show eqLks a b = eqL eqLk (a.map (·.1)) (b.map (·.1)) from rfl)
  clear ha hb
  generalize eqLks a b = res at *
  generalize hna : a.length = n at *
  generalize hnb : b.length = m at *
  have HN := hid hna
  have HM := hid hnb
  clear hna hnb
  by_cases hnm : n = m
  · subst hnm
    have e1 : ((n : Int) != (n : Int)) = false := by simp
    go_enter Tryz.func11, Tryz.ntmps11
    go_upto_block 0 with fail
    go_wp2_with fail
    go_loopw [5] (fun i ww => ∃ k : Nat, i = .int .i64 (k : Int) ∧ k ≤ n ∧ Hid (res = eqL eqLk ((a.map (·.1)).drop k) ((b.map (·.1)).drop k)) ∧ Hid (KB w.heap.size w ww)) (fun i _ => n - (intOf i).toNat)
    case atStart => exact ⟨0, rfl, Nat.zero_le _, HV, hid (kb_refl _)⟩
    case round =>
      rename World => wr
      obtain ⟨k, rfl, hk, HD, HK⟩ := hrel
      have k0 : (0 : Int) ≤ (k : Int) := by omega
      by_cases hlt : k < n
      · have h1 : k < a.length := by rw [HN.out]; exact hlt
        have h2 : k < b.length := by rw [HM.out]; exact hlt
        obtain ⟨p, off, hA, hix, hcx⟩ := lock_at (HA.out.kb HK.out) h1
        obtain ⟨q, of2, hB, hiy, hcy⟩ := lock_at (HB.out.kb HK.out) h2
        subst hA
        subst hB
        have HS := hid (eqL_drop (f := eqLk) (a := a.map (·.1)) (b := b.map (·.1)) (k := k) (by simpa using h1) (by simpa using h2))
        have k1 : (k : Int) < (n : Int) := by omega
        have HCX := hid hcx
        have HCY := hid hcy
        simp only [List.getElem_map] at HS
        have HC := hid (fun (u : World) (hb : KB wr.heap.size wr u) => sameline_any a[k].1 b[k].1 a[k].2 b[k].2 u (hix.kb hb) (hiy.kb hb))
        clear hix hiy hcx hcy
        generalize a[k] = x at *
        generalize b[k] = y at *
        obtain ⟨⟨xn, xv, xs, xm, xf⟩, hx⟩ := x
        obtain ⟨⟨yn, yv, ys, ym, yf⟩, hy⟩ := y
        dsimp only [LockL.val] at HCX HCY HC HS
        generalize eqLk _ _ = q0 at *
        go_upto_region 6 with fail
        have hS : KB wr.heap.size wr wr.drew := kb_drewJ (kb_refl _)
        refine wp_planS (fun u => KB wr.heap.size wr u) (.call [0, 1, 2, 3, 4, 5, 6, 7] 8 (.last [9])) (by first | assumption | skip) (by kernel_rfl) (by intro _ _ d _ _ h; cases d <;> exact h) (by kernel_rfl) ?_
        have iS : Nonempty (SW fun u => KB wr.heap.size wr u) := ⟨⟨_, hS⟩⟩
        have x0 := fun (z : SW fun u => KB wr.heap.size wr u) => (HCX.out.kb z.ok).c0
        have x1 := fun (z : SW fun u => KB wr.heap.size wr u) => (HCX.out.kb z.ok).c1
        have x2 := fun (z : SW fun u => KB wr.heap.size wr u) => (HCX.out.kb z.ok).c2
        have x3 := fun (z : SW fun u => KB wr.heap.size wr u) => (HCX.out.kb z.ok).c3
        have x4 := fun (z : SW fun u => KB wr.heap.size wr u) => (HCX.out.kb z.ok).c4
        have x5 := fun (z : SW fun u => KB wr.heap.size wr u) => (HCX.out.kb z.ok).c5
        have x6 := fun (z : SW fun u => KB wr.heap.size wr u) => (HCX.out.kb z.ok).c6
        have x7 := fun (z : SW fun u => KB wr.heap.size wr u) => (HCX.out.kb z.ok).c7
        have x8 := fun (z : SW fun u => KB wr.heap.size wr u) => (HCX.out.kb z.ok).c8
        have xl := fun (z : SW fun u => KB wr.heap.size wr u) => (HCX.out.kb z.ok).lt
        have y0 := fun (z : SW fun u => KB wr.heap.size wr u) => (HCY.out.kb z.ok).c0
        have y1 := fun (z : SW fun u => KB wr.heap.size wr u) => (HCY.out.kb z.ok).c1
        have y2 := fun (z : SW fun u => KB wr.heap.size wr u) => (HCY.out.kb z.ok).c2
        have y3 := fun (z : SW fun u => KB wr.heap.size wr u) => (HCY.out.kb z.ok).c3
        have y4 := fun (z : SW fun u => KB wr.heap.size wr u) => (HCY.out.kb z.ok).c4
        have y5 := fun (z : SW fun u => KB wr.heap.size wr u) => (HCY.out.kb z.ok).c5
        have y6 := fun (z : SW fun u => KB wr.heap.size wr u) => (HCY.out.kb z.ok).c6
        have y7 := fun (z : SW fun u => KB wr.heap.size wr u) => (HCY.out.kb z.ok).c7
        have y8 := fun (z : SW fun u => KB wr.heap.size wr u) => (HCY.out.kb z.ok).c8
        have yl := fun (z : SW fun u => KB wr.heap.size wr u) => (HCY.out.kb z.ok).lt
        dsimp only at x0 x1 x2 x3 x4 x5 x6 x7 x8 y0 y1 y2 y3 y4 y5 y6 y7 y8
        generalize xf.length = xfn at *
        generalize yf.length = yfn at *
        with_reducible refine plan_call ?_
        simp only [pickOps, List.map_cons, List.map_nil, List.getElem?_toArray, List.getElem?_cons_zero, List.getElem?_cons_succ, Option.getD_some]
        repeat go_big_quiet_step (fail)
        refine wpQuiet_nil ?_
        go_wp2_with fail
        refine (HC.out _ hS).mono ?_
        rintro _ u2 ⟨rfl, hb2⟩
        have HB2 := hid (kb_tr hS hb2)
        clear hb2
        go_wp2_with fail
        refine plan_onS (HB2.out) ?_
        with_reducible refine plan_last ?_
        simp only [pickOps, List.map_cons, List.map_nil, List.getElem?_toArray, List.getElem?_cons_zero, List.getElem?_cons_succ, Option.getD_some]
        repeat go_big_quiet_step (fail)
        refine wpQuiet_nil ?_
        clear x0 x1 x2 x3 x4 x5 x6 x7 x8 xl y0 y1 y2 y3 y4 y5 y6 y7 y8 yl iS hS
        cases q0
        · have HW := hid (HD.out.trans (HS.out.trans (Bool.false_and _)))
          go_wp2_with fail
          try rw [Exit.noGoto_ret]
          try go_ret
          exact ⟨by rw [HW.out] <;> rfl, kb_tr HK.out HB2.out⟩
        · have HW := hid (HD.out.trans (HS.out.trans (Bool.true_and _)))
          go_wp2_with fail
          go_roundw
          case rel => exact ⟨k + 1, by go_num, by omega, HW, hid (kb_tr HK.out HB2.out)⟩
          case measure => simp [intOf] <;> omega
      · obtain rfl : k = n := by omega
        have k1 : ¬ (k : Int) < (k : Int) := by omega
        have HW := hid (HD.out.trans (eqL_end (by rw [List.length_map, HN.out]; exact Nat.le_refl _) (by rw [List.length_map, HM.out]; exact Nat.le_refl _)))
        go_wp2_with fail
        try rw [Exit.noGoto_ret]
        try go_ret
        exact ⟨by rw [HW.out] <;> rfl, HK.out⟩
  · have e1 : ((n : Int) != (m : Int)) = true := by rw [bne_iff_ne]; omega
    have HW := hid (HL.out (by rw [List.length_map, List.length_map, HN.out, HM.out]; exact hnm))
    go_enter Tryz.func11, Tryz.ntmps11
    go_wp2_with fail
    try rw [Exit.noGoto_ret]
    try go_ret
    exact ⟨by rw [HV.out, HW.out] <;> rfl, kb_refl _⟩
/-- the place of the first line of a name -/
def placeN (n : ByteArray) (i : Nat) (l : List LP) : Int := findP (fun p : LP => nmIs n p.1) i l
set_option maxRecDepth 100000 in
set_option maxHeartbeats 2000000 in
theorem rnamed_any (A : Option Addr) (c : Nat) (l : List LP) (nm : ByteArray) (w : World) (ha : Locks w A l) (hn : l.length ≤ 9223372036854775807) : Calls Tryz.prog 26 #[.slice A l.length c, .string nm] w (IntK w (placeN nm 0 l)) := by
  have HA := hid ha
  clear ha
  generalize hna : l.length = n at *
  have HN := hid hna
  clear hna
  go_enter Tryz.func26, Tryz.ntmps26
  go_upto_block 0 with fail
  go_wp2_with fail
  go_loopw [5] (fun i ww => ∃ k : Nat, i = .int .i64 (k : Int) ∧ k ≤ n ∧ Hid (placeN nm 0 l = placeN nm k (l.drop k)) ∧ Hid (KB w.heap.size w ww)) (fun i _ => n - (intOf i).toNat)
  case atStart => exact ⟨0, rfl, Nat.zero_le _, hid rfl, hid (kb_refl _)⟩
  case round =>
    rename World => wr
    obtain ⟨k, rfl, hk, HD, HK⟩ := hrel
    have k0 : (0 : Int) ≤ (k : Int) := by omega
    by_cases hlt : k < n
    · have h1 : k < l.length := by rw [HN.out]; exact hlt
      obtain ⟨p, off, hA, -, hcx⟩ := lock_at (HA.out.kb HK.out) h1
      subst hA
      have HS := hid (find_drop (q := fun p : LP => nmIs nm p.1) h1)
      have k1 : (k : Int) < (n : Int) := by omega
      have c0 := hcx.c0
      have cl := hcx.lt
      clear hcx
      generalize l[k] = x at *
      obtain ⟨q0, hq0⟩ : ∃ q0, (x.1.name.toList == nm.toList) = q0 := ⟨_, rfl⟩
      have HQ0 := hid (show nmIs nm x.1 = q0 from hq0)
      cases q0
      · have HW := hid (show placeN nm 0 l = placeN nm (k + 1) (l.drop (k + 1)) from by rw [HD.out, placeN, HS.out, HQ0.out]; rfl)
        go_wp2_with fail
        go_roundw
        case rel => exact ⟨k + 1, by go_num, by omega, HW, HK⟩
        case measure => simp [intOf] <;> omega
      · have HW := hid (show placeN nm 0 l = (k : Int) from by rw [HD.out, placeN, HS.out, HQ0.out]; rfl)
        go_wp2_with fail
        try rw [Exit.noGoto_ret]
        try go_ret
        exact ⟨by rw [HW.out] <;> rfl, HK.out⟩
    · obtain rfl : k = n := by omega
      have k1 : ¬ (k : Int) < (k : Int) := by omega
      have HW := hid (show placeN nm 0 l = -1 from by rw [HD.out, placeN, find_end (by rw [HN.out]; exact Nat.le_refl _)])
      go_wp2_with fail
      try rw [Exit.noGoto_ret]
      try go_ret
      exact ⟨by rw [HW.out] <;> rfl, HK.out⟩
set_option maxRecDepth 100000 in
set_option maxHeartbeats 2000000 in
theorem rhas_any (A : Option Addr) (c : Nat) (l : List LP) (x : LockL) (hx : LockH) (w : World) (ha : Locks w A l) (hxi : LockIs w x hx) (hn : l.length ≤ 9223372036854775807) : Calls Tryz.prog 28 #[.slice A l.length c, x.val hx] w (BoolK w ((l.map (·.1)).any fun y => eqLk y x)) := by
  have HA := hid ha
  have HX := hid hxi
  have HV := hid (show ((l.map (·.1)).any fun y => eqLk y x) = (((l.map (·.1)).drop 0).any fun y => eqLk y x) from rfl)
  have HC := hid (fun (y : LockL) (hy : LockH) (u : World) (h1 : LockIs u y hy) (h2 : LockIs u x hx) => sameline_any y x hy hx u h1 h2)
  clear ha hxi
  generalize ((l.map (·.1)).any fun y => eqLk y x) = res at *
  generalize hna : l.length = n at *
  have HN := hid hna
  clear hna
  have HP := hid (fun k (h : k < l.length) => show (((l.map (·.1)).drop k).any fun y => eqLk y x) = (eqLk l[k].1 x || (((l.map (·.1)).drop (k + 1)).any fun y => eqLk y x)) from by rw [List.drop_eq_getElem_cons (by simpa using h), List.any_cons, List.getElem_map])
  have HQ := hid (fun k (h : l.length ≤ k) => show (((l.map (·.1)).drop k).any fun y => eqLk y x) = false from by rw [List.drop_eq_nil_of_le (by simpa using h)]; rfl)
  obtain ⟨f, hf⟩ : ∃ f : Nat → Bool, ∀ k, (((l.map (·.1)).drop k).any fun y => eqLk y x) = f k := ⟨_, fun _ => rfl⟩
  have hf2 : ∀ z, eqLk z x = eqLk z x := fun _ => rfl
  simp only [hf] at HP HQ HV
  clear hf hf2
  obtain ⟨xn, xv, xs, xm, xf⟩ := x
  dsimp only [LockL.val] at HC ⊢
  generalize xf.length = xfn at *
  have HB0 := hid (show KB w.heap.size w (w.alloc (.cells #[.string xn, .int .i64 xv.maj, .int .i64 xv.min, .int .i64 xv.pat, .string xv.pre, .string xv.bld, .string xs, .int .u64 xm, .slice hx.A xfn hx.c] 33)) from kb_new _ _)
  go_enter Tryz.func28, Tryz.ntmps28
  go_upto_region 1 with fail
  refine wp_name ?_
  intro u1 hu
  have G1 := hid (show Box u1 w.heap.size [.string xn, .int .i64 xv.maj, .int .i64 xv.min, .int .i64 xv.pat, .string xv.pre, .string xv.bld, .string xs, .int .u64 xm, .slice hx.A xfn hx.c] by rw [hu]; exact Box.new w [.string xn, .int .i64 xv.maj, .int .i64 xv.min, .int .i64 xv.pat, .string xv.pre, .string xv.bld, .string xs, .int .u64 xm, .slice hx.A xfn hx.c] 33)
  have HB1 := hid (show KB w.heap.size w u1 by rw [hu]; exact HB0.out)
  clear hu HB0
  generalize w.heap.size = g1 at G1 ⊢
  go_upto_block 0 with fail
  go_wp2_with fail
  go_loopw [5] (fun i wr => ∃ k : Nat, i = .int .i64 (k : Int) ∧ k ≤ n ∧ Hid (res = f k) ∧ Hid (KB u1.heap.size u1 wr)) (fun i _ => n - (intOf i).toNat)
  case atStart => exact ⟨0, rfl, Nat.zero_le _, HV, hid (kb_refl _)⟩
  case round =>
    rename World => wr
    obtain ⟨k, rfl, hk, HD, HK⟩ := hrel
    have k0 : (0 : Int) ≤ (k : Int) := by omega
    by_cases hlt : k < n
    · have h1 : k < l.length := by rw [HN.out]; exact hlt
      have HKW := hid (kb_tr HB1.out HK.out)
      obtain ⟨p, off, hA, hix, hcx⟩ := lock_at (HA.out.kb HKW.out) h1
      subst hA
      have HS := hid (HP.out k h1)
      have k1 : (k : Int) < (n : Int) := by omega
      have HCX := hid hcx
      have HC2 := hid (fun (u : World) (hb : KB wr.heap.size wr u) => HC.out l[k].1 l[k].2 u (hix.kb hb) ((HX.out.kb HKW.out).kb hb))
      clear hix hcx
      generalize l[k] = y at *
      obtain ⟨⟨yn, yv, ys, ym, yf⟩, hy⟩ := y
      dsimp only [LockL.val] at HCX HC2 HS
      generalize eqLk _ _ = q0 at *
      go_upto_region 4 with fail
      have hS : KB wr.heap.size wr wr.drew := kb_drewJ (kb_refl _)
      refine wp_planS (fun u => KB wr.heap.size wr u) (.call [0, 1, 2, 3, 4] 5 (.last [])) (by first | assumption | skip) (by kernel_rfl) (by intro _ _ d _ _ h; cases d <;> exact h) (by kernel_rfl) ?_
      have iS : Nonempty (SW fun u => KB wr.heap.size wr u) := ⟨⟨_, hS⟩⟩
      have y0 := fun (z : SW fun u => KB wr.heap.size wr u) => (HCX.out.kb z.ok).c0
      have y1 := fun (z : SW fun u => KB wr.heap.size wr u) => (HCX.out.kb z.ok).c1
      have y2 := fun (z : SW fun u => KB wr.heap.size wr u) => (HCX.out.kb z.ok).c2
      have y3 := fun (z : SW fun u => KB wr.heap.size wr u) => (HCX.out.kb z.ok).c3
      have y4 := fun (z : SW fun u => KB wr.heap.size wr u) => (HCX.out.kb z.ok).c4
      have y5 := fun (z : SW fun u => KB wr.heap.size wr u) => (HCX.out.kb z.ok).c5
      have y6 := fun (z : SW fun u => KB wr.heap.size wr u) => (HCX.out.kb z.ok).c6
      have y7 := fun (z : SW fun u => KB wr.heap.size wr u) => (HCX.out.kb z.ok).c7
      have y8 := fun (z : SW fun u => KB wr.heap.size wr u) => (HCX.out.kb z.ok).c8
      have yl := fun (z : SW fun u => KB wr.heap.size wr u) => (HCX.out.kb z.ok).lt
      have x0 := fun (z : SW fun u => KB wr.heap.size wr u) => (G1.out.kb (kb_tr HK.out z.ok)).2 0 _ rfl
      have x1 := fun (z : SW fun u => KB wr.heap.size wr u) => (G1.out.kb (kb_tr HK.out z.ok)).2 1 _ rfl
      have x2 := fun (z : SW fun u => KB wr.heap.size wr u) => (G1.out.kb (kb_tr HK.out z.ok)).2 2 _ rfl
      have x3 := fun (z : SW fun u => KB wr.heap.size wr u) => (G1.out.kb (kb_tr HK.out z.ok)).2 3 _ rfl
      have x4 := fun (z : SW fun u => KB wr.heap.size wr u) => (G1.out.kb (kb_tr HK.out z.ok)).2 4 _ rfl
      have x5 := fun (z : SW fun u => KB wr.heap.size wr u) => (G1.out.kb (kb_tr HK.out z.ok)).2 5 _ rfl
      have x6 := fun (z : SW fun u => KB wr.heap.size wr u) => (G1.out.kb (kb_tr HK.out z.ok)).2 6 _ rfl
      have x7 := fun (z : SW fun u => KB wr.heap.size wr u) => (G1.out.kb (kb_tr HK.out z.ok)).2 7 _ rfl
      have x8 := fun (z : SW fun u => KB wr.heap.size wr u) => (G1.out.kb (kb_tr HK.out z.ok)).2 8 _ rfl
      have xl := fun (z : SW fun u => KB wr.heap.size wr u) => (G1.out.kb (kb_tr HK.out z.ok)).1
      dsimp only at y0 y1 y2 y3 y4 y5 y6 y7 y8
      generalize yf.length = yfn at *
      with_reducible refine plan_call ?_
      simp only [pickOps, List.map_cons, List.map_nil, List.getElem?_toArray, List.getElem?_cons_zero, List.getElem?_cons_succ, Option.getD_some]
      repeat go_big_quiet_step (fail)
      refine wpQuiet_nil ?_
      go_wp2_with fail
      refine (HC2.out _ hS).mono ?_
      rintro _ u2 ⟨rfl, hb2⟩
      have HB2 := hid (kb_tr hS hb2)
      clear hb2
      go_wp2_with fail
      refine plan_onS (HB2.out) ?_
      with_reducible refine plan_last ?_
      simp only [pickOps, List.map_cons, List.map_nil, List.getElem?_toArray, List.getElem?_cons_zero, List.getElem?_cons_succ, Option.getD_some]
      repeat go_big_quiet_step (fail)
      refine wpQuiet_nil ?_
      clear x0 x1 x2 x3 x4 x5 x6 x7 x8 xl y0 y1 y2 y3 y4 y5 y6 y7 y8 yl iS hS
      cases q0
      · have HW := hid (HD.out.trans (HS.out.trans (Bool.false_or _)))
        go_wp2_with fail
        go_roundw
        case rel => exact ⟨k + 1, by go_num, by omega, HW, hid (kb_tr HK.out HB2.out)⟩
        case measure => simp [intOf] <;> omega
      · have HW := hid (HD.out.trans (HS.out.trans (Bool.true_or _)))
        go_wp2_with fail
        try rw [Exit.noGoto_ret]
        try go_ret
        exact ⟨by rw [HW.out] <;> rfl, kb_tr HKW.out HB2.out⟩
    · obtain rfl : k = n := by omega
      have k1 : ¬ (k : Int) < (k : Int) := by omega
      have HW := hid (HD.out.trans (HQ.out k (by rw [HN.out]; exact Nat.le_refl _)))
      go_wp2_with fail
      try rw [Exit.noGoto_ret]
      try go_ret
      exact ⟨by rw [HW.out] <;> rfl, kb_tr HB1.out HK.out⟩
end Go.Proofs.YtlmkglgjdmjnkaaGreatDoor
