/- Parts 20 of the proofs. -/
import Derived.Test.YtlmkglgjdmjnkaaGreatDoorQ19
namespace Go.Proofs.YtlmkglgjdmjnkaaGreatDoor
open Go.RowKit Go.Lib
open Rw
set_option linter.unusedVariables false
set_option linter.unusedSimpArgs false
def headOk : List UnitP → Bool
  | [] => false
  | u :: _ => u.name.toList.isEmpty && (u.feature.toList.isEmpty && decide (u.cands.length = 1))
def okCd (n : Int) (l : List CandP) (k : Nat) : Bool := match l[k]? with
  | some c => mayV c.v && ((decide (k = 0) || (match l[k - 1]? with
    | some p => !decide (0 ≤ cmpV p.v c.v)
    | none => false)) && mayCd n c)
  | none => true
def okHd (us : List UnitP) (k : Nat) (y : UnitP) : Bool := !((decide (0 < k) && y.name.toList.isEmpty) || ((decide (1 < k) && (match us[k - 1]? with
    | some p => decide (0 ≤ ordU p.name p.feature y.name y.feature)
    | none => false)) || decide (16 < y.cands.length)))
def okU (us : List UnitP) (k : Nat) : Bool := match us[k]? with
  | some y => okHd us k y && (List.range' 0 y.cands.length).all (okCd us.length y.cands)
  | none => true
def mayWd (us : List UnitP) : Bool := !(decide (us.length < 1) || (decide (48 < us.length) || !headOk us)) && (List.range' 0 us.length).all (okU us)
theorem all_range_succ (f : Nat → Bool) (k d : Nat) : (List.range' k (d + 1)).all f = (f k && (List.range' (k + 1) d).all f) := by rw [List.range'_succ, List.all_cons]
theorem cand_val {w : World} {A : Option Addr} {l : List CandP} {k : Nat} (h : CandsAt w A l) (hk : k < l.length) : ∃ b off, A = some ⟨b, off, none⟩ ∧ CandIs w l[k] ∧ b < w.heap.size ∧ ∀ (u : World), KB w.heap.size w u → ∀ (j : Nat) (v : Value), (cdC l[k])[j]? = some v → u.cell? ⟨b, off + k * 8 + j, none⟩ = some v := by
  obtain ⟨b, off, hA, hc, hb, h2⟩ := cand_at h hk
  exact ⟨b, off, hA, hc, hb, fun u hu j v hv => cell_kb hb hu (h2 j v hv)⟩
set_option maxRecDepth 100000 in
set_option maxHeartbeats 8000000 in
theorem wmay_any (U : Option Addr) (uc : Nat) (us : List UnitP) (w : World) (hF : First w) (hU : UnitsAt w U us) : Calls Tryz.prog 103 #[.agg #[.slice U us.length uc]] w (BoolK w (mayWd us)) := by
  have HB0 := hid (kb_new w (.cells [.slice U us.length uc].toArray 42))
  have HX := hid (Box.new w [.slice U us.length uc] 42)
  have HU := hid (hU.kb HB0.out)
  have HF := hid (hF.kb HB0.out)
  have hul := hU.len
  have HV := hid (show mayWd us = (!(decide (us.length < 1) || (decide (48 < us.length) || !headOk us)) && (List.range' 0 us.length).all (okU us)) from rfl)
  clear hU hF
  generalize mayWd us = res at *
  obtain ⟨m, hm⟩ : ∃ m, us.length = m := ⟨_, rfl⟩
  have HM := hid hm
  have HOK := hid (show ∀ k (h : k < us.length), okU us k = (okHd us k us[k] && (List.range' 0 us[k].cands.length).all (okCd m us[k].cands)) from fun k h => by unfold okU; rw [List.getElem?_eq_getElem h, ← hm])
  rw [hm] at hul HX HV HB0 HU HF ⊢
  clear hm
  go_enter Tryz.func103, Tryz.ntmps103
  go_upto_region 2 with fail
  refine wp_name ?_
  intro u0 hu0
  rw [← hu0] at HX HB0 HU HF
  clear hu0
  have x0 := HX.out.2 0 _ rfl
  have xl := HX.out.1
  by_cases g1 : m < 1
  · have i1 : (m : Int) < 1 := by omega
    have HRS := hid (show res = false from by rw [HV.out]; simp [g1])
    go_wp2_with fail
    go_ret
    exact ⟨by rw [HRS.out]; rfl, HB0.out⟩
  have i1 : ¬ (m : Int) < 1 := by omega
  by_cases g2 : 48 < m
  · have i2 : (48 : Int) < (m : Int) := by omega
    have HRS := hid (show res = false from by rw [HV.out]; simp [g2])
    go_wp2_with fail
    go_ret
    exact ⟨by rw [HRS.out]; rfl, HB0.out⟩
  have i2 : ¬ (48 : Int) < (m : Int) := by omega
  obtain ⟨bu, ou, hUu, hui, hbu, cn, cf, cc⟩ := unit_at HU.out (k := 0) (by rw [HM.out]; omega)
  subst hUu
  rw [Nat.zero_mul, Nat.add_zero] at cn cf cc
  have HH := hid (show headOk us = ((us[0]'(by rw [HM.out]; omega)).name.toList.isEmpty && ((us[0]'(by rw [HM.out]; omega)).feature.toList.isEmpty && decide ((us[0]'(by rw [HM.out]; omega)).cands.length = 1))) from by cases us with | nil => exact absurd HM.out (by simp; omega) | cons a l => rfl)
  clear hui
  generalize us[0]'(by rw [HM.out]; omega) = y0 at *
  cases hn0 : y0.name.toList.isEmpty with
  | false =>
    have HRS := hid (show res = false from by rw [HV.out, HH.out, hn0]; simp)
    go_wp2_with fail
    go_ret
    exact ⟨by rw [HRS.out]; rfl, HB0.out⟩
  | true =>
  cases hf0 : y0.feature.toList.isEmpty with
  | false =>
    have HRS := hid (show res = false from by rw [HV.out, HH.out, hf0]; simp)
    go_wp2_with fail
    go_ret
    exact ⟨by rw [HRS.out]; rfl, HB0.out⟩
  | true =>
  by_cases hc0 : ¬ y0.cands.length = 1
  · have HRS := hid (show res = false from by rw [HV.out, HH.out, decide_eq_false hc0]; simp)
    generalize y0.cands.length = n0 at *
    have e0 : ((n0 : Int) != 1) = true := by rw [bne_iff_ne]; omega
    go_wp2_with fail
    go_ret
    exact ⟨by rw [HRS.out]; rfl, HB0.out⟩
  have hc0 : y0.cands.length = 1 := by omega
  have HV2 := hid (show res = (List.range' 0 m).all (okU us) from by rw [HV.out, HH.out, hn0, hf0, decide_eq_true hc0]; simp [g1, g2])
  rw [hc0] at cc
  clear HV HH hc0
  go_upto_block 0 with fail
  clear cn cf cc hn0 hf0
  go_wp2_with fail
  go_loopw [45] (fun iv wr => ∃ k d : Nat, iv = .int .i64 (k : Int) ∧ k + d = m ∧ Hid (res = (List.range' k d).all (okU us)) ∧ Hid (KB u0.heap.size u0 wr)) (fun iv _ => m - (intOf iv).toNat)
  case atStart => exact ⟨0, m, rfl, Nat.zero_add m, HV2, hid (kb_refl _)⟩
  case round =>
    clear HV2 x0 xl
    rename World => wr
    obtain ⟨k, d, rfl, hkd, HR, HK⟩ := hrel
    have HKK := hid (kb_tr HB0.out HK.out)
    have k0 : (0 : Int) ≤ (k : Int) := by omega
    cases d with
    | zero =>
      obtain rfl : k = m := by omega
      have k1 : ¬ (k : Int) < (k : Int) := by omega
      have HRS := hid (show res = true from by rw [HR.out]; rfl)
      go_wp2_with fail
      try rw [Exit.noGoto_ret]
      try (first | go_ret | go_ret2)
      exact ⟨by rw [HRS.out]; rfl, HKK.out⟩
    | succ d =>
      have h1 : k < us.length := by rw [HM.out]; omega
      have k1 : (k : Int) < (m : Int) := by omega
      have HST := hid (HR.out.trans (by rw [all_range_succ, HOK.out k h1]))
      have HUW := hid (HU.out.kb HK.out)
      obtain ⟨bu, ou, hUu, hui, hbu, cn, cf, cc⟩ := unit_at HUW.out h1
      have hUu := Option.some.inj hUu
      injection hUu with e1 e2 e3
      subst e1
      subst e2
      have HUI := hid hui
      have HOH := hid (show okHd us k us[k] = !((decide (0 < k) && us[k].name.toList.isEmpty) || ((decide (1 < k) && (match us[k - 1]? with
    | some p => decide (0 ≤ ordU p.name p.feature us[k].name us[k].feature)
    | none => false)) || decide (16 < us[k].cands.length))) from rfl)
      clear HR hui
      generalize okHd us k us[k] = oh at *
      generalize us[k] = y at *
      obtain ⟨yn, yf, yc, yA, yd⟩ := y
      dsimp only at HST HUI HOH cn cf cc
      obtain ⟨nc, hnc⟩ : ∃ n, yc.length = n := ⟨_, rfl⟩
      rw [hnc] at HST HOH cc
      have HNC := hid hnc
      have hcl := HUI.out.cands.len
      dsimp only at hcl
      rw [hnc] at hcl
      clear hnc
      go_upto_region 7 with fail
      refine wp_name ?_
      intro u1 hu1
      have HG := hid (show Box u1 wr.heap.size [.string yn, .string yf, .slice yA nc yd] from by rw [hu1]; exact Box.new wr [.string yn, .string yf, .slice yA nc yd] 82)
      have HK1 := hid (show KB wr.heap.size wr u1 from by rw [hu1]; exact kb_new _ _)
      have HKT := hid (kb_tr HK.out HK1.out)
      have HC := hid (HUI.out.cands.kb HK1.out)
      dsimp only at HC
      have HX1 := hid (HX.out.kb HKT.out)
      have HUV := hid (HUW.out.kb HK1.out)
      clear hu1 cn cf cc hbu HUI HUW
      have hsz : u0.heap.size ≤ u1.heap.size := HKT.out.size
      go_cut [90] from 50 to 91 (fun bv wx => bv = .bool (!oh) ∧ KB u1.heap.size u1 wx)
      case first =>
        have hS : KB u1.heap.size u1 u1.drew := kb_drewJ (kb_refl _)
        have c0 := fun (z : SW fun u => KB u1.heap.size u1 u) => (HG.out.kb z.ok).2 0 _ rfl
        have c1 := fun (z : SW fun u => KB u1.heap.size u1 u) => (HG.out.kb z.ok).2 1 _ rfl
        have c2 := fun (z : SW fun u => KB u1.heap.size u1 u) => (HG.out.kb z.ok).2 2 _ rfl
        have cl := fun (z : SW fun u => KB u1.heap.size u1 u) => (HG.out.kb z.ok).1
        have q0 := fun (z : SW fun u => KB u1.heap.size u1 u) => (HX1.out.kb z.ok).2 0 _ rfl
        have ql := fun (z : SW fun u => KB u1.heap.size u1 u) => (HX1.out.kb z.ok).1
        by_cases g1 : 0 < k
        · have j1 : (0 : Int) < (k : Int) := by omega
          cases hye : yn.toList.isEmpty with
          | true =>
            have HNO := hid (show oh = false from by rw [HOH.out, hye]; simp [g1])
            refine wp_planS (fun u => KB u1.heap.size u1 u) (.call [0, 1, 2, 3, 4, 5, 6, 7, 8, 9, 10, 11, 12, 13, 14, 15, 16, 17, 18, 19, 20, 21, 22, 23, 24, 25, 26, 27, 28, 29, 30] 31 (.last [32, 33, 34, 35, 36, 37, 38, 39, 40])) (by first | assumption | skip) (by kernel_rfl) (by intro _ _ d _ _ h; cases d <;> exact h) (by kernel_rfl) ?_
            have iS : Nonempty (SW fun u => KB u1.heap.size u1 u) := ⟨⟨_, hS⟩⟩
            with_reducible refine plan_call ?_
            simp only [pickOps, List.map_cons, List.map_nil, List.getElem?_toArray, List.getElem?_cons_zero, List.getElem?_cons_succ, Option.getD_some]
            repeat go_big_quiet_step (fail)
            refine wpQuiet_nil ?_
            go_wp2_with fail
            refine plan_onS hS ?_
            with_reducible refine plan_last ?_
            simp only [pickOps, List.map_cons, List.map_nil, List.getElem?_toArray, List.getElem?_cons_zero, List.getElem?_cons_succ, Option.getD_some]
            repeat go_big_quiet_step (fail)
            refine wpQuiet_nil ?_
            clear iS c0 c1 c2 cl q0 ql
            go_wp2_with fail
            go_meet
            case rel => exact ⟨by rw [HNO.out]; rfl, hS⟩
          | false =>
            by_cases g2 : 1 < k
            · have j2 : (1 : Int) < (k : Int) := by omega
              have hkm : k - 1 < us.length := by omega
              have j3 : (k : Int) - 1 = ((k - 1 : Nat) : Int) := by omega
              obtain ⟨bp, op, hUp, -, hbp, pn, pf, -⟩ := unit_at HUV.out hkm
              have hUp := Option.some.inj hUp
              injection hUp with e1 e2 e3
              subst e1
              subst e2
              have HOR := hid (show oh = !(decide (0 ≤ ordU us[k - 1].name us[k - 1].feature yn yf) || decide (16 < nc)) from by rw [HOH.out, hye, List.getElem?_eq_getElem hkm]; simp [g1, g2])
              generalize us[k - 1] = p at *
              have HWO := hid (worder_any p.name p.feature yn yf)
              generalize ordU p.name p.feature yn yf = o at *
              have HPN := hid (And.intro pn pf)
              have HBP := hid hbp
              clear pn pf hbp hkm
              have k2 : (0 : Int) ≤ ((k - 1 : Nat) : Int) := by omega
              have k3 : ((k - 1 : Nat) : Int) < (m : Int) := by omega
              have p0 := fun (z : SW fun u => KB u1.heap.size u1 u) => cell_kb HBP.out z.ok HPN.out.1
              have p1 := fun (z : SW fun u => KB u1.heap.size u1 u) => cell_kb HBP.out z.ok HPN.out.2
              have pl := fun (z : SW fun u => KB u1.heap.size u1 u) => Nat.lt_of_lt_of_le HBP.out z.ok.size
              refine wp_planS (fun u => KB u1.heap.size u1 u) (.call [0, 1, 2, 3, 4, 5, 6, 7, 8, 9, 10, 11, 12, 13, 14, 15, 16, 17, 18, 19, 20, 21, 22, 23, 24, 25, 26, 27, 28, 29, 30] 31 (.last [32, 33, 34, 35, 36, 37, 38, 39, 40])) (by first | assumption | skip) (by kernel_rfl) (by intro _ _ d _ _ h; cases d <;> exact h) (by kernel_rfl) ?_
              have iS : Nonempty (SW fun u => KB u1.heap.size u1 u) := ⟨⟨_, hS⟩⟩
              with_reducible refine plan_call ?_
              simp only [pickOps, List.map_cons, List.map_nil, List.getElem?_toArray, List.getElem?_cons_zero, List.getElem?_cons_succ, Option.getD_some]
              repeat go_big_quiet_step (fail)
              refine wpQuiet_nil ?_
              go_wp2_with fail
              refine (HWO.out _).mono ?_
              rintro _ u2 ⟨rfl, hb⟩
              have HK2 := hid (show KB u1.heap.size u1 u2 from kb_tr hS hb)
              clear hb
              go_wp2_with fail
              refine plan_onS (HK2.out) ?_
              by_cases g4 : 0 ≤ o
              · with_reducible refine plan_last ?_
                simp only [pickOps, List.map_cons, List.map_nil, List.getElem?_toArray, List.getElem?_cons_zero, List.getElem?_cons_succ, Option.getD_some]
                repeat go_big_quiet_step (fail)
                refine wpQuiet_nil ?_
                clear iS c0 c1 c2 cl q0 ql p0 p1 pl
                go_wp2_with fail
                go_meet
                case rel => exact ⟨by rw [HOR.out, decide_eq_true g4]; rfl, HK2.out⟩
              · have HG4 := hid (decide_eq_false g4)
                with_reducible refine plan_last ?_
                simp only [pickOps, List.map_cons, List.map_nil, List.getElem?_toArray, List.getElem?_cons_zero, List.getElem?_cons_succ, Option.getD_some]
                repeat go_big_quiet_step (fail)
                refine wpQuiet_nil ?_
                clear iS c0 c1 c2 cl q0 ql p0 p1 pl
                go_wp2_with fail
                go_meet
                case rel => exact ⟨by rw [HOR.out, HG4.out]; simp <;> omega, HK2.out⟩
            · have j2 : ¬ (1 : Int) < (k : Int) := by omega
              have HNO := hid (show oh = !decide (16 < nc) from by rw [HOH.out, hye]; simp [g1, g2])
              refine wp_planS (fun u => KB u1.heap.size u1 u) (.call [0, 1, 2, 3, 4, 5, 6, 7, 8, 9, 10, 11, 12, 13, 14, 15, 16, 17, 18, 19, 20, 21, 22, 23, 24, 25, 26, 27, 28, 29, 30] 31 (.last [32, 33, 34, 35, 36, 37, 38, 39, 40])) (by first | assumption | skip) (by kernel_rfl) (by intro _ _ d _ _ h; cases d <;> exact h) (by kernel_rfl) ?_
              have iS : Nonempty (SW fun u => KB u1.heap.size u1 u) := ⟨⟨_, hS⟩⟩
              with_reducible refine plan_call ?_
              simp only [pickOps, List.map_cons, List.map_nil, List.getElem?_toArray, List.getElem?_cons_zero, List.getElem?_cons_succ, Option.getD_some]
              repeat go_big_quiet_step (fail)
              refine wpQuiet_nil ?_
              go_wp2_with fail
              refine plan_onS hS ?_
              with_reducible refine plan_last ?_
              simp only [pickOps, List.map_cons, List.map_nil, List.getElem?_toArray, List.getElem?_cons_zero, List.getElem?_cons_succ, Option.getD_some]
              repeat go_big_quiet_step (fail)
              refine wpQuiet_nil ?_
              clear iS c0 c1 c2 cl q0 ql
              go_wp2_with fail
              go_meet
              case rel => exact ⟨by rw [HNO.out]; simp <;> omega, hS⟩
        · have j1 : ¬ (0 : Int) < (k : Int) := by omega
          have j2 : ¬ (1 : Int) < (k : Int) := by omega
          have g2 : ¬ 1 < k := by omega
          have HNO := hid (show oh = !decide (16 < nc) from by rw [HOH.out]; simp [g1, g2])
          refine wp_planS (fun u => KB u1.heap.size u1 u) (.call [0, 1, 2, 3, 4, 5, 6, 7, 8, 9, 10, 11, 12, 13, 14, 15, 16, 17, 18, 19, 20, 21, 22, 23, 24, 25, 26, 27, 28, 29, 30] 31 (.last [32, 33, 34, 35, 36, 37, 38, 39, 40])) (by first | assumption | skip) (by kernel_rfl) (by intro _ _ d _ _ h; cases d <;> exact h) (by kernel_rfl) ?_
          have iS : Nonempty (SW fun u => KB u1.heap.size u1 u) := ⟨⟨_, hS⟩⟩
          with_reducible refine plan_call ?_
          simp only [pickOps, List.map_cons, List.map_nil, List.getElem?_toArray, List.getElem?_cons_zero, List.getElem?_cons_succ, Option.getD_some]
          repeat go_big_quiet_step (fail)
          refine wpQuiet_nil ?_
          go_wp2_with fail
          refine plan_onS hS ?_
          with_reducible refine plan_last ?_
          simp only [pickOps, List.map_cons, List.map_nil, List.getElem?_toArray, List.getElem?_cons_zero, List.getElem?_cons_succ, Option.getD_some]
          repeat go_big_quiet_step (fail)
          refine wpQuiet_nil ?_
          clear iS c0 c1 c2 cl q0 ql
          go_wp2_with fail
          go_meet
          case rel => exact ⟨by rw [HNO.out]; simp <;> omega, hS⟩
      case rest =>
        obtain ⟨rfl, hbc⟩ := hcut
        have HC2 := hid (HC.out.kb hbc)
        have HG2 := hid (HG.out.kb hbc)
        have HKC := hid (kb_tr HKT.out hbc)
        have HKD := hid (kb_tr HB0.out HKC.out)
        clear hbc HC HG HX1 HUV
        cases oh with
        | false =>
          have HRS := hid (show res = false from by rw [HST.out]; simp)
          go_wp2_with fail
          try rw [Exit.noGoto_ret]
          try (first | go_ret | go_ret2)
          exact ⟨by rw [HRS.out]; rfl, HKD.out⟩
        | true =>
          have HST2 := hid (show res = ((List.range' 0 nc).all (okCd m yc) && (List.range' (k + 1) d).all (okU us)) from by rw [HST.out]; simp)
          obtain ⟨ri, hri⟩ : ∃ r, (List.range' 0 nc).all (okCd m yc) = r := ⟨_, rfl⟩
          rw [hri] at HST2
          have HIN := hid hri.symm
          have HOC := hid (show ∀ j (h : j < yc.length), okCd m yc j = (mayV yc[j].v && ((decide (j = 0) || (match yc[j - 1]? with
            | some p => !decide (0 ≤ cmpV p.v yc[j].v)
            | none => false)) && mayCd m yc[j])) from fun j h => by unfold okCd; rw [List.getElem?_eq_getElem h])
          clear HST hri HOH
          rename World => wA
          have hsz2 : u0.heap.size ≤ wA.heap.size := HKC.out.size
          have HFC := hid (HF.out.kb HKC.out)
          have z2 := HG2.out.2 2 _ rfl
          have zl := HG2.out.1
          go_upto_block 2 with fail
          clear z2 zl
          go_wp2_with fail
          go_loopw [94] (fun iv wr2 => ∃ j e : Nat, iv = .int .i64 (j : Int) ∧ j + e = nc ∧ Hid (ri = (List.range' j e).all (okCd m yc)) ∧ Hid (KB wA.heap.size wA wr2)) (fun iv _ => nc - (intOf iv).toNat)
          case atStart => exact ⟨0, nc, rfl, Nat.zero_add nc, HIN, hid (kb_refl _)⟩
          case round =>
            clear HIN
            rename World => wr2
            obtain ⟨j, e, rfl, hje, HR2, HK2⟩ := hrel
            have HKE := hid (kb_tr HKC.out HK2.out)
            have HKF := hid (kb_tr HKD.out HK2.out)
            have j0 : (0 : Int) ≤ (j : Int) := by omega
            cases e with
            | zero =>
              obtain rfl : j = nc := by omega
              have j1 : ¬ (j : Int) < (j : Int) := by omega
              have HRS := hid (show res = (List.range' (k + 1) d).all (okU us) from by rw [HST2.out, HR2.out]; simp)
              go_wp2_with fail
              refine ⟨⟨k + 1, d, by go_num, by omega, HRS, HKE⟩, ?_⟩
              simp [intOf] <;> omega
            | succ e =>
              have h2 : j < yc.length := by rw [HNC.out]; omega
              have j1 : (j : Int) < (nc : Int) := by omega
              have HCW := hid (HC2.out.kb HK2.out)
              obtain ⟨bc, oc, hyA, hci, hbc, hcc⟩ := cand_at HCW.out h2
              subst hyA
              have HS3 := hid (HR2.out.trans (by rw [all_range_succ, HOC.out j h2]))
              have HCI := hid hci
              clear HR2 hci
              generalize yc[j] = cd at *
              obtain ⟨cv, cs, cn, cb, cA, ck, cB, cD⟩ := cd
              dsimp only at HS3 HCI
              dsimp only [cdC] at hcc
              have c0 := hcc 0 _ rfl
              have c1 := hcc 1 _ rfl
              have c2 := hcc 2 _ rfl
              have c3 := hcc 3 _ rfl
              have c4 := hcc 4 _ rfl
              have c5 := hcc 5 _ rfl
              have c6 := hcc 6 _ rfl
              have c7 := hcc 7 _ rfl
              rw [Nat.add_zero] at c0
              clear hcc
              go_upto_region 12 with fail
              refine wp_name ?_
              intro u3 hu3
              have HB3 := hid (show Box u3 wr2.heap.size (cdC ⟨cv, cs, cn, cb, cA, ck, cB, cD⟩) from by rw [hu3]; exact Box.new wr2 (cdC ⟨cv, cs, cn, cb, cA, ck, cB, cD⟩) 79)
              dsimp only [cdC] at HB3
              have HK3 := hid (show KB wr2.heap.size wr2 u3 from by rw [hu3]; exact kb_new _ _)
              have HKG := hid (kb_tr HK2.out HK3.out)
              have HC3 := hid (HCW.out.kb HK3.out)
              have HCJ := hid (HCI.out.kb HK3.out)
              have HG3 := hid (HG2.out.kb HKG.out)
              have HFD := hid (HFC.out.kb HKG.out)
              clear hu3 c0 c1 c2 c3 c4 c5 c6 c7 hbc HCW HCI
              generalize wr2.heap.size = g3 at *
              have hsz3 : wA.heap.size ≤ u3.heap.size := HKG.out.size
              obtain ⟨ok, hok⟩ : ∃ b, (mayV cv && ((decide (j = 0) || (match yc[j - 1]? with
                | some p => !decide (0 ≤ cmpV p.v cv)
                | none => false)) && mayCd m ⟨cv, cs, cn, cb, cA, ck, cB, cD⟩)) = b := ⟨_, rfl⟩
              rw [hok] at HS3
              have HOKJ := hid hok
              clear hok
              go_cut [125] from 99 to 126 (fun bv wx => bv = .bool (!ok) ∧ KB u3.heap.size u3 wx)
              case first =>
                have hS : KB u3.heap.size u3 u3.drew := kb_drewJ (kb_refl _)
                have HMV := hid (fun u => may_any cv u HCJ.out.v)
                have HCDM := hid (fun u (hb : KB u3.heap.size u3 u) => wcand_any ⟨cv, cs, cn, cb, cA, ck, cB, cD⟩ m u (HFD.out.kb hb) (HCJ.out.kb hb))
                have HVF := hid HCJ.out.v
                dsimp only at HCDM
                generalize mayCd m ⟨cv, cs, cn, cb, cA, ck, cB, cD⟩ = mc at *
                have c0 := fun (z : SW fun u => KB u3.heap.size u3 u) => (HB3.out.kb z.ok).2 0 _ rfl
                have c1 := fun (z : SW fun u => KB u3.heap.size u3 u) => (HB3.out.kb z.ok).2 1 _ rfl
                have c2 := fun (z : SW fun u => KB u3.heap.size u3 u) => (HB3.out.kb z.ok).2 2 _ rfl
                have c3 := fun (z : SW fun u => KB u3.heap.size u3 u) => (HB3.out.kb z.ok).2 3 _ rfl
                have c4 := fun (z : SW fun u => KB u3.heap.size u3 u) => (HB3.out.kb z.ok).2 4 _ rfl
                have c5 := fun (z : SW fun u => KB u3.heap.size u3 u) => (HB3.out.kb z.ok).2 5 _ rfl
                have c6 := fun (z : SW fun u => KB u3.heap.size u3 u) => (HB3.out.kb z.ok).2 6 _ rfl
                have c7 := fun (z : SW fun u => KB u3.heap.size u3 u) => (HB3.out.kb z.ok).2 7 _ rfl
                have cl := fun (z : SW fun u => KB u3.heap.size u3 u) => (HB3.out.kb z.ok).1
                have q2 := fun (z : SW fun u => KB u3.heap.size u3 u) => (HG3.out.kb z.ok).2 2 _ rfl
                have ql := fun (z : SW fun u => KB u3.heap.size u3 u) => (HG3.out.kb z.ok).1
                generalize mayV cv = mv at *
                cases mv with
                | false =>
                  refine wp_planS (fun u => KB u3.heap.size u3 u) (.call [0, 1] 2 (.call [3, 4, 5, 6, 7, 8, 9, 10, 11, 12, 13, 14, 15, 16] 17 (.call [18, 19, 20, 21, 22, 23] 24 (.last [25, 26])))) (by first | assumption | skip) (by kernel_rfl) (by intro _ _ d _ _ h; cases d <;> exact h) (by kernel_rfl) ?_
                  have iS : Nonempty (SW fun u => KB u3.heap.size u3 u) := ⟨⟨_, hS⟩⟩
                  with_reducible refine plan_call ?_
                  simp only [pickOps, List.map_cons, List.map_nil, List.getElem?_toArray, List.getElem?_cons_zero, List.getElem?_cons_succ, Option.getD_some]
                  repeat go_big_quiet_step (fail)
                  refine wpQuiet_nil ?_
                  go_wp2_with fail
                  refine (HMV.out _).mono ?_
                  rintro _ u4 ⟨rfl, hb⟩
                  have HK4 := hid (show KB u3.heap.size u3 u4 from kb_tr hS hb.kb)
                  clear hb
                  go_wp2_with fail
                  refine plan_onS (HK4.out) ?_
                  with_reducible refine plan_call ?_
                  simp only [pickOps, List.map_cons, List.map_nil, List.getElem?_toArray, List.getElem?_cons_zero, List.getElem?_cons_succ, Option.getD_some]
                  repeat go_big_quiet_step (fail)
                  refine wpQuiet_nil ?_
                  go_wp2_with fail
                  refine plan_onS HK4.out ?_
                  with_reducible refine plan_call ?_
                  simp only [pickOps, List.map_cons, List.map_nil, List.getElem?_toArray, List.getElem?_cons_zero, List.getElem?_cons_succ, Option.getD_some]
                  repeat go_big_quiet_step (fail)
                  refine wpQuiet_nil ?_
                  go_wp2_with fail
                  refine plan_onS HK4.out ?_
                  with_reducible refine plan_last ?_
                  simp only [pickOps, List.map_cons, List.map_nil, List.getElem?_toArray, List.getElem?_cons_zero, List.getElem?_cons_succ, Option.getD_some]
                  repeat go_big_quiet_step (fail)
                  refine wpQuiet_nil ?_
                  clear iS c0 c1 c2 c3 c4 c5 c6 c7 cl q2 ql
                  go_wp2_with fail
                  go_meet
                  case rel => exact ⟨by rw [← HOKJ.out]; rfl, HK4.out⟩
                | true =>
                  by_cases g1 : 0 < j
                  · have i3 : (0 : Int) < (j : Int) := by omega
                    have hjm : j - 1 < yc.length := by omega
                    have i4 : (j : Int) - 1 = ((j - 1 : Nat) : Int) := by omega
                    obtain ⟨bp, op, hyp, hpi, hbp, hpp⟩ := cand_at HC3.out hjm
                    have hyp := Option.some.inj hyp
                    injection hyp with e1 e2 e3
                    subst e1
                    subst e2
                    have HPF := hid hpi.v
                    have hjz : ¬ j = 0 := by omega
                    have HOK2 := hid (show ok = (!decide (0 ≤ cmpV yc[j - 1].v cv) && mc) from by rw [← HOKJ.out, List.getElem?_eq_getElem hjm, decide_eq_false hjz]; rfl)
                    generalize yc[j - 1] = p at *
                    obtain ⟨pv, ps, pn, pb, pA, pk, pB, pD⟩ := p
                    dsimp only at HPF HOK2
                    have HVC := hid (fun u => vcompare_any pv cv u HPF.out HVF.out)
                    generalize cmpV pv cv = o at *
                    have HPP := hid (fun (u : World) (hb : KB u3.heap.size u3 u) (i : Nat) (v : Value) (h : _ = some v) => cell_kb hbp hb (hpp i v h))
                    have HBP := hid hbp
                    clear hpp hbp hpi hjm
                    have i5 : (0 : Int) ≤ ((j - 1 : Nat) : Int) := by omega
                    have i6 : ((j - 1 : Nat) : Int) < (nc : Int) := by omega
                    have p0 := fun (z : SW fun u => KB u3.heap.size u3 u) => show z.v.cell? ⟨bc, oc + (j - 1) * 8, none⟩ = _ from HPP.out _ z.ok 0 _ rfl
                    have p1 := fun (z : SW fun u => KB u3.heap.size u3 u) => HPP.out _ z.ok 1 _ rfl
                    have p2 := fun (z : SW fun u => KB u3.heap.size u3 u) => HPP.out _ z.ok 2 _ rfl
                    have p3 := fun (z : SW fun u => KB u3.heap.size u3 u) => HPP.out _ z.ok 3 _ rfl
                    have p4 := fun (z : SW fun u => KB u3.heap.size u3 u) => HPP.out _ z.ok 4 _ rfl
                    have pl := fun (z : SW fun u => KB u3.heap.size u3 u) => Nat.lt_of_lt_of_le HBP.out z.ok.size
                    refine wp_planS (fun u => KB u3.heap.size u3 u) (.call [0, 1] 2 (.call [3, 4, 5, 6, 7, 8, 9, 10, 11, 12, 13, 14, 15, 16] 17 (.call [18, 19, 20, 21, 22, 23] 24 (.last [25, 26])))) (by first | assumption | skip) (by kernel_rfl) (by intro _ _ d _ _ h; cases d <;> exact h) (by kernel_rfl) ?_
                    have iS : Nonempty (SW fun u => KB u3.heap.size u3 u) := ⟨⟨_, hS⟩⟩
                    with_reducible refine plan_call ?_
                    simp only [pickOps, List.map_cons, List.map_nil, List.getElem?_toArray, List.getElem?_cons_zero, List.getElem?_cons_succ, Option.getD_some]
                    repeat go_big_quiet_step (fail)
                    refine wpQuiet_nil ?_
                    go_wp2_with fail
                    refine (HMV.out _).mono ?_
                    rintro _ u4 ⟨rfl, hb⟩
                    have HK4 := hid (show KB u3.heap.size u3 u4 from kb_tr hS hb.kb)
                    clear hb
                    go_wp2_with fail
                    refine plan_onS (HK4.out) ?_
                    with_reducible refine plan_call ?_
                    simp only [pickOps, List.map_cons, List.map_nil, List.getElem?_toArray, List.getElem?_cons_zero, List.getElem?_cons_succ, Option.getD_some]
                    repeat go_big_quiet_step (fail)
                    refine wpQuiet_nil ?_
                    go_wp2_with fail
                    refine (HVC.out _).mono ?_
                    rintro _ u5 ⟨rfl, hb⟩
                    have HK5 := hid (show KB u3.heap.size u3 u5 from kb_tr HK4.out hb.kb)
                    clear hb
                    go_wp2_with fail
                    refine plan_onS (HK5.out) ?_
                    by_cases g4 : 0 ≤ o
                    · have HG4 := hid (decide_eq_true g4)
                      with_reducible refine plan_call ?_
                      simp only [pickOps, List.map_cons, List.map_nil, List.getElem?_toArray, List.getElem?_cons_zero, List.getElem?_cons_succ, Option.getD_some]
                      repeat go_big_quiet_step (fail)
                      refine wpQuiet_nil ?_
                      go_wp2_with fail
                      refine plan_onS HK5.out ?_
                      with_reducible refine plan_last ?_
                      simp only [pickOps, List.map_cons, List.map_nil, List.getElem?_toArray, List.getElem?_cons_zero, List.getElem?_cons_succ, Option.getD_some]
                      repeat go_big_quiet_step (fail)
                      refine wpQuiet_nil ?_
                      clear iS c0 c1 c2 c3 c4 c5 c6 c7 cl q2 ql p0 p1 p2 p3 p4 pl
                      go_wp2_with fail
                      go_meet
                      case rel => exact ⟨by rw [HOK2.out, HG4.out]; rfl, HK5.out⟩
                    · have HG4 := hid (decide_eq_false g4)
                      with_reducible refine plan_call ?_
                      simp only [pickOps, List.map_cons, List.map_nil, List.getElem?_toArray, List.getElem?_cons_zero, List.getElem?_cons_succ, Option.getD_some]
                      repeat go_big_quiet_step (fail)
                      refine wpQuiet_nil ?_
                      go_wp2_with fail
                      refine (HCDM.out _ HK5.out).mono ?_
                      rintro _ u6 ⟨rfl, hb⟩
                      have HK6 := hid (show KB u3.heap.size u3 u6 from kb_tr HK5.out hb)
                      clear hb
                      go_wp2_with fail
                      refine plan_onS (HK6.out) ?_
                      with_reducible refine plan_last ?_
                      simp only [pickOps, List.map_cons, List.map_nil, List.getElem?_toArray, List.getElem?_cons_zero, List.getElem?_cons_succ, Option.getD_some]
                      repeat go_big_quiet_step (fail)
                      refine wpQuiet_nil ?_
                      clear iS c0 c1 c2 c3 c4 c5 c6 c7 cl q2 ql p0 p1 p2 p3 p4 pl
                      go_wp2_with fail
                      go_meet
                      case rel => exact ⟨by rw [HOK2.out, HG4.out]; simp, HK6.out⟩
                  · have i3 : ¬ (0 : Int) < (j : Int) := by omega
                    have HJZ := hid (show j = 0 from by omega)
                    refine wp_planS (fun u => KB u3.heap.size u3 u) (.call [0, 1] 2 (.call [3, 4, 5, 6, 7, 8, 9, 10, 11, 12, 13, 14, 15, 16] 17 (.call [18, 19, 20, 21, 22, 23] 24 (.last [25, 26])))) (by first | assumption | skip) (by kernel_rfl) (by intro _ _ d _ _ h; cases d <;> exact h) (by kernel_rfl) ?_
                    have iS : Nonempty (SW fun u => KB u3.heap.size u3 u) := ⟨⟨_, hS⟩⟩
                    with_reducible refine plan_call ?_
                    simp only [pickOps, List.map_cons, List.map_nil, List.getElem?_toArray, List.getElem?_cons_zero, List.getElem?_cons_succ, Option.getD_some]
                    repeat go_big_quiet_step (fail)
                    refine wpQuiet_nil ?_
                    go_wp2_with fail
                    refine (HMV.out _).mono ?_
                    rintro _ u4 ⟨rfl, hb⟩
                    have HK4 := hid (show KB u3.heap.size u3 u4 from kb_tr hS hb.kb)
                    clear hb
                    go_wp2_with fail
                    refine plan_onS (HK4.out) ?_
                    with_reducible refine plan_call ?_
                    simp only [pickOps, List.map_cons, List.map_nil, List.getElem?_toArray, List.getElem?_cons_zero, List.getElem?_cons_succ, Option.getD_some]
                    repeat go_big_quiet_step (fail)
                    refine wpQuiet_nil ?_
                    go_wp2_with fail
                    refine plan_onS HK4.out ?_
                    with_reducible refine plan_call ?_
                    simp only [pickOps, List.map_cons, List.map_nil, List.getElem?_toArray, List.getElem?_cons_zero, List.getElem?_cons_succ, Option.getD_some]
                    repeat go_big_quiet_step (fail)
                    refine wpQuiet_nil ?_
                    go_wp2_with fail
                    refine (HCDM.out _ HK4.out).mono ?_
                    rintro _ u6 ⟨rfl, hb⟩
                    have HK6 := hid (show KB u3.heap.size u3 u6 from kb_tr HK4.out hb)
                    clear hb
                    go_wp2_with fail
                    refine plan_onS (HK6.out) ?_
                    with_reducible refine plan_last ?_
                    simp only [pickOps, List.map_cons, List.map_nil, List.getElem?_toArray, List.getElem?_cons_zero, List.getElem?_cons_succ, Option.getD_some]
                    repeat go_big_quiet_step (fail)
                    refine wpQuiet_nil ?_
                    clear iS c0 c1 c2 c3 c4 c5 c6 c7 cl q2 ql
                    go_wp2_with fail
                    go_meet
                    case rel => exact ⟨by rw [← HOKJ.out, decide_eq_true HJZ.out]; simp, HK6.out⟩
              case rest =>
                obtain ⟨rfl, hbc⟩ := hcut
                have HK6 := hid (kb_tr HKG.out hbc)
                have HK7 := hid (kb_tr HKD.out HK6.out)
                clear hbc HB3 HC3 HCJ HG3 HFD
                cases ok with
                | false =>
                  have HRS := hid (show res = false from by rw [HST2.out, HS3.out]; simp)
                  go_wp2_with fail
                  try rw [Exit.noGoto_ret]
                  try (first | go_ret | go_ret2)
                  exact ⟨by rw [HRS.out]; rfl, HK7.out⟩
                | true =>
                  have HRS := hid (show ri = (List.range' (j + 1) e).all (okCd m yc) from by rw [HS3.out]; simp)
                  go_wp2_with fail
                  refine ⟨⟨j + 1, e, by go_num, by omega, HRS, HK6⟩, ?_⟩
                  simp [intOf] <;> omega
end Go.Proofs.YtlmkglgjdmjnkaaGreatDoor
