/- Sets: the walk of linchpinlaw5.SetExact. -/
import Derived.Test.YtmnjnoggchgnjaaDoorSd
import Derived.Test.YtmnjnoggchgnjaaDoorBi
namespace Go.Proofs.YtmnjnoggchgnjaaDoor
open Go.RowKit Go.Lib
open Rw
set_option linter.unusedVariables false
set_option linter.unusedSimpArgs false

set_option maxRecDepth 100000 in
set_option maxHeartbeats 2000000 in
theorem walk_SetExact (A0 : Option Addr) (c0 : Nat) (z0 : List Int) (w : World) (h0 : IntsAt w A0 z0) (l0 : z0.length ≤ 9223372036854775807) (hg : First w) : Calls Tryd.prog 4 #[.slice A0 z0.length c0] w (BoolPost w true) := by
  have HG0 := hid hg
  have O1 := hid (versionL_ok z0 0)
  have O2 := hid (versionL_ok z0 5)
  have HC1 := hid (version_any A0 c0 z0 0 w h0 (by omega) (by omega) l0)
  have HC2 := hid (fun w' (h : Below w.heap.size w w') => version_any A0 c0 z0 5 w' (h0.below h) (by omega) (by omega) l0)
  clear h0 l0 hg
  generalize versionL z0 0 = v at *
  generalize versionL z0 5 = u at *
  generalize z0.length = n0 at *
  have F1 := hid (exact_has O1.out.1 O2.out.1)
  have F2 := hid (exact_same O1.out.1 O2.out.1)
  have F3 := hid (exact_apart O1.out.1 O2.out.1)
  have FV := hid (exact_val O1.out.1)
  have F4 := hid (apart_not FV.out)
  have F5 := hid (ends_all FV.out)
  have HEX0 := hid (fun w' (h : First w') => law_exact (v := v) w' h O1.out.2 O1.out.1)
  have HEX1 := hid (fun w' (h : First w') => law_exact (v := u) w' h O2.out.2 O2.out.1)
  have HCMP := hid (fun w' => vcompare_any v u w' O1.out.2 O2.out.2)
  have HUF := hid O2.out.2
  have HVAL := hid FV.out
  clear FV
  generalize (exactS v).1 = el at *
  generalize (exactS v).2 = em at *
  generalize (exactS u).1 = pl at *
  generalize (exactS u).2 = pm at *
  generalize cmpV v u = x at *
  generalize hq : (x == 0) = one at *
  have HNS := hid (fun w' (h : First w') (A B : Option Addr) (c d : Nat) (k : SetAt 1 w' A el B em) => law_not 3 c d h k (by decide) (by decide))
  generalize (notS el em).1 = nl at *
  generalize (notS el em).2 = nm at *
  generalize hq1 : el.length = n1 at *
  generalize hq2 : em.length = m1 at *
  generalize hq3 : pl.length = np at *
  generalize hq4 : pm.length = mp at *
  generalize hq5 : nl.length = nn at *
  generalize hq6 : nm.length = mn at *
  have L1 := hid hq1
  have L2 := hid hq2
  have L3 := hid hq3
  have L4 := hid hq4
  have L5 := hid hq5
  have L6 := hid hq6
  clear hq1 hq2 hq3 hq4 hq5 hq6
  cases one
  all_goals
    go_enter Tryd.func4, Tryd.ntmps4
    go_wp2_with fail
    refine HC1.out.mono ?_
    rintro _ w1 ⟨rfl, hb1⟩
    have HB1 := hid hb1
    clear hb1
    go_wp2_with fail
    refine (HC2.out _ HB1.out).mono ?_
    rintro _ w2 ⟨rfl, hb2⟩
    have HB2 := hid (below_tr HB1.out hb2)
    clear hb2
    go_wp2_with fail
    refine (HEX0.out _ (HG0.out.below (below_tr HB2.out (below_tr (below_new _ _) (below_new _ _))))).mono ?_
    rintro _ w3 ⟨A1, c1, B1, d1, rfl, S1, _, _, hb3⟩
    rw [L1.out, L2.out]
    obtain ⟨hx, hy, hb⟩ := box_2 (cs := v.cells) (ds := u.cells) hb3
    have HV3 := hid hx
    have HU3 := hid hy
    have HB3 := hid (below_tr HB2.out hb)
    have HS3 := hid S1
    obtain ⟨t0, t1, t2, t3, t4⟩ := hx.get5
    obtain ⟨y0, y1, y2, y3, y4⟩ := hy.get5
    have hlv := hx.1
    have hlu := hy.1
    clear hx hy hb hb3 S1
    go_wp2_with fail
    refine (HCMP.out _).mono ?_
    rintro _ w4 ⟨rfl, hb4⟩
    have hbn := below_new w3 (.cells [Value.slice A1 n1 c1, .slice B1 m1 d1].toArray 25)
    have hb := below_tr hbn hb4
    have HX := hid ((Box.new w3 [Value.slice A1 n1 c1, .slice B1 m1 d1] 25).below hb4)
    have HV := hid (HV3.out.below hb)
    have HU := hid (HU3.out.below hb)
    have HS := hid (HS3.out.below hb)
    have HB := hid (below_tr HB3.out hb)
    have HG := hid (HG0.out.below HB.out)
    clear t0 t1 t2 t3 t4 y0 y1 y2 y3 y4 hlv hlu hbn hb4 hb HV3 HU3 HS3 HB3
    have HAW := hid (fun w' (h : Below w4.heap.size w4 w') => s5awake_any w' (HG.out.below h))
    have HMY := hid (fun w' (h : Below w4.heap.size w4 w') => law_may c1 d1 (HG.out.below h) (HS.out.below h) (by decide))
    have HHS := hid (fun w' (h : Below w4.heap.size w4 w') => law_has (v := u) c1 d1 (HG.out.below h) (HS.out.below h) HUF.out (by decide))
    have HEX := hid (fun w' (h : Below w4.heap.size w4 w') => callBk L3.out L4.out (HEX1.out w' (HG.out.below h)))
    have HSM := hid (fun w' (h : Below w4.heap.size w4 w') (C : Option Addr) (c : Nat) (D : Option Addr) (d : Nat) (k : SetAt 1 w' C pl D pm) => law_same c1 d1 c d (HS.out.below h) k (by decide))
    have HAP := hid (fun w' (h : Below w4.heap.size w4 w') (C : Option Addr) (c : Nat) (D : Option Addr) (d : Nat) (k : SetAt 1 w' C pl D pm) => law_apart c1 d1 c d (HG.out.below h) (HS.out.below h) k (by decide))
    have HNT := hid (fun w' (h : Below w4.heap.size w4 w') => callBk L5.out L6.out (HNS.out w' (HG.out.below h) A1 B1 c1 d1 (HS.out.below h)))
    have HAN := hid (fun w' (h : Below w4.heap.size w4 w') (C : Option Addr) (c : Nat) (D : Option Addr) (d : Nat) (k : SetAt 3 w' C nl D nm) => law_apart c1 d1 c d (HG.out.below h) (HS.out.below h) k (by decide))
    have HAL : Hid (∀ w', Calls Tryd.prog 18 #[] w' (SetBk 1 w' wholeL wholeL 1 1)) := hid fun w' => callBk rfl rfl (law_all w')
    have HWI : Hid (∀ w', Below w4.heap.size w4 w' → ∀ (C : Option Addr) (c : Nat) (D : Option Addr) (d : Nat), SetAt 1 w' C wholeL D wholeL → Calls Tryd.prog 17 #[setV A1 n1 c1 B1 m1 d1, setV C 1 c D 1 d] w' (BoolPost w' true)) := hid (fun w' h C c D d k => by
      have := law_within c1 d1 c d (HG.out.below h) (HS.out.below h) k (by decide)
      rw [L1.out, L2.out, F5.out] at this
      exact this)
    simp only [L1.out, L2.out, L3.out, L4.out, L5.out, L6.out, F1.out, F2.out, F3.out, F4.out, hq] at HMY HHS HSM HAP HNT HAN
    clear HNS HEX0 HEX1 HCMP HC1 HC2 HG0
    go_wp2_with fail
  
    have HSB : Hid (∀ w', Below w4.heap.size w4 w' → w'.cell? ⟨w2.heap.size, 0, none⟩ = some (.int .i64 v.maj) ∧ w'.cell? ⟨w2.heap.size, 1, none⟩ = some (.int .i64 v.min) ∧ w'.cell? ⟨w2.heap.size, 2, none⟩ = some (.int .i64 v.pat) ∧ w'.cell? ⟨w2.heap.size, 3, none⟩ = some (.string v.pre) ∧ w'.cell? ⟨w2.heap.size, 4, none⟩ = some (.string v.bld) ∧ w'.cell? ⟨w2.heap.size + 1, 0, none⟩ = some (.int .i64 u.maj) ∧ w'.cell? ⟨w2.heap.size + 1, 1, none⟩ = some (.int .i64 u.min) ∧ w'.cell? ⟨w2.heap.size + 1, 2, none⟩ = some (.int .i64 u.pat) ∧ w'.cell? ⟨w2.heap.size + 1, 3, none⟩ = some (.string u.pre) ∧ w'.cell? ⟨w2.heap.size + 1, 4, none⟩ = some (.string u.bld) ∧ w'.cell? ⟨w3.heap.size, 0, none⟩ = some (.slice A1 n1 c1) ∧ w'.cell? ⟨w3.heap.size, 1, none⟩ = some (.slice B1 m1 d1)) := hid (fun w' h => by
      obtain ⟨a0, a1, a2, a3, a4⟩ := (HV.out.below h).get5
      obtain ⟨a5, a6, a7, a8, a9⟩ := (HU.out.below h).get5
      obtain ⟨a10, a11⟩ := (HX.out.below h).get2
      exact ⟨a0, a1, a2, a3, a4, a5, a6, a7, a8, a9, a10, a11⟩)
    go_region_held3 (fun w' => w'.cell? ⟨w2.heap.size, 0, none⟩ = some (.int .i64 v.maj) ∧ w'.cell? ⟨w2.heap.size, 1, none⟩ = some (.int .i64 v.min) ∧ w'.cell? ⟨w2.heap.size, 2, none⟩ = some (.int .i64 v.pat) ∧ w'.cell? ⟨w2.heap.size, 3, none⟩ = some (.string v.pre) ∧ w'.cell? ⟨w2.heap.size, 4, none⟩ = some (.string v.bld) ∧ w'.cell? ⟨w2.heap.size + 1, 0, none⟩ = some (.int .i64 u.maj) ∧ w'.cell? ⟨w2.heap.size + 1, 1, none⟩ = some (.int .i64 u.min) ∧ w'.cell? ⟨w2.heap.size + 1, 2, none⟩ = some (.int .i64 u.pat) ∧ w'.cell? ⟨w2.heap.size + 1, 3, none⟩ = some (.string u.pre) ∧ w'.cell? ⟨w2.heap.size + 1, 4, none⟩ = some (.string u.bld) ∧ w'.cell? ⟨w3.heap.size, 0, none⟩ = some (.slice A1 n1 c1) ∧ w'.cell? ⟨w3.heap.size, 1, none⟩ = some (.slice B1 m1 d1))
      (first | (exact HSB.out _ (by first | assumption | exact (Below.refl _ _).drew)) | go_keep)
      (first
        | (go_at_call 9; (with_reducible refine (HAW.out _ (by first | assumption | exact (Below.refl _ _).drew)).mono ?_); rintro _ wa ⟨rfl, kwa⟩; have hbwa : Below w4.heap.size w4 wa := below_tr (by first | assumption | exact (Below.refl _ _).drew) kwa)
        | (go_at_call 14; (with_reducible refine (HMY.out _ (by first | assumption | exact (Below.refl _ _).drew)).mono ?_); rintro _ wb ⟨rfl, kwb⟩; have hbwb : Below w4.heap.size w4 wb := below_tr (by first | assumption | exact (Below.refl _ _).drew) kwb)
        | (go_at_call 8; (with_reducible refine (HHS.out _ (by first | assumption | exact (Below.refl _ _).drew)).mono ?_); rintro _ wc ⟨rfl, kwc⟩; have hbwc : Below w4.heap.size w4 wc := below_tr (by first | assumption | exact (Below.refl _ _).drew) kwc)
        | (go_at_call 12; (with_reducible refine (HEX.out _ (by first | assumption | exact (Below.refl _ _).drew)).mono ?_); rintro _ wd ⟨Awd, cwd, Bwd, dwd, rfl, swd, -, -, kwd⟩; have hbwd : Below w4.heap.size w4 wd := below_tr (by first | assumption | exact (Below.refl _ _).drew) kwd)
        | (go_at_call 10; (with_reducible refine (HSM.out _ (by first | assumption | exact (Below.refl _ _).drew) _ _ _ _ swd).mono ?_); rintro _ we ⟨rfl, kwe⟩; have hbwe : Below w4.heap.size w4 we := below_tr (by first | assumption | exact (Below.refl _ _).drew) kwe)
        | (go_at_call_of 15 np; (with_reducible refine (HAP.out _ (by first | assumption | exact (Below.refl _ _).drew) _ _ _ _ swd).mono ?_); rintro _ wf ⟨rfl, kwf⟩; have hbwf : Below w4.heap.size w4 wf := below_tr (by first | assumption | exact (Below.refl _ _).drew) kwf)
        | (go_at_call 16; (with_reducible refine (HNT.out _ (by first | assumption | exact (Below.refl _ _).drew)).mono ?_); rintro _ wg ⟨Awg, cwg, Bwg, dwg, rfl, swg, -, -, kwg⟩; have hbwg : Below w4.heap.size w4 wg := below_tr (by first | assumption | exact (Below.refl _ _).drew) kwg)
        | (go_at_call 15; (with_reducible refine (HAN.out _ (by first | assumption | exact (Below.refl _ _).drew) _ _ _ _ swg).mono ?_); rintro _ wh ⟨rfl, kwh⟩; have hbwh : Below w4.heap.size w4 wh := below_tr (by first | assumption | exact (Below.refl _ _).drew) kwh)
        | (go_at_call 18; (with_reducible refine (HAL.out _).mono ?_); rintro _ wi ⟨Awi, cwi, Bwi, dwi, rfl, swi, -, -, kwi⟩; have hbwi : Below w4.heap.size w4 wi := below_tr (by first | assumption | exact (Below.refl _ _).drew) kwi)
        | (go_at_call 17; (with_reducible refine (HWI.out _ (by first | assumption | exact (Below.refl _ _).drew) _ _ _ _ swi).mono ?_); rintro _ wj ⟨rfl, kwj⟩; have hbwj : Below w4.heap.size w4 wj := below_tr (by first | assumption | exact (Below.refl _ _).drew) kwj))
    go_wp2_with fail
    go_ret
    exact ⟨rfl, below_tr HB.out hbwj⟩
end Go.Proofs.YtmnjnoggchgnjaaDoor
