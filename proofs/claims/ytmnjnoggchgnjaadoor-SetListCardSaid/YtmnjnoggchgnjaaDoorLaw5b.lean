/- Sets: the walk of linchpinlaw5.SetList. -/
import Derived.Test.YtmnjnoggchgnjaaDoorSd
import Derived.Test.YtmnjnoggchgnjaaDoorBi
namespace Go.Proofs.YtmnjnoggchgnjaaDoor
open Go.RowKit Go.Lib
open Rw
set_option linter.unusedVariables false
set_option linter.unusedSimpArgs false

/-- how many spans at most -/
def bd : Nat → Nat
  | 0 => 0
  | k + 1 => 1 + 2 * (bd k + 1)
theorem bd_eq : ∀ k, bd k + 3 = 3 * 2 ^ k
  | 0 => rfl
  | k + 1 => by
    have := bd_eq k
    rw [bd, Nat.pow_succ]; omega
theorem bd_le {k : Nat} (h : k ≤ 8) : bd k ≤ 765 := by
  have h1 := bd_eq k
  have h2 : 2 ^ k ≤ 2 ^ 8 := Nat.pow_le_pow_right (by omega) h
  have h3 : 2 ^ 8 = 256 := rfl
  omega
/-- what the loop has gathered of k versions, the first of them x0; whether v is one of them -/
structure LInv (x0 v : Ver) (k : Nat) (sl sm : List SpanL) (q : Bool) : Prop where
  val : ValS sl sm
  has : hasS sl sm v = q
  win : 0 < k → withinS (exactS x0).1 (exactS x0).2 sl sm = true
theorem LInv.start (x0 v : Ver) : LInv x0 v 0 [] [] false := ⟨ValS.nil, none_has, fun h => absurd h (by omega)⟩
theorem LInv.step {x0 v x : Ver} {k : Nat} {sl sm : List SpanL} {q : Bool} (h : LInv x0 v k sl sm q) (h0 : mayV x0 = true) (hv : mayV v = true) (hx : mayV x = true) (e : k = 0 → x = x0) :
    LInv x0 v (k + 1) (orS sl sm (exactS x).1 (exactS x).2).1 (orS sl sm (exactS x).1 (exactS x).2).2 (q || (cmpV x v == 0)) := by
  refine ⟨h.val.orS (exact_val hx), by rw [has_orS h.val (exact_val hx) hv, h.has, exact_has hx hv], fun _ => ?_⟩
  rcases Nat.eq_zero_or_pos k with hk | hk
  · rw [← e hk]; exact within_orS_r h.val (exact_val hx)
  · exact within_orS_l (exact_val h0) h.val (exact_val hx) (h.win hk)
theorem pname {F : World → Prop} {w : World} (h : ∀ w', w' = w → F w') : F w := h w rfl
theorem minus_self {sl sm : List SpanL} {v : Ver} (h : ValS sl sm) (hv : mayV v = true) : hasS (minusS sl sm (exactS v).1 (exactS v).2).1 (minusS sl sm (exactS v).1 (exactS v).2).2 v = false := by
  rw [has_minusS h (exact_val hv) hv, exact_has hv hv, cmpV_self hv]; simp

set_option maxRecDepth 100000 in
set_option maxHeartbeats 2000000 in
theorem walk_SetList (A0 : Option Addr) (c0 : Nat) (z0 : List Int) (A1 : Option Addr) (c1 : Nat) (z1 : List Int) (w : World) (h0 : IntsAt w A0 z0) (l0 : z0.length ≤ 9223372036854775807) (h1 : IntsAt w A1 z1) (l1 : z1.length ≤ 9223372036854775807) (hg : First w) : Calls Tryd.prog 5 #[.slice A0 z0.length c0, .slice A1 z1.length c1] w (BoolPost w true) := by
  have HG := hid hg
  have HL := hid (fun w' (h : Below w.heap.size w w') => h0.below h)
  have O0 := hid (versionL_ok z0 0)
  have OV := hid (versionL_ok z1 0)
  have OX := hid (versionL_ok z0)
  have HC := hid (fun (j : Int) w' (h : Below w.heap.size w w') (i1 : 0 ≤ j) (i2 : j ≤ 100000000) => version_any A0 c0 z0 j w' (h0.below h) i1 i2 l0)
  have HCV := hid (fun w' (h : Below w.heap.size w w') => version_any A1 c1 z1 0 w' (h1.below h) (by omega) (by omega) l1)
  clear h0 h1 l0 l1 hg
  have HXE : Hid (∀ k : Nat, k = 0 → versionL z0 (5 * (k : Int)) = versionL z0 0) := hid fun k h => by subst h; rfl
  generalize hx0 : versionL z0 0 = x0 at *
  have HX0 := hid hx0
  clear hx0
  generalize versionL z1 0 = v at *
  generalize z0.length = n0 at *
  generalize z1.length = n1 at *
  go_enter Tryd.func5, Tryd.ntmps5
  go_wp2_with fail
  refine (snone_any _).mono ?_
  rintro _ w1 ⟨rfl, hb1⟩
  have HB1 := hid hb1
  clear hb1
  go_wp2_with fail
  refine (HCV.out _ HB1.out).mono ?_
  rintro _ w2 ⟨rfl, hb2⟩
  have HB2 := hid (below_tr HB1.out hb2)
  clear hb2 HCV
  go_wp2_with fail
  refine wp_name ?_
  intro w3 hw3
  have hb3 : Below w2.heap.size w2 w3 := by rw [hw3]; exact below_tr (below_new _ _) (below_new _ _)
  have HB3 := hid (below_tr HB2.out hb3)
  obtain ⟨hx, hv, _⟩ := box_2 (cs := [Value.slice none 0 0, .slice none 0 0]) (ds := v.cells) (w := w2) (w1 := w3) (s := 31) (t := 25) (by rw [hw3]; exact Below.refl _ _)
  have hs := (soft_2 (cs := [Value.slice none 0 0, .slice none 0 0]) (ds := v.cells) (w := w2) (w1 := w3) (s := 31) (t := 25) (by rw [hw3]; exact Below.refl _ _)).1
  have HZ := hid HB2.out.size
  clear hb3 hw3
  generalize hg5 : w2.heap.size = g5 at *
  have HX3 := hid hx
  have HV3 := hid hv
  have HS3 := hid hs
  clear hx hv hs hg5 HB1 HB2
  go_loopw [9, 7, 8] (fun _ b i wr => ∃ (k : Nat) (A B : Option Addr) (c d : Nat) (sl sm : List SpanL) (q : Bool), i = .int .i64 k ∧ b = .bool q ∧ k ≤ 8 ∧ Hid (Box wr g5 [.slice A sl.length c, .slice B sm.length d]) ∧ Hid (Soft wr g5) ∧ Hid (Box wr (g5 + 1) v.cells) ∧ Hid (SetAt (bd k) wr A sl B sm) ∧ Hid (LInv x0 v k sl sm q) ∧ Hid (Below w.heap.size w wr)) (fun _ _ i _ => 8 - (intOf i).toNat)
  case atStart => exact ⟨0, none, none, 0, 0, [], [], false, rfl, rfl, Nat.zero_le _, HX3.out, HS3.out, HV3.out, SetAt.none _, LInv.start _ _, HB3.out⟩
  case round =>
    obtain ⟨k, A, B, c, d, sl, sm, q, rfl, rfl, hk, HX, HS, HV, HAT, HINV, HBR⟩ := hrel
    have HGr := hid (HG.out.below HBR.out)
    by_cases hlt : k < 8
    · have j5 : IntKind.i64.wrap (5 * (k : Int)) = 5 * (k : Int) := IntWalk.i64_in _ (by omega)
      have HCX := hid (HC.out (5 * (k : Int)) wr HBR.out (by omega) (by omega))
      have HOX := hid (OX.out (5 * (k : Int)))
      have HE0 := hid (HXE.out k)
      generalize versionL z0 (5 * (k : Int)) = x at *
      have HST := hid (HINV.out.step O0.out.1 OV.out.1 HOX.out.1 HE0.out)
      have hb8 := bd_le hk
      generalize hnl : sl.length = nl at *
      generalize hml : sm.length = ml at *
      have HNL := hid hnl
      have HML := hid hml
      clear hnl hml
      go_wp2_with fail
      refine HCX.out.mono ?_
      rintro _ w4 ⟨rfl, hb4⟩
      clear HCX
      go_wp2_with fail
      refine wp_name ?_
      intro w5 hw5
      have hb45 : Below w4.heap.size w4 w5 := by rw [hw5]; exact below_new _ _
      have HXX : Hid (Box w5 w4.heap.size x.cells) := hid (by rw [hw5]; exact Box.new w4 x.cells _)
      clear hw5
      have hb5 := below_tr hb4 hb45
      have HX5 := hid (HX.out.below hb5)
      have HS5 := hid (HS.out.below HX.out.1 hb5)
      have HV5 := hid (HV.out.below hb5)
      have HAT5 := hid (HAT.out.below hb5)
      have HG5 := hid (HGr.out.below hb5)
      have HB5 := hid (below_tr HBR.out hb5)
      have hlt5 := HX5.out.1
      have hne : ¬ g5 = w4.heap.size := Nat.ne_of_lt (Nat.lt_of_lt_of_le HX.out.1 hb4.size)
      have HNE := hid hne
      obtain ⟨y0, y1⟩ := HX5.out.get2
      clear hb4 hb45 hb5 HX HS HV HAT HGr HBR
      generalize hg9 : w4.heap.size = g9 at *
      clear hg9
      have HEX0 := hid (fun w' (h : Below w5.heap.size w5 w') => law_exact (v := x) w' (HG5.out.below h) HOX.out.2 HOX.out.1)
      have HOR0 := hid (fun w' (h : Below w5.heap.size w5 w') (C : Option Addr) (c2 : Nat) (D : Option Addr) (d2 : Nat) (j : SetAt 1 w' C (exactS x).1 D (exactS x).2) => law_or (bd (k + 1)) c d c2 d2 (HG5.out.below h) (HAT5.out.below h) j (Nat.le_refl _) (by omega))
      generalize (exactS x).1 = xl at *
      generalize (exactS x).2 = xm at *
      generalize (orS sl sm xl xm).1 = ol at *
      generalize (orS sl sm xl xm).2 = om at *
      generalize hnx : xl.length = nx at *
      generalize hmx : xm.length = mx at *
      generalize hno : ol.length = no at *
      generalize hmo : om.length = mo at *
      have LX := hid hnx
      have MX := hid hmx
      have LO := hid hno
      have MO := hid hmo
      clear hnx hmx hno hmo
      have HEX := hid (fun w' (h : Below w5.heap.size w5 w') => callBk LX.out MX.out (HEX0.out w' h))
      have HOR := hid (fun w' (h : Below w5.heap.size w5 w') (C : Option Addr) (c2 : Nat) (D : Option Addr) (d2 : Nat) (j : SetAt 1 w' C xl D xm) => callBk LO.out MO.out (HOR0.out w' h C c2 D d2 j))
      simp only [HNL.out, HML.out, LX.out, MX.out] at HOR
      have HSB0 := hid (fun w' (h : Below w5.heap.size w5 w') => And.intro (HX5.out.below h) (HS5.out.below HX5.out.1 h))
      clear HEX0 HOR0
      obtain ⟨t0, t1, t2, t3, t4⟩ := HXX.out.get5
      have hlt9 := HXX.out.1
      go_region_with (first
          | (go_at_call 12; (with_reducible refine (HEX.out _ (by first | assumption | exact (Below.refl _ _).drew)).mono ?_); rintro _ wa ⟨Awa, cwa, Bwa, dwa, rfl, swa, -, -, kwa⟩; have hbwa : Below w5.heap.size w5 wa := below_tr (by first | assumption | exact (Below.refl _ _).drew) kwa; obtain ⟨a0, a1⟩ := (HSB0.out _ hbwa).1.get2)
          | (go_at_call 20; (with_reducible refine (HOR.out _ (by first | assumption | exact (Below.refl _ _).drew) _ _ _ _ swa).mono ?_); rintro _ wb ⟨Awb, cwb, Bwb, dwb, rfl, swb, twb, uwb, kwb⟩; have hbwb : Below w5.heap.size w5 wb := below_tr (by first | assumption | exact (Below.refl _ _).drew) kwb; obtain ⟨b0, b1⟩ := (HSB0.out _ hbwb).1.get2; have b2 : ∀ j, wb.frozen? ⟨g5, j, none⟩ = false := (HSB0.out _ hbwb).2; have b3 := (HSB0.out _ hbwb).1.1))
      all_goals
        clear y0 y1 t0 t1 t2 t3 t4 hlt5 hlt9 a0 a1 b0 b1 b2 b3 hne
        refine pname ?_
        intro w6 hw6
        rw [show ((wb.setCell ⟨g5, 0, none⟩ (.slice Awb no cwb)).setCell ⟨g5, 1, none⟩ (.slice Bwb mo dwb)) = wb.setCells g5 0 [.slice Awb no cwb, .slice Bwb mo dwb] from rfl] at hw6
        have HX6 : Hid (Box w6 g5 [.slice Awb ol.length cwb, .slice Bwb om.length dwb]) := hid (by rw [hw6, LO.out, MO.out]; exact (HSB0.out _ hbwb).1.set (o := 0) (vs := [.slice Awb no cwb, .slice Bwb mo dwb]) (by simp))
        have HS6 : Hid (Soft w6 g5) := hid (by rw [hw6]; exact (HSB0.out _ hbwb).2.set)
        have HV6 : Hid (Box w6 (g5 + 1) v.cells) := hid (by rw [hw6]; exact (HV5.out.below hbwb).setOther (by omega))
        have HXX6 : Hid (Box w6 g9 x.cells) := hid (by rw [hw6]; exact (HXX.out.below hbwb).setOther (by have := HNE.out; omega))
        have HAT6 : Hid (SetAt (bd (k + 1)) w6 Awb ol Bwb om) := hid (by rw [hw6]; exact swb.set twb uwb (HSB0.out _ hbwa).1.1)
        have HB6 : Hid (Below w.heap.size w w6) := hid (by rw [hw6]; exact (below_tr HB5.out hbwb).setCells HZ.out _ _)
        clear hw6 swb twb uwb kwa kwb hbwa hbwb swa HSB0 HEX HOR HX5 HS5 HV5 HAT5 HG5 HB5 HXX
        obtain ⟨t0, t1, t2, t3, t4⟩ := HXX6.out.get5
        obtain ⟨s0, s1, s2, s3, s4⟩ := HV6.out.get5
        cases q
        · go_wp2_with fail
          refine (vcompare_any x v _ HOX.out.2 OV.out.2).mono ?_
          rintro _ w7 ⟨rfl, hb7⟩
          have HX7 := hid (HX6.out.below hb7)
          have HS7 := hid (HS6.out.below HX6.out.1 hb7)
          have HV7 := hid (HV6.out.below hb7)
          have HAT7 := hid (HAT6.out.below hb7)
          have HB7 := hid (below_tr HB6.out hb7)
          clear hb7 t0 t1 t2 t3 t4 s0 s1 s2 s3 s4
          go_wp2_with fail
          go_roundw
          case rel => exact ⟨k + 1, Awb, Bwb, cwb, dwb, ol, om, (cmpV x v == 0), by go_num, rfl, by omega, HX7.out, HS7.out, HV7.out, HAT7.out, HST.out, HB7.out⟩
          case measure => simp [intOf]; omega
        · clear t0 t1 t2 t3 t4 s0 s1 s2 s3 s4
          go_wp2_with fail
          go_roundw
          case rel => exact ⟨k + 1, Awb, Bwb, cwb, dwb, ol, om, true, by go_num, rfl, by omega, HX6.out, HS6.out, HV6.out, HAT6.out, HST.out, HB6.out⟩
          case measure => simp [intOf]; omega
    · obtain rfl : k = 8 := by omega
      have F1 := hid HINV.out.has
      have F2 := hid (minus_self HINV.out.val OV.out.1)
      have F3 := hid (HINV.out.win (by omega))
      have FB := hid (bd_le (Nat.le_refl 8))
      generalize bd 8 = n8 at *
      have HAW := hid (fun w' (h : Below wr.heap.size wr w') => s5awake_any w' (HGr.out.below h))
      have HMY := hid (fun w' (h : Below wr.heap.size wr w') => law_may c d (HGr.out.below h) (HAT.out.below h) (by have := FB.out; omega))
      have HHS := hid (fun w' (h : Below wr.heap.size wr w') => law_has (v := v) c d (HGr.out.below h) (HAT.out.below h) OV.out.2 (by have := FB.out; omega))
      have HEX0 := hid (fun w' (h : Below wr.heap.size wr w') => law_exact (v := v) w' (HGr.out.below h) OV.out.2 OV.out.1)
      have HEY0 := hid (fun w' (h : Below wr.heap.size wr w') => law_exact (v := x0) w' (HGr.out.below h) O0.out.2 O0.out.1)
      have HMI0 := hid (fun w' (h : Below wr.heap.size wr w') (C : Option Addr) (c2 : Nat) (D : Option Addr) (d2 : Nat) (j : SetAt 1 w' C (exactS v).1 D (exactS v).2) => law_minus 2000 c d c2 d2 (HGr.out.below h) (HAT.out.below h) j (by have := FB.out; omega) (by have := FB.out; omega))
      have HMH := hid (fun w' (h : Below wr.heap.size wr w') (C : Option Addr) (c2 : Nat) (D : Option Addr) (d2 : Nat) (j : SetAt 2000 w' C (minusS sl sm (exactS v).1 (exactS v).2).1 D (minusS sl sm (exactS v).1 (exactS v).2).2) => law_has (v := v) c2 d2 (HGr.out.below h) j OV.out.2 (by omega))
      have HWI := hid (fun w' (h : Below wr.heap.size wr w') (C : Option Addr) (c2 : Nat) (D : Option Addr) (d2 : Nat) (j : SetAt 1 w' C (exactS x0).1 D (exactS x0).2) => law_within c2 d2 c d (HGr.out.below h) j (HAT.out.below h) (by have := FB.out; omega))
      have HVE := hid (fun w' (h : Below wr.heap.size wr w') => HC.out 0 w' (below_tr HBR.out h) (by omega) (by omega))
      have HTOK := hid (fun w' (h : Below wr.heap.size wr w') => HX.out.below h)
      clear HC HXE HL OX HS
      simp only [HX0.out] at HVE
      generalize (minusS sl sm (exactS v).1 (exactS v).2).1 = ml' at *
      generalize (minusS sl sm (exactS v).1 (exactS v).2).2 = mm' at *
      generalize (exactS v).1 = pl at *
      generalize (exactS v).2 = pm at *
      generalize (exactS x0).1 = xl at *
      generalize (exactS x0).2 = xm at *
      simp only [F1.out, F2.out, F3.out] at HHS HMH HWI
      generalize hq1 : sl.length = n1' at *
      generalize hq2 : sm.length = m1 at *
      generalize hq3 : pl.length = np at *
      generalize hq4 : pm.length = mp at *
      generalize hq5 : ml'.length = nn at *
      generalize hq6 : mm'.length = mn at *
      generalize hq7 : xl.length = nx at *
      generalize hq8 : xm.length = mx at *
      have L3 := hid hq3
      have L4 := hid hq4
      have L5 := hid hq5
      have L6 := hid hq6
      have L7 := hid hq7
      have L8 := hid hq8
      clear hq1 hq2 hq3 hq4 hq5 hq6 hq7 hq8
      have HEX := hid (fun w' (h : Below wr.heap.size wr w') => callBk L3.out L4.out (HEX0.out w' h))
      have HEY := hid (fun w' (h : Below wr.heap.size wr w') => callBk L7.out L8.out (HEY0.out w' h))
      have HMI := hid (fun w' (h : Below wr.heap.size wr w') (C : Option Addr) (c2 : Nat) (D : Option Addr) (d2 : Nat) (j : SetAt 1 w' C pl D pm) => callBk L5.out L6.out (HMI0.out w' h C c2 D d2 j))
      clear HEX0 HEY0 HMI0
      cases q
      all_goals
        go_wp2_with fail
        have HSB : Hid (∀ w', Below wr.heap.size wr w' → w'.cell? ⟨g5, 0, none⟩ = some (.slice A n1' c) ∧ w'.cell? ⟨g5, 1, none⟩ = some (.slice B m1 d) ∧ w'.cell? ⟨g5 + 1, 0, none⟩ = some (.int .i64 v.maj) ∧ w'.cell? ⟨g5 + 1, 1, none⟩ = some (.int .i64 v.min) ∧ w'.cell? ⟨g5 + 1, 2, none⟩ = some (.int .i64 v.pat) ∧ w'.cell? ⟨g5 + 1, 3, none⟩ = some (.string v.pre) ∧ w'.cell? ⟨g5 + 1, 4, none⟩ = some (.string v.bld)) := hid (fun w' h => by
          obtain ⟨a0, a1⟩ := (HX.out.below h).get2
          obtain ⟨a2, a3, a4, a5, a6⟩ := (HV.out.below h).get5
          exact ⟨a0, a1, a2, a3, a4, a5, a6⟩)
        go_region_held3 (fun w' => w'.cell? ⟨g5, 0, none⟩ = some (.slice A n1' c) ∧ w'.cell? ⟨g5, 1, none⟩ = some (.slice B m1 d) ∧ w'.cell? ⟨g5 + 1, 0, none⟩ = some (.int .i64 v.maj) ∧ w'.cell? ⟨g5 + 1, 1, none⟩ = some (.int .i64 v.min) ∧ w'.cell? ⟨g5 + 1, 2, none⟩ = some (.int .i64 v.pat) ∧ w'.cell? ⟨g5 + 1, 3, none⟩ = some (.string v.pre) ∧ w'.cell? ⟨g5 + 1, 4, none⟩ = some (.string v.bld))
          (first | (exact HSB.out _ (by first | assumption | exact (Below.refl _ _).drew)) | go_keep)
          (first
            | (go_at_call 9; (with_reducible refine (HAW.out _ (by first | assumption | exact (Below.refl _ _).drew)).mono ?_); rintro _ wa ⟨rfl, kwa⟩; have hbwa : Below wr.heap.size wr wa := below_tr (by first | assumption | exact (Below.refl _ _).drew) kwa)
            | (go_at_call 14; (with_reducible refine (HMY.out _ (by first | assumption | exact (Below.refl _ _).drew)).mono ?_); rintro _ wb ⟨rfl, kwb⟩; have hbwb : Below wr.heap.size wr wb := below_tr (by first | assumption | exact (Below.refl _ _).drew) kwb)
            | (go_at_call_of 8 A; (with_reducible refine (HHS.out _ (by first | assumption | exact (Below.refl _ _).drew)).mono ?_); rintro _ wc ⟨rfl, kwc⟩; have hbwc : Below wr.heap.size wr wc := below_tr (by first | assumption | exact (Below.refl _ _).drew) kwc)
            | (go_at_call_of 12 v; (with_reducible refine (HEX.out _ (by first | assumption | exact (Below.refl _ _).drew)).mono ?_); rintro _ wd ⟨Awd, cwd, Bwd, dwd, rfl, swd, -, -, kwd⟩; have hbwd : Below wr.heap.size wr wd := below_tr (by first | assumption | exact (Below.refl _ _).drew) kwd)
            | (go_at_call 21; (with_reducible refine (HMI.out _ (by first | assumption | exact (Below.refl _ _).drew) _ _ _ _ swd).mono ?_); rintro _ we ⟨Awe, cwe, Bwe, dwe, rfl, swe, -, -, kwe⟩; have hbwe : Below wr.heap.size wr we := below_tr (by first | assumption | exact (Below.refl _ _).drew) kwe)
            | (go_at_call 8; (with_reducible refine (HMH.out _ (by first | assumption | exact (Below.refl _ _).drew) _ _ _ _ swe).mono ?_); rintro _ wf ⟨rfl, kwf⟩; have hbwf : Below wr.heap.size wr wf := below_tr (by first | assumption | exact (Below.refl _ _).drew) kwf)
            | (go_at_call 11; (with_reducible refine (HVE.out _ (by first | assumption | exact (Below.refl _ _).drew)).mono ?_); rintro _ wg ⟨rfl, kwg⟩; have hbwg : Below wr.heap.size wr wg := below_tr (by first | assumption | exact (Below.refl _ _).drew) kwg)
            | (go_at_call 12; (with_reducible refine (HEY.out _ (by first | assumption | exact (Below.refl _ _).drew)).mono ?_); rintro _ wh ⟨Awh, cwh, Bwh, dwh, rfl, swh, -, -, kwh⟩; have hbwh : Below wr.heap.size wr wh := below_tr (by first | assumption | exact (Below.refl _ _).drew) kwh)
            | (go_at_call 17; (with_reducible refine (HWI.out _ (by first | assumption | exact (Below.refl _ _).drew) _ _ _ _ swh).mono ?_); rintro _ wi ⟨rfl, kwi⟩; have hbwi : Below wr.heap.size wr wi := below_tr (by first | assumption | exact (Below.refl _ _).drew) kwi))
        go_wp2_with fail
        go_ret
        exact ⟨rfl, below_tr HBR.out hbwi⟩
end Go.Proofs.YtmnjnoggchgnjaaDoor
