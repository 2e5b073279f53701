/- Sets: the walk of linchpinlaw5.SetMakes. -/
import Derived.Test.YtmnjnoggchgnjaaGreatDoorSetM
namespace Go.Proofs.YtmnjnoggchgnjaaGreatDoor
open Go.RowKit Go.Lib
open Rw
set_option linter.unusedVariables false
set_option linter.unusedSimpArgs false

set_option maxRecDepth 100000 in
set_option maxHeartbeats 4000000 in
theorem walk_SetMakes (A0 : Option Addr) (c0 : Nat) (z0 : List Int) (w : World) (h0 : IntsAt w A0 z0) (l0 : z0.length ≤ 9223372036854775807) (hg : First w) : Calls Tryz.prog 8 #[.slice A0 z0.length c0] w (BoolPost w true) := by
  have HI0 := hid h0
  have HL0 := hid l0
  have HG := hid hg
  have HB : Hid (Below w.heap.size w w) := hid (Below.refl _ _)
  clear hg h0 l0
  go_enter Tryz.func8, Tryz.ntmps8
  go_wp2_with fail
  refine (row_any w.heap.size A0 c0 z0 0 w HI0.out (by omega) (by omega) HL0.out (Nat.le_refl _)).mono ?_
  rintro _ w1 ⟨vv, r, rfl, o, Fr, Vr, br, hb⟩
  obtain ⟨Ar, cr, rfl, Sr⟩ := o.spans
  have HI0 := hid (HI0.out.below hb)
  have HG := hid (HG.out.below hb)
  have HB := hid (below_tr HB.out hb)
  have HRr := hid Sr
  have HFr := hid Fr
  have HVr := hid Vr
  clear o Sr Fr Vr hb
  go_wp2_with fail
  refine (row_any w1.heap.size A0 c0 z0 49 w1 HI0.out (by omega) (by omega) HL0.out (Nat.le_refl _)).mono ?_
  rintro _ w2 ⟨vv, q, rfl, o, Fq, Vq, bq, hb⟩
  obtain ⟨Aq, cq, rfl, Sq⟩ := o.spans
  have HRr := hid (HRr.out.below hb)
  have HI0 := hid (HI0.out.below hb)
  have HG := hid (HG.out.below hb)
  have HB := hid (below_tr HB.out hb)
  have HRq := hid Sq
  have HFq := hid Fq
  have HVq := hid Vq
  clear o Sq Fq Vq hb
  go_wp2_with fail
  refine (version_any A0 c0 z0 98 w2 HI0.out (by omega) (by omega) HL0.out).mono ?_
  rintro _ w3 ⟨rfl, hb⟩
  have HOv := hid (versionL_ok z0 98)
  generalize versionL z0 98 = v at *
  have HRr := hid (HRr.out.below hb)
  have HRq := hid (HRq.out.below hb)
  have HI0 := hid (HI0.out.below hb)
  have HG := hid (HG.out.below hb)
  have HB := hid (below_tr HB.out hb)
  clear hb
  have HMK0 := hid (fun wx (h : Below w3.heap.size w3 wx) => smake_any Ar Aq cr cq r q wx (HG.out.below h) (HRr.out.below h) (HRq.out.below h) HFr.out HFq.out (by omega) (by omega))
  have HSV := hid (smake_val HVr.out HVq.out)
  have HSH := hid (smake_has HVr.out HVq.out HOv.out.1)
  have HSG := hid (smake_good HFr.out HFq.out)
  have HSA := hid (smake_again HVr.out HVq.out)
  have HSY : Hid ((smakeL r q).2 = true) := hid (by rw [smake_yes HVr.out HVq.out])
  have HHr := hid (fun wx (h : Below w3.heap.size w3 wx) => rrowhas_any Ar cr r v wx (HRr.out.below h) HFr.out (by omega) HOv.out.2)
  have HHq := hid (fun wx (h : Below w3.heap.size w3 wx) => rrowhas_any Aq cq q v wx (HRq.out.below h) HFq.out (by omega) HOv.out.2)
  generalize hsm : smakeL r q = sm at *
  have HSM := hid hsm
  clear hsm
  obtain ⟨⟨sl, sp⟩, sb⟩ := sm
  dsimp only at HSV HSH HSG HSY HSA
  obtain rfl : sb = true := HSY.out
  have hln : sl.length ≤ 19 := by have := HSG.out.2.2.1; omega
  have hpn : sp.length ≤ 9 := by have := HSG.out.2.2.2; omega
  generalize hasR r v = hr at *
  generalize hasR q v = hq at *
  generalize r.length = nr at *
  generalize q.length = nq at *
  go_wp2_with fail
  refine (HMK0.out _ (below_new _ _)).mono ?_
  rintro _ w10 ⟨As, cs, Bs, ds, rfl, S1, S2, hb10⟩
  dsimp only
  have hbv := below_tr (below_new w3 (.cells v.cells.toArray 28)) hb10
  have HXv := hid ((Box.new w3 v.cells 28).below hb10)
  have HSs : Hid (SetAt 19 w10 As sl Bs sp) := hid ⟨S1.1, S2.1, HSG.out.1, HSG.out.2.1, hln, by omega, HSV.out⟩
  have HI0 := hid (HI0.out.below hbv)
  have HG := hid (HG.out.below hbv)
  have HB := hid (below_tr HB.out hbv)
  have HBv := hid hbv
  clear hb10 S1 S2 HMK0 hbv
  generalize hns : sl.length = ns at *
  generalize hms : sp.length = ms at *
  have LLs := hid hns
  have LMs := hid hms
  clear hns hms
  obtain ⟨t0, t1, t2, t3, t4⟩ := HXv.out.get5
  have hlv := HXv.out.1
  go_wp2_with fail
  refine (HHr.out _ (below_tr HBv.out (below_new _ _))).mono ?_
  rintro _ w11 ⟨rfl, hb11⟩
  have hb := below_tr (below_new w10 (.cells [Value.slice As ns cs, .slice Bs ms ds].toArray 25)) hb11
  have HXs := hid ((Box.new w10 [Value.slice As ns cs, .slice Bs ms ds] 25).below hb11)
  have HXv := hid (HXv.out.below hb)
  have HSs := hid (HSs.out.below hb)
  have HG := hid (HG.out.below hb)
  have HB := hid (below_tr HB.out hb)
  have HBv := hid (below_tr HBv.out hb)
  clear hb hb11 t0 t1 t2 t3 t4 hlv HHr
  generalize w10.heap.size = gs at *
  obtain ⟨t0, t1, t2, t3, t4⟩ := HXv.out.get5
  have hlv := HXv.out.1
  obtain ⟨u0, u1⟩ := HXs.out.get2
  have hls := HXs.out.1
  have HMK2 := hid (fun wx (h : Below w11.heap.size w11 wx) => smake_any As Bs cs ds sl sp wx (HG.out.below h) (HSs.out.below h).rel (HSs.out.below h).pre HSs.out.frel HSs.out.fpre (by have := HSs.out.nrel; omega) (by have := HSs.out.npre; omega))
  rw [LLs.out, LMs.out, HSA.out] at HMK2
  by_cases h4 : 0 < v.pre.size
  · obtain ⟨e4, n4⟩ := ne_of_size h4
    have HW : Hid (hasS sl sp v = hq) := hid (by rw [HSH.out, bts, e4]; rfl)
    go_wp2_with fail
    refine (HHq.out _ HBv.out).mono ?_
    rintro _ w12 ⟨rfl, hb12⟩
    have HXv := hid (HXv.out.below hb12)
    have HXs := hid (HXs.out.below hb12)
    have HSs := hid (HSs.out.below hb12)
    have HG := hid (HG.out.below hb12)
    have HB := hid (below_tr HB.out hb12)
    have HMK3 := hid (fun wx (h : Below w12.heap.size w12 wx) => HMK2.out wx (below_tr hb12 h))
    clear hb12 t0 t1 t2 t3 t4 hlv u0 u1 hls
    obtain ⟨u0, u1⟩ := HXs.out.get2
    have hls := HXs.out.1
    go_wp2_with fail
    refine (HMK3.out _ (Below.refl _ _)).mono ?_
    rintro _ w13 ⟨Aa, ca, Ba, da, rfl, S1, S2, hb13⟩
    dsimp only
    have HSa : Hid (SetAt 19 w13 Aa sl Ba sp) := hid ⟨S1.1, S2.1, HSs.out.frel, HSs.out.fpre, HSs.out.nrel, HSs.out.npre, HSs.out.val⟩
    have HXv := hid (HXv.out.below hb13)
    have HXs := hid (HXs.out.below hb13)
    have HSs := hid (HSs.out.below hb13)
    have HG := hid (HG.out.below hb13)
    have HB := hid (below_tr HB.out hb13)
    clear S1 S2 hb13 u0 u1 hls HMK3
    rw [LLs.out, LMs.out]
    have HAW := hid (fun wx (h : Below w13.heap.size w13 wx) => s5awake_any wx (HG.out.below h))
    have HMY := hid (fun wx (h : Below w13.heap.size w13 wx) => law_may cs ds (HG.out.below h) (HSs.out.below h) (by decide))
    have HHS := hid (fun wx (h : Below w13.heap.size w13 wx) => law_has (v := v) cs ds (HG.out.below h) (HSs.out.below h) HOv.out.2 (by decide))
    have HSM := hid (fun wx (h : Below w13.heap.size w13 wx) => law_same ca da cs ds (HSa.out.below h) (HSs.out.below h) (by decide))
    simp only [LLs.out, LMs.out, HW.out, sameS_self] at HMY HHS HSM
    cases hq
    all_goals
      go_wp2_with fail
      refine (HAW.out _ (below_new _ _)).mono ?_
      rintro _ w14 ⟨rfl, hb14⟩
      have hb := below_tr (below_new w13 (.cells [Value.slice Aa ns ca, .slice Ba ms da].toArray 25)) hb14
      have HXa := hid ((Box.new w13 [Value.slice Aa ns ca, .slice Ba ms da] 25).below hb14)
      have HB14 := hid hb
      have HXv4 := hid (HXv.out.below hb)
      have HXs4 := hid (HXs.out.below hb)
      obtain ⟨u0, u1⟩ := HXs4.out.get2
      clear hb hb14
      go_wp2_with fail
      refine (HMY.out _ HB14.out).mono ?_
      rintro _ w15 ⟨rfl, hb15⟩
      have HB15 := hid (below_tr HB14.out hb15)
      have HXa5 := hid (HXa.out.below hb15)
      have HXv5 := hid (HXv4.out.below hb15)
      have HXs5 := hid (HXs4.out.below hb15)
      clear u0 u1 hb15
      obtain ⟨u0, u1⟩ := HXs5.out.get2
      obtain ⟨t0, t1, t2, t3, t4⟩ := HXv5.out.get5
      go_wp2_with fail
      refine (HHS.out _ HB15.out).mono ?_
      rintro _ w16 ⟨rfl, hb16⟩
      have HB16 := hid (below_tr HB15.out hb16)
      have HXa6 := hid (HXa5.out.below hb16)
      have HXs6 := hid (HXs5.out.below hb16)
      clear u0 u1 t0 t1 t2 t3 t4 hb16
      obtain ⟨u0, u1⟩ := HXs6.out.get2
      obtain ⟨u2, u3⟩ := HXa6.out.get2
      go_wp2_with fail
      refine (HSM.out _ HB16.out).mono ?_
      rintro _ w17 ⟨rfl, hb17⟩
      go_wp2_with fail
      go_ret
      exact ⟨rfl, below_tr HB.out (below_tr HB16.out hb17)⟩
  · have e4 := isEmpty_of h4
    have HW : Hid (hasS sl sp v = hr) := hid (by rw [HSH.out, bts, e4]; rfl)
    have HMK3 := HMK2
    go_wp2_with fail
    refine (HMK3.out _ (Below.refl _ _)).mono ?_
    rintro _ w13 ⟨Aa, ca, Ba, da, rfl, S1, S2, hb13⟩
    dsimp only
    have HSa : Hid (SetAt 19 w13 Aa sl Ba sp) := hid ⟨S1.1, S2.1, HSs.out.frel, HSs.out.fpre, HSs.out.nrel, HSs.out.npre, HSs.out.val⟩
    have HXv := hid (HXv.out.below hb13)
    have HXs := hid (HXs.out.below hb13)
    have HSs := hid (HSs.out.below hb13)
    have HG := hid (HG.out.below hb13)
    have HB := hid (below_tr HB.out hb13)
    clear S1 S2 hb13 u0 u1 hls HMK3
    rw [LLs.out, LMs.out]
    have HAW := hid (fun wx (h : Below w13.heap.size w13 wx) => s5awake_any wx (HG.out.below h))
    have HMY := hid (fun wx (h : Below w13.heap.size w13 wx) => law_may cs ds (HG.out.below h) (HSs.out.below h) (by decide))
    have HHS := hid (fun wx (h : Below w13.heap.size w13 wx) => law_has (v := v) cs ds (HG.out.below h) (HSs.out.below h) HOv.out.2 (by decide))
    have HSM := hid (fun wx (h : Below w13.heap.size w13 wx) => law_same ca da cs ds (HSa.out.below h) (HSs.out.below h) (by decide))
    simp only [LLs.out, LMs.out, HW.out, sameS_self] at HMY HHS HSM
    cases hr
    all_goals
      go_wp2_with fail
      refine (HAW.out _ (below_new _ _)).mono ?_
      rintro _ w14 ⟨rfl, hb14⟩
      have hb := below_tr (below_new w13 (.cells [Value.slice Aa ns ca, .slice Ba ms da].toArray 25)) hb14
      have HXa := hid ((Box.new w13 [Value.slice Aa ns ca, .slice Ba ms da] 25).below hb14)
      have HB14 := hid hb
      have HXv4 := hid (HXv.out.below hb)
      have HXs4 := hid (HXs.out.below hb)
      obtain ⟨u0, u1⟩ := HXs4.out.get2
      clear hb hb14
      go_wp2_with fail
      refine (HMY.out _ HB14.out).mono ?_
      rintro _ w15 ⟨rfl, hb15⟩
      have HB15 := hid (below_tr HB14.out hb15)
      have HXa5 := hid (HXa.out.below hb15)
      have HXv5 := hid (HXv4.out.below hb15)
      have HXs5 := hid (HXs4.out.below hb15)
      clear u0 u1 hb15
      obtain ⟨u0, u1⟩ := HXs5.out.get2
      obtain ⟨t0, t1, t2, t3, t4⟩ := HXv5.out.get5
      go_wp2_with fail
      refine (HHS.out _ HB15.out).mono ?_
      rintro _ w16 ⟨rfl, hb16⟩
      have HB16 := hid (below_tr HB15.out hb16)
      have HXa6 := hid (HXa5.out.below hb16)
      have HXs6 := hid (HXs5.out.below hb16)
      clear u0 u1 t0 t1 t2 t3 t4 hb16
      obtain ⟨u0, u1⟩ := HXs6.out.get2
      obtain ⟨u2, u3⟩ := HXa6.out.get2
      go_wp2_with fail
      refine (HSM.out _ HB16.out).mono ?_
      rintro _ w17 ⟨rfl, hb17⟩
      go_wp2_with fail
      go_ret
      exact ⟨rfl, below_tr HB.out (below_tr HB16.out hb17)⟩
end Go.Proofs.YtmnjnoggchgnjaaGreatDoor
