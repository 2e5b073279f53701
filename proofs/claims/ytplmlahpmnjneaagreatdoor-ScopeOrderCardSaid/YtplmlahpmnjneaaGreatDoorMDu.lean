/- The walk of linchpinlaw7.ScopeOrder. -/
import Derived.Test.YtplmlahpmnjneaaGreatDoorMDua
import Derived.Test.YtplmlahpmnjneaaGreatDoorMDk
namespace Go.Proofs.YtplmlahpmnjneaaGreatDoor
open Go.RowKit Go.Lib
open Rw
set_option linter.unusedVariables false
set_option linter.unusedSimpArgs false

set_option maxRecDepth 100000 in
set_option maxHeartbeats 4000000 in
theorem walk_ScopeOrder (A0 : Option Addr) (c0 : Nat) (z0 : List Int) (w : World) (h0 : IntsAt w A0 z0) (l0 : z0.length ≤ 9223372036854775807) (hL : Laid w) : Calls Tryz.prog 10 #[.slice A0 z0.length c0] w (BoolK w true) := by
  have HL := hid hL
  have P1 := hid (lawrange_cap A0 c0 z0 0 w h0 (by omega) (by omega) l0)
  clear hL h0
  generalize z0.length = n0 at *
  go_enter Tryz.func10, Tryz.ntmps10
  have HB := hid (kb_refl w)
  go_wp2_with fail
  refine P1.out.mono ?_
  rintro _ w1 ⟨A1, c1, r, he, hal, hmay, hfit, hcap, hb⟩
  generalize hnr : r.length = nr at *
  have HNR := hid hnr
  clear hnr hcap
  subst he
  have HA1 := hid hal
  have HM := hid hmay
  have HF := hid hfit
  have HB := hid (kb_tr HB.out hb.kb)
  clear hb hal hmay hfit P1
  go_upto_region 2 with fail
  refine wp_name ?_
  intro u1 hu
  have HX := hid (show Box u1 w1.heap.size [.slice A1 nr c1] by rw [hu]; exact Box.new w1 [.slice A1 nr c1] 35)
  have HA1 := hid (show Alts u1 A1 r by rw [hu]; exact HA1.out.kb (kb_new _ _))
  have HB := hid (show KB w.heap.size w u1 by rw [hu]; exact kb_tr HB.out (kb_new _ _))
  clear hu
  generalize w1.heap.size = g1 at *
  have HLU := hid (HL.out.kb HB.out)
  have HPT := hid (mayG_parts HM.out)
  have hn6 : nr ≤ 6 := by have := HPT.out.1; rwa [HNR.out] at this
  go_upto_region 3 with fail
  refine wp_name ?_
  intro u2 hu
  have HOW := hid (show OW u1 u2.heap.size u1.heap.size (.slice none 0 0) [] u2 by
    rw [hu]
    have o := Own.new u1 [.slice none 0 0] 35 (Nat.le_refl _)
    exact ⟨below_new _ _, o, .nil, o.box.1, Nat.le_refl _⟩)
  clear hu
  have HUB := hid HOW.out.size
  have hub : u1.heap.size < u2.heap.size := HOW.out.lo5
  have HWB := hid (Nat.le_of_lt hub)
  generalize u2.heap.size = B at *
  have x0 := (HX.out.kb HOW.out.below.kb).2 0 _ rfl
  have xl := (HX.out.kb HOW.out.below.kb).1
  go_upto_block 0 with fail
  go_wp2_with fail
  clear x0 xl
  go_loopw [5] (fun i wr => ∃ (q : Nat) (x : Int) (v : Value) (T : List (List CompL)), i = .int .i64 x ∧ x + 1 = (q : Int) ∧ q ≤ nr ∧ T.length = nr - q ∧ Hid (T = (turnG r).take (nr - q)) ∧ Hid (OW u1 B u1.heap.size v T wr)) (fun i _ => (intOf i + 1).toNat)
  case atStart => exact ⟨nr, (nr : Int) - 1, _, [], by go_num, by omega, Nat.le_refl _, by simp, hid (by simp), HOW⟩
  case round =>
    clear HOW
    obtain ⟨q, x, v, T, rfl, hxq, hq, hTl, HT, HOW⟩ := hrel
    have HB1 := hid HOW.out.below
    have x0 := (HX.out.kb HB1.out.kb).2 0 _ rfl
    have xl := (HX.out.kb HB1.out.kb).1
    rcases q with _ | k
    · obtain rfl : x = -1 := by omega
      have HTE := hid (show T = turnG r by rw [HT.out, Nat.sub_zero, List.take_of_length_le (by rw [show (turnG r).length = r.length by simp [turnG], HNR.out]; exact Nat.le_refl _)])
      have HMT := hid (show mayG T = true by rw [HTE.out]; exact mayG_turn HM.out)
      have HFT := hid (show fitG T by rw [HTE.out]; exact fitG_turn HF.out)
      have HSE := hid (show setG T = setG r by rw [HTE.out]; exact setG_turn HM.out)
      have HPT2 := hid (mayG_parts HMT.out)
      obtain ⟨A2, c2, rfl, hal2⟩ := HOW.out.heads.alts
      have HAL2 := hid hal2
      have HTn := hid (show T.length = nr by omega)
      have HX2 := hid (show Box wr u1.heap.size [.slice A2 nr c2] by have := HOW.out.o5.box; rwa [HTn.out] at this)
      have HX1 := hid (HX.out.kb HB1.out.kb)
      have HLW := hid (HLU.out.kb HB1.out.kb)
      have HBW := hid (kb_tr HB.out HB1.out.kb)
      have HALW := hid (HA1.out.kb HB1.out.kb)
      have HMAY := hid (fun u (hb : KB wr.heap.size wr u) => may7_any A2 c2 T u (HLW.out.kb hb) (HAL2.out.kb hb) HFT.out (by have := HPT2.out.1; omega) (fun a ha => by have := HPT2.out.2 a ha; omega))
      rw [HMT.out, HTn.out] at HMAY
      have HST1 := hid (fun u (hb : KB wr.heap.size wr u) => set7_any A1 c1 r u (HLW.out.kb hb) (HALW.out.kb hb) HF.out (by have := HPT.out.1; omega) (fun a ha => by have := HPT.out.2 a ha; omega))
      rw [HNR.out] at HST1
      have HST2 := hid (fun u (hb : KB wr.heap.size wr u) => set7_any A2 c2 T u (HLW.out.kb hb) (HAL2.out.kb hb) HFT.out (by have := HPT2.out.1; omega) (fun a ha => by have := HPT2.out.2 a ha; omega))
      rw [HSE.out, HTn.out] at HST2
      have HSG := hid (setG_good HF.out)
      clear HSE hal2 HTE HT HOW hTl
      generalize setG r = s at *
      obtain ⟨s1, s2⟩ := s
      try dsimp only at HST1 HST2 HSG
      generalize hn1 : s1.length = n1 at *
      generalize hm1 : s2.length = m1 at *
      have HN1 := hid hn1
      have HM1 := hid hm1
      clear hn1 hm1
      have HSM := hid (fun u (hb : KB wr.heap.size wr u) A6 c6 B6 d6 A7 c7 B7 d7 (h6 : SetAt 250 u A6 s1 B6 s2) (h7 : SetAt 250 u A7 s1 B7 s2) => law_sameR c6 d6 c7 d7 h6 h7 (by omega))
      rw [sameS_self, HN1.out, HM1.out] at HSM
      go_upto_region 12 with fail
      clear x0 xl
      have hS : KB wr.heap.size wr wr.drew := (Below.drew (Below.refl _ _)).kb
      refine wp_planS (fun u => KB wr.heap.size wr u) (.call [] 0 (.call [1, 2] 3 (.call [4, 5, 6, 8] 7 (.call [] 9 (.call [] 10 (.last [11, 12])))))) (by first | assumption | skip) (by kernel_rfl) (by intro _ _ d _ _ h; cases d <;> exact h) (by kernel_rfl) ?_
      have iS : Nonempty (SW fun u => KB wr.heap.size wr u) := ⟨⟨_, hS⟩⟩
      have q0 := fun (z : SW fun u => KB wr.heap.size wr u) => (HX1.out.kb z.ok).2 0 _ rfl
      have q1 := fun (z : SW fun u => KB wr.heap.size wr u) => (HX2.out.kb z.ok).2 0 _ rfl
      with_reducible refine plan_call ?_
      simp only [pickOps, List.map_cons, List.map_nil, List.getElem?_toArray, List.getElem?_cons_zero, List.getElem?_cons_succ, Option.getD_some]
      repeat go_big_quiet_step (fail)
      refine wpQuiet_nil ?_
      go_wp2_with fail
      refine (awake7_any wr.drew (HLW.out.kb hS)).mono ?_
      rintro _ u6 ⟨rfl, hb⟩
      have HB6 := hid (kb_tr hS hb)
      clear hb
      go_wp2_with fail
      refine plan_onS (HB6.out) ?_
      with_reducible refine plan_call ?_
      simp only [pickOps, List.map_cons, List.map_nil, List.getElem?_toArray, List.getElem?_cons_zero, List.getElem?_cons_succ, Option.getD_some]
      repeat go_big_quiet_step (fail)
      refine wpQuiet_nil ?_
      go_wp2_with fail
      refine (HMAY.out _ HB6.out).mono ?_
      rintro _ u7 ⟨rfl, hb⟩
      have HB7 := hid (kb_tr HB6.out hb)
      clear hb
      go_wp2_with fail
      refine plan_onS (HB7.out) ?_
      with_reducible refine plan_call ?_
      simp only [pickOps, List.map_cons, List.map_nil, List.getElem?_toArray, List.getElem?_cons_zero, List.getElem?_cons_succ, Option.getD_some]
      repeat go_big_quiet_step (fail)
      refine wpQuiet_nil ?_
      go_wp2_with fail
      refine (HST1.out u7 HB7.out).mono ?_
      rintro _ u8 ⟨A6, c6, B6, d6, he, hs1, hs2, hb⟩
      try dsimp only at he hs1 hs2
      try rw [HN1.out, HM1.out] at he
      subst he
      have HB8 := hid (kb_tr HB7.out hb)
      have HS8 := hid (HSG.out.at_ hs1.1 hs2.1)
      clear hs1 hs2 hb
      go_wp2_with fail
      refine plan_onS (HB8.out) ?_
      with_reducible refine plan_call ?_
      simp only [pickOps, List.map_cons, List.map_nil, List.getElem?_toArray, List.getElem?_cons_zero, List.getElem?_cons_succ, Option.getD_some]
      repeat go_big_quiet_step (fail)
      refine wpQuiet_nil ?_
      go_wp2_with fail
      refine (HST2.out u8 HB8.out).mono ?_
      rintro _ u9 ⟨A7, c7, B7, d7, he, hs1, hs2, hb⟩
      try dsimp only at he hs1 hs2
      try rw [HN1.out, HM1.out] at he
      subst he
      have HB9 := hid (kb_tr HB8.out hb)
      have HS8 := hid (HS8.out.kb hb)
      have HS9 := hid (HSG.out.at_ hs1.1 hs2.1)
      clear hs1 hs2 hb
      go_wp2_with fail
      refine plan_onS (HB9.out) ?_
      with_reducible refine plan_call ?_
      simp only [pickOps, List.map_cons, List.map_nil, List.getElem?_toArray, List.getElem?_cons_zero, List.getElem?_cons_succ, Option.getD_some]
      repeat go_big_quiet_step (fail)
      refine wpQuiet_nil ?_
      go_wp2_with fail
      refine (HSM.out u9 HB9.out A6 c6 B6 d6 A7 c7 B7 d7 HS8.out HS9.out).mono ?_
      rintro _ u10 ⟨rfl, hb⟩
      have HB10 := hid (kb_tr HB9.out hb.kb)
      clear hb
      go_wp2_with fail
      refine plan_onS (HB10.out) ?_
      with_reducible refine plan_last ?_
      simp only [pickOps, List.map_cons, List.map_nil, List.getElem?_toArray, List.getElem?_cons_zero, List.getElem?_cons_succ, Option.getD_some]
      repeat go_big_quiet_step (fail)
      refine wpQuiet_nil ?_
      clear q0 q1
      go_wp2_with fail
      go_ret
      exact ⟨rfl, kb_tr HBW.out HB10.out⟩
    · obtain rfl : x = (k : Int) := by omega
      have hlt : k < nr := by omega
      have hlt' : k < r.length := by rw [HNR.out]; exact hlt
      have hk6 : k ≤ 6 := by omega
      obtain ⟨b, off, Ai, ci, hA, hbl, hcell, hcs⟩ := HA1.out.at_ hlt'
      subst hA
      have hcell' := HB1.out.cell (p := ⟨b, off + k, none⟩) hbl
      rw [hcell] at hcell'
      have HCS := hid hcs
      have HHC := hid hcell
      have hbr : b < wr.heap.size := Nat.lt_of_lt_of_le hbl HB1.out.size
      have ham := HPT.out.2 _ (List.getElem_mem hlt')
      have HTN := hid (turnG_take r k hlt')
      rw [HNR.out] at HTN
      clear hcell hcs
      generalize r[k] = a at *
      generalize hm : a.length = m at *
      have HMA := hid hm
      clear hm
      have i0 : (0 : Int) ≤ (k : Int) := by omega
      have i1 : (k : Int) < (nr : Int) := by omega
      have hB4 := HOW.out.size
      go_upto_block 2 with fail
      go_wp2_with fail
      go_loopw [7, 6] (fun j vs ur => ∃ (p : Nat) (y : Int) (l : List CompL) (va : Value), j = .int .i64 y ∧ va = vs ∧ y + 1 = (p : Int) ∧ p ≤ m ∧ l.length = m - p ∧ Hid (l = a.reverse.take (m - p)) ∧ Hid (OwnX ur wr.heap.size va l) ∧ Hid (Below wr.heap.size wr ur)) (fun j _ _ => (intOf j + 1).toNat)
      case atStart => exact ⟨m, (m : Int) - 1, [], _, by go_num, rfl, by omega, Nat.le_refl _, by simp, hid (by simp), hid .nil, hid (Below.refl _ _)⟩
      case round =>
        rename World => ur
        obtain ⟨p, y, l, va, rfl, rfl, hyp, hp, hll, HLE, HOX, HBU⟩ := hrel
        have HBX := hid (below_tr HB1.out HBU.out)
        have x0 := (HX.out.kb HBX.out.kb).2 0 _ rfl
        have xl2 := (HX.out.kb HBX.out.kb).1
        have hcell' := (HBX.out.cell (p := ⟨b, off + k, none⟩) hbl).trans HHC.out
        have hbu : b < ur.heap.size := Nat.lt_of_lt_of_le hbl HBX.out.size
        rcases p with _ | s
        · obtain rfl : y = -1 := by omega
          have HLE2 := hid (show l = a.reverse by rw [HLE.out, Nat.sub_zero, List.take_of_length_le (by rw [List.length_reverse, HMA.out]; exact Nat.le_refl _)])
          obtain ⟨Aa, ca, rfl, hcs, hab, -⟩ := OwnL.lies cells7 HOX.out
          have HRU := hid (HOW.out.on HBU.out)
          have HCS := hid hcs
          have HAB : Hid (∀ ad, Aa = some ad → B ≤ ad.block ∧ v.ownBlock ≠ some ad.block) := hid (fun ad had => by
            have h1 := (hab ad had).1
            refine ⟨by omega, fun e => ?_⟩
            obtain ⟨hs, -, h2, -⟩ := HOW.out.heads
            have := (h2.lt _ e).2
            omega)
          obtain ⟨hs, e1, e2, e3⟩ := HRU.out.heads
          have HE1 := hid e1
          have HE2 := hid e2
          have HE3 := hid e3
          clear hcs hab HOX e1 e2 e3
          have y0 := HRU.out.o5.box.2 0 _ rfl
          have sf : ∀ j, ur.frozen? ⟨u1.heap.size, j, none⟩ = false := HRU.out.o5.soft
          have yl := HRU.out.o5.box.1
          have hsz := HRU.out.size
          have HL5 := hid HRU.out.lo5
          have hT6 : T.length ≤ 6 := by omega
          have HTl := hid hTl
          clear hTl
          clear hll
          go_wp2_with (first | (at_builtin; refine wpList_app1y EKheads rfl (.tmp 41) (.tmp 43) rfl [.slice Aa l.length ca] HE2.out rfl rfl rfl (one1 _ rfl) (by unfold maxLen; omega) (by omega) hsz ?_; intro v' w' h2 h3 h4 h5; obtain ⟨A9, c9, rfl⟩ := own_slice h2; have HNX := hid (HRU.out.next HE1.out HE3.out h2 h3 h4 h5 HCS.out (fun _ => HAB.out) HWB.out); have HO5 := hid (HRU.out.o5.kbB HL5.out h3.kb); clear h2 h3 h4 h5 y0 sf yl; have y0 := HO5.out.box.2 0 _ rfl; have sf : ∀ j, w'.frozen? ⟨u1.heap.size, j, none⟩ = false := HO5.out.soft; have yl := HO5.out.box.1))
          go_roundw
          case rel => exact ⟨k, (k : Int) - 1, _, T ++ [l], by go_num, by omega, by omega, by rw [List.length_append, HTl.out]; simp; omega, hid (by rw [HLE2.out, HT.out]; exact HTN.out), HNX⟩
          case measure => simp [intOf] <;> omega
        · obtain rfl : y = (s : Int) := by omega
          have hls : s < m := by omega
          have hls' : s < a.length := by rw [HMA.out]; exact hls
          have j0 : (0 : Int) ≤ (s : Int) := by omega
          have j1 : (s : Int) < (m : Int) := by omega
          have hs6 : s ≤ 6 := by omega
          obtain ⟨b2, off2, hAi, hbl2, hrow⟩ := (Lies.below HCS.out HBX.out).at7 hls'
          subst hAi
          have HTK := hid (take_turn a s hls')
          rw [HMA.out] at HTK
          generalize a[s] = cc at *
          obtain ⟨r0, r1, r2, r3, r4, r5, r6⟩ := hrow
          have hsz := HBU.out.size
          have hl6 : l.length ≤ 6 := by omega
          go_wp2_with (first | (at_builtin; refine wpList_app1g EKcomps rfl (.tmp 29) (.tmp 38) rfl (CompL.cells cc) HOX.out rfl rfl rfl (oneX _) (by unfold maxLen; omega) (by omega) hsz ?_; intro v' w' h2 h3 h4))
          go_roundw
          case rel => exact ⟨s, (s : Int) - 1, l ++ [cc], _, by go_num, rfl, by omega, by omega, by rw [List.length_append, hll]; simp; omega, hid (by rw [HLE.out]; exact HTK.out), hid (OwnL.snoc h2), hid (HBU.out.trans h3)⟩
          case measure => simp [intOf] <;> omega
end Go.Proofs.YtplmlahpmnjneaaGreatDoor
