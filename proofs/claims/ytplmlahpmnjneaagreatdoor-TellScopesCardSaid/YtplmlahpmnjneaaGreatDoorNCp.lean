import Derived.Test.YtplmlahpmnjneaaGreatDoorNCo
import Derived.Test.YtplmlahpmnjneaaGreatDoorNTr
namespace Go.Proofs.YtplmlahpmnjneaaGreatDoor
open Go.RowKit Go.Lib
open Rw
set_option linter.unusedVariables false
set_option linter.unusedSimpArgs false
def behP (op parts : Int) (v : Ver) : CutL := if parts < 3 ∧ op ≠ 9 then highP v (parts - 1) else ⟨0, v, true⟩
theorem beh_eq {op parts : Int} {v : Ver} (h9 : op ≠ 9) (h1 : 1 ≤ parts) : behP op parts v = behindX ⟨op, parts, v⟩ := by
  unfold behP behindX
  by_cases h : parts < 3
  · rw [if_pos ⟨h, h9⟩, if_pos h, highP, show parts - 1 + 1 = parts by omega]
  · rw [if_neg (fun e => h e.1), if_neg h]
theorem own_fr {B : Nat} {w : World} {g : Nat} {a b : CutL} (h : Own B w g (SpanL.cells ⟨a, b⟩)) (c : CutL) : Own B (w.setCells g 0 c.cells) g (SpanL.cells ⟨c, b⟩) := h.fr14 c
theorem own_til {B : Nat} {w : World} {g : Nat} {a b : CutL} (h : Own B w g (SpanL.cells ⟨a, b⟩)) (c : CutL) : Own B (w.setCells g 7 c.cells) g (SpanL.cells ⟨a, c⟩) := h.til14 c
theorem own_cells {B : Nat} {w : World} {g k o : Nat} {cs vs : List Value} (h : Own B w g cs) (hk : g ≠ k) : Own B (w.setCells k o vs) g cs := ⟨h.box.setOther hk, h.soft.set, h.low⟩
theorem own_c7 {B : Nat} {w : World} {g : Nat} {a b : CutL} (h : Own B w g a.cells) : Own B (w.setCells g 0 b.cells) g b.cells := h.set7 _ _ _ _ _ _ _
theorem box_cells {w : World} {g k o : Nat} {cs vs : List Value} (h : Box w g cs) (hk : g ≠ k) : Box (w.setCells k o vs) g cs := h.setOther hk
theorem turns_le {op parts : Int} {v : Ver} (h3 : parts ≤ 3) : turnsX ⟨op, parts, v⟩ ≤ 2 := by
  unfold turnsX
  repeat' split
  all_goals first | omega | (simp only; omega)
set_option maxRecDepth 100000 in
set_option maxHeartbeats 8000000 in
theorem region_any (c : CompL) (w : World) (hc : c.fit) : Calls Tryz.prog 108 #[c.val] w (RowN w (regionX c)) := by
  have HMAY := hid (xmay_any c (w.alloc (.cells c.cells.toArray 52)) hc)
  have HBX := hid (Box.new w c.cells 52)
  have HB0 := hid (below_new w (.cells c.cells.toArray 52))
  cases hm : mayX c
  · rw [hm] at HMAY
    have HP := hid (show regionX c = [] by unfold regionX; rw [hm]; rfl)
    go_enter Tryz.func108, Tryz.ntmps108
    go_wp2_with fail
    refine HMAY.out.mono ?_
    rintro _ w1 ⟨rfl, hb⟩
    go_wp2_with fail
    go_ret
    rw [HP.out]
    exact rown_nil (below_tr HB0.out hb)
  · rw [hm] at HMAY
    have M := hid (mayX_iff.1 hm)
    have HP := hid (show regionX c = if c.op = 2 then rnotL (rowX (spanX c)) else rowX (spanX c) by unfold regionX; rw [hm, if_pos rfl])
    have HSF := hid (spanX_fit hc)
    have HRF := hid (rowX_good (spanX_fit hc))
    clear hm
    obtain ⟨op, parts, v⟩ := c
    have HVF := hid (show v.fit from hc)
    generalize hsp : spanX ⟨op, parts, v⟩ = sp at *
    have HSP := hid hsp
    clear hsp hc
    dsimp only at HP
    have h1 : 0 ≤ parts := by have := M.out.many; simp only at this; omega
    have h3 : parts ≤ 3 := by have := M.out.many; simp only at this; omega
    have hop1 : 1 ≤ op := M.out.op.1
    have hop9 : op ≤ 9 := M.out.op.2
    go_enter Tryz.func108, Tryz.ntmps108
    go_wp2_with fail
    refine HMAY.out.mono ?_
    rintro _ w1 ⟨rfl, hb⟩
    have HX := hid (HBX.out.below hb)
    have HB := hid (below_tr HB0.out hb)
    clear hb HBX HB0 HMAY
    have hX1 : w.heap.size < w1.heap.size := HX.out.1
    have HX1 := hid HX.out
    go_upto_region 3 with fail
    go_cut [3, 4] from 9 to 95 (fun pa pb wx => ∃ g3 g4 : Nat, pa = .pointer (some ⟨g3, 0, none⟩) ∧ pb = .pointer (some ⟨g4, 0, none⟩) ∧ g3 ≠ g4 ∧ Hid (Own w1.heap.size wx g3 (CutL.cells ⟨0, v, false⟩)) ∧ Hid (Own w1.heap.size wx g4 (CutL.cells ⟨0, v, true⟩)) ∧ Hid (Below w1.heap.size w1 wx))
    case first =>
      have hS : Below w1.heap.size w1 w1.drew := (Below.refl _ _).drew
      refine wp_planS (fun u => Below w1.heap.size w1 u) (.two [0, 1, 2, 3, 4, 5] 6 7 (.call [] 7 (.call [] 8 (.call [] 9 (.last [])))) (.call [] 6 (.call [] 8 (.call [] 9 (.last []))))) (by first | assumption | skip) (by kernel_rfl) (by intro _ _ d _ _ h; cases d <;> exact h) (by kernel_rfl) ?_
      have iS : Nonempty (SW fun u => Below w1.heap.size w1 u) := ⟨⟨_, hS⟩⟩
      have q2 := fun (z : SW fun u => Below w1.heap.size w1 u) => (HX.out.below z.ok).get7.2.2.1
      have q3 := fun (z : SW fun u => Below w1.heap.size w1 u) => (HX.out.below z.ok).get7.2.2.2.1
      have q4 := fun (z : SW fun u => Below w1.heap.size w1 u) => (HX.out.below z.ok).get7.2.2.2.2.1
      have q5 := fun (z : SW fun u => Below w1.heap.size w1 u) => (HX.out.below z.ok).get7.2.2.2.2.2.1
      have q6 := fun (z : SW fun u => Below w1.heap.size w1 u) => (HX.out.below z.ok).get7.2.2.2.2.2.2
      refine plan_two ?_
      simp only [pickOps, List.map_cons, List.map_nil, List.getElem?_toArray, List.getElem?_cons_zero, List.getElem?_cons_succ, Option.getD_some]
      repeat go_big_quiet_step (fail)
      refine wpQuiet_nil ?_
      refine ⟨?_, ?_⟩
      · go_wp2_with fail
        refine plan_onS (below_tr hS (below_new _ _)) ?_
        refine plan_call ?_
        simp only [pickOps, List.map_cons, List.map_nil, List.getElem?_toArray, List.getElem?_cons_zero, List.getElem?_cons_succ, Option.getD_some]
        repeat go_big_quiet_step (fail)
        refine wpQuiet_nil ?_
        go_wp2_with fail
        refine plan_onS (below_tr hS (below_tr (below_new _ _) (below_new _ _))) ?_
        refine plan_call ?_
        simp only [pickOps, List.map_cons, List.map_nil, List.getElem?_toArray, List.getElem?_cons_zero, List.getElem?_cons_succ, Option.getD_some]
        repeat go_big_quiet_step (fail)
        refine wpQuiet_nil ?_
        go_wp2_with fail
        refine plan_onS (below_tr hS (below_tr (below_new _ _) (below_new _ _))) ?_
        refine plan_call ?_
        simp only [pickOps, List.map_cons, List.map_nil, List.getElem?_toArray, List.getElem?_cons_zero, List.getElem?_cons_succ, Option.getD_some]
        repeat go_big_quiet_step (fail)
        refine wpQuiet_nil ?_
        go_wp2_with fail
        refine plan_onS (below_tr hS (below_tr (below_new _ _) (below_new _ _))) ?_
        refine plan_last ?_
        simp only [pickOps, List.map_cons, List.map_nil, List.getElem?_toArray, List.getElem?_cons_zero, List.getElem?_cons_succ, Option.getD_some]
        repeat go_big_quiet_step (fail)
        refine wpQuiet_nil ?_
        go_wp2_with fail
        go_meet
        case rel => exact ⟨w1.heap.size, w1.heap.size + 1, rfl, rfl, by omega, hid ((Own.new w1.drew (CutL.cells ⟨0, v, false⟩) 98 (Nat.le_refl _)).alloc _), hid (Own.new2 w1.drew _ (CutL.cells ⟨0, v, true⟩) 98 (Nat.le_refl _)), hid (below_tr hS (below_tr (below_new _ _) (below_new _ _)))⟩
      · go_wp2_with fail
        refine plan_onS (below_tr hS (below_new _ _)) ?_
        refine plan_call ?_
        simp only [pickOps, List.map_cons, List.map_nil, List.getElem?_toArray, List.getElem?_cons_zero, List.getElem?_cons_succ, Option.getD_some]
        repeat go_big_quiet_step (fail)
        refine wpQuiet_nil ?_
        go_wp2_with fail
        refine plan_onS (below_tr hS (below_tr (below_new _ _) (below_new _ _))) ?_
        refine plan_call ?_
        simp only [pickOps, List.map_cons, List.map_nil, List.getElem?_toArray, List.getElem?_cons_zero, List.getElem?_cons_succ, Option.getD_some]
        repeat go_big_quiet_step (fail)
        refine wpQuiet_nil ?_
        go_wp2_with fail
        refine plan_onS (below_tr hS (below_tr (below_new _ _) (below_new _ _))) ?_
        refine plan_call ?_
        simp only [pickOps, List.map_cons, List.map_nil, List.getElem?_toArray, List.getElem?_cons_zero, List.getElem?_cons_succ, Option.getD_some]
        repeat go_big_quiet_step (fail)
        refine wpQuiet_nil ?_
        go_wp2_with fail
        refine plan_onS (below_tr hS (below_tr (below_new _ _) (below_new _ _))) ?_
        refine plan_last ?_
        simp only [pickOps, List.map_cons, List.map_nil, List.getElem?_toArray, List.getElem?_cons_zero, List.getElem?_cons_succ, Option.getD_some]
        repeat go_big_quiet_step (fail)
        refine wpQuiet_nil ?_
        go_wp2_with fail
        go_meet
        case rel => exact ⟨w1.heap.size + 1, w1.heap.size, rfl, rfl, by omega, hid (Own.new2 w1.drew _ (CutL.cells ⟨0, v, false⟩) 98 (Nat.le_refl _)), hid ((Own.new w1.drew (CutL.cells ⟨0, v, true⟩) 98 (Nat.le_refl _)).alloc _), hid (below_tr hS (below_tr (below_new _ _) (below_new _ _)))⟩
    case rest =>
      obtain ⟨g3, g4, rfl, rfl, hne, O3, O4, HB1⟩ := hcut
      have HX := hid (HX.out.below HB1.out)
      have l3 := O3.out.box.1
      have l4 := O4.out.box.1
      have lo3 := O3.out.low
      have lo4 := O4.out.low
      obtain ⟨x0, x1, x2, x3, x4, x5, x6⟩ := O3.out.box.get7
      obtain ⟨y0, y1, y2, y3, y4, y5, y6⟩ := O4.out.box.get7
      go_upto_region 5 with fail
      refine wp_name ?_
      intro w2 hw2
      have O5 := hid (show Own w1.heap.size w2 wc.heap.size (SpanL.cells ⟨⟨0, v, false⟩, ⟨0, v, true⟩⟩) by rw [hw2]; exact Own.new wc (SpanL.cells ⟨⟨0, v, false⟩, ⟨0, v, true⟩⟩) 100 HB1.out.size)
      have O3 := hid (show Own w1.heap.size w2 g3 (CutL.cells ⟨0, v, false⟩) by rw [hw2]; exact O3.out.alloc _)
      have O4 := hid (show Own w1.heap.size w2 g4 (CutL.cells ⟨0, v, true⟩) by rw [hw2]; exact O4.out.alloc _)
      have HX := hid (show Box w2 w.heap.size (CompL.cells ⟨op, parts, v⟩) by rw [hw2]; exact HX.out.below (below_new _ _))
      have HB1 := hid (show Below w1.heap.size w1 w2 by rw [hw2]; exact below_tr HB1.out (below_new _ _))
      clear hw2 x0 x1 x2 x3 x4 x5 x6 y0 y1 y2 y3 y4 y5 y6
      have h53 : wc.heap.size ≠ g3 := by omega
      have h54 : wc.heap.size ≠ g4 := by omega
      have h5w : wc.heap.size ≠ w.heap.size := by omega
      have h4w : w.heap.size ≠ g4 := by omega
      have l5 : w1.heap.size ≤ wc.heap.size := O5.out.low
      clear l3 l4
      generalize wc.heap.size = g5 at *
      obtain ⟨x0, x1, x2, x3, x4, x5, x6⟩ := HX.out.get7
      generalize hbc : decide (parts < 3 ∧ op ≠ 9) = bc
      have HBC := hid hbc
      clear hbc
      go_cut [25] from 18 to 95 (fun b wx => b = .bool bc ∧ wx = w2)
      case first =>
        by_cases hp3 : parts < 3
        · by_cases h9 : op = 9
          · have d1 : (op != 9) = false := by simp [h9]
            have HE := hid (show bc = false by rw [← HBC.out]; simp [h9])
            clear h9
            go_wp2_with fail
            go_meet
            case rel => exact ⟨by rw [HE.out], rfl⟩
          · have d1 : (op != 9) = true := by simp [h9]
            have HE := hid (show bc = true by rw [← HBC.out]; simp [h9, hp3])
            clear h9
            go_wp2_with fail
            go_meet
            case rel => exact ⟨by rw [HE.out], rfl⟩
        · have hp4 : 3 ≤ parts := by omega
          have HE := hid (show bc = false by rw [← HBC.out]; simp [hp3])
          go_wp2_with fail
          go_meet
          case rel => exact ⟨by rw [HE.out], rfl⟩
      case rest =>
        obtain ⟨rfl, hwx⟩ := hcut
        subst hwx
        have HBH : Hid (∃ bh : CutL, behP op parts v = bh) := hid ⟨_, rfl⟩
        obtain ⟨bh, hbh⟩ := HBH.out
        have HBH := hid hbh
        clear hbh
        go_upto_if 25 with fail
        go_cut [] from 25 to 95 (fun wx => Hid (Own w1.heap.size wx g5 (SpanL.cells ⟨⟨0, v, false⟩, bh⟩)) ∧ Hid (Own w1.heap.size wx g3 (CutL.cells ⟨0, v, false⟩)) ∧ Hid (Own w1.heap.size wx g4 bh.cells) ∧ Hid (Box wx w.heap.size (CompL.cells ⟨op, parts, v⟩)) ∧ Hid (Below w1.heap.size w1 wx))
        case first =>
          cases bc
          · have HE := hid (show bh = ⟨0, v, true⟩ by
              rw [← HBH.out, behP, if_neg]
              simpa using HBC.out)
            go_wp2_with fail
            go_meet
            case rel => rw [HE.out]; exact ⟨O5, O3, O4, HX, HB1⟩
          · have hcond := HBC.out
            simp only [decide_eq_true_eq] at hcond
            have hp1 : 1 ≤ parts := by have := M.out.many; simp only at this; omega
            have HE := hid (show highP v (parts - 1) = bh by rw [← HBH.out, behP, if_pos hcond])
            have HHI := hid (fun u => high_any v (parts - 1) u HVF.out M.out.v (by omega))
            rw [HE.out] at HHI
            have HBHF := hid (show (parts - 1 : Int) ≤ 2 by omega)
            clear hcond
            go_wp2_with fail
            refine (HHI.out _).mono ?_
            rintro _ w3 ⟨rfl, hb⟩
            have O5 := hid (O5.out.below hb)
            have O3 := hid (O3.out.below hb)
            have O4 := hid (O4.out.below hb)
            have HX := hid (HX.out.below hb)
            have HB1 := hid (below_tr HB1.out hb)
            clear hb x0 x1 x2 x3 x4 x5 x6 HHI
            obtain ⟨y0, y1, y2, y3, y4, y5, y6⟩ := O4.out.box.get7
            have sf4 : ∀ j, w3.frozen? ⟨g4, j, none⟩ = false := O4.out.soft
            have l4 := O4.out.box.1
            go_upto_region 7 with fail
            refine wp_name ?_
            intro w4 hw4
            replace hw4 : w4 = w3.setCells g4 0 bh.cells := hw4
            have O5 := hid (show Own w1.heap.size w4 g5 (SpanL.cells ⟨⟨0, v, false⟩, ⟨0, v, true⟩⟩) by rw [hw4]; exact own_cells O5.out h54)
            have O3 := hid (show Own w1.heap.size w4 g3 (CutL.cells ⟨0, v, false⟩) by rw [hw4]; exact own_cells O3.out hne)
            have O4 := hid (show Own w1.heap.size w4 g4 bh.cells by rw [hw4]; exact own_c7 O4.out)
            have HX := hid (show Box w4 w.heap.size (CompL.cells ⟨op, parts, v⟩) by rw [hw4]; exact box_cells HX.out h4w)
            have HB1 := hid (show Below w1.heap.size w1 w4 by rw [hw4]; exact below_cells HB1.out lo4 _ _)
            clear hw4 y0 y1 y2 y3 y4 y5 y6 sf4 l4
            obtain ⟨y0, y1, y2, y3, y4, y5, y6⟩ := O4.out.box.get7
            obtain ⟨-, ⟨z7, z8, z9, z10, z11, z12, z13⟩⟩ := O5.out.box.get14
            have sf5 : ∀ j, w4.frozen? ⟨g5, j, none⟩ = false := O5.out.soft
            have ll5 := O5.out.box.1
            have ll4 := O4.out.box.1
            go_wp2_with fail
            go_meet
            case rel => exact ⟨hid (own_til O5.out bh), hid (own_cells (k := g5) (o := 7) (vs := bh.cells) O3.out h53.symm), hid (own_cells (k := g5) (o := 7) (vs := bh.cells) O4.out h54.symm), hid (box_cells (k := g5) (o := 7) (vs := bh.cells) HX.out h5w.symm), hid (below_cells HB1.out l5 7 bh.cells)⟩
        case rest =>
          obtain ⟨O5, O3, O4, HX, HB1⟩ := hcut
          clear x0 x1 x2 x3 x4 x5 x6 HBC
          have HBE := hid (fun (h9 : op ≠ 9) => (show behindX ⟨op, parts, v⟩ = bh by rw [← beh_eq h9 (by have := M.out.many; simp only at this; omega), HBH.out]))
          obtain ⟨x0, x1, x2, x3, x4, x5, x6⟩ := HX.out.get7
          obtain ⟨⟨z0, z1, z2, z3, z4, z5, z6⟩, ⟨z7, z8, z9, z10, z11, z12, z13⟩⟩ := O5.out.box.get14
          obtain ⟨y0, y1, y2, y3, y4, y5, y6⟩ := O4.out.box.get7
          obtain ⟨u0, u1, u2, u3, u4, u5, u6⟩ := O3.out.box.get7
          have sf5 : ∀ j, wc.frozen? ⟨g5, j, none⟩ = false := O5.out.soft
          have ll5 := O5.out.box.1
          have ll4 := O4.out.box.1
          have ll3 := O3.out.box.1
          have hxl := HX.out.1
          go_upto_block 0 with fail
          go_cut [] from 36 to 95 (fun wx => op ≠ 2 ∧ Hid (Own w1.heap.size wx g5 sp.cells) ∧ Hid (Below w1.heap.size w1 wx))
          case first =>
            have hops : op = 1 ∨ op = 2 ∨ op = 3 ∨ op = 4 ∨ op = 5 ∨ op = 6 ∨ op = 7 ∨ op = 8 ∨ op = 9 := by omega
            rcases hops with rfl | rfl | rfl | rfl | rfl | rfl | rfl | rfl | rfl
            · have HS := hid (show sp = ⟨⟨0, v, false⟩, bh⟩ by rw [← HSP.out]; simp [spanX, lowX, HBE.out])
              go_wp2_with fail
              go_meet
              case rel => exact ⟨by decide, hid (by rw [HS.out]; exact O5.out), HB1⟩
            · have HS := hid (show sp = ⟨⟨0, v, false⟩, bh⟩ by rw [← HSP.out]; simp [spanX, lowX, HBE.out])
              have HSPN := hid (fun u => xspans_any sp u HSF.out)
              rw [HS.out] at HSPN
              have HPR := hid (HP.out.trans (if_pos rfl))
              go_wp2_with fail
              refine (HSPN.out _).mono ?_
              rintro _ w3 ⟨A, cap, rfl, hsb, hb⟩
              have HRF := hid HRF.out
              rw [HS.out] at HRF HPR
              have HNOT := hid (not_any w3.heap.size A cap (rowX ⟨⟨0, v, false⟩, bh⟩) w3 hsb.1 HRF.out.1 (by have := HRF.out.2; omega) (Nat.le_refl _))
              have HB3 := hid (below_tr HB.out (below_tr HB1.out hb))
              clear hb hsb HSPN
              generalize (rowX ⟨⟨0, v, false⟩, bh⟩).length = nr at *
              go_wp2_with fail
              refine HNOT.out.mono ?_
              rintro _ w4 ⟨vr, rfl, hown, hb, -⟩
              go_wp2_with fail
              go_ret
              rw [HPR.out]
              obtain ⟨A2, c2, e2, hsb2⟩ := SpanB.own hown
              exact ⟨A2, c2, congrArg Ending.returned e2, hsb2.low HB3.out.size, below_tr HB3.out hb⟩
            · have HS := hid (show sp = ⟨firstC, ⟨0, v, false⟩⟩ by rw [← HSP.out]; simp [spanX, lowX])
              go_wp2_with fail
              go_meet
              case rel => exact ⟨by decide, hid (by rw [HS.out]; exact own_til (own_fr O5.out firstC) ⟨0, v, false⟩), hid (below_cells (below_cells HB1.out l5 0 firstC.cells) l5 7 (CutL.cells ⟨0, v, false⟩))⟩
            · have HS := hid (show sp = ⟨firstC, bh⟩ by rw [← HSP.out]; simp [spanX, HBE.out])
              go_wp2_with fail
              go_meet
              case rel => exact ⟨by decide, hid (by rw [HS.out]; exact own_fr O5.out firstC), hid (below_cells HB1.out l5 0 firstC.cells)⟩
            · have HS := hid (show sp = ⟨bh, lastC⟩ by rw [← HSP.out]; simp [spanX, HBE.out])
              go_wp2_with fail
              go_meet
              case rel => exact ⟨by decide, hid (by rw [HS.out]; exact own_til (own_fr O5.out bh) lastC), hid (below_cells (below_cells HB1.out l5 0 bh.cells) l5 7 lastC.cells)⟩
            · have HS := hid (show sp = ⟨⟨0, v, false⟩, lastC⟩ by rw [← HSP.out]; simp [spanX, lowX])
              go_wp2_with fail
              go_meet
              case rel => exact ⟨by decide, hid (by rw [HS.out]; exact own_til O5.out lastC), hid (below_cells HB1.out l5 7 lastC.cells)⟩
            · have HT2 := hid (turns_le (op := 7) (v := v) h3)
              have HS := hid (show sp = ⟨⟨0, v, false⟩, highP v (turnsX ⟨7, parts, v⟩ : Nat)⟩ by
                rw [← HSP.out, highP]
                have e : (((turnsX ⟨7, parts, v⟩ : Nat) : Int) + 1).toNat = turnsX ⟨7, parts, v⟩ + 1 := by omega
                rw [e]
                simp [spanX, lowX])
              have HCR := hid (fun u => caret_any ⟨7, parts, v⟩ u M.out (show (7 : Int) ≠ 9 by decide))
              have HHI := hid (fun u => high_any v ((turnsX ⟨7, parts, v⟩ : Nat) : Int) u HVF.out M.out.v (by have := HT2.out; omega))
              generalize highP v ((turnsX ⟨7, parts, v⟩ : Nat) : Int) = hc at *
              generalize ((turnsX ⟨7, parts, v⟩ : Nat) : Int) = tn at *
              go_upto_region 21 with fail
              have hS : Below w1.heap.size w1 wc.drew := below_tr HB1.out (Below.refl _ _).drew
              refine wp_planS (fun u => Below w1.heap.size w1 u) (.call [0, 1, 2] 3 (.call [] 4 (.call [5] 6 (.last [])))) (by first | assumption | skip) (by kernel_rfl) (by intro _ _ d _ _ h; cases d <;> exact h) (by kernel_rfl) ?_
              have iS : Nonempty (SW fun u => Below w1.heap.size w1 u) := ⟨⟨_, hS⟩⟩
              have q0 := fun (z : SW fun u => Below w1.heap.size w1 u) => (HX1.out.below z.ok).get7.1
              have q1 := fun (z : SW fun u => Below w1.heap.size w1 u) => (HX1.out.below z.ok).get7.2.1
              have q2 := fun (z : SW fun u => Below w1.heap.size w1 u) => (HX1.out.below z.ok).get7.2.2.1
              have q3 := fun (z : SW fun u => Below w1.heap.size w1 u) => (HX1.out.below z.ok).get7.2.2.2.1
              have q4 := fun (z : SW fun u => Below w1.heap.size w1 u) => (HX1.out.below z.ok).get7.2.2.2.2.1
              have q5 := fun (z : SW fun u => Below w1.heap.size w1 u) => (HX1.out.below z.ok).get7.2.2.2.2.2.1
              have q6 := fun (z : SW fun u => Below w1.heap.size w1 u) => (HX1.out.below z.ok).get7.2.2.2.2.2.2
              refine plan_call ?_
              simp only [pickOps, List.map_cons, List.map_nil, List.getElem?_toArray, List.getElem?_cons_zero, List.getElem?_cons_succ, Option.getD_some]
              repeat go_big_quiet_step (fail)
              refine wpQuiet_nil ?_
              go_wp2_with fail
              refine (HCR.out _).mono ?_
              rintro _ w3 ⟨rfl, hb3⟩
              have HB3 := hid (below_tr hS hb3)
              go_wp2_with fail
              refine plan_onS (HB3.out) ?_
              refine plan_call ?_
              simp only [pickOps, List.map_cons, List.map_nil, List.getElem?_toArray, List.getElem?_cons_zero, List.getElem?_cons_succ, Option.getD_some]
              repeat go_big_quiet_step (fail)
              refine wpQuiet_nil ?_
              go_wp2_with fail
              refine (HHI.out _).mono ?_
              rintro _ w4 ⟨rfl, hb4⟩
              have HB4 := hid (below_tr HB3.out hb4)
              have O5 := hid (((O5.out.below (Below.refl _ _).drew).below hb3).below hb4)
              clear hb3 hb4 z0 z1 z2 z3 z4 z5 z6 z7 z8 z9 z10 z11 z12 z13 sf5 ll5
              go_wp2_with fail
              refine plan_onS (HB4.out) ?_
              obtain ⟨-, ⟨z7, z8, z9, z10, z11, z12, z13⟩⟩ := O5.out.box.get14
              have sf5 : ∀ j, w4.frozen? ⟨g5, j, none⟩ = false := O5.out.soft
              have ll5 := O5.out.box.1
              refine plan_call ?_
              simp only [pickOps, List.map_cons, List.map_nil, List.getElem?_toArray, List.getElem?_cons_zero, List.getElem?_cons_succ, Option.getD_some]
              repeat go_big_quiet_step (fail)
              refine wpQuiet_nil ?_
              go_wp2_with fail
              refine plan_onS (below_cells HB4.out l5 7 hc.cells) ?_
              refine plan_last ?_
              simp only [pickOps, List.map_cons, List.map_nil, List.getElem?_toArray, List.getElem?_cons_zero, List.getElem?_cons_succ, Option.getD_some]
              repeat go_big_quiet_step (fail)
              refine wpQuiet_nil ?_
              go_wp2_with fail
              go_meet
              case rel => exact ⟨by decide, hid (by rw [HS.out]; exact own_til O5.out hc), hid (below_cells HB4.out l5 7 hc.cells)⟩
            · have h8 : 1 ≤ parts := by have := M.out.many; simp only at this; omega
              have HS := hid (show sp = ⟨⟨0, v, false⟩, highP v (min (parts - 1) 1)⟩ by rw [← HSP.out, highP]; simp [spanX, lowX])
              have HHI := hid (fun u => high_any v (min (parts - 1) 1) u HVF.out M.out.v (by omega))
              generalize highP v (min (parts - 1) 1) = hc at *
              go_wp2_with fail
              refine (HHI.out _).mono ?_
              rintro _ w4 ⟨rfl, hb4⟩
              have HB4 := hid (below_tr HB1.out hb4)
              have O5 := hid (O5.out.below hb4)
              clear hb4 z0 z1 z2 z3 z4 z5 z6 z7 z8 z9 z10 z11 z12 z13 sf5 ll5
              obtain ⟨-, ⟨z7, z8, z9, z10, z11, z12, z13⟩⟩ := O5.out.box.get14
              have sf5 : ∀ j, w4.frozen? ⟨g5, j, none⟩ = false := O5.out.soft
              have ll5 := O5.out.box.1
              go_wp2_with fail
              go_meet
              case rel => exact ⟨by decide, hid (by rw [HS.out]; exact own_til O5.out hc), hid (below_cells HB4.out l5 7 hc.cells)⟩
            · by_cases hp0 : parts = 0
              · have HS := hid (show sp = ⟨firstC, lastC⟩ by rw [← HSP.out]; simp [spanX, hp0])
                have hp1 : ¬ 0 < parts := by omega
                clear hp0
                go_wp2_with fail
                go_meet
                case rel => exact ⟨by decide, hid (by rw [HS.out]; exact own_til (own_fr O5.out firstC) lastC), hid (below_cells (below_cells HB1.out l5 0 firstC.cells) l5 7 lastC.cells)⟩
              · have hp1 : 0 < parts := by omega
                have HS := hid (show sp = ⟨⟨0, v, false⟩, highP v (parts - 1)⟩ by
                  rw [← HSP.out, highP, show parts - 1 + 1 = parts by omega]
                  simp [spanX, lowX, hp0])
                have HHI := hid (fun u => high_any v (parts - 1) u HVF.out M.out.v (by omega))
                clear hp0
                generalize highP v (parts - 1) = hc at *
                go_upto_region 27 with fail
                refine wp_name ?_
                intro w3 hw3
                replace hw3 : w3 = (wc.setCells g5 0 firstC.cells).setCells g5 7 lastC.cells := hw3
                have O5 := hid (show Own w1.heap.size w3 g5 (SpanL.cells ⟨firstC, lastC⟩) by rw [hw3]; exact own_til (own_fr O5.out firstC) lastC)
                have O3 := hid (show Own w1.heap.size w3 g3 (CutL.cells ⟨0, v, false⟩) by rw [hw3]; exact own_cells (own_cells O3.out h53.symm) h53.symm)
                have HB1 := hid (show Below w1.heap.size w1 w3 by rw [hw3]; exact below_cells (below_cells HB1.out l5 0 firstC.cells) l5 7 lastC.cells)
                clear hw3 z0 z1 z2 z3 z4 z5 z6 z7 z8 z9 z10 z11 z12 z13 sf5 ll5 u0 u1 u2 u3 u4 u5 u6 ll3 x0 x1 x2 x3 x4 x5 x6 y0 y1 y2 y3 y4 y5 y6 ll4 hxl
                have hS : Below w1.heap.size w1 w3.drew ∧ Box w3.drew g3 (CutL.cells ⟨0, v, false⟩) := ⟨below_tr HB1.out (Below.refl _ _).drew, O3.out.box.below (Below.refl _ _).drew⟩
                refine wp_planS (fun u => Below w1.heap.size w1 u ∧ Box u g3 (CutL.cells ⟨0, v, false⟩)) (.call [0, 1, 2, 3, 4, 5] 6 (.call [7] 8 (.last []))) (by first | assumption | skip) (by kernel_rfl) (by intro _ _ d _ _ h; cases d <;> exact h) (by kernel_rfl) ?_
                have iS : Nonempty (SW fun u => Below w1.heap.size w1 u ∧ Box u g3 (CutL.cells ⟨0, v, false⟩)) := ⟨⟨_, hS⟩⟩
                have q0 := fun (z : SW fun u => Below w1.heap.size w1 u ∧ Box u g3 (CutL.cells ⟨0, v, false⟩)) => (HX1.out.below z.ok.1).get7.1
                have q1 := fun (z : SW fun u => Below w1.heap.size w1 u ∧ Box u g3 (CutL.cells ⟨0, v, false⟩)) => (HX1.out.below z.ok.1).get7.2.1
                have q2 := fun (z : SW fun u => Below w1.heap.size w1 u ∧ Box u g3 (CutL.cells ⟨0, v, false⟩)) => (HX1.out.below z.ok.1).get7.2.2.1
                have q3 := fun (z : SW fun u => Below w1.heap.size w1 u ∧ Box u g3 (CutL.cells ⟨0, v, false⟩)) => (HX1.out.below z.ok.1).get7.2.2.2.1
                have q4 := fun (z : SW fun u => Below w1.heap.size w1 u ∧ Box u g3 (CutL.cells ⟨0, v, false⟩)) => (HX1.out.below z.ok.1).get7.2.2.2.2.1
                have q5 := fun (z : SW fun u => Below w1.heap.size w1 u ∧ Box u g3 (CutL.cells ⟨0, v, false⟩)) => (HX1.out.below z.ok.1).get7.2.2.2.2.2.1
                have q6 := fun (z : SW fun u => Below w1.heap.size w1 u ∧ Box u g3 (CutL.cells ⟨0, v, false⟩)) => (HX1.out.below z.ok.1).get7.2.2.2.2.2.2
                have r0 := fun (z : SW fun u => Below w1.heap.size w1 u ∧ Box u g3 (CutL.cells ⟨0, v, false⟩)) => z.ok.2.get7.1
                have r1 := fun (z : SW fun u => Below w1.heap.size w1 u ∧ Box u g3 (CutL.cells ⟨0, v, false⟩)) => z.ok.2.get7.2.1
                have r2 := fun (z : SW fun u => Below w1.heap.size w1 u ∧ Box u g3 (CutL.cells ⟨0, v, false⟩)) => z.ok.2.get7.2.2.1
                have r3 := fun (z : SW fun u => Below w1.heap.size w1 u ∧ Box u g3 (CutL.cells ⟨0, v, false⟩)) => z.ok.2.get7.2.2.2.1
                have r4 := fun (z : SW fun u => Below w1.heap.size w1 u ∧ Box u g3 (CutL.cells ⟨0, v, false⟩)) => z.ok.2.get7.2.2.2.2.1
                have r5 := fun (z : SW fun u => Below w1.heap.size w1 u ∧ Box u g3 (CutL.cells ⟨0, v, false⟩)) => z.ok.2.get7.2.2.2.2.2.1
                have r6 := fun (z : SW fun u => Below w1.heap.size w1 u ∧ Box u g3 (CutL.cells ⟨0, v, false⟩)) => z.ok.2.get7.2.2.2.2.2.2
                refine plan_call ?_
                simp only [pickOps, List.map_cons, List.map_nil, List.getElem?_toArray, List.getElem?_cons_zero, List.getElem?_cons_succ, Option.getD_some]
                repeat go_big_quiet_step (fail)
                refine wpQuiet_nil ?_
                go_wp2_with fail
                refine (HHI.out _).mono ?_
                rintro _ w4 ⟨rfl, hb4⟩
                have HB4 := hid (below_tr hS.1 hb4)
                have HX3 := hid (hS.2.below hb4)
                have O5 := hid ((O5.out.below (Below.refl _ _).drew).below hb4)
                clear hb4
                go_wp2_with fail
                refine plan_onS (⟨HB4.out, HX3.out⟩) ?_
                obtain ⟨⟨z0, z1, z2, z3, z4, z5, z6⟩, ⟨z7, z8, z9, z10, z11, z12, z13⟩⟩ := O5.out.box.get14
                have sf5 : ∀ j, w4.frozen? ⟨g5, j, none⟩ = false := O5.out.soft
                have ll5 := O5.out.box.1
                refine plan_call ?_
                simp only [pickOps, List.map_cons, List.map_nil, List.getElem?_toArray, List.getElem?_cons_zero, List.getElem?_cons_succ, Option.getD_some]
                repeat go_big_quiet_step (fail)
                refine wpQuiet_nil ?_
                go_wp2_with fail
                refine plan_onS ⟨below_cells HB4.out l5 0 (SpanL.cells ⟨⟨0, v, false⟩, hc⟩), box_cells (k := g5) (o := 0) (vs := SpanL.cells ⟨⟨0, v, false⟩, hc⟩) HX3.out h53.symm⟩ ?_
                refine plan_last ?_
                simp only [pickOps, List.map_cons, List.map_nil, List.getElem?_toArray, List.getElem?_cons_zero, List.getElem?_cons_succ, Option.getD_some]
                repeat go_big_quiet_step (fail)
                refine wpQuiet_nil ?_
                go_wp2_with fail
                go_meet
                case rel => exact ⟨by decide, hid (by rw [HS.out]; exact O5.out.set14 rfl ⟨⟨0, v, false⟩, hc⟩), hid (below_cells HB4.out l5 0 (SpanL.cells ⟨⟨0, v, false⟩, hc⟩))⟩
          case rest =>
            obtain ⟨hop2, O5, HB1⟩ := hcut
            have HPR := hid (HP.out.trans (if_neg hop2))
            obtain ⟨⟨z0, z1, z2, z3, z4, z5, z6⟩, ⟨z7, z8, z9, z10, z11, z12, z13⟩⟩ := O5.out.box.get14
            have ll5 := O5.out.box.1
            have HSPN := hid (fun u => xspans_any sp u HSF.out)
            go_wp2_with fail
            refine (HSPN.out _).mono ?_
            rintro _ w3 ⟨A, cap, rfl, hsb, hb⟩
            have HB3 := hid (below_tr HB.out (below_tr HB1.out hb))
            have HSB := hid (hsb.low (Nat.le_trans HB.out.size HB1.out.size))
            clear hb hsb HSPN
            have HLR := hid (show ∃ n, (rowX sp).length = n from ⟨_, rfl⟩)
            go_wp2_with fail
            go_ret
            rw [HPR.out]
            exact ⟨A, cap, rfl, HSB.out, HB3.out⟩
end Go.Proofs.YtplmlahpmnjneaaGreatDoor
