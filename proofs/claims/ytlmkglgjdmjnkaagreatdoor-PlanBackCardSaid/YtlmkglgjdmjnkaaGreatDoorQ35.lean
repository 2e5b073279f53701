/- Parts 35 of the proofs. -/
import Derived.Test.YtlmkglgjdmjnkaaGreatDoorQ34
namespace Go.Proofs.YtlmkglgjdmjnkaaGreatDoor
open Go.RowKit Go.Lib
open Rw
set_option linter.unusedVariables false
set_option linter.unusedSimpArgs false
theorem noV_fitG : noV.fit := by simp only [Ver.fit, noV]; decide
set_option maxRecDepth 100000 in
set_option maxHeartbeats 8000000 in
theorem gunits_any {w0 : World} {gG : Nat} {z : Value} (E : GEnv w0 gG z) (i : Nat) (w : World) (hR : RR w0 w gG z i w) (hi : i ≤ 50000) (most : Nat) (hm0 : 0 < most) (hm : most ≤ 5) : Calls Tryz.prog 30 #[.pointer (some ⟨gG, 0, none⟩), .int .i64 (most : Int)] w (UnitsK w0 w gG z i) := by
  have EE := hid E
  have hgw : gG < w.heap.size := hR.ctr.box.1
  have hw0 : w0.heap.size ≤ w.heap.size := hR.kb.size
  have HR0 := hid hR
  clear E hR
  go_enter Tryz.func30, Tryz.ntmps30
  go_upto_region 3 with fail
  refine wp_name ?_
  intro u1 hu1
  have hs1 : u1.heap.size = w.heap.size + 3 := by rw [hu1]; simp
  have HN1 := hid (show Box u1 w.heap.size (nm5.map Value.string) from by rw [hu1]; exact ((Box.new w (nm5.map Value.string) 9).kb (kb_new _ _)).kb (kb_new _ _))
  have HU1 := hid (show UL (w.heap.size + 1) u1 (.slice (some ⟨w.heap.size + 2, 0, none⟩) 1 1) [⟨⟨#[]⟩, ⟨#[]⟩, [bareC noV (-1)], some ⟨w.heap.size + 1, 0, none⟩, 1⟩] from by
    have hz1 : (w.alloc (.cells (nm5.map Value.string).toArray 9)).heap.size = w.heap.size + 1 := by simp
    have h1 := rowG_lit (f := cdC) (n := 8) (B := w.heap.size + 1) (w := w.alloc (.cells (nm5.map Value.string).toArray 9)) (l := [bareC noV (-1)]) (T := 79) (fun _ => rfl) (by omega)
    have hz2 : ((w.alloc (.cells (nm5.map Value.string).toArray 9)).alloc (.cells ([bareC noV (-1)].flatMap cdC).toArray 79)).heap.size = w.heap.size + 2 := by simp
    have h2 := World.ownsRow_lit (base := w.heap.size + 1) (e := 82) (size := 3) ((w.alloc (.cells (nm5.map Value.string).toArray 9)).alloc (.cells ([bareC noV (-1)].flatMap cdC).toArray 79)) #[.string ⟨#[]⟩, .string ⟨#[]⟩, .slice (some ⟨w.heap.size + 1, 0, none⟩) 1 1] 1 (by omega) (by unfold maxLen; omega) rfl
    rw [hz1] at h1
    rw [hz2] at h2
    rw [hu1]
    refine ⟨h2, fun x hx => ?_, fun x hx _ e => ?_, List.pairwise_singleton _ _, fun x hx => ?_, fun x hx => ?_⟩
    all_goals rcases List.mem_singleton.1 hx with rfl
    · exact h1.keep (Keep.kb (o := none) (kb_new _ _)) (fun q hq e => by cases e)
    · have e : some (w.heap.size + 1) = some (w.heap.size + 2) := e
      injection e with e
      omega
    · exact ⟨by show 0 ≤ 1000000; omega, by show 0 ≤ 1000000; omega, by show 1 ≤ 4; omega⟩
    · intro y hy
      rcases List.mem_singleton.1 hy with rfl
      exact ⟨noV, -1, rfl, noV_fitG⟩)
  have HR1 := hid (show RR w0 w gG z i u1 from by rw [hu1]; exact HR0.out.more (kb_tr (kb_tr (kb_new _ _) (kb_new _ _)) (kb_new _ _)))
  clear hu1 HR0
  go_wp2_with fail
  refine (gversions_any _).mono ?_
  rintro _ u2 ⟨rfl, hu2⟩
  have HV2 := hid (show Box u2 u1.heap.size (vrsL.flatMap Ver.cells) from by rw [hu2]; exact Box.new u1 (vrsL.flatMap Ver.cells) 29)
  have hk2 : KB u1.heap.size u1 u2 := by rw [hu2]; exact kb_new _ _
  have hs2 : u2.heap.size = w.heap.size + 4 := by rw [hu2, World.size_alloc, hs1]
  have HN2 := hid (HN1.out.kb hk2)
  have HU2 := hid (HU1.out.kb hk2)
  have HR2 := hid (HR1.out.more hk2)
  clear hu2 hk2 HN1 HU1 HR1
  obtain ⟨gN, hgN⟩ : ∃ g, g = w.heap.size := ⟨_, rfl⟩
  obtain ⟨gV, hgV⟩ : ∃ g, g = u1.heap.size := ⟨_, rfl⟩
  obtain ⟨gL, hgL⟩ : ∃ g, g = w.heap.size + 2 := ⟨_, rfl⟩
  have HGN := hid hgN
  rw [← hgV] at HV2
  rw [← hgL] at HU2
  rw [← hgV, ← hgL]
  have HN3 := hid (show Box u2 gN _ from by rw [hgN]; exact HN2.out)
  have hgv : gV ≤ w.heap.size + 3 ∧ w.heap.size + 3 ≤ gV := by omega
  have hgl : gL ≤ w.heap.size + 2 ∧ w.heap.size + 2 ≤ gL := by omega
  have hgn : gN ≤ w.heap.size ∧ w.heap.size ≤ gN := by omega
  rw [← hgN]
  clear HN2 hs1 hgV hgL hgN
  go_upto_block 0 with fail
  go_wp2_with fail
  go_loopw [6, 8] (fun lv nv wr => ∃ (k j : Nat) (v : Value) (us : List UnitP), lv = v ∧ nv = .int .i64 (k : Int) ∧ k ≤ 5 ∧ Hid (j ≤ i + 20 * k) ∧ Hid (k + 1 ≤ us.length ∧ us.length ≤ 1 + 2 * k) ∧ Hid (∃ u0 y0 tl, us = u0 :: tl ∧ u0.cands = [y0]) ∧ Hid (UL (w.heap.size + 1) wr v us) ∧ Hid (∀ q, v.ownBlock = some q → q ≠ gV) ∧ Hid (Box wr gN (nm5.map Value.string)) ∧ Hid (Box wr gV (vrsL.flatMap Ver.cells)) ∧ Hid (RR w0 w gG z j wr) ∧ Hid (u2.heap.size ≤ wr.heap.size)) (fun _ nv _ => 5 - (intOf nv).toNat)
  case atStart => exact ⟨0, i, _, _, rfl, rfl, Nat.zero_le _, hid (by omega), hid ⟨Nat.le_refl _, Nat.le_refl _⟩, hid ⟨_, _, [], rfl, rfl⟩, HU2, hid (fun q e => by injection e with e; have e : gL = q := e; omega), HN3, HV2, HR2, hid (Nat.le_refl _)⟩
  case round =>
    clear HN3 HV2 HR2 HU2
    rename World => wr
    obtain ⟨k, j, v, us, hv, rfl, hk, HJ, HL, HH, HU, HVB, HN, HV, HR, HSZ⟩ := hrel
    have hv := hv.symm
    subst hv
    have hwr : w.heap.size ≤ wr.heap.size := HR.out.keep.1
    go_wp2_with fail
    refine (gnx_any EE.out wr j (most : Int) wr HR.out.self (by have := HJ.out; omega) (by omega) (by omega)).mono ?_
    rintro _ u3 ⟨⟨q, hq, rfl⟩, hR3, hK3⟩
    have HR3 := hid (HR.out.from hR3)
    have HU3 := hid (HU.out.keep hK3 (by omega))
    have HN3 := hid (show Box u3 gN (nm5.map Value.string) from HN.out.block hK3.1 (hK3.2 _ HN.out.1 (fun e => by injection e with e; omega)))
    have HV3 := hid (show Box u3 gV (vrsL.flatMap Ver.cells) from HV.out.block hK3.1 (hK3.2 _ HV.out.1 (fun e => by injection e with e; omega)))
    have HS3 := hid (Nat.le_trans HSZ.out hK3.1)
    clear hR3 hK3 HU HN HV HR HSZ
    have hkI0 : (0 : Int) ≤ (k : Int) := by omega
    by_cases hc : k < 1 + q
    rotate_left
    · have j1 : ¬ (k : Int) < 1 + (q : Int) := by omega
      obtain ⟨U, uc, rfl, hwb⟩ : ∃ U uc, v = .slice U us.length uc ∧ ∀ n, WB n w.heap.size u3 U us := by
        obtain ⟨U, uc, hv, -⟩ := HU3.out.done (C := w.heap.size) (n := 0) (by omega)
        refine ⟨U, uc, hv, fun n => ?_⟩
        obtain ⟨U', uc', hv', h⟩ := HU3.out.done (C := w.heap.size) (n := n) (by omega)
        rw [hv] at hv'
        injection hv' with e1 e2 e3
        rw [e1]; exact h
      go_wp2_with fail
      try rw [Exit.noGoto_ret]
      try go_ret
      exact ⟨⟨us, U, uc, rfl, hwb, by have := HL.out; omega, by have := HL.out; omega, HH.out, HU3.out.bare⟩, j + 1, by have := HJ.out; omega, HR3.out⟩
    have j1 : (k : Int) < 1 + (q : Int) := by omega
    have hc5 : k < 5 := by omega
    have j2 : (k : Int) < 5 := by omega
    go_wp2_with fail
    refine (gnx_any EE.out w (j + 1) 16 u3 HR3.out (by have := HJ.out; omega) (by omega) (by omega)).mono ?_
    rintro _ u4 ⟨⟨q4, hq4, rfl⟩, hR4, hK4⟩
    have HR4 := hid hR4
    have HU4 := hid (HU3.out.keep hK4 (by omega))
    have HN4 := hid (show Box u4 gN (nm5.map Value.string) from HN3.out.block hK4.1 (hK4.2 _ HN3.out.1 (fun e => by injection e with e; omega)))
    have HV4 := hid (show Box u4 gV (vrsL.flatMap Ver.cells) from HV3.out.block hK4.1 (hK4.2 _ HV3.out.1 (fun e => by injection e with e; omega)))
    have HS4 := hid (Nat.le_trans HS3.out hK4.1)
    clear hR4 hK4 HU3 HN3 HV3 HR3 HS3
    go_upto_block 2 with fail
    go_cut [9, 11] from 36 to 56 (fun cv iv wx => ∃ cs : List CandP, iv = iv ∧ Hid (OwnL 79 8 cdC wx u4.heap.size cv cs) ∧ Hid (cs.length ≤ 4) ∧ Hid (Bare cs) ∧ Hid (KB u4.heap.size u4 wx))
    case first =>
      go_wp2_with fail
      go_loopw [9, 11] (fun cv iv wq => ∃ (a : Nat) (v : Value) (cs : List CandP), cv = v ∧ iv = .int .i64 (a : Int) ∧ a ≤ 4 ∧ Hid (OwnL 79 8 cdC wq u4.heap.size v cs) ∧ Hid (cs.length ≤ a) ∧ Hid (Bare cs) ∧ Hid (KB u4.heap.size u4 wq)) (fun _ iv _ => 4 - (intOf iv).toNat)
      case atStart => exact ⟨0, _, [], rfl, rfl, Nat.zero_le _, hid OwnL.nil, hid (Nat.le_refl _), hid Bare.nil, hid (kb_refl _)⟩
      case round =>
        rename World => wq
        obtain ⟨a, cv, cs, hv, rfl, ha, HO, HCL, HB, HK⟩ := hrel
        have hv := hv.symm
        subst hv
        have a0 : (0 : Int) ≤ (a : Int) := by omega
        by_cases hlt : a < 4
        · have a1 : (a : Int) < 4 := by omega
          obtain ⟨bt, hbt⟩ : ∃ b, (bits BinOp.and IntKind.i64 ((q4 : Int) / 2 ^ a) 1 == 1) = b := ⟨_, rfl⟩
          cases bt with
          | false =>
            go_wp2_with fail
            refine (show _ ∧ _ from ⟨?_, ?_⟩)
            · exact ⟨a + 1, cv, cs, rfl, by go_num, by omega, HO, hid (by have := HCL.out; omega), HB, HK⟩
            · simp [intOf] <;> omega
          | true =>
            obtain ⟨⟨m1, m2, m3, m4, m5⟩, hvf, hvc⟩ := vr_fit (q := a) (by omega)
            have hV := HV4.out.kb HK.out
            have t0 : wq.cell? ⟨gV, a * 5, none⟩ = some (.int .i64 m1) := hV.2 _ _ (hvc 0 _ rfl)
            have t1 : wq.cell? ⟨gV, a * 5 + 1, none⟩ = some (.int .i64 m2) := hV.2 _ _ (hvc 1 _ rfl)
            have t2 : wq.cell? ⟨gV, a * 5 + 2, none⟩ = some (.int .i64 m3) := hV.2 _ _ (hvc 2 _ rfl)
            have t3 : wq.cell? ⟨gV, a * 5 + 3, none⟩ = some (.string m4) := hV.2 _ _ (hvc 3 _ rfl)
            have t4 : wq.cell? ⟨gV, a * 5 + 4, none⟩ = some (.string m5) := hV.2 _ _ (hvc 4 _ rfl)
            have tl : gV < wq.heap.size := hV.1
            have hcl := HCL.out
            have hsz := HK.out.size
            go_wp2_with (at_builtin; refine wpList_app1y EKcandsG rfl (.tmp 48) (.tmp 54) rfl (cdC (bareC ⟨m1, m2, m3, m4, m5⟩ 0)) HO.out rfl rfl rfl (by simp [Value.oneCell', bareC]) (by unfold maxLen; omega) (by omega) hsz ?_; intro v9 w9 h2 h3 h4 h5)
            refine (show _ ∧ _ from ⟨?_, ?_⟩)
            · exact ⟨a + 1, v9, cs ++ [bareC ⟨m1, m2, m3, m4, m5⟩ 0], rfl, by go_num, by omega, hid (OwnL.snoc h2), hid (by rw [List.length_append]; show cs.length + 1 ≤ a + 1; omega), hid (HB.out.snoc hvf), hid (kb_row HK.out HO.out hsz h4)⟩
            · simp [intOf] <;> omega
        · obtain rfl : a = 4 := by omega
          go_wp2_with fail
          go_meet
          case rel => exact ⟨cs, by trivial, HO, HCL, HB, HK⟩
    case rest =>
      obtain ⟨cs, -, HO, HCL, HB, HK⟩ := hcut
      obtain ⟨A, c, hcv, -, hrg⟩ := RowG.of (f := cdC) (n := 8) (fun _ => rfl) HO.out
      have hcv := hcv.symm
      subst hcv
      have HRG := hid hrg
      obtain ⟨hny, hns⟩ := nm5_at hc5
      have hbn := HN4.out.kb HK.out
      have y0 : wc.cell? ⟨gN, k, none⟩ = some (.string (nm5.getD k ⟨#[]⟩)) := hbn.2 _ _ hny
      have yl : gN < wc.heap.size := hbn.1
      generalize nm5.getD k ⟨#[]⟩ = nm at *
      have hul := HL.out
      have hrow := HU4.out.row.kb HK.out
      have hsz : w.heap.size + 1 ≤ wc.heap.size := by have := HS4.out; have := HK.out.size; omega
      have hca : ∀ q, blkA A = some q → cs ≠ [] → q < wc.heap.size := fun q e hn => by
        rcases hrg.lies with e1 | ⟨b, off, e1, h1, -⟩
        · exact absurd e1 hn
        · rw [e1] at e
          injection e with e
          have e : b = q := e
          omega
      clear hrg hny hbn
      go_upto_region 15 with (at_builtin; refine wpList_app1y EKunitsG rfl (.tmp 56) (.tmp 63) rfl (utC ⟨nm, ⟨#[]⟩, cs, A, c⟩) hrow rfl rfl rfl (by simp [Value.oneCell']) (by unfold maxLen; omega) (by omega) hsz ?_; intro v9 w9 h2 h3 h4 h5)
      have HU9 := hid (UL.grow (C := u4.heap.size) (u := ⟨nm, ⟨#[]⟩, cs, A, c⟩) (HU4.out.kb HK.out) HU4.out.lt HRG.out (fun q e => (World.ownsRow.lt HU4.out.row q e).2) (by have := HS4.out; omega) hca h2 h4 h5 ⟨hns, by show 0 ≤ 1000000; omega, HCL.out⟩ HB.out)
      have hob := World.ownsRow.lt hrow
      have HR9 := hid (show RR w0 w gG z (j + 1 + 1) w9 from (HR4.out.more HK.out).grown h4 (fun q e => by have := (hob q e).1; omega) hw0 hgw)
      have HN9 := hid ((HN4.out.kb HK.out).grown h4 (fun e => by have := (hob gN e.symm).1; omega))
      have HV9 := hid ((HV4.out.kb HK.out).grown h4 (fun e => HVB.out gV e.symm rfl))
      have HVB9 := hid (show ∀ q, v9.ownBlock = some q → q ≠ gV from fun q e => by
        rcases h5 q e with r | r
        · exact HVB.out q r
        · have := (HV4.out.kb HK.out).1; omega)
      have HS9 := hid (show u2.heap.size ≤ w9.heap.size from Nat.le_trans HS4.out (Nat.le_trans HK.out.size h4.size))
      have HRG9 := hid (HRG.out.keep (o := v.ownBlock) ⟨h4.size, fun q hq ho => h4.block q hq (fun e => ho e.symm)⟩ (fun g e e2 => by have := HRG.out.low g e; have := (World.ownsRow.lt HU4.out.row g e2).2; omega))
      have HH9 := hid (show ∃ u0 y0 tl, us ++ [⟨nm, ⟨#[]⟩, cs, A, c⟩] = u0 :: tl ∧ u0.cands = [y0] from by
        obtain ⟨u0, y0, tl, e, h⟩ := HH.out
        exact ⟨u0, y0, tl ++ [⟨nm, ⟨#[]⟩, cs, A, c⟩], by rw [e]; rfl, h⟩)
      have hs4w : w.heap.size + 4 ≤ u4.heap.size := by have := HS4.out; omega
      have hs49 : u4.heap.size ≤ w9.heap.size := Nat.le_trans HK.out.size h4.size
      clear h2 h3 h4 h5 hob hrow hca HRG HU4 HR4 HN4 HV4 HS4 HK HO y0 yl
      obtain ⟨vs, hvs⟩ : ∃ l, us ++ [⟨nm, ⟨#[]⟩, cs, A, c⟩] = l := ⟨_, rfl⟩
      have hvl : us.length + 1 = vs.length := by rw [← hvs, List.length_append]; rfl
      rw [hvs] at HU9 HH9
      clear hvs
      have hRend : ∀ wz : World, ∀ jz : Nat, jz ≤ j + 3 → RR w0 w gG z jz wz → Keep (some gG) w9 wz → (∃ (k2 j2 : Nat) (v2 : Value) (us2 : List UnitP), v9 = v2 ∧ Value.int .i64 ((k : Int) + 1) = .int .i64 (k2 : Int) ∧ k2 ≤ 5 ∧ Hid (j2 ≤ i + 20 * k2) ∧ Hid (k2 + 1 ≤ us2.length ∧ us2.length ≤ 1 + 2 * k2) ∧ Hid (∃ u0 y0 tl, us2 = u0 :: tl ∧ u0.cands = [y0]) ∧ Hid (UL (w.heap.size + 1) wz v2 us2) ∧ Hid (∀ q, v2.ownBlock = some q → q ≠ gV) ∧ Hid (Box wz gN (nm5.map Value.string)) ∧ Hid (Box wz gV (vrsL.flatMap Ver.cells)) ∧ Hid (RR w0 w gG z j2 wz) ∧ Hid (u2.heap.size ≤ wz.heap.size)) := by
        intro wz jz hj hr hk9
        exact ⟨k + 1, jz, v9, vs, rfl, by go_num, by omega, hid (by have := HJ.out; omega), hid (by omega), HH9, hid (HU9.out.keep hk9 (by omega)), HVB9, hid (HN9.out.block hk9.1 (hk9.2 _ HN9.out.1 (fun e => by injection e with e; omega))), hid (HV9.out.block hk9.1 (hk9.2 _ HV9.out.1 (fun e => by injection e with e; omega))), hid hr, hid (Nat.le_trans HS9.out hk9.1)⟩
      have HREND := hid hRend
      clear hRend
      by_cases h2k : k < 2
      rotate_left
      · have i2 : ¬ (k : Int) < 2 := by omega
        go_wp2_with fail
        refine (show _ ∧ _ from ⟨?_, ?_⟩)
        · exact HREND.out w9 (j + 1 + 1) (by omega) HR9.out (Keep.refl _ _)
        · simp [intOf] <;> omega
      have i2 : (k : Int) < 2 := by omega
      go_wp2_with fail
      refine (gnx_any EE.out w (j + 1 + 1) 3 w9 HR9.out (by have := HJ.out; omega) (by omega) (by omega)).mono ?_
      rintro _ u5 ⟨⟨q5, hq5, rfl⟩, hR5, hK5⟩
      by_cases hz5 : q5 = 0
      rotate_left
      · have e5 : ((q5 : Int) == 0) = false := by rw [beq_eq_false_iff_ne]; omega
        have hR5' := HREND.out u5 (j + 1 + 1 + 1) (by omega) hR5 hK5
        clear hK5 hR5
        go_wp2_with fail
        refine (show _ ∧ _ from ⟨?_, ?_⟩)
        · exact hR5'
        · simp [intOf] <;> omega
      subst hz5
      have HR5 := hid hR5
      have HU5 := hid (HU9.out.keep hK5 (by omega))
      have HN5 := hid (show Box u5 gN (nm5.map Value.string) from HN9.out.block hK5.1 (hK5.2 _ HN9.out.1 (fun e => by injection e with e; omega)))
      have HV5 := hid (show Box u5 gV (vrsL.flatMap Ver.cells) from HV9.out.block hK5.1 (hK5.2 _ HV9.out.1 (fun e => by injection e with e; omega)))
      have HS5 := hid (Nat.le_trans HS9.out hK5.1)
      have HRG5 := hid (HRG9.out.keep hK5 (fun g e e2 => by injection e2 with e2; have := HRG9.out.low g e; have := HU5.out.row; omega))
      clear hR5 hK5 HU9 HN9 HV9 HR9 HS9 HRG9 HREND
      obtain ⟨nc, hnc⟩ : ∃ m, cs.length = m := ⟨_, rfl⟩
      have HNC := hid hnc
      have hnc4 : nc ≤ 4 := by have := HCL.out; omega
      rw [hnc]
      clear hnc
      go_upto_block 4 with fail
      go_cut [12, 13] from 72 to 90 (fun cv iv wx => ∃ (ss : List CandP) (jj : Nat), iv = iv ∧ Hid (OwnL 79 8 cdC wx u5.heap.size cv ss) ∧ Hid (ss.length ≤ 4) ∧ Hid (Bare ss) ∧ Hid (RR w0 u5 gG z jj wx) ∧ jj ≤ j + 8)
      case first =>
        go_wp2_with fail
        have hg5 : gG < u5.heap.size := HR5.out.ctr.box.1
        have h05 : w0.heap.size ≤ u5.heap.size := HR5.out.kb.size
        go_loopw [12, 13] (fun cv iv wq => ∃ (a jj : Nat) (v : Value) (ss : List CandP), cv = v ∧ iv = .int .i64 (a : Int) ∧ a ≤ nc ∧ Hid (jj = j + 3 + a) ∧ Hid (OwnL 79 8 cdC wq u5.heap.size v ss) ∧ Hid (ss.length ≤ a) ∧ Hid (Bare ss) ∧ Hid (RR w0 u5 gG z jj wq)) (fun _ iv _ => nc - (intOf iv).toNat)
        case atStart => exact ⟨0, j + 1 + 1 + 1, _, [], rfl, rfl, Nat.zero_le _, hid rfl, hid OwnL.nil, hid (Nat.le_refl _), hid Bare.nil, hid HR5.out.self⟩
        case round =>
          rename World => wq
          obtain ⟨a, jj, sv, ss, hv, rfl, ha, HJJ, HO, HSL, HSB, HRQ⟩ := hrel
          have hv := hv.symm
          subst hv
          have a0 : (0 : Int) ≤ (a : Int) := by omega
          by_cases hlt : a < nc
          · have a1 : (a : Int) < (nc : Int) := by omega
            go_wp2_with fail
            refine (gnx_any EE.out u5 jj 3 wq HRQ.out (by have := HJJ.out; have := HJ.out; omega) (by omega) (by omega)).mono ?_
            rintro _ u6 ⟨⟨q6, hq6, rfl⟩, hR6, hK6⟩
            have HR6 := hid hR6
            have HO6 := hid (show OwnL 79 8 cdC u6 u5.heap.size sv ss from own_keep HO.out fun q hq => hK6.2 q (World.ownsRow.lt HO.out q hq).2 (fun e => by injection e with e; have := (World.ownsRow.lt HO.out q hq).1; omega))
            clear hR6 hK6 HRQ HO
            by_cases hz6 : 0 < q6
            · have e6 : (0 : Int) < (q6 : Int) := by omega
              have hl : a < cs.length := by rw [HNC.out]; exact hlt
              obtain ⟨b, off, hA, hbl, hcc⟩ := (HRG5.out.keep HR6.out.keep (fun g e e2 => by injection e2 with e2; have := HRG5.out.low g e; omega)).lies.at_ hl
              subst hA
              obtain ⟨⟨m1, m2, m3, m4, m5⟩, sh, hbe, hvf⟩ := HB.out _ (List.getElem_mem hl)
              rw [hbe] at hcc
              have t0 : u6.cell? ⟨b, off + a * 8, none⟩ = some (.int .i64 m1) := hcc 0 _ rfl
              have t1 : u6.cell? ⟨b, off + a * 8 + 1, none⟩ = some (.int .i64 m2) := hcc 1 _ rfl
              have t2 : u6.cell? ⟨b, off + a * 8 + 2, none⟩ = some (.int .i64 m3) := hcc 2 _ rfl
              have t3 : u6.cell? ⟨b, off + a * 8 + 3, none⟩ = some (.string m4) := hcc 3 _ rfl
              have t4 : u6.cell? ⟨b, off + a * 8 + 4, none⟩ = some (.string m5) := hcc 4 _ rfl
              have hsl := HSL.out
              have hsz := HR6.out.keep.1
              clear hcc hbe
              go_wp2_with (at_builtin; refine wpList_app1y EKcandsG rfl (.tmp 81) (.tmp 88) rfl (cdC (bareC ⟨m1, m2, m3, m4, m5⟩ 0)) HO6.out rfl rfl rfl (by simp [Value.oneCell', bareC]) (by unfold maxLen; omega) (by omega) hsz ?_; intro v7 w7 h2 h3 h4 h5)
              refine (show _ ∧ _ from ⟨?_, ?_⟩)
              · exact ⟨a + 1, jj + 1, v7, ss ++ [bareC ⟨m1, m2, m3, m4, m5⟩ 0], rfl, by go_num, by omega, hid (by have := HJJ.out; omega), hid (OwnL.snoc h2), hid (by rw [List.length_append]; show ss.length + 1 ≤ a + 1; omega), hid (HSB.out.snoc hvf), hid (HR6.out.grown h4 (fun k e => (World.ownsRow.lt HO6.out k e).1) h05 hg5)⟩
              · simp [intOf] <;> omega
            · have e6 : ¬ (0 : Int) < (q6 : Int) := by omega
              go_wp2_with fail
              refine (show _ ∧ _ from ⟨?_, ?_⟩)
              · exact ⟨a + 1, jj + 1, sv, ss, rfl, by go_num, by omega, hid (by have := HJJ.out; omega), HO6, hid (by have := HSL.out; omega), HSB, HR6⟩
              · simp [intOf] <;> omega
          · obtain rfl : a = nc := by omega
            have a1 : ¬ (a : Int) < (a : Int) := by omega
            go_wp2_with fail
            go_meet
            case rel => exact ⟨ss, jj, by trivial, HO, hid (by have := HSL.out; omega), HSB, HRQ, by have := HJJ.out; omega⟩
      case rest =>
        obtain ⟨ss, jj, -, HO, HSL, HSB, HRQ, hjj⟩ := hcut
        obtain ⟨A2, c2, hcv, -, hrg⟩ := RowG.of (f := cdC) (n := 8) (fun _ => rfl) HO.out
        have hcv := hcv.symm
        subst hcv
        have HRG := hid hrg
        obtain ⟨hny, hns2⟩ := nm5_at hc5
        have hkw := HRQ.out.keep
        have hbn : Box wc gN (nm5.map Value.string) := HN5.out.block hkw.1 (hkw.2 _ HN5.out.1 (fun e => by injection e with e; omega))
        have y0 : wc.cell? ⟨gN, k, none⟩ = some (.string (nm5.getD k ⟨#[]⟩)) := hbn.2 _ _ hny
        have yl : gN < wc.heap.size := hbn.1
        generalize nm5.getD k ⟨#[]⟩ = nm2 at *
        have hul := HL.out
        have HUC := hid (HU5.out.keep hkw (by omega))
        have hrow := HUC.out.row
        have hsz : w.heap.size + 1 ≤ wc.heap.size := by have := HS5.out; have := hkw.1; omega
        have hca : ∀ q, blkA A2 = some q → ss ≠ [] → q < wc.heap.size := fun q e hn => by
          rcases hrg.lies with e1 | ⟨b, off, e1, h1, -⟩
          · exact absurd e1 hn
          · rw [e1] at e
            injection e with e
            have e : b = q := e
            omega
        clear hrg hny
        go_wp2_with (at_builtin; refine wpList_app1y EKunitsG rfl (.tmp 90) (.tmp 97) rfl (utC ⟨nm2, ⟨#[102]⟩, ss, A2, c2⟩) hrow rfl rfl rfl (by simp [Value.oneCell']) (by unfold maxLen; omega) (by omega) hsz ?_; intro vA wA h2 h3 h4 h5)
        have hob := World.ownsRow.lt hrow
        have HUA := hid (UL.grow (C := u5.heap.size) (u := ⟨nm2, ⟨#[102]⟩, ss, A2, c2⟩) HUC.out HU5.out.lt HRG.out (fun q e => (World.ownsRow.lt HU5.out.row q e).2) (by have := HS5.out; omega) hca h2 h4 h5 ⟨hns2, by show 1 ≤ 1000000; omega, HSL.out⟩ HSB.out)
        have hbv : Box wc gV (vrsL.flatMap Ver.cells) := HV5.out.block hkw.1 (hkw.2 _ HV5.out.1 (fun e => by injection e with e; omega))
        refine (show _ ∧ _ from ⟨?_, ?_⟩)
        · refine ⟨k + 1, jj, vA, vs ++ [⟨nm2, ⟨#[102]⟩, ss, A2, c2⟩], rfl, by go_num, by omega, hid (by have := HJ.out; omega), hid ?_, hid ?_, HUA, hid ?_, hid ?_, hid ?_, hid ?_, hid ?_⟩
          · rw [List.length_append]
            show k + 1 + 1 ≤ vs.length + 1 ∧ vs.length + 1 ≤ 1 + 2 * (k + 1)
            omega
          · obtain ⟨u0, y9, tl, e, h⟩ := HH9.out
            exact ⟨u0, y9, tl ++ [⟨nm2, ⟨#[102]⟩, ss, A2, c2⟩], by rw [e]; rfl, h⟩
          · intro q e
            rcases h5 q e with r | r
            · exact HVB9.out q r
            · have := hbv.1; omega
          · exact hbn.grown h4 (fun e => by have := (hob gN e.symm).1; omega)
          · exact hbv.grown h4 (fun e => HVB9.out gV e.symm rfl)
          · exact (HR5.out.from HRQ.out).grown h4 (fun q e => by have := (hob q e).1; omega) hw0 hgw
          · exact Nat.le_trans HS5.out (Nat.le_trans hkw.1 h4.size)
        · simp [intOf] <;> omega
end Go.Proofs.YtlmkglgjdmjnkaaGreatDoor
