/- Parts 21 of the proofs. -/
import Derived.Test.YtlmkglgjdmjnkaaGreatDoorQ20
namespace Go.Proofs.YtlmkglgjdmjnkaaGreatDoor
open Go.RowKit Go.Lib
open Rw
set_option linter.unusedVariables false
set_option linter.unusedSimpArgs false
def mayCh (us : List UnitP) (zs : List Int) : Bool := mayWd us && fitsC us zs
theorem chmay_any (U : Option Addr) (uc : Nat) (us : List UnitP) (A : Option Addr) (c : Nat) (zs : List Int) (w : World) (hF : First w) (hU : UnitsAt w U us) (hA : IntsAt w A zs) (hn : zs.length ≤ 9223372036854775807) : Calls Tryz.prog 75 #[.agg #[.slice U us.length uc], .slice A zs.length c] w (BoolK w (mayCh us zs)) :=
  cmay_of U uc us A c zs w (mayWd us) (fun u hb => wmay_any U uc us u (hF.kb hb) (hU.kb hb)) hU hA hn
theorem mayWd_len {us : List UnitP} (h : mayWd us = true) : 1 ≤ us.length ∧ us.length ≤ 48 := by
  unfold mayWd at h
  simp only [Bool.and_eq_true, Bool.not_eq_true', Bool.or_eq_false_iff, decide_eq_false_iff_not] at h
  omega
theorem mayWd_cand {us : List UnitP} (h : mayWd us = true) {k j : Nat} (hk : k < us.length) (hj : j < us[k].cands.length) : mayCd us.length us[k].cands[j] = true := by
  unfold mayWd at h
  rw [Bool.and_eq_true, List.all_eq_true] at h
  have h1 := h.2 k (by rw [List.mem_range'_1]; omega)
  unfold okU at h1
  rw [List.getElem?_eq_getElem hk] at h1
  dsimp only at h1
  rw [Bool.and_eq_true, List.all_eq_true] at h1
  have h2 := h1.2 j (by rw [List.mem_range'_1]; omega)
  unfold okCd at h2
  rw [List.getElem?_eq_getElem hj] at h2
  dsimp only at h2
  simp only [Bool.and_eq_true] at h2
  exact h2.2.2
theorem mayCd_in {n : Int} {x : CandP} (h : mayCd n x = true) : x.needs.length ≤ 24 ∧ x.bars.length ≤ 24 ∧ (∀ nd ∈ x.needs, nd.l.length ≤ 24 ∧ ∀ y ∈ nd.l, 0 ≤ y.unit ∧ y.unit < n) ∧ ∀ y ∈ x.bars, 0 ≤ y.unit ∧ y.unit < n := by
  have hw : ∀ y : WantP, mayW n y = true → 0 ≤ y.unit ∧ y.unit < n := fun y hy => by
    unfold mayW at hy
    simp only [Bool.not_eq_true', Bool.or_eq_false_iff, decide_eq_false_iff_not] at hy
    omega
  unfold mayCd at h
  simp only [Bool.and_eq_true, Bool.not_eq_true', Bool.or_eq_false_iff, decide_eq_false_iff_not, List.all_eq_true] at h
  refine ⟨by omega, by omega, fun nd hd => ?_, fun y hy => hw y (h.2.2 y hy)⟩
  have h2 := h.2.1 nd hd
  unfold mayN at h2
  simp only [Bool.not_eq_true', Bool.or_eq_false_iff, decide_eq_false_iff_not, Bool.not_eq_false', List.all_eq_true] at h2
  exact ⟨by omega, fun y hy => hw y (h2.2.2 y hy)⟩
def fineU (us : List UnitP) (zs : List Int) (k : Nat) : Bool := match zs[k]? with
  | some z => decide (z < 0) || (match candAt us k z.toNat with
    | some cd => cd.needs.all (fun nd => nd.l.any (metC us zs)) && cd.bars.all (fun b => !metC us zs b)
    | none => false)
  | none => true
def rightCh (us : List UnitP) (zs : List Int) : Bool := decide (0 ≤ zs.headD (-1)) && (List.range' 0 zs.length).all (fineU us zs)
structure FaultP where
  kind : Int
  unit : Int
  at_ : Int
abbrev fauC (x : FaultP) : List Value := [.int .i64 x.kind, .int .i64 x.unit, .int .i64 x.at_]
theorem fau_one (x : FaultP) : ∀ u ∈ fauC x, u.oneCell' = true := by
  intro u hu
  simp only [fauC, List.mem_cons, List.not_mem_nil, or_false] at hu
  rcases hu with rfl | rfl | rfl <;> rfl
theorem EKfaults : EK Tryz.prog 144 172 3 24 := .mk' (.agg #[.int .i64 0, .int .i64 0, .int .i64 0]) Tryz.underlying144 (by kernel_rfl) rfl (by omega)
def WrongK (w : World) (b : Bool) (e : Ending) (w' : World) : Prop := ∃ (A : Option Addr) (n c : Nat), e = .returned (.slice A n c) ∧ decide (n = 0) = b ∧ KB w.heap.size w w'
abbrev OwnF (w : World) (base : Nat) (v : Value) (o : List FaultP) : Prop := OwnL 172 3 fauC w base v o
set_option maxRecDepth 100000 in
set_option maxHeartbeats 8000000 in
theorem cwrong_any (U : Option Addr) (uc : Nat) (us : List UnitP) (A : Option Addr) (c : Nat) (zs : List Int) (w : World) (hF : First w) (hU : UnitsAt w U us) (hA : IntsAt w A zs) (hn : zs.length ≤ 9223372036854775807) : Calls Tryz.prog 76 #[.agg #[.slice U us.length uc], .slice A zs.length c] w (WrongK w (!mayCh us zs || rightCh us zs)) := by
  have HB0 := hid (kb_new w (.cells [.slice U us.length uc].toArray 42))
  have HX := hid (Box.new w [.slice U us.length uc] 42)
  have HU := hid (hU.kb HB0.out)
  have HZ := hid (hA.kb HB0.out)
  have HF := hid (hF.kb HB0.out)
  have HCM := hid (fun u (hb : KB (w.alloc (.cells [.slice U us.length uc].toArray 42)).heap.size (w.alloc (.cells [.slice U us.length uc].toArray 42)) u) => chmay_any U uc us A c zs u (HF.out.kb hb) (HU.out.kb hb) (HZ.out.kb hb) hn)
  have HCR := hid (fun (hf : fitsC us zs = true) (L : Option Addr) (lc : Nat) (l : List WantP) u (hb : KB (w.alloc (.cells [.slice U us.length uc].toArray 42)).heap.size (w.alloc (.cells [.slice U us.length uc].toArray 42)) u) (hl : WantsAt u L l) (h0 : ∀ x ∈ l, 0 ≤ x.unit ∧ x.unit < (us.length : Int)) => crow_any U uc us A c zs L lc l u (HF.out.kb hb) (HU.out.kb hb) (HZ.out.kb hb) hn hl hf h0)
  have HCT := hid (fun (hf : fitsC us zs = true) (x : WantP) u (hb : KB (w.alloc (.cells [.slice U us.length uc].toArray 42)).heap.size (w.alloc (.cells [.slice U us.length uc].toArray 42)) u) (hx : WantIs u x) (h0 : 0 ≤ x.unit ∧ x.unit < (us.length : Int)) => cmet_any U uc us A c zs x u (HF.out.kb hb) (HU.out.kb hb) (HZ.out.kb hb) hn hx hf h0.1 h0.2)
  have HMC := hid (show mayCh us zs = (mayWd us && fitsC us zs) from rfl)
  have HLN := hid (fun (hf : mayCh us zs = true) => show zs.length = us.length ∧ 1 ≤ us.length ∧ us.length ≤ 48 from by
    unfold mayCh fitsC at hf
    simp only [Bool.and_eq_true, decide_eq_true_eq] at hf
    exact ⟨hf.2.1, mayWd_len hf.1⟩)
  obtain ⟨res, hres⟩ : ∃ r, (!mayCh us zs || rightCh us zs) = r := ⟨_, rfl⟩
  rw [hres]
  have HRES := hid hres
  clear hres hU hA hF
  obtain ⟨m, hm⟩ : ∃ m, us.length = m := ⟨_, rfl⟩
  obtain ⟨n, hnn⟩ : ∃ n, zs.length = n := ⟨_, rfl⟩
  rw [hm] at HX HB0 HU HZ HF HCM HCR HCT HLN ⊢
  rw [hnn] at HCM HCR HCT HLN hn ⊢
  have HM := hid hm
  have HN := hid hnn
  clear hm hnn
  go_enter Tryz.func76, Tryz.ntmps76
  go_upto_region 1 with fail
  refine wp_name ?_
  intro u0 hu0
  rw [← hu0] at HX HB0 HU HZ HF HCM HCR HCT
  clear hu0
  have x0 := HX.out.2 0 _ rfl
  have xl := HX.out.1
  cases hmc : mayCh us zs with
  | false =>
    rw [hmc] at HCM
    have HRS := hid (show res = true from by rw [← HRES.out, hmc]; rfl)
    go_wp2_with fail
    refine (HCM.out u0 (kb_refl _)).mono ?_
    rintro _ u1 ⟨rfl, hb⟩
    go_wp2_with fail
    go_ret
    exact ⟨none, 0, 0, rfl, by rw [HRS.out]; rfl, kb_tr HB0.out hb⟩
  | true =>
  rw [hmc] at HCM HMC
  have hmw : mayWd us = true := by have := HMC.out; simp at this; exact this.1
  have hft : fitsC us zs = true := by have := HMC.out; simp at this; exact this.2
  obtain ⟨hnm, hm1, hm48⟩ := HLN.out hmc
  have HR1 := hid (show res = (decide (0 ≤ zs.headD (-1)) && (List.range' 0 n).all (fineU us zs)) from by rw [← HRES.out, hmc]; unfold rightCh; rw [HN.out]; rfl)
  have HMW := hid hmw
  have HFT := hid hft
  have HCR := hid (HCR.out hft)
  have HCT := hid (HCT.out hft)
  have HNM := hid hnm
  clear hmc hmw hft HLN HMC HRES
  subst hnm
  go_wp2_with fail
  refine (HCM.out u0 (kb_refl _)).mono ?_
  rintro _ u1 ⟨rfl, hb⟩
  have HK1 := hid hb
  clear hb x0 xl HCM
  go_upto_region 4 with fail
  obtain ⟨bz, oz, hAz, hbz, cz⟩ := int_at (HZ.out.kb HK1.out) (k := 0) (by rw [HN.out]; omega)
  subst hAz
  have HZH := hid (show zs.headD (-1) = zs[0]'(by rw [HN.out]; omega) from by cases zs with | nil => exact absurd HN.out (by simp; omega) | cons a l => rfl)
  generalize zs[0]'(by rw [HN.out]; omega) = z0 at *
  rw [Nat.add_zero] at cz
  go_upto_if 20 with fail
  go_cut [5] from 17 to 25 (fun v wx => ∃ o : List FaultP, Hid (o.length ≤ 1) ∧ Hid (res = (o.isEmpty && (List.range' 0 n).all (fineU us zs))) ∧ Hid (OwnF wx u0.heap.size v o) ∧ Hid (KB u0.heap.size u0 wx))
  case first =>
    by_cases g0 : z0 < 0
    · have HRW := hid (show u1.ownsRow u0.heap.size 172 3 (.slice none 0 0) 0 (([] : List FaultP).flatMap fauC) from World.ownsRow_nil _ _ _ _)
      have hsz : u0.heap.size ≤ u1.heap.size := HK1.out.size
      go_wp2_with (at_builtin; refine wpList_app1y EKfaults rfl (.tmp 21) (.tmp 23) rfl (fauC ⟨1, 0, 0⟩) HRW.out rfl rfl rfl (fau_one ⟨1, 0, 0⟩) (by unfold maxLen; omega) (by omega) hsz ?_; intro v' w3 h2 h3 h4 h5; have HO3 := hid (show OwnF w3 u0.heap.size v' ([] ++ [⟨1, 0, 0⟩]) from OwnL.snoc h2); have HK3 := hid (show KB u0.heap.size u0 w3 from Go.RowKit.Below.trans HK1.out h3.kb))
      go_meet
      case rel => exact ⟨_, hid (Nat.le_refl _), hid (by rw [HR1.out, HZH.out, decide_eq_false (by omega)]; rfl), HO3, HK3⟩
    · go_wp2_with fail
      go_meet
      case rel => exact ⟨[], hid (Nat.zero_le _), hid (by rw [HR1.out, HZH.out, decide_eq_true (by omega)]; rfl), hid OwnL.nil, HK1⟩
  case rest =>
    obtain ⟨o, hol, hres, hown, hk⟩ := hcut
    rename Value => v0
    clear HR1 HK1 HZH cz hbz
    go_upto_block 0 with fail
    go_wp2_with fail
    go_loopw [27, 5] (fun iv ov wr => ∃ (k d : Nat) (v : Value) (o : List FaultP), iv = .int .i64 (k : Int) ∧ ov = v ∧ k + d = n ∧ Hid (o.length ≤ 1 + 48 * k) ∧ Hid (res = (o.isEmpty && (List.range' k d).all (fineU us zs))) ∧ Hid (OwnF wr u0.heap.size v o) ∧ Hid (KB u0.heap.size u0 wr)) (fun iv _ _ => n - (intOf iv).toNat)
    case atStart => exact ⟨0, n, _, o, rfl, rfl, Nat.zero_add n, hid (by have := hol.out; omega), hres, hown, hk⟩
    case round =>
      clear hol hres hown hk
      rename World => wr
      rename List FaultP => o9
      clear o9
      obtain ⟨k, d, v, o, rfl, hv, hkd, HOL, HR, HO, HK⟩ := hrel
      have hv := hv.symm
      subst hv
      have HKK := hid (kb_tr HB0.out HK.out)
      have k0 : (0 : Int) ≤ (k : Int) := by omega
      cases d with
      | zero =>
        obtain rfl : k = n := by omega
        have k1 : ¬ (k : Int) < (k : Int) := by omega
        have HRS := hid (show res = o.isEmpty from by rw [HR.out]; simp)
        obtain ⟨A', cap, hvv, -, -, -⟩ := OwnL.lies (f := fauC) (n := 3) (fun _ => rfl) HO.out
        subst hvv
        go_wp2_with fail
        try rw [Exit.noGoto_ret]
        try (first | go_ret | go_ret2)
        exact ⟨_, _, _, rfl, by rw [HRS.out]; cases o <;> rfl, HKK.out⟩
      | succ d =>
        have h1 : k < us.length := by rw [HM.out]; omega
        have h2 : k < zs.length := by rw [HN.out]; omega
        have k1 : (k : Int) < (n : Int) := by omega
        obtain ⟨bz, oz, hAz, hbz, cz⟩ := int_at (HZ.out.kb HK.out) h2
        have hAz := Option.some.inj hAz
        injection hAz with e1 e2 e3
        subst e1
        subst e2
        have HST := hid (HR.out.trans (by rw [all_range_succ]))
        have hfits := HFT.out
        unfold fitsC at hfits
        simp only [Bool.and_eq_true, decide_eq_true_eq] at hfits
        obtain ⟨hz0, y, hy, hz1⟩ := fits_at hfits.2 k h2
        have hyu : us[k] = y := by rw [List.getElem?_eq_getElem h1] at hy; injection hy
        have HFU := hid (show fineU us zs k = (decide (zs[k] < 0) || (match y.cands[zs[k].toNat]? with
          | some cd => cd.needs.all (fun nd => nd.l.any (metC us zs)) && cd.bars.all (fun b => !metC us zs b)
          | none => false)) from by unfold fineU candAt; rw [List.getElem?_eq_getElem h2, hy]; rfl)
        have HCD := hid (fun (j : Nat) (hj : j < y.cands.length) => show mayCd us.length y.cands[j] = true from by
          subst hyu
          exact mayWd_cand HMW.out h1 hj)
        rw [HM.out] at HCD
        generalize fineU us zs k = fk at *
        generalize zs[k] = z at *
        clear HR hfits hy
        by_cases g1 : z < 0
        · have HRS := hid (show res = (o.isEmpty && (List.range' (k + 1) d).all (fineU us zs)) from by rw [HST.out, HFU.out, decide_eq_true g1]; simp)
          go_wp2_with fail
          refine ⟨⟨k + 1, d, _, o, by go_num, rfl, by omega, hid (by have := HOL.out; omega), HRS, HO, HK⟩, ?_⟩
          simp [intOf] <;> omega
        · obtain ⟨q, rfl⟩ := Int.eq_ofNat_of_zero_le (show 0 ≤ z by omega)
          have hq : q < y.cands.length := by omega
          have HMCD := hid (HCD.out q hq)
          obtain ⟨bu, ou, hUu, hui, hbu0, -, -, cu0⟩ := unit_at HU.out h1
          have cu := cell_kb hbu0 HK.out cu0
          have hbu := Nat.lt_of_lt_of_le hbu0 HK.out.size
          rw [hyu] at hui cu
          subst hUu
          obtain ⟨bc, oc, hyA, hci, hbc0, hcc0⟩ := cand_val hui.cands hq
          have hbc := Nat.lt_of_lt_of_le hbc0 HK.out.size
          have hcc := hcc0 wr HK.out
          rw [hyA] at cu
          clear hcc0 hbc0 hbu0 cu0
          have HFU2 := hid (show fk = (y.cands[q].needs.all (fun nd => nd.l.any (metC us zs)) && y.cands[q].bars.all (fun b => !metC us zs b)) from by rw [HFU.out, decide_eq_false (by omega), Int.toNat_natCast, List.getElem?_eq_getElem hq]; rfl)
          have HCI := hid hci
          clear hci HFU HCD hyu hyA hui
          have q1 : (q : Int) < (y.cands.length : Int) := by omega
          generalize y.cands[q] = cd at *
          generalize y.cands.length = nc at *
          obtain ⟨cv, cs, cn, cb, cA, ck, cB, cD⟩ := cd
          dsimp only at HFU2 HCI
          dsimp only [cdC] at hcc
          obtain ⟨hn24, hb24, hnu, hbu2⟩ := mayCd_in HMCD.out
          dsimp only at hn24 hb24 hnu hbu2
          have HNU := hid hnu
          have HBU := hid hbu2
          clear hnu hbu2 HMCD
          have c0 := hcc 0 _ rfl
          have c1 := hcc 1 _ rfl
          have c2 := hcc 2 _ rfl
          have c3 := hcc 3 _ rfl
          have c4 := hcc 4 _ rfl
          have c5 := hcc 5 _ rfl
          have c6 := hcc 6 _ rfl
          have c7 := hcc 7 _ rfl
          rw [Nat.add_zero] at c0
          clear hcc
          have HXW := hid (HX.out.kb HK.out)
          have x0 := HXW.out.2 0 _ rfl
          have xl := HXW.out.1
          have q0 : (0 : Int) ≤ (q : Int) := by omega
          obtain ⟨nn, hnl⟩ : ∃ x, cn.length = x := ⟨_, rfl⟩
          obtain ⟨nb, hbl⟩ : ∃ x, cb.length = x := ⟨_, rfl⟩
          rw [hnl] at hn24 c6
          rw [hbl] at hb24 c7
          go_upto_region 11 with fail
          refine wp_name ?_
          intro u3 hu3
          have HB3 := hid (show Box u3 wr.heap.size [.int .i64 cv.maj, .int .i64 cv.min, .int .i64 cv.pat, .string cv.pre, .string cv.bld, .int .i64 cs, .slice cA nn ck, .slice cB nb cD] from by rw [hu3]; exact Box.new wr [.int .i64 cv.maj, .int .i64 cv.min, .int .i64 cv.pat, .string cv.pre, .string cv.bld, .int .i64 cs, .slice cA nn ck, .slice cB nb cD] 79)
          have HK3 := hid (show KB wr.heap.size wr u3 from by rw [hu3]; exact kb_new _ _)
          have HKG := hid (kb_tr HK.out HK3.out)
          have HCJ := HCI
          have HO3 := hid (HO.out.kb HK3.out)
          have HNE := hid (show v.ownBlock ≠ some wr.heap.size from fun e => Nat.lt_irrefl _ (World.ownsRow.lt HO.out _ e).2)
          have HNL := hid hnl
          have HBL := hid hbl
          clear hu3 c0 c1 c2 c3 c4 c5 c6 c7 hbc HCI x0 xl HXW hnl hbl HO cu hbu hbz cz
          generalize wr.heap.size = g3 at *
          have HNA := hid HCJ.out.needs
          have HBA := hid HCJ.out.bars
          dsimp only at HNA HBA
          clear HCJ
          generalize hmt : metC us zs = mt at *
          have HST2 := hid (show res = (o.isEmpty && (((cn.drop 0).all (fun nd => nd.l.any mt) && cb.all (fun b => !mt b)) && (List.range' (k + 1) d).all (fineU us zs))) from by rw [HST.out, HFU2.out]; rfl)
          clear HST HFU2 hmt
          obtain ⟨rr, hrr⟩ : ∃ r, (List.range' (k + 1) d).all (fineU us zs) = r := ⟨_, rfl⟩
          have HRR := hid hrr
          rw [hrr] at HST2
          clear hrr
          have b6 := HB3.out.2 6 _ rfl
          have bl := HB3.out.1
          go_upto_block 2 with fail
          clear b6 bl
          go_wp2_with fail
          go_loopw [46, 5] (fun iv ov wx => ∃ (i : Nat) (v : Value) (o : List FaultP), iv = .int .i64 (i : Int) ∧ ov = v ∧ i ≤ nn ∧ Hid (o.length ≤ 1 + 48 * k + i) ∧ Hid (res = (o.isEmpty && (((cn.drop i).all (fun nd => nd.l.any mt) && cb.all (fun b => !mt b)) && rr))) ∧ Hid (OwnF wx u0.heap.size v o) ∧ Hid (KB u0.heap.size u0 wx) ∧ Hid (Box wx g3 [.int .i64 cv.maj, .int .i64 cv.min, .int .i64 cv.pat, .string cv.pre, .string cv.bld, .int .i64 cs, .slice cA nn ck, .slice cB nb cD]) ∧ Hid (v.ownBlock ≠ some g3)) (fun iv _ _ => nn - (intOf iv).toNat)
          case atStart => exact ⟨0, _, o, rfl, rfl, Nat.zero_le _, hid (by have := HOL.out; omega), HST2, HO3, HKG, HB3, HNE⟩
          case round =>
            clear HST2 HO3 HOL HB3 HNE
            rename World => wx
            rename List FaultP => o9
            clear o9
            obtain ⟨i, v2, o, rfl, hv2, hi, HOL, HR2, HO2, HKH, HB3, HNE⟩ := hrel
            have hv2 := hv2.symm
            subst hv2
            have i0 : (0 : Int) ≤ (i : Int) := by omega
            by_cases hlt : i < nn
            · have h3 : i < cn.length := by rw [HNL.out]; exact hlt
              have i1 : (i : Int) < (nn : Int) := by omega
              obtain ⟨b, off, hA, hx, hbl, cc0⟩ := need_at (HNA.out.kb HKH.out) h3
              subst hA
              have HS3 := hid (HR2.out.trans (by rw [List.drop_eq_getElem_cons h3, List.all_cons]))
              have HROW := hid (HCR.out cn[i].A cn[i].c cn[i].l wx HKH.out hx (HNU.out cn[i] (List.getElem_mem h3)).2)
              rw [Nat.mul_one] at cc0
              clear HR2 hx
              generalize cn[i] = nd at *
              clear h3
              obtain ⟨nl, nA, nc2⟩ := nd
              dsimp only at HS3 HROW cc0
              generalize nl.any mt = r at *
              generalize nl.length = nn2 at *
              have HXW := hid (HX.out.kb HKH.out)
              have x0 := HXW.out.2 0 _ rfl
              have xl := HXW.out.1
              go_wp2_with fail
              refine HROW.out.mono ?_
              rintro _ u4 ⟨rfl, hb⟩
              have HB4 := hid (HB3.out.kb hb)
              have HKI := hid (kb_tr HKH.out hb)
              have HO4 := hid (HO2.out.kb hb)
              clear hb x0 xl HXW HO2 cc0 hbl HROW
              cases r with
              | true =>
                have HRS := hid (show res = (o.isEmpty && (((cn.drop (i + 1)).all (fun nd => nd.l.any mt) && cb.all (fun b => !mt b)) && rr)) from by rw [HS3.out]; rfl)
                go_wp2_with fail
                refine ⟨⟨i + 1, _, o, by go_num, rfl, by omega, hid (by have := HOL.out; omega), HRS, HO4, HKI, HB4, HNE⟩, ?_⟩
                simp [intOf] <;> omega
              | false =>
                have HRS := hid (show res = ((o ++ [(⟨2, (k : Int), (i : Int)⟩ : FaultP)]).isEmpty && (((cn.drop (i + 1)).all (fun nd => nd.l.any mt) && cb.all (fun b => !mt b)) && rr)) from by rw [HS3.out]; cases o <;> simp)
                have HRW := hid (show u4.ownsRow u0.heap.size 172 3 v2 o.length (o.flatMap fauC) from HO4.out)
                have hsz : u0.heap.size ≤ u4.heap.size := HKI.out.size
                have hol : o.length ≤ 1 + 48 * k + 24 := by have := HOL.out; omega
                go_wp2_with (at_builtin; refine wpList_app1y EKfaults rfl (.tmp 56) (.tmp 60) rfl (fauC ⟨2, (k : Int), (i : Int)⟩) HRW.out rfl rfl rfl (fau_one ⟨2, (k : Int), (i : Int)⟩) (by unfold maxLen; omega) (by omega) hsz ?_; intro v' w3 h2 h3 h4 h5; have HO5 := hid (show OwnF w3 u0.heap.size v' (o ++ [⟨2, (k : Int), (i : Int)⟩]) from OwnL.snoc h2); have HK5 := hid (show KB u0.heap.size u0 w3 from Go.RowKit.Below.trans HKI.out h3.kb); have HB5 := hid (HB4.out.grown h4 (fun e => HNE.out e.symm)); have HNE5 := hid (show v'.ownBlock ≠ some g3 from fun e => (h5 _ e).elim HNE.out (fun h => absurd HB4.out.1 (by omega))))
                refine ⟨⟨i + 1, _, o ++ [⟨2, (k : Int), (i : Int)⟩], by go_num, rfl, by omega, hid (by rw [List.length_append]; have := HOL.out; simp; omega), HRS, HO5, HK5, HB5, HNE5⟩, ?_⟩
                simp [intOf] <;> omega
            · obtain rfl : i = nn := by omega
              have i1 : ¬ (i : Int) < (i : Int) := by omega
              have HS3 := hid (show res = (o.isEmpty && ((cb.drop 0).all (fun b => !mt b) && rr)) from by rw [HR2.out, List.drop_eq_nil_of_le (by rw [HNL.out]; exact Nat.le_refl _)]; rfl)
              have HB4 := HB3
              clear HR2 HNA HNU HNL
              have b7 := HB4.out.2 7 _ rfl
              have bl := HB4.out.1
              go_upto_block 4 with fail
              clear b7 bl
              go_wp2_with fail
              go_loopw [66, 5] (fun iv ov wy => ∃ (j : Nat) (v : Value) (o : List FaultP), iv = .int .i64 (j : Int) ∧ ov = v ∧ j ≤ nb ∧ Hid (o.length ≤ 1 + 48 * k + 24 + j) ∧ Hid (res = (o.isEmpty && ((cb.drop j).all (fun b => !mt b) && rr))) ∧ Hid (OwnF wy u0.heap.size v o) ∧ Hid (KB u0.heap.size u0 wy)) (fun iv _ _ => nb - (intOf iv).toNat)
              case atStart => exact ⟨0, _, o, rfl, rfl, Nat.zero_le _, hid (by have := HOL.out; omega), HS3, HO2, HKH⟩
              case round =>
                clear HS3 HO2 HOL
                rename World => wy
                rename List FaultP => o9
                clear o9
                obtain ⟨j, v3, o, rfl, hv3, hj, HOL, HR3, HO3, HKJ⟩ := hrel
                have hv3 := hv3.symm
                subst hv3
                have j0 : (0 : Int) ≤ (j : Int) := by omega
                by_cases hlt : j < nb
                · have h3 : j < cb.length := by rw [HBL.out]; exact hlt
                  have j1 : (j : Int) < (nb : Int) := by omega
                  obtain ⟨b, off, hA, hx, hbl, d0, d1, d2⟩ := want_at (HBA.out.kb HKJ.out) h3
                  subst hA
                  have HS4 := hid (HR3.out.trans (by rw [List.drop_eq_getElem_cons h3, List.all_cons]))
                  have HXI := hid hx
                  have HXU := hid (HBU.out cb[j] (List.getElem_mem h3))
                  clear HR3 hx
                  generalize cb[j] = x at *
                  clear h3
                  go_upto_region 20 with fail
                  refine wp_name ?_
                  intro u5 hu5
                  have HG := hid (show Box u5 wy.heap.size (wtC x) from by rw [hu5]; exact Box.new wy (wtC x) 89)
                  have HK6 := hid (show KB wy.heap.size wy u5 from by rw [hu5]; exact kb_new _ _)
                  have HKL := hid (kb_tr HKJ.out HK6.out)
                  have HO5 := hid (HO3.out.kb HK6.out)
                  have HMET := hid (HCT.out x u5 HKL.out (HXI.out.kb HK6.out) HXU.out)
                  clear hu5 d0 d1 d2 hbl HXI HXU HO3
                  have HXW := hid (HX.out.kb HKL.out)
                  have x0 := HXW.out.2 0 _ rfl
                  have xl := HXW.out.1
                  have y0 := HG.out.2 0 _ rfl
                  have y1 := HG.out.2 1 _ rfl
                  have y2 := HG.out.2 2 _ rfl
                  have yl := HG.out.1
                  generalize x.fin.length = nf at *
                  generalize x.pre.length = np at *
                  generalize mt x = r at *
                  go_wp2_with fail
                  refine HMET.out.mono ?_
                  rintro _ u6 ⟨rfl, hb⟩
                  have HKN := hid (kb_tr HKL.out hb)
                  have HO6 := hid (HO5.out.kb hb)
                  clear hb x0 xl y0 y1 y2 yl HXW HG HO5 HMET
                  cases r with
                  | false =>
                    have HRS := hid (show res = (o.isEmpty && ((cb.drop (j + 1)).all (fun b => !mt b) && rr)) from by rw [HS4.out]; rfl)
                    go_wp2_with fail
                    refine ⟨⟨j + 1, _, o, by go_num, rfl, by omega, hid (by have := HOL.out; omega), HRS, HO6, HKN⟩, ?_⟩
                    simp [intOf] <;> omega
                  | true =>
                    have HRS := hid (show res = ((o ++ [(⟨3, (k : Int), (j : Int)⟩ : FaultP)]).isEmpty && ((cb.drop (j + 1)).all (fun b => !mt b) && rr)) from by rw [HS4.out]; cases o <;> simp)
                    have HRW := hid (show u6.ownsRow u0.heap.size 172 3 v3 o.length (o.flatMap fauC) from HO6.out)
                    have hsz : u0.heap.size ≤ u6.heap.size := HKN.out.size
                    have hol : o.length ≤ 1 + 48 * k + 48 := by have := HOL.out; omega
                    go_wp2_with (at_builtin; refine wpList_app1y EKfaults rfl (.tmp 75) (.tmp 79) rfl (fauC ⟨3, (k : Int), (j : Int)⟩) HRW.out rfl rfl rfl (fau_one ⟨3, (k : Int), (j : Int)⟩) (by unfold maxLen; omega) (by omega) hsz ?_; intro v' w3 h2 h3 h4 h5; have HO7 := hid (show OwnF w3 u0.heap.size v' (o ++ [⟨3, (k : Int), (j : Int)⟩]) from OwnL.snoc h2); have HK8 := hid (show KB u0.heap.size u0 w3 from Go.RowKit.Below.trans HKN.out h3.kb))
                    refine ⟨⟨j + 1, _, o ++ [⟨3, (k : Int), (j : Int)⟩], by go_num, rfl, by omega, hid (by rw [List.length_append]; have := HOL.out; simp; omega), HRS, HO7, HK8⟩, ?_⟩
                    simp [intOf] <;> omega
                · obtain rfl : j = nb := by omega
                  have j1 : ¬ (j : Int) < (j : Int) := by omega
                  have HRS := hid (show res = (o.isEmpty && (List.range' (k + 1) d).all (fineU us zs)) from by rw [HRR.out, HR3.out, List.drop_eq_nil_of_le (by rw [HBL.out]; exact Nat.le_refl _)]; rfl)
                  go_wp2_with fail
                  refine ⟨⟨k + 1, d, _, o, by go_num, rfl, by omega, hid (by have := HOL.out; omega), HRS, HO3, HKJ⟩, ?_⟩
                  simp [intOf] <;> omega
def holdsC (us : List UnitP) (zs : List Int) : Bool := mayCh us zs && rightCh us zs
set_option maxHeartbeats 1000000 in
theorem cholds_any (U : Option Addr) (uc : Nat) (us : List UnitP) (A : Option Addr) (c : Nat) (zs : List Int) (w : World) (hF : First w) (hU : UnitsAt w U us) (hA : IntsAt w A zs) (hn : zs.length ≤ 9223372036854775807) : Calls Tryz.prog 43 #[.agg #[.slice U us.length uc], .slice A zs.length c] w (BoolK w (holdsC us zs)) := by
  have HB0 := hid (kb_new w (.cells [.slice U us.length uc].toArray 42))
  have HX := hid (Box.new w [.slice U us.length uc] 42)
  have HMA := hid (fun u (hb : KB w.heap.size w u) => chmay_any U uc us A c zs u (hF.kb hb) (hU.kb hb) (hA.kb hb) hn)
  have HWR := hid (fun u (hb : KB w.heap.size w u) => cwrong_any U uc us A c zs u (hF.kb hb) (hU.kb hb) (hA.kb hb) hn)
  have HH := hid (show holdsC us zs = (mayCh us zs && rightCh us zs) from rfl)
  clear hF hU hA
  generalize holdsC us zs = res at *
  generalize mayCh us zs = mc at *
  generalize rightCh us zs = rc at *
  generalize us.length = m at *
  generalize zs.length = n at *
  go_enter Tryz.func43, Tryz.ntmps43
  go_upto_region 1 with fail
  refine wp_name ?_
  intro u1 hu1
  rw [← hu1] at HX HB0
  clear hu1
  have x0 := HX.out.2 0 _ rfl
  have xl := HX.out.1
  go_wp2_with fail
  refine (HMA.out u1 HB0.out).mono ?_
  rintro _ u2 ⟨rfl, hb⟩
  have HK2 := hid (kb_tr HB0.out hb)
  have HX2 := hid (HX.out.kb hb)
  clear hb x0 xl
  have x0 := HX2.out.2 0 _ rfl
  have xl := HX2.out.1
  cases mc with
  | false =>
    go_wp2_with fail
    go_ret
    exact ⟨by rw [HH.out]; rfl, HK2.out⟩
  | true =>
    go_wp2_with fail
    refine (HWR.out u2 HK2.out).mono ?_
    rintro _ u3 ⟨A', n', c', rfl, he, hb⟩
    have HK3 := hid (kb_tr HK2.out hb)
    have HE := hid he
    clear hb he
    go_wp2_with fail
    go_ret
    have hr : rc = decide (n' = 0) := by have := HE.out; simpa using this.symm
    refine ⟨?_, HK3.out⟩
    show Ending.returned (.bool ((n' : Int) == 0)) = _
    rw [HH.out, hr]
    by_cases hn' : n' = 0 <;> simp [hn']
end Go.Proofs.YtlmkglgjdmjnkaaGreatDoor
