/- Parts 24 of the proofs. -/
import Derived.Test.YtlmkglgjdmjnkaaGreatDoorQ23
namespace Go.Proofs.YtlmkglgjdmjnkaaGreatDoor
open Go.RowKit Go.Lib
open Rw
set_option linter.unusedVariables false
set_option linter.unusedSimpArgs false
def wantN (us : List UnitP) (zs : List Int) (names : List ByteArray) (a b : Nat) (x : WantP) : Bool := match us[x.unit.toNat]? with
  | some y => (findP (fun t => sameB y.name t) 0 names == (b : Int)) && (!(decide (b = a)) && (bits .and .i64 (metT us x) (valT zs x.unit.toNat) != 0))
  | none => false
def unitN (us : List UnitP) (zs : List Int) (names : List ByteArray) (a b k : Nat) : Bool := match us[k]?, zs[k]? with
  | some y, some z => decide (0 < k) && ((findP (fun t => sameB y.name t) 0 names == (a : Int)) && (decide (0 ≤ z) && (match y.cands[z.toNat]? with
    | some c => (c.needs.flatMap (·.l)).any (wantN us zs names a b)
    | none => false)))
  | _, _ => false
def needB (us : List UnitP) (zs : List Int) (names : List ByteArray) (a b : Nat) : Bool := (List.range' 0 us.length).any (unitN us zs names a b)
theorem any_range_succ (f : Nat → Bool) (k d : Nat) : (List.range' k (d + 1)).any f = (f k || (List.range' (k + 1) d).any f) := by rw [List.range'_succ, List.any_cons]
def TabK (w : World) (n : Nat) (G : Nat → Nat → Bool) (e : Ending) (w' : World) : Prop := ∃ (g : Nat) (h : Nat → Nat) (F : Nat → Nat → Bool), e = .returned (.slice (some ⟨g, 0, none⟩) n n) ∧ Mat w.heap.size w' g n n h F ∧ (∀ a b, a < n → b < n → F a b = G a b) ∧ KB w.heap.size w w'
set_option maxRecDepth 100000 in
set_option maxHeartbeats 1000000 in
theorem pneeds_any (U : Option Addr) (uc : Nat) (us : List UnitP) (A : Option Addr) (c : Nat) (zs : List Int) (N : Option Addr) (nc : Nat) (names : List ByteArray) (w : World) (hF : First w) (hU : UnitsAt w U us) (hA : IntsAt w A zs) (hN : Texts w N names) (hn : names.length ≤ 1000) (hmw : mayWd us = true) (hft : fitsC us zs = true) : Calls Tryz.prog 45 #[.agg #[.slice U us.length uc], .slice A zs.length c, .slice N names.length nc] w (TabK w names.length (needB us zs names)) := by
  have HB0 := hid (kb_new w (.cells [.slice U us.length uc].toArray 42))
  have HX := hid (Box.new w [.slice U us.length uc] 42)
  have HU := hid (hU.kb HB0.out)
  have HZ := hid (hA.kb HB0.out)
  have HN := hid (hN.kb HB0.out)
  have HF := hid (hF.kb HB0.out)
  have hml := mayWd_len hmw
  have hlen : zs.length = us.length := by
    unfold fitsC at hft
    simp only [Bool.and_eq_true, decide_eq_true_eq] at hft
    exact hft.1
  have HFG := hid (show fitsG zs us = true from by
    unfold fitsC at hft
    simp only [Bool.and_eq_true, decide_eq_true_eq] at hft
    exact hft.2)
  have HC16 := hid (show ∀ y ∈ us, y.cands.length ≤ 16 from by
    intro y hy
    obtain ⟨k, hk, rfl⟩ := List.getElem_of_mem hy
    have h := hmw
    unfold mayWd at h
    rw [Bool.and_eq_true, List.all_eq_true] at h
    have h1 := h.2 k (by rw [List.mem_range'_1]; omega)
    unfold okU at h1
    rw [List.getElem?_eq_getElem hk] at h1
    dsimp only at h1
    rw [Bool.and_eq_true] at h1
    have h2 := h1.1
    unfold okHd at h2
    simp only [Bool.not_eq_true', Bool.or_eq_false_iff, decide_eq_false_iff_not] at h2
    omega)
  have HMET := hid (fun (x : WantP) u (hb : KB (w.alloc (.cells [.slice U us.length uc].toArray 42)).heap.size (w.alloc (.cells [.slice U us.length uc].toArray 42)) u) (hx : WantIs u x) (h0 : 0 ≤ x.unit ∧ x.unit < (us.length : Int)) => tmet_any U uc us x u (HF.out.kb hb) (HU.out.kb hb) hx h0.1 h0.2 HC16.out)
  have HVAL := hid (fun (q : Nat) (hq : q < us.length) u (hb : KB (w.alloc (.cells [.slice U us.length uc].toArray 42)).heap.size (w.alloc (.cells [.slice U us.length uc].toArray 42)) u) => tvalue_any U uc us A c zs q u (HU.out.kb hb) (HZ.out.kb hb) (by omega) hft hq (fun y hy => by have := HC16.out y hy; omega))
  have HIDX := hid (fun (s : ByteArray) u (hb : KB (w.alloc (.cells [.slice U us.length uc].toArray 42)).heap.size (w.alloc (.cells [.slice U us.length uc].toArray 42)) u) => sindex_any N nc names s u (HN.out.kb hb) (by omega))
  have HMC := hid (show ∀ (m' : Nat), us.length = m' → ∀ (k j : Nat) (hk : k < us.length) (hj : j < us[k].cands.length), mayCd (m' : Int) us[k].cands[j] = true from by rintro _ rfl k j hk hj; exact mayWd_cand hmw hk hj)
  have HFI := hid (fun (s : ByteArray) => findP_in (fun t => sameB s t) 0 names)
  have HG0 := hid (fun (a b : Nat) => show needB us zs names a b = (false || (List.range' 0 us.length).any (unitN us zs names a b)) from by unfold needB; simp)
  have HUN := hid (fun (a b k : Nat) (h1 : k < us.length) (h2 : k < zs.length) => show unitN us zs names a b k = (decide (0 < k) && ((findP (fun t => sameB us[k].name t) 0 names == (a : Int)) && (decide (0 ≤ zs[k]) && (match us[k].cands[zs[k].toNat]? with
    | some c => (c.needs.flatMap (·.l)).any (wantN us zs names a b)
    | none => false)))) from by unfold unitN; rw [List.getElem?_eq_getElem h1, List.getElem?_eq_getElem h2])
  have HWN := hid (fun (a b : Nat) (x : WantP) (q : Nat) (h1 : q < us.length) (h2 : x.unit = (q : Int)) => show wantN us zs names a b x = ((findP (fun t => sameB us[q].name t) 0 names == (b : Int)) && (!(decide (b = a)) && (bits .and .i64 (metT us x) (valT zs q) != 0))) from by unfold wantN; rw [h2, Int.toNat_natCast, List.getElem?_eq_getElem h1])
  clear hF hU hA hN hmw hft
  generalize needB us zs names = G at *
  generalize unitN us zs names = uN at *
  generalize wantN us zs names = wN at *
  obtain ⟨m, hm⟩ : ∃ m, us.length = m := ⟨_, rfl⟩
  rw [hm] at HX HB0 HU HZ HF HN HMET HVAL HIDX HG0 hml hlen ⊢
  rw [hlen] at HVAL ⊢
  obtain ⟨n, hnn⟩ : ∃ n, names.length = n := ⟨_, rfl⟩
  rw [hnn] at hn HIDX HFI ⊢
  have HM := hid hm
  have HZL := hid hlen
  clear hm hnn hlen
  go_enter Tryz.func45, Tryz.ntmps45
  go_upto_region 1 with fail
  refine wp_name ?_
  intro u0 hu0
  rw [← hu0] at HX HB0 HU HZ HF HN HMET HVAL HIDX
  clear hu0
  obtain ⟨i1, e1, e2, e3, e4⟩ := bools_info
  obtain ⟨i2, f1, f2, f3, f4⟩ := bool_info
  have HI1 := hid (And.intro e1 (And.intro e2 (And.intro e3 e4)))
  have HI2 := hid (And.intro f1 (And.intro f2 (And.intro f3 f4)))
  clear e1 e2 e3 e4 f1 f2 f3 f4
  go_upto_region 2 with (at_make; refine wpList_make_full u0 rfl _ _ _ rfl u0.heap.size 112 i1 (.slice none 0 0) 1 Tryz.underlying110 HI1.out.1 HI1.out.2.1 HI1.out.2.2.1 .i64 .i64 n n n rfl rfl rfl rfl (by rw [HI1.out.2.2.2]; omega) (by unfold maxLen; omega) (Nat.le_refl _) ?_; intro w1 h1 h2; have HR := hid (ArrV.of_own h1 (h1.lt _ rfl).2 (h1.lt _ rfl).1); have HB := hid (show KB u0.heap.size u0 w1 from (Go.RowKit.Below.refl _ _).grown h2 (Nat.le_refl _) (fun k hk => by cases hk)); clear h1 h2)
  have HM0 := hid (show Mat u0.heap.size w1 u0.heap.size n 0 (fun _ => 0) (fun _ _ => false) from ⟨HR.out.same fun j _ => by rw [if_neg (by omega)], fun k hk => by omega, fun k hk => by omega, fun i j hi => by omega⟩)
  clear HR
  go_upto_block 0 with fail
  go_wp2_with fail
  go_loopw [20] (fun iv wr => ∃ (k : Nat) (h : Nat → Nat), iv = .int .i64 (k : Int) ∧ k ≤ n ∧ Hid (Mat u0.heap.size wr u0.heap.size n k h (fun _ _ => false)) ∧ Hid (KB u0.heap.size u0 wr)) (fun iv _ => n - (intOf iv).toNat)
  case atStart => exact ⟨0, _, rfl, Nat.zero_le _, HM0, HB⟩
  case round =>
    clear HM0 HB
    rename World => wr
    obtain ⟨k, h, rfl, hk, HMT, HK⟩ := hrel
    have k0 : (0 : Int) ≤ (k : Int) := by omega
    by_cases hlt : k < n
    · have k1 : (k : Int) < (n : Int) := by omega
      have HL := hid HMT.out.row.lt
      have HLT := hid hlt
      go_wp2_with (at_make; refine wpList_make_full wr rfl _ _ _ rfl wr.heap.size 4 i2 (.bool false) 1 Tryz.underlying112 HI2.out.1 HI2.out.2.1 HI2.out.2.2.1 .i64 .i64 n n n rfl rfl rfl rfl (by rw [HI2.out.2.2.2]; omega) (by unfold maxLen; omega) (Nat.le_refl _) ?_; intro w2 h1 h2; have HR2 := hid (ArrV.of_own h1 (h1.lt _ rfl).2 (h1.lt _ rfl).1); have HB2 := hid (show KB wr.heap.size wr w2 from (Go.RowKit.Below.refl _ _).grown h2 (Nat.le_refl _) (fun k hk => by cases hk)); clear h1 h2; have HM2 := hid (HMT.out.kb HB2.out); have sf : ∀ j, w2.frozen? ⟨u0.heap.size, j, none⟩ = false := HM2.out.row.soft; have cg := HM2.out.row.cell k HLT.out; rw [if_neg (Nat.lt_irrefl k)] at cg)
      refine ⟨⟨k + 1, _, by go_num, by omega, hid ((HM2.out.add HLT.out (f := fun _ => false) (HR2.out.base HK.out.size) (by have := HL.out; omega) (fun i hi => by have := (HMT.out.sub i hi).lt; omega)).same fun _ _ _ _ => by split <;> rfl), hid (kb_putJ (kb_tr HK.out HB2.out) (Nat.le_refl _) _)⟩, ?_⟩
      simp [intOf] <;> omega
    · obtain rfl : n = k := by omega
      have k1 : ¬ (n : Int) < (n : Int) := by omega
      have HXW := hid (HX.out.kb HK.out)
      have x0 := HXW.out.2 0 _ rfl
      have xl := HXW.out.1
      go_upto_block 2 with fail
      clear x0 xl HXW
      go_wp2_with fail
      go_loopw [33] (fun iv wx => ∃ (i d : Nat) (F : Nat → Nat → Bool), iv = .int .i64 (i : Int) ∧ i + d = m ∧ Hid (∀ a b, a < n → b < n → G a b = (F a b || (List.range' i d).any (uN a b))) ∧ Hid (Mat u0.heap.size wx u0.heap.size n n h F) ∧ Hid (KB u0.heap.size u0 wx)) (fun iv _ => m - (intOf iv).toNat)
      case atStart => exact ⟨0, m, _, rfl, Nat.zero_add m, hid (fun a b _ _ => HG0.out a b), HMT, HK⟩
      case round =>
        clear HMT HK HG0
        rename World => wx
        obtain ⟨i, d, F, rfl, hid1, HGR, HMT, HKX⟩ := hrel
        have i0 : (0 : Int) ≤ (i : Int) := by omega
        cases d with
        | zero =>
          obtain rfl : m = i := by omega
          have k2 : ¬ (m : Int) < (m : Int) := by omega
          go_wp2_with fail
          try rw [Exit.noGoto_ret]
          try (first | go_ret | go_ret2)
          exact ⟨_, h, F, rfl, HMT.out.base HB0.out.size, fun a b ha hb => by rw [HGR.out a b ha hb]; simp, kb_tr HB0.out HKX.out⟩
        | succ d =>
          have h1 : i < us.length := by rw [HM.out]; omega
          have h2 : i < zs.length := by rw [HZL.out]; omega
          have k2 : (i : Int) < (m : Int) := by omega
          obtain ⟨bu, ou, hUu, hui, hbu0, cn0, cf0, cc0⟩ := unit_at HU.out h1
          obtain ⟨bz, oz, hAz, hbz0, cz0⟩ := int_at HZ.out h2
          subst hUu
          subst hAz
          have cn := cell_kb hbu0 HKX.out cn0
          have cf := cell_kb hbu0 HKX.out cf0
          have cc := cell_kb hbu0 HKX.out cc0
          have hbu := Nat.lt_of_lt_of_le hbu0 HKX.out.size
          have HCZ := hid (And.intro hbz0 cz0)
          have HGS := hid (fun a b ha hb => (HGR.out a b ha hb).trans (by rw [any_range_succ, HUN.out a b i h1 h2]))
          obtain ⟨hz0, y, hy, hz1⟩ := fits_at HFG.out i h2
          have hyu : us[i] = y := by rw [List.getElem?_eq_getElem h1] at hy; injection hy
          have HMCD := hid (HMC.out m HM.out i)
          have HMCE := hid (fun (j : Nat) (hj : j < y.cands.length) => show mayCd (m : Int) y.cands[j] = true from by subst hyu; exact HMCD.out j h1 hj)
          rw [hyu] at hui cn cf cc HGS
          have HUI := hid hui
          clear HGR HMCD cn0 cf0 cc0 hbu0 hbz0 cz0 hyu hy hui
          generalize zs[i] = z at *
          obtain ⟨yn, yf, yc, yA, yd⟩ := y
          dsimp only at HGS HUI HMCE cn cf cc hz1
          go_upto_region 10 with fail
          refine wp_name ?_
          intro u3 hu3
          have HG3 := hid (show Box u3 wx.heap.size [.string yn, .string yf, .slice yA yc.length yd] from by rw [hu3]; exact Box.new wx [.string yn, .string yf, .slice yA yc.length yd] 82)
          have HK3 := hid (show KB wx.heap.size wx u3 from by rw [hu3]; exact kb_new _ _)
          have HKK := hid (kb_tr HKX.out HK3.out)
          have HMT3 := hid (HMT.out.kb HK3.out)
          clear hu3 cn cf cc hbu HMT
          have c0 := HG3.out.2 0 _ rfl
          have cl := HG3.out.1
          have HPI := hid (HFI.out yn)
          have HIX := hid (HIDX.out yn u3 HKK.out)
          generalize findP (fun t => sameB yn t) 0 names = p at *
          go_wp2_with fail
          refine HIX.out.mono ?_
          rintro _ _ ⟨rfl, rfl⟩
          by_cases g1 : i = 0
          · subst g1
            have HNO := hid (fun a b ha hb => (HGS.out a b ha hb).trans (show _ = (F a b || (List.range' (0 + 1) d).any (uN a b)) from by simp))
            go_wp2_with fail
            refine ⟨⟨0 + 1, d, F, by go_num, by omega, HNO, HMT3, HKK⟩, ?_⟩
            simp [intOf] <;> omega
          have gi : ¬ (i : Int) = 0 := by omega
          have gi2 : ((i : Int) == 0) = false := by rw [beq_eq_false_iff_ne]; exact gi
          by_cases g2 : p < 0
          · have HNO := hid (fun a b ha hb => (HGS.out a b ha hb).trans (show _ = (F a b || (List.range' (i + 1) d).any (uN a b)) from by rw [show (p == (a : Int)) = false from by rw [beq_eq_false_iff_ne]; omega]; simp))
            go_wp2_with fail
            refine ⟨⟨i + 1, d, F, by go_num, by omega, HNO, HMT3, HKK⟩, ?_⟩
            simp [intOf] <;> omega
          have cz := cell_kb HCZ.out.1 HKK.out HCZ.out.2
          have lz := Nat.lt_of_lt_of_le HCZ.out.1 HKK.out.size
          by_cases g3 : z < 0
          · have HNO := hid (fun a b ha hb => (HGS.out a b ha hb).trans (show _ = (F a b || (List.range' (i + 1) d).any (uN a b)) from by rw [show decide (0 ≤ z) = false from decide_eq_false (by omega)]; simp))
            go_wp2_with fail
            refine ⟨⟨i + 1, d, F, by go_num, by omega, HNO, HMT3, HKK⟩, ?_⟩
            simp [intOf] <;> omega
          obtain ⟨a0, rfl⟩ := Int.eq_ofNat_of_zero_le (show 0 ≤ p by omega)
          obtain ⟨q, rfl⟩ := Int.eq_ofNat_of_zero_le (show 0 ≤ z by omega)
          have ha0 : a0 < n := by rcases HPI.out with h | ⟨_, h⟩ <;> omega
          have hq : q < yc.length := by omega
          obtain ⟨bc, oc, hyA, hci, hbc0, hccv⟩ := cand_val HUI.out.cands hq
          dsimp only at hyA hci hccv
          subst hyA
          have HME := hid (HMCE.out q hq)
          have HGT := hid (fun a b (ha : a < n) (hb : b < n) => (HGS.out a b ha hb).trans (show _ = (F a b || ((decide (a = a0) && (yc[q].needs.flatMap (·.l)).any (wN a b)) || (List.range' (i + 1) d).any (uN a b))) from by
            rw [decide_eq_true (show 0 < i by omega), decide_eq_true (show (0 : Int) ≤ (q : Int) by omega), Int.toNat_natCast, List.getElem?_eq_getElem hq]
            by_cases e : a = a0
            · subst e; simp
            · rw [decide_eq_false e, show ((a0 : Int) == (a : Int)) = false from by rw [beq_eq_false_iff_ne]; omega]; simp))
          have HCI := hid hci
          have HCV := hid hccv
          have HBC := hid hbc0
          clear hci hccv hbc0 HGS HMCE HUI HPI HIX
          have q1 : (q : Int) < (yc.length : Int) := by omega
          have q0 : (0 : Int) ≤ (q : Int) := by omega
          generalize yc[q] = cd at *
          obtain ⟨cv, cs, cn, cb, cA, ck, cB, cD⟩ := cd
          dsimp only at HGT HCI HME HCV
          obtain ⟨hn24, -, hnu, -⟩ := mayCd_in HME.out
          dsimp only at hn24 hnu
          have HNA := hid HCI.out.needs
          dsimp only at HNA
          have hfl : (cn.flatMap (·.l)).length ≤ 1000000 := by
            have := flat_le (K := 24) (·.l) cn (fun x hx => (hnu x hx).1)
            omega
          have HNU := hid (show ∀ x ∈ cn.flatMap (·.l), WantIs u0 x ∧ (0 ≤ x.unit ∧ x.unit < (m : Int)) from by
            intro x hx
            obtain ⟨nd, hnd, hx⟩ := List.mem_flatMap.1 hx
            exact ⟨(HNA.out.sub nd hnd).sub x hx, (hnu nd hnd).2 x hx⟩)
          have HCAT := hid (fun u (hb : KB u0.heap.size u0 u) => wcat_any cA ck cn u (HNA.out.kb hb) hfl)
          clear hnu HME HCI HNA
          go_upto_region 12 with fail
          clear c0 cl cz lz
          generalize cn.flatMap (·.l) = fl at *
          generalize yc.length = ny at *
          have hS : KB u3.heap.size u3 u3.drew := kb_drewJ (kb_refl _)
          refine wp_planS (fun u => KB u3.heap.size u3 u) (.call [0, 1, 2, 3, 4, 5, 6, 7, 8, 11] 9 (.last [10])) (by first | assumption | skip) (by kernel_rfl) (by intro _ _ d _ _ h; cases d <;> exact h) (by kernel_rfl) ?_
          have iS : Nonempty (SW fun u => KB u3.heap.size u3 u) := ⟨⟨_, hS⟩⟩
          have c2 := fun (z : SW fun u => KB u3.heap.size u3 u) => (HG3.out.kb z.ok).2 2 _ rfl
          have cl := fun (z : SW fun u => KB u3.heap.size u3 u) => (HG3.out.kb z.ok).1
          have cz := fun (z : SW fun u => KB u3.heap.size u3 u) => cell_kb HCZ.out.1 (kb_tr HKK.out z.ok) HCZ.out.2
          have lz := fun (z : SW fun u => KB u3.heap.size u3 u) => Nat.lt_of_lt_of_le HCZ.out.1 (kb_tr HKK.out z.ok).size
          have t6 := fun (z : SW fun u => KB u3.heap.size u3 u) => HCV.out _ (kb_tr HKK.out z.ok) 6 _ rfl
          have tl := fun (z : SW fun u => KB u3.heap.size u3 u) => Nat.lt_of_lt_of_le HBC.out (kb_tr HKK.out z.ok).size
          with_reducible refine plan_call ?_
          simp only [pickOps, List.map_cons, List.map_nil, List.getElem?_toArray, List.getElem?_cons_zero, List.getElem?_cons_succ, Option.getD_some]
          repeat go_big_quiet_step (fail)
          refine wpQuiet_nil ?_
          go_wp2_with fail
          refine (HCAT.out _ (kb_tr HKK.out hS)).mono ?_
          rintro _ u5 ⟨v5, rfl, hown, hb⟩
          have HK5 := hid (show KB u3.heap.size u3 u5 from kb_tr hS hb)
          obtain ⟨A5, c5, rfl, hlie, hblk, -⟩ := OwnL.lies (f := wtC) (n := 3) (fun _ => rfl) hown
          have HLI := hid hlie
          have HBL := hid (show ∀ ad, A5 = some ad → u3.heap.size ≤ ad.block from fun ad h => (hblk ad h).1)
          have HMT5 := hid (HMT3.out.kb HK5.out)
          have HK50 := hid (kb_tr HKK.out HK5.out)
          have HHL := hid (fun j (hj : j < n) => (HMT3.out.sub j hj).lt)
          clear hb hown hlie hblk
          go_wp2_with fail
          refine plan_onS (HK5.out) ?_
          with_reducible refine plan_last ?_
          simp only [pickOps, List.map_cons, List.map_nil, List.getElem?_toArray, List.getElem?_cons_zero, List.getElem?_cons_succ, Option.getD_some]
          repeat go_big_quiet_step (fail)
          refine wpQuiet_nil ?_
          clear iS c2 cl cz lz t6 tl HCAT HMT3
          obtain ⟨L, hL⟩ : ∃ L, fl.length = L := ⟨_, rfl⟩
          have HFL := hid hL
          rw [hL] at hfl ⊢
          clear hL
          go_upto_block 4 with fail
          go_wp2_with fail
          go_loopw [66] (fun jv wy => ∃ (j : Nat) (F : Nat → Nat → Bool), jv = .int .i64 (j : Int) ∧ j ≤ L ∧ Hid (∀ a b, a < n → b < n → G a b = (F a b || ((decide (a = a0) && (fl.drop j).any (wN a b)) || (List.range' (i + 1) d).any (uN a b)))) ∧ Hid (Mat u0.heap.size wy u0.heap.size n n h F) ∧ Hid (Lies 3 wtC wy A5 fl) ∧ Hid (KB u0.heap.size u0 wy)) (fun jv _ => L - (intOf jv).toNat)
          case atStart => exact ⟨0, F, rfl, Nat.zero_le _, HGT, HMT5, HLI, HK50⟩
          case round =>
            clear HGT HMT5 HLI HK50
            rename World => wy
            obtain ⟨j, F, rfl, hj, HGR, HMT, HLI, HKY⟩ := hrel
            have j0 : (0 : Int) ≤ (j : Int) := by omega
            by_cases hlt : j < L
            · have h3 : j < fl.length := by rw [HFL.out]; exact hlt
              have j1 : (j : Int) < (L : Int) := by omega
              obtain ⟨b5, o5, hA5, hbl5, hc5⟩ := HLI.out.at_ h3
              subst hA5
              have HS4 := hid (fun a b (ha : a < n) (hb : b < n) => (HGR.out a b ha hb).trans (by rw [List.drop_eq_getElem_cons h3, List.any_cons]))
              obtain ⟨HXW0, HXU⟩ := HNU.out fl[j] (List.getElem_mem h3)
              have HXI := hid HXW0
              obtain ⟨xq, hxq⟩ := Int.eq_ofNat_of_zero_le HXU.1
              have hxl : xq < us.length := by rw [HM.out]; omega
              have HWX := hid (fun a b => HWN.out a b fl[j] xq hxl hxq)
              have HMETX := hid (fun u (hb : KB u0.heap.size u0 u) => HMET.out fl[j] u hb (HXI.out.kb hb) HXU)
              have d0 := hc5 0 _ rfl
              have d1 := hc5 1 _ rfl
              have d2 := hc5 2 _ rfl
              rw [Nat.add_zero] at d0
              clear hc5 HGR
              generalize fl[j] = x at *
              obtain ⟨xu, xf, xp, xA, xc, xB, xd⟩ := x
              dsimp only at hxq d0 d1 d2 HMETX HXU
              subst hxq
              obtain ⟨bu', ou', hUu', -, hbu', cn', -, -⟩ := unit_at HU.out hxl
              have hUu' := Option.some.inj hUu'
              injection hUu' with e1 e2 e3
              subst e1
              subst e2
              have HCN := hid (And.intro hbu' cn')
              have HVX := hid (HVAL.out xq (by rw [← HM.out]; exact hxl))
              clear hbu' cn' h3
              generalize us[xq] = y' at *
              obtain ⟨yn', yf', yc', yA', yd'⟩ := y'
              dsimp only at HWX HCN
              go_upto_region 15 with fail
              refine wp_name ?_
              intro u6 hu6
              have HG6 := hid (show Box u6 wy.heap.size [.int .i64 (xq : Int), .slice xA xf.length xc, .slice xB xp.length xd] from by rw [hu6]; exact Box.new wy [.int .i64 (xq : Int), .slice xA xf.length xc, .slice xB xp.length xd] 89)
              have HK6 := hid (show KB wy.heap.size wy u6 from by rw [hu6]; exact kb_new _ _)
              have HKZ := hid (kb_tr HKY.out HK6.out)
              have HMT6 := hid (HMT.out.kb HK6.out)
              have HLI6 := hid (HLI.out.kb HK6.out)
              clear hu6 d0 d1 d2 hbl5 HMT HLI
              have HX6 := hid (HX.out.kb HKZ.out)
              have x0 := HX6.out.2 0 _ rfl
              have xl := HX6.out.1
              have y0 := HG6.out.2 0 _ rfl
              have yl := HG6.out.1
              have cn := cell_kb HCN.out.1 HKZ.out HCN.out.2
              have cln := Nat.lt_of_lt_of_le HCN.out.1 HKZ.out.size
              have xq0 : (0 : Int) ≤ (xq : Int) := by omega
              have xq1 : (xq : Int) < (m : Int) := HXU.2
              have HIX := hid (HIDX.out yn' u6 HKZ.out)
              have HPI := hid (HFI.out yn')
              generalize findP (fun t => sameB yn' t) 0 names = t at *
              generalize xf.length = nf at *
              generalize xp.length = np at *
              go_wp2_with fail
              refine HIX.out.mono ?_
              rintro _ _ ⟨rfl, rfl⟩
              go_upto_region 16 with fail
              clear x0 xl y0 yl cn cln
              have HMV := hid (HMETX.out u6.drew (kb_drewJ HKZ.out))
              have HVV := hid (fun u (hb : KB u6.heap.size u6 u) => HVX.out u (kb_tr HKZ.out hb))
              have HBB := hid (fun (a b : Nat) => HWX.out a b)
              generalize metT us _ = mt at *
              generalize valT zs xq = vt at *
              go_cut [97] from 79 to 98 (fun bv wz => bv = .bool (decide (0 ≤ t) && (!(decide (t = (a0 : Int))) && (bits .and .i64 mt vt != 0))) ∧ KB u6.heap.size u6 wz)
              case first =>
                have hS : KB u6.heap.size u6 u6.drew := kb_drewJ (kb_refl _)
                by_cases g4 : t < 0
                · have HNN := hid (show (decide (0 ≤ t) && (!(decide (t = (a0 : Int))) && (bits .and .i64 mt vt != 0))) = false from by rw [decide_eq_false (by omega)]; rfl)
                  have g5 : ¬ 0 ≤ t := by omega
                  refine wp_planS (fun u => KB u6.heap.size u6 u) (.call [0, 1, 2, 3, 4, 5, 6, 7, 8, 9, 11, 12, 13, 14] 10 (.call [] 15 (.last [16, 17, 18]))) (by first | assumption | skip) (by kernel_rfl) (by intro _ _ d _ _ h; cases d <;> exact h) (by kernel_rfl) ?_
                  have iS : Nonempty (SW fun u => KB u6.heap.size u6 u) := ⟨⟨_, hS⟩⟩
                  with_reducible refine plan_call ?_
                  simp only [pickOps, List.map_cons, List.map_nil, List.getElem?_toArray, List.getElem?_cons_zero, List.getElem?_cons_succ, Option.getD_some]
                  repeat go_big_quiet_step (fail)
                  refine wpQuiet_nil ?_
                  go_wp2_with fail
                  refine plan_onS hS ?_
                  with_reducible refine plan_call ?_
                  simp only [pickOps, List.map_cons, List.map_nil, List.getElem?_toArray, List.getElem?_cons_zero, List.getElem?_cons_succ, Option.getD_some]
                  repeat go_big_quiet_step (fail)
                  refine wpQuiet_nil ?_
                  go_wp2_with fail
                  refine plan_onS hS ?_
                  with_reducible refine plan_last ?_
                  simp only [pickOps, List.map_cons, List.map_nil, List.getElem?_toArray, List.getElem?_cons_zero, List.getElem?_cons_succ, Option.getD_some]
                  repeat go_big_quiet_step (fail)
                  refine wpQuiet_nil ?_
                  clear iS
                  go_wp2_with fail
                  go_meet
                  case rel => exact ⟨by rw [HNN.out], hS⟩
                have g5 : 0 ≤ t := by omega
                by_cases g6 : t = (a0 : Int)
                · have HNN := hid (show (decide (0 ≤ t) && (!(decide (t = (a0 : Int))) && (bits .and .i64 mt vt != 0))) = false from by rw [decide_eq_true g6]; simp)
                  subst g6
                  refine wp_planS (fun u => KB u6.heap.size u6 u) (.call [0, 1, 2, 3, 4, 5, 6, 7, 8, 9, 11, 12, 13, 14] 10 (.call [] 15 (.last [16, 17, 18]))) (by first | assumption | skip) (by kernel_rfl) (by intro _ _ d _ _ h; cases d <;> exact h) (by kernel_rfl) ?_
                  have iS : Nonempty (SW fun u => KB u6.heap.size u6 u) := ⟨⟨_, hS⟩⟩
                  with_reducible refine plan_call ?_
                  simp only [pickOps, List.map_cons, List.map_nil, List.getElem?_toArray, List.getElem?_cons_zero, List.getElem?_cons_succ, Option.getD_some]
                  repeat go_big_quiet_step (fail)
                  refine wpQuiet_nil ?_
                  go_wp2_with fail
                  refine plan_onS hS ?_
                  with_reducible refine plan_call ?_
                  simp only [pickOps, List.map_cons, List.map_nil, List.getElem?_toArray, List.getElem?_cons_zero, List.getElem?_cons_succ, Option.getD_some]
                  repeat go_big_quiet_step (fail)
                  refine wpQuiet_nil ?_
                  go_wp2_with fail
                  refine plan_onS hS ?_
                  with_reducible refine plan_last ?_
                  simp only [pickOps, List.map_cons, List.map_nil, List.getElem?_toArray, List.getElem?_cons_zero, List.getElem?_cons_succ, Option.getD_some]
                  repeat go_big_quiet_step (fail)
                  refine wpQuiet_nil ?_
                  clear iS
                  go_wp2_with fail
                  go_meet
                  case rel => exact ⟨by rw [HNN.out], hS⟩
                · have HNN := hid (show (decide (0 ≤ t) && (!(decide (t = (a0 : Int))) && (bits .and .i64 mt vt != 0))) = (bits .and .i64 mt vt != 0) from by rw [decide_eq_true g5, decide_eq_false g6]; rfl)
                  have g7 : (t != (a0 : Int)) = true := by rw [bne_iff_ne]; exact g6
                  refine wp_planS (fun u => KB u6.heap.size u6 u) (.call [0, 1, 2, 3, 4, 5, 6, 7, 8, 9, 11, 12, 13, 14] 10 (.call [] 15 (.last [16, 17, 18]))) (by first | assumption | skip) (by kernel_rfl) (by intro _ _ d _ _ h; cases d <;> exact h) (by kernel_rfl) ?_
                  have iS : Nonempty (SW fun u => KB u6.heap.size u6 u) := ⟨⟨_, hS⟩⟩
                  have q0 := fun (z : SW fun u => KB u6.heap.size u6 u) => (HX6.out.kb z.ok).2 0 _ rfl
                  have ql := fun (z : SW fun u => KB u6.heap.size u6 u) => (HX6.out.kb z.ok).1
                  have r0 := fun (z : SW fun u => KB u6.heap.size u6 u) => (HG6.out.kb z.ok).2 0 _ rfl
                  have r1 := fun (z : SW fun u => KB u6.heap.size u6 u) => (HG6.out.kb z.ok).2 1 _ rfl
                  have r2 := fun (z : SW fun u => KB u6.heap.size u6 u) => (HG6.out.kb z.ok).2 2 _ rfl
                  have rl := fun (z : SW fun u => KB u6.heap.size u6 u) => (HG6.out.kb z.ok).1
                  with_reducible refine plan_call ?_
                  simp only [pickOps, List.map_cons, List.map_nil, List.getElem?_toArray, List.getElem?_cons_zero, List.getElem?_cons_succ, Option.getD_some]
                  repeat go_big_quiet_step (fail)
                  refine wpQuiet_nil ?_
                  go_wp2_with fail
                  refine HMV.out.mono ?_
                  rintro _ u7 ⟨rfl, hb⟩
                  have HK7 := hid (show KB u6.heap.size u6 u7 from kb_tr hS hb)
                  clear hb
                  go_wp2_with fail
                  refine plan_onS (HK7.out) ?_
                  with_reducible refine plan_call ?_
                  simp only [pickOps, List.map_cons, List.map_nil, List.getElem?_toArray, List.getElem?_cons_zero, List.getElem?_cons_succ, Option.getD_some]
                  repeat go_big_quiet_step (fail)
                  refine wpQuiet_nil ?_
                  go_wp2_with fail
                  refine (HVV.out _ HK7.out).mono ?_
                  rintro _ u8 ⟨rfl, hb⟩
                  have HK8 := hid (show KB u6.heap.size u6 u8 from kb_tr HK7.out hb)
                  clear hb
                  go_wp2_with fail
                  refine plan_onS (HK8.out) ?_
                  with_reducible refine plan_last ?_
                  simp only [pickOps, List.map_cons, List.map_nil, List.getElem?_toArray, List.getElem?_cons_zero, List.getElem?_cons_succ, Option.getD_some]
                  repeat go_big_quiet_step (fail)
                  refine wpQuiet_nil ?_
                  clear iS q0 ql r0 r1 r2 rl
                  go_wp2_with fail
                  go_meet
                  case rel => exact ⟨by rw [HNN.out], HK8.out⟩
              case rest =>
                obtain ⟨rfl, hbc⟩ := hcut
                have HK9 := hid (kb_tr HKZ.out hbc)
                have HMT9 := hid (HMT6.out.kb hbc)
                have HLI9 := hid (HLI6.out.kb hbc)
                clear hbc HMT6 HLI6 HG6 HX6
                obtain ⟨ok, hok⟩ : ∃ b, (decide (0 ≤ t) && (!(decide (t = (a0 : Int))) && (bits .and .i64 mt vt != 0))) = b := ⟨_, rfl⟩
                rw [hok]
                have HOK := hid hok
                clear hok
                cases ok with
                | false =>
                  have HNO := hid (fun a b (ha : a < n) (hb : b < n) => (HS4.out a b ha hb).trans (show _ = (F a b || ((decide (a = a0) && (fl.drop (j + 1)).any (wN a b)) || (List.range' (i + 1) d).any (uN a b))) from by
                    by_cases e : a = a0
                    · subst e
                      have hw := HBB.out a b
                      have ho := HOK.out
                      rw [hw]
                      by_cases e2 : t = (b : Int)
                      · subst e2
                        rw [decide_eq_true (show (0 : Int) ≤ (b : Int) by omega), Bool.true_and] at ho
                        rw [beq_self_eq_true, Bool.true_and, show decide (b = a) = decide ((b : Int) = (a : Int)) from decide_eq_decide.2 ⟨fun h => by omega, fun h => by omega⟩, ho]
                        simp
                      · rw [show (t == (b : Int)) = false from by rw [beq_eq_false_iff_ne]; exact e2]
                        simp
                    · rw [decide_eq_false e]; simp))
                  go_wp2_with fail
                  refine ⟨⟨j + 1, F, by go_num, by omega, HNO, HMT9, HLI9, HK9⟩, ?_⟩
                  simp [intOf] <;> omega
                | true =>
                  have hoo := HOK.out
                  simp only [Bool.and_eq_true, decide_eq_true_eq, Bool.not_eq_true', decide_eq_false_iff_not] at hoo
                  obtain ⟨b0, rfl⟩ := Int.eq_ofNat_of_zero_le hoo.1
                  have hb0 : b0 < n := by rcases HPI.out with h | ⟨_, h⟩ <;> omega
                  have HHO := hid hoo
                  have HAB := hid (And.intro ha0 hb0)
                  have HNO := hid (fun a b (ha : a < n) (hb : b < n) => (HS4.out a b ha hb).trans (show _ = ((fun k i => if k = a0 ∧ i = b0 then true else F k i) a b || ((decide (a = a0) && (fl.drop (j + 1)).any (wN a b)) || (List.range' (i + 1) d).any (uN a b))) from by
                    have hw := HBB.out a b
                    have ho := HHO.out
                    rw [hw]
                    dsimp only
                    by_cases e : a = a0
                    · subst e
                      by_cases e2 : b0 = b
                      · subst e2
                        rw [if_pos ⟨rfl, rfl⟩, beq_self_eq_true, show decide (b0 = a) = false from decide_eq_false (fun e3 => ho.2.1 (by rw [e3])), ho.2.2]
                        simp
                      · rw [if_neg (fun e3 => e2 e3.2.symm), show ((b0 : Int) == (b : Int)) = false from by rw [beq_eq_false_iff_ne]; omega]
                        simp
                    · rw [decide_eq_false e, if_neg (fun e3 => e e3.1)]; simp))
                  have hh := HMT9.out.head ha0
                  have hgl := HMT9.out.row.lt
                  have hsub := HMT9.out.sub a0 ha0
                  have hal := hsub.lt
                  have sf : ∀ j, wc.frozen? ⟨h a0, j, none⟩ = false := hsub.soft
                  have cb := hsub.cell b0 hb0
                  have HPUT := hid (HMT9.out.put ha0 hb0 true)
                  have HLP := hid (lies_put (k := h a0) (j := b0) HLI9.out (fun ad e => by have := HBL.out ad e; have := HHL.out a0 ha0; omega) (.bool true))
                  have HKP := hid (kb_putJ (j := b0) HK9.out hsub.low (.bool true))
                  clear hsub
                  generalize h a0 = ha at *
                  have aa0 : (0 : Int) ≤ (a0 : Int) := by omega
                  have aa1 : (a0 : Int) < (n : Int) := by omega
                  have bb0 : (0 : Int) ≤ (b0 : Int) := by omega
                  have bb1 : (b0 : Int) < (n : Int) := by omega
                  go_wp2_with fail
                  refine ⟨⟨j + 1, _, by go_num, by omega, HNO, HPUT, HLP, HKP⟩, ?_⟩
                  simp [intOf] <;> omega
            · obtain rfl : L = j := by omega
              have j1 : ¬ (L : Int) < (L : Int) := by omega
              have HNO := hid (fun a b ha hb => (HGR.out a b ha hb).trans (show _ = (F a b || (List.range' (i + 1) d).any (uN a b)) from by rw [List.drop_eq_nil_of_le (by rw [HFL.out]; exact Nat.le_refl _)]; simp))
              go_wp2_with fail
              refine ⟨⟨i + 1, d, F, by go_num, by omega, HNO, HMT, HKY⟩, ?_⟩
              simp [intOf] <;> omega
end Go.Proofs.YtlmkglgjdmjnkaaGreatDoor
