/- Parts 19 of the proofs. -/
import Derived.Test.YtlmkglgjdmjnkaaGreatDoorQ18
namespace Go.Proofs.YtlmkglgjdmjnkaaGreatDoor
open Go.RowKit Go.Lib
open Rw
set_option linter.unusedVariables false
set_option linter.unusedSimpArgs false
def candAt (us : List UnitP) (u k : Nat) : Option CandP := (us[u]?).bind fun y => y.cands[k]?
def metC (us : List UnitP) (zs : List Int) (x : WantP) : Bool := match zs[x.unit.toNat]? with
  | some z => decide (0 ≤ z) && (match candAt us x.unit.toNat z.toNat with
    | some y => hasS x.fin x.pre y.v
    | none => false)
  | none => false
theorem cand_at {w : World} {A : Option Addr} {l : List CandP} {k : Nat} (h : CandsAt w A l) (hk : k < l.length) : ∃ b off, A = some ⟨b, off, none⟩ ∧ CandIs w l[k] ∧ b < w.heap.size ∧ ∀ (j : Nat) (v : Value), (cdC l[k])[j]? = some v → w.cell? ⟨b, off + k * 8 + j, none⟩ = some v := by
  obtain ⟨b, off, hA, hl, h2⟩ := h.row.at_ hk
  exact ⟨b, off, hA, h.sub _ (List.getElem_mem hk), hl, h2⟩
theorem fits_at : ∀ {zs : List Int} {us : List UnitP}, fitsG zs us = true → ∀ i (h : i < zs.length), -1 ≤ zs[i] ∧ ∃ y, us[i]? = some y ∧ zs[i] < (y.cands.length : Int)
  | [], _, _, i, h => by simp at h
  | z :: zs, [], hf, i, h => by cases hf
  | z :: zs, u :: us, hf, i, h => by
    rw [fitsG] at hf
    simp only [Bool.and_eq_true, Bool.not_eq_true', Bool.or_eq_false_iff, decide_eq_false_iff_not] at hf
    cases i with
    | zero => exact ⟨by simpa using by omega, u, rfl, by simpa using by omega⟩
    | succ i =>
      have h' : i < zs.length := by simpa using h
      obtain ⟨a, y, b, c⟩ := fits_at hf.2 i h'
      exact ⟨a, y, b, c⟩
set_option maxRecDepth 100000 in
set_option maxHeartbeats 4000000 in
theorem cmet_any (U : Option Addr) (uc : Nat) (us : List UnitP) (A : Option Addr) (c : Nat) (zs : List Int) (x : WantP) (w : World) (hF : First w) (hU : UnitsAt w U us) (hA : IntsAt w A zs) (hn : zs.length ≤ 9223372036854775807) (hx : WantIs w x) (hf : fitsC us zs = true) (hu0 : 0 ≤ x.unit) (hu1 : x.unit < (us.length : Int)) : Calls Tryz.prog 106 #[.agg #[.slice U us.length uc], .slice A zs.length c, .agg #[.int .i64 x.unit, .slice x.A x.fin.length x.c, .slice x.B x.pre.length x.d]] w (BoolK w (metC us zs x)) := by
  have hlen : zs.length = us.length := by
    unfold fitsC at hf
    simp only [Bool.and_eq_true, decide_eq_true_eq] at hf
    exact hf.1
  have hfg : fitsG zs us = true := by
    unfold fitsC at hf
    simp only [Bool.and_eq_true, decide_eq_true_eq] at hf
    exact hf.2
  obtain ⟨u, hu⟩ := Int.eq_ofNat_of_zero_le hu0
  have hul : u < us.length := by omega
  have hzl : u < zs.length := by omega
  obtain ⟨hz0, y, hy, hz1⟩ := fits_at hfg u hzl
  have hyu : us[u] = y := by rw [List.getElem?_eq_getElem hul] at hy; injection hy
  obtain ⟨bz, oz, hAz, hbz, cz⟩ := int_at hA hzl
  obtain ⟨bu, ou, hUu, hui, hbu, -, -, cu⟩ := unit_at hU hul
  rw [hyu] at hui cu
  have HM := hid (show metC us zs x = (decide (0 ≤ zs[u]) && (match candAt us u zs[u].toNat with
    | some y => hasS x.fin x.pre y.v
    | none => false)) from by unfold metC; rw [hu, Int.toNat_natCast, List.getElem?_eq_getElem hzl])
  have hcd : candAt us u zs[u].toNat = y.cands[zs[u].toNat]? := by unfold candAt; rw [hy]; rfl
  rw [hcd] at HM
  generalize zs[u] = z at *
  have HCD := hid hui.cands
  have HXI := hid hx
  have HFF := hid hF
  clear hui hcd hy hyu hfg hf hU hA hF hx hu1
  obtain ⟨xu, xf, xp, xA, xc, xB, xd⟩ := x
  dsimp only at hu hu0 HM HXI ⊢
  subst hu
  subst hAz
  subst hUu
  have hz0' : (0 : Int) ≤ (u : Int) := by omega
  have hu2 : (u : Int) < (us.length : Int) := by omega
  have hu3 : (u : Int) < (zs.length : Int) := by omega
  generalize metC us zs _ = res at *
  generalize us.length = m at *
  generalize zs.length = n at *
  obtain ⟨nc, hnc⟩ : ∃ n, y.cands.length = n := ⟨_, rfl⟩
  rw [hnc] at cu hz1
  have HNC := hid hnc
  have HCU := hid cu
  have HCZ := hid cz
  have HBZ := hid (And.intro hbz hbu)
  clear hnc cu cz hbz hbu
  go_enter Tryz.func106, Tryz.ntmps106
  go_upto_region 1 with fail
  refine wp_name ?_
  intro u1 hu1
  have HK := hid (show KB w.heap.size w u1 from by rw [hu1]; exact kb_tr (kb_new _ _) (kb_new _ _))
  have HB1 := hid (show Box u1 w.heap.size [.slice (some ⟨bu, ou, none⟩) m uc] from by rw [hu1]; exact (Box.new w [.slice (some ⟨bu, ou, none⟩) m uc] _).kb (kb_new _ _))
  have HB2 := hid (show Box u1 (w.heap.size + 1) [.int .i64 (u : Int), .slice xA xf.length xc, .slice xB xp.length xd] from by rw [hu1]; have h := Box.new (w.alloc (.cells [.slice (some ⟨bu, ou, none⟩) m uc].toArray 42)) [.int .i64 (u : Int), .slice xA xf.length xc, .slice xB xp.length xd] 89; rwa [World.size_alloc] at h)
  clear hu1
  have hg2 : w.heap.size ≠ w.heap.size + 1 := by omega
  generalize w.heap.size + 1 = g2 at *
  have cz := cell_kb HBZ.out.1 HK.out HCZ.out
  have lz := Nat.lt_of_lt_of_le HBZ.out.1 HK.out.size
  have b20 := HB2.out.2 0 _ rfl
  have l2 := HB2.out.1
  go_upto_region 2 with fail
  have hS : KB u1.heap.size u1 u1.drew := kb_drewJ (kb_refl _)
  by_cases hz : 0 ≤ z
  · obtain ⟨k, rfl⟩ := Int.eq_ofNat_of_zero_le hz
    have hkl : k < y.cands.length := by rw [HNC.out]; omega
    obtain ⟨bc, oc, hyA, hci, hbc, hcc⟩ := cand_at HCD.out hkl
    have HM2 := hid (show res = hasS xf xp y.cands[k].v from by rw [HM.out, Int.toNat_natCast, List.getElem?_eq_getElem hkl]; simp)
    generalize y.cands[k] = cd at *
    obtain ⟨cv, cs, cn, cb, cA, cc, cB, cD⟩ := cd
    dsimp only at hcc HM2 hci
    rw [hyA] at HCU
    have HCC := hid (fun (u : World) (hb : KB w.heap.size w u) (j : Nat) (v : Value) (h : _ = some v) => cell_kb hbc hb (hcc j v h))
    have HBC := hid hbc
    have HVF := hid hci.v
    clear hcc hbc hci hyA hkl HM
    have HH := hid (fun (u : World) (hb : KB w.heap.size w u) => shas_any xA xB xc xd xf xp cv u (HFF.out.kb hb) (HXI.out.s1.kb hb) (HXI.out.s2.kb hb) HXI.out.f1 HXI.out.f2 (by have h : xf.length ≤ 1000000 := HXI.out.n1; omega) (by have h : xp.length ≤ 1000000 := HXI.out.n2; omega) HVF.out)
    have k0 : (0 : Int) ≤ (k : Int) := by omega
    have k1 : (k : Int) < (nc : Int) := hz1
    unfold setV at HH
    generalize hasS xf xp cv = rb at *
    clear cz lz b20 l2
    generalize xf.length = nf at *
    generalize xp.length = np at *
    refine wp_planS (fun u => KB u1.heap.size u1 u) (.call [0, 1, 2, 3, 4, 5, 6, 7, 8, 9, 10, 11, 12, 13, 14, 15] 16 (.last [17, 18])) (by first | assumption | skip) (by kernel_rfl) (by intro _ _ d _ _ h; cases d <;> exact h) (by kernel_rfl) ?_
    have iS : Nonempty (SW fun u => KB u1.heap.size u1 u) := ⟨⟨_, hS⟩⟩
    have q0 := fun (z : SW fun u => KB u1.heap.size u1 u) => (HB1.out.kb z.ok).2 0 _ rfl
    have ql := fun (z : SW fun u => KB u1.heap.size u1 u) => (HB1.out.kb z.ok).1
    have r0 := fun (z : SW fun u => KB u1.heap.size u1 u) => (HB2.out.kb z.ok).2 0 _ rfl
    have r1 := fun (z : SW fun u => KB u1.heap.size u1 u) => (HB2.out.kb z.ok).2 1 _ rfl
    have r2 := fun (z : SW fun u => KB u1.heap.size u1 u) => (HB2.out.kb z.ok).2 2 _ rfl
    have rl := fun (z : SW fun u => KB u1.heap.size u1 u) => (HB2.out.kb z.ok).1
    have su := fun (z : SW fun u => KB u1.heap.size u1 u) => cell_kb HBZ.out.2 (kb_tr HK.out z.ok) HCU.out
    have sl := fun (z : SW fun u => KB u1.heap.size u1 u) => Nat.lt_of_lt_of_le HBZ.out.2 (kb_tr HK.out z.ok).size
    have t0 := fun (z : SW fun u => KB u1.heap.size u1 u) => show z.v.cell? ⟨bc, oc + k * 8, none⟩ = _ from HCC.out _ (kb_tr HK.out z.ok) 0 _ rfl
    have t1 := fun (z : SW fun u => KB u1.heap.size u1 u) => HCC.out _ (kb_tr HK.out z.ok) 1 _ rfl
    have t2 := fun (z : SW fun u => KB u1.heap.size u1 u) => HCC.out _ (kb_tr HK.out z.ok) 2 _ rfl
    have t3 := fun (z : SW fun u => KB u1.heap.size u1 u) => HCC.out _ (kb_tr HK.out z.ok) 3 _ rfl
    have t4 := fun (z : SW fun u => KB u1.heap.size u1 u) => HCC.out _ (kb_tr HK.out z.ok) 4 _ rfl
    have tl := fun (z : SW fun u => KB u1.heap.size u1 u) => Nat.lt_of_lt_of_le HBC.out (kb_tr HK.out z.ok).size
    with_reducible refine plan_call ?_
    simp only [pickOps, List.map_cons, List.map_nil, List.getElem?_toArray, List.getElem?_cons_zero, List.getElem?_cons_succ, Option.getD_some]
    repeat go_big_quiet_step (fail)
    refine wpQuiet_nil ?_
    go_wp2_with fail
    refine (HH.out _ (kb_tr HK.out hS)).mono ?_
    rintro _ u2 ⟨rfl, hb⟩
    have HK2 := hid (show KB u1.heap.size u1 u2 from kb_tr hS hb.kb)
    clear hb
    go_wp2_with fail
    refine plan_onS (HK2.out) ?_
    with_reducible refine plan_last ?_
    simp only [pickOps, List.map_cons, List.map_nil, List.getElem?_toArray, List.getElem?_cons_zero, List.getElem?_cons_succ, Option.getD_some]
    repeat go_big_quiet_step (fail)
    refine wpQuiet_nil ?_
    clear iS q0 ql r0 r1 r2 rl su sl t0 t1 t2 t3 t4 tl
    go_wp2_with fail
    try rw [Exit.noGoto_ret]
    try go_ret
    exact ⟨by rw [HM2.out]; rfl, kb_tr HK.out HK2.out⟩
  · have hz2 : z < 0 := by omega
    have HM2 := hid (show res = false from by rw [HM.out, decide_eq_false hz]; rfl)
    clear cz lz b20 l2
    refine wp_planS (fun u => KB u1.heap.size u1 u) (.call [0, 1, 2, 3, 4, 5, 6, 7, 8, 9, 10, 11, 12, 13, 14, 15] 16 (.last [17, 18])) (by first | assumption | skip) (by kernel_rfl) (by intro _ _ d _ _ h; cases d <;> exact h) (by kernel_rfl) ?_
    have iS : Nonempty (SW fun u => KB u1.heap.size u1 u) := ⟨⟨_, hS⟩⟩
    with_reducible refine plan_call ?_
    simp only [pickOps, List.map_cons, List.map_nil, List.getElem?_toArray, List.getElem?_cons_zero, List.getElem?_cons_succ, Option.getD_some]
    repeat go_big_quiet_step (fail)
    refine wpQuiet_nil ?_
    go_wp2_with fail
    refine plan_onS hS ?_
    with_reducible refine plan_last ?_
    simp only [pickOps, List.map_cons, List.map_nil, List.getElem?_toArray, List.getElem?_cons_zero, List.getElem?_cons_succ, Option.getD_some]
    repeat go_big_quiet_step (fail)
    refine wpQuiet_nil ?_
    clear iS
    go_wp2_with fail
    try rw [Exit.noGoto_ret]
    try go_ret
    exact ⟨by rw [HM2.out]; rfl, kb_tr HK.out hS⟩
end Go.Proofs.YtlmkglgjdmjnkaaGreatDoor
namespace Go.Proofs.YtlmkglgjdmjnkaaGreatDoor
open Go.RowKit Go.Lib
open Rw
set_option linter.unusedVariables false
set_option linter.unusedSimpArgs false
set_option maxRecDepth 100000 in
set_option maxHeartbeats 4000000 in
theorem crow_any (U : Option Addr) (uc : Nat) (us : List UnitP) (A : Option Addr) (c : Nat) (zs : List Int) (L : Option Addr) (lc : Nat) (l : List WantP) (w : World) (hF : First w) (hU : UnitsAt w U us) (hA : IntsAt w A zs) (hn : zs.length ≤ 9223372036854775807) (hl : WantsAt w L l) (hf : fitsC us zs = true) (hb : ∀ x ∈ l, 0 ≤ x.unit ∧ x.unit < (us.length : Int)) : Calls Tryz.prog 105 #[.agg #[.slice U us.length uc], .slice A zs.length c, .slice L l.length lc] w (BoolK w (l.any (metC us zs))) := by
  have HM := hid (fun (x : WantP) (hx : x ∈ l) (u : World) (hk : KB w.heap.size w u) => cmet_any U uc us A c zs x u (hF.kb hk) (hU.kb hk) (hA.kb hk) hn ((hl.sub x hx).kb hk) hf (hb x hx).1 (hb x hx).2)
  have HL := hid hl
  have hlen := hl.len
  have HR0 := hid (show l.any (metC us zs) = (l.drop 0).any (metC us zs) from rfl)
  have HB0 := hid (kb_new w (.cells [.slice U us.length uc].toArray 42))
  have HX := hid (Box.new w [.slice U us.length uc] 42)
  clear hF hU hA hl hf hb
  generalize l.any (metC us zs) = res at *
  generalize metC us zs = mt at *
  generalize us.length = nu at *
  generalize zs.length = nz at *
  obtain ⟨m, hm⟩ : ∃ m, l.length = m := ⟨_, rfl⟩
  rw [hm] at hlen ⊢
  have HLM := hid hm
  clear hm
  go_enter Tryz.func105, Tryz.ntmps105
  go_upto_block 0 with fail
  refine wp_name ?_
  intro u0 hu0
  rw [← hu0] at HB0 HX
  clear hu0
  go_wp2_with fail
  go_loopw [11] (fun iv wr => ∃ k : Nat, iv = .int .i64 (k : Int) ∧ k ≤ m ∧ Hid (res = (l.drop k).any mt) ∧ Hid (KB u0.heap.size u0 wr)) (fun iv _ => m - (intOf iv).toNat)
  case atStart => exact ⟨0, rfl, Nat.zero_le _, HR0, hid (kb_refl _)⟩
  case round =>
    clear HR0
    rename World => wr
    obtain ⟨k, rfl, hk, HR, HK⟩ := hrel
    have HKK := hid (kb_tr HB0.out HK.out)
    have k0 : (0 : Int) ≤ (k : Int) := by omega
    by_cases hlt : k < m
    · have h1 : k < l.length := by rw [HLM.out]; exact hlt
      have k1 : (k : Int) < (m : Int) := by omega
      obtain ⟨b, off, hA, -, hbl, c0, c1, c2⟩ := want_at (HL.out.kb HKK.out) h1
      subst hA
      have HST := hid (HR.out.trans (by rw [List.drop_eq_getElem_cons h1, List.any_cons]))
      have HMX := hid (HM.out l[k] (List.getElem_mem h1))
      clear HR
      generalize l[k] = x at *
      clear h1
      go_upto_region 4 with fail
      refine wp_name ?_
      intro u1 hu1
      have HG := hid (show Box u1 wr.heap.size (wtC x) from by rw [hu1]; exact Box.new wr (wtC x) 89)
      have HK1 := hid (show KB wr.heap.size wr u1 from by rw [hu1]; exact kb_new _ _)
      have HK2 := hid (kb_tr HK.out HK1.out)
      have HKK2 := hid (kb_tr HKK.out HK1.out)
      clear hu1 c0 c1 c2 hbl
      have HCM := hid (HMX.out u1 HKK2.out)
      have HX1 := hid (HX.out.kb HK2.out)
      clear HMX
      generalize mt x = r at *
      have x0 := HG.out.2 0 _ rfl
      have x1 := HG.out.2 1 _ rfl
      have x2 := HG.out.2 2 _ rfl
      have xl := HG.out.1
      have y0 := HX1.out.2 0 _ rfl
      have yl := HX1.out.1
      go_wp2_with fail
      refine HCM.out.mono ?_
      rintro _ u2 ⟨rfl, hb⟩
      have HK3 := hid (kb_tr HK2.out hb)
      have HKK3 := hid (kb_tr HKK2.out hb)
      clear hb
      cases r with
      | true =>
        have HRS := hid (show res = true from by rw [HST.out]; rfl)
        go_wp2_with fail
        try rw [Exit.noGoto_ret]
        try (first | go_ret | go_ret2)
        exact ⟨by rw [HRS.out]; rfl, HKK3.out⟩
      | false =>
        have HRS := hid (show res = (l.drop (k + 1)).any mt from by rw [HST.out]; rfl)
        go_wp2_with fail
        refine ⟨⟨k + 1, by go_num, by omega, HRS, HK3⟩, ?_⟩
        simp [intOf] <;> omega
    · obtain rfl : k = m := by omega
      have k1 : ¬ (k : Int) < (k : Int) := by omega
      have HRS := hid (show res = false from by rw [HR.out, List.drop_eq_nil_of_le (by rw [HLM.out]; exact Nat.le_refl _)]; rfl)
      go_wp2_with fail
      try rw [Exit.noGoto_ret]
      try (first | go_ret | go_ret2)
      exact ⟨by rw [HRS.out]; rfl, HKK.out⟩
end Go.Proofs.YtlmkglgjdmjnkaaGreatDoor
namespace Go.Proofs.YtlmkglgjdmjnkaaGreatDoor
open Go.RowKit Go.Lib
open Rw
set_option linter.unusedVariables false
set_option linter.unusedSimpArgs false
theorem lis_any (x : LockL) (h : LockH) (kd n : Int) (s : ByteArray) (w : World) : Calls Tryz.prog 17 #[.agg #[.int .i64 kd, .string x.name, .int .i64 x.v.maj, .int .i64 x.v.min, .int .i64 x.v.pat, .string x.v.pre, .string x.v.bld, .string x.shelf, .int .u64 x.sum, .slice h.A x.feats.length h.c], .int .i64 n, .string s] w (BoolK w ((kd == n) && sameB x.name s)) := by
  have HB0 := hid (kb_new w (.cells (mvC (⟨kd, x⟩, h)).toArray 35))
  have HX := hid (Box.new w (mvC (⟨kd, x⟩, h)) 35)
  obtain ⟨xn, xv, xs, xm, xf⟩ := x
  dsimp only [mvC] at HX HB0 ⊢
  generalize hr : ((kd == n) && sameB xn s) = r
  have HR := hid hr
  clear hr
  by_cases g : kd = n
  · subst g
    have g1 : (kd == kd) = true := by rw [beq_iff_eq]
    go_enter Tryz.func17, Tryz.ntmps17
    go_wp2_with fail
    go_ret
    exact ⟨by rw [← HR.out, g1]; rfl, HB0.out⟩
  · have g1 : (kd == n) = false := by rw [beq_eq_false_iff_ne]; exact g
    go_enter Tryz.func17, Tryz.ntmps17
    go_wp2_with fail
    go_ret
    exact ⟨by rw [← HR.out, g1]; rfl, HB0.out⟩
theorem thas_any (U : Option Addr) (uc m : Nat) (u : Int) (w : World) : Calls Tryz.prog 112 #[.agg #[.slice U m uc], .int .i64 u] w (BoolK w (decide (0 ≤ u) && decide (u < (m : Int)))) := by
  have HB0 := hid (kb_new w (.cells [.slice U m uc].toArray 42))
  obtain ⟨r, hr⟩ : ∃ r, r = (decide (0 ≤ u) && decide (u < (m : Int))) := ⟨_, rfl⟩
  rw [← hr]
  have HR := hid hr
  clear hr
  by_cases g : 0 ≤ u
  · by_cases g2 : u < (m : Int)
    · have HD := hid (show (decide (0 ≤ u) && decide (u < (m : Int))) = true from by simp [g, g2])
      go_enter Tryz.func112, Tryz.ntmps112
      go_wp2_with fail
      go_ret
      exact ⟨by rw [HR.out, HD.out]; rfl, HB0.out⟩
    · have HD := hid (show (decide (0 ≤ u) && decide (u < (m : Int))) = false from by rw [decide_eq_false g2, Bool.and_false])
      go_enter Tryz.func112, Tryz.ntmps112
      go_wp2_with fail
      go_ret
      exact ⟨by rw [HR.out, HD.out]; rfl, HB0.out⟩
  · have HD := hid (show (decide (0 ≤ u) && decide (u < (m : Int))) = false from by rw [decide_eq_false g]; rfl)
    go_enter Tryz.func112, Tryz.ntmps112
    go_wp2_with fail
    go_ret
    exact ⟨by rw [HR.out, HD.out]; rfl, HB0.out⟩
theorem wrap_pow : ∀ k : Nat, k ≤ 40 → wrap64 ((2 : Int) ^ k) = ((2 ^ k : Nat) : Int) := by decide +kernel
theorem tbit_any (k : Nat) (hk : k ≤ 40) (w : World) : Calls Tryz.prog 111 #[.int .i64 ((k : Int) - 1)] w fun e w' => e = .returned (.int .i64 ((2 ^ k : Nat) : Int)) ∧ w = w' := by
  go_enter Tryz.func111, Tryz.ntmps111
  go_wp2_with fail
  go_ret
  exact ⟨by rw [← wrap_pow k hk]; rfl, rfl⟩
end Go.Proofs.YtlmkglgjdmjnkaaGreatDoor
namespace Go.Proofs.YtlmkglgjdmjnkaaGreatDoor
open Go.RowKit Go.Lib
open Rw
set_option linter.unusedVariables false
set_option linter.unusedSimpArgs false
def fullT (us : List UnitP) (u : Int) : Int := match us[u.toNat]? with
  | some y => if 0 ≤ u then ((2 ^ (y.cands.length + 1) : Nat) : Int) - 1 else 0
  | none => 0
theorem tbit_up (k : Nat) (hk : k ≤ 30) (v : World) : Calls Tryz.prog 111 #[.int .i64 (k : Int)] v fun e w' => e = .returned (.int .i64 ((2 ^ (k + 1) : Nat) : Int)) ∧ v = w' := by
  have h := tbit_any (k + 1) (by omega) v
  have e : (((k + 1 : Nat) : Int) - 1) = (k : Int) := by omega
  rwa [e] at h
set_option maxRecDepth 100000 in
set_option maxHeartbeats 4000000 in
theorem tfull_any (U : Option Addr) (uc : Nat) (us : List UnitP) (u : Int) (w : World) (hU : UnitsAt w U us) (hc : ∀ y ∈ us, y.cands.length ≤ 30) : Calls Tryz.prog 109 #[.agg #[.slice U us.length uc], .int .i64 u] w (IntK w (fullT us u)) := by
  have HB0 := hid (kb_new w (.cells [.slice U us.length uc].toArray 42))
  have HX := hid (Box.new w [.slice U us.length uc] 42)
  have HH := hid (fun v => thas_any U uc us.length u v)
  have HT := hid (fun (k : Nat) (hk : k ≤ 30) v => tbit_up k hk v)
  by_cases g : 0 ≤ u ∧ u < (us.length : Int)
  · obtain ⟨q, rfl⟩ := Int.eq_ofNat_of_zero_le g.1
    have hq : q < us.length := by omega
    obtain ⟨b, off, hA, -, hbl, -, -, c2⟩ := unit_at (hU.kb HB0.out) hq
    have hcl := hc us[q] (List.getElem_mem hq)
    have HV := hid (show fullT us (q : Int) = ((2 ^ (us[q].cands.length + 1) : Nat) : Int) - 1 from by unfold fullT; rw [Int.toNat_natCast, List.getElem?_eq_getElem hq]; dsimp only; rw [if_pos (by omega)])
    have HCC := hid (And.intro hbl c2)
    have hg1 : (decide (0 ≤ (q : Int)) && decide ((q : Int) < (us.length : Int))) = true := by rw [decide_eq_true g.1, decide_eq_true g.2]; rfl
    rw [hg1] at HH
    have g0 := g.1
    have g2 := g.2
    clear hU hc hbl c2 hg1 g
    subst hA
    generalize fullT us (q : Int) = res at *
    generalize us[q] = y at *
    clear hq
    generalize us.length = m at *
    obtain ⟨yn, yf, yc, yA, yq⟩ := y
    dsimp only at hcl HV HCC
    generalize yc.length = nc at *
    have HT2 := hid (HT.out nc hcl)
    clear HT
    have hp : (0 : Int) ≤ ((2 ^ (nc + 1) : Nat) : Int) := Int.natCast_nonneg _
    have hp2 : ((2 ^ (nc + 1) : Nat) : Int) ≤ 2147483648 := by
      have : 2 ^ (nc + 1) ≤ 2 ^ 31 := Nat.pow_le_pow_right (by omega) (by omega)
      omega
    generalize ((2 ^ (nc + 1) : Nat) : Int) = pw at *
    have k2 := HCC.out.2
    have kl := HCC.out.1
    go_enter Tryz.func109, Tryz.ntmps109
    go_upto_region 1 with fail
    refine wp_name ?_
    intro u1 hu1
    rw [← hu1] at HX HB0 HCC k2 kl
    clear hu1
    have x0 := HX.out.2 0 _ rfl
    have xl := HX.out.1
    clear k2 kl
    go_wp2_with fail
    refine (HH.out u1).mono ?_
    rintro _ u2 ⟨rfl, hb⟩
    have HX2 := hid (HX.out.kb hb)
    have HB2 := hid (kb_tr HB0.out hb)
    have k2 := cell_kb HCC.out.1 hb HCC.out.2
    have kl := Nat.lt_of_lt_of_le HCC.out.1 hb.size
    clear hb x0 xl
    have x0 := HX2.out.2 0 _ rfl
    have xl := HX2.out.1
    go_wp2_with fail
    refine (HT2.out u2).mono ?_
    rintro _ _ ⟨rfl, rfl⟩
    go_wp2_with fail
    go_ret
    exact ⟨by rw [HV.out]; rfl, HB2.out⟩
  · have HV := hid (show fullT us u = 0 from by
      unfold fullT
      by_cases h0 : 0 ≤ u
      · have : us.length ≤ u.toNat := by omega
        rw [List.getElem?_eq_none this]
      · cases us[u.toNat]? with
        | none => rfl
        | some y => dsimp only; rw [if_neg h0])
    have hg1 : (decide (0 ≤ u) && decide (u < (us.length : Int))) = false := by
      by_cases h0 : 0 ≤ u
      · rw [decide_eq_false (show ¬ u < (us.length : Int) from fun h => g ⟨h0, h⟩), Bool.and_false]
      · rw [decide_eq_false h0]; rfl
    rw [hg1] at HH
    clear hU hc hg1 g
    generalize fullT us u = res at *
    generalize us.length = m at *
    go_enter Tryz.func109, Tryz.ntmps109
    go_upto_region 1 with fail
    refine wp_name ?_
    intro u1 hu1
    rw [← hu1] at HX HB0
    clear hu1
    have x0 := HX.out.2 0 _ rfl
    have xl := HX.out.1
    go_wp2_with fail
    refine (HH.out u1).mono ?_
    rintro _ u2 ⟨rfl, hb⟩
    have HB2 := hid (kb_tr HB0.out hb)
    clear hb
    go_wp2_with fail
    go_ret
    exact ⟨by rw [HV.out]; rfl, HB2.out⟩
end Go.Proofs.YtlmkglgjdmjnkaaGreatDoor
namespace Go.Proofs.YtlmkglgjdmjnkaaGreatDoor
open Go.RowKit Go.Lib
open Rw
set_option linter.unusedVariables false
set_option linter.unusedSimpArgs false
def valT (zs : List Int) (q : Nat) : Int := ((2 ^ (zs.getD q 0 + 1).toNat : Nat) : Int)
theorem tbit_int (z : Int) (h0 : -1 ≤ z) (h1 : z ≤ 30) (v : World) : Calls Tryz.prog 111 #[.int .i64 z] v fun e w' => e = .returned (.int .i64 ((2 ^ (z + 1).toNat : Nat) : Int)) ∧ v = w' := by
  have h := tbit_any (z + 1).toNat (by omega) v
  have e : (((z + 1).toNat : Nat) : Int) - 1 = z := by omega
  rwa [e] at h
set_option maxRecDepth 100000 in
set_option maxHeartbeats 4000000 in
theorem tvalue_any (U : Option Addr) (uc : Nat) (us : List UnitP) (A : Option Addr) (c : Nat) (zs : List Int) (q : Nat) (w : World) (hU : UnitsAt w U us) (hA : IntsAt w A zs) (hn : zs.length ≤ 9223372036854775807) (hf : fitsC us zs = true) (hq : q < us.length) (hc : ∀ y ∈ us, y.cands.length ≤ 30) : Calls Tryz.prog 80 #[.agg #[.slice U us.length uc], .slice A zs.length c, .int .i64 (q : Int)] w (IntK w (valT zs q)) := by
  have hlen : zs.length = us.length := by
    unfold fitsC at hf
    simp only [Bool.and_eq_true, decide_eq_true_eq] at hf
    exact hf.1
  have hfg : fitsG zs us = true := by
    unfold fitsC at hf
    simp only [Bool.and_eq_true, decide_eq_true_eq] at hf
    exact hf.2
  have hzl : q < zs.length := by omega
  obtain ⟨hz0, y, hy, hz1⟩ := fits_at hfg q hzl
  have hyu : us[q] = y := by rw [List.getElem?_eq_getElem hq] at hy; injection hy
  have hcl := hc us[q] (List.getElem_mem hq)
  have HB0 := hid (kb_new w (.cells [.slice U us.length uc].toArray 42))
  have HX := hid (Box.new w [.slice U us.length uc] 42)
  obtain ⟨bz, oz, hAz, hbz, cz⟩ := int_at (hA.kb HB0.out) hzl
  obtain ⟨bu, ou, hUu, -, hbu, -, -, cu⟩ := unit_at (hU.kb HB0.out) hq
  rw [hyu] at cu hcl
  have HH := hid (fun v => show Calls Tryz.prog 112 #[.agg #[.slice U us.length uc], .int .i64 (q : Int)] v (BoolK v true) from by have h := thas_any U uc us.length (q : Int) v; rwa [show (decide (0 ≤ (q : Int)) && decide ((q : Int) < (us.length : Int))) = true from by simp; omega] at h)
  have HT := hid (fun v => tbit_int zs[q] hz0 (by omega) v)
  have HV := hid (show valT zs q = ((2 ^ (zs[q] + 1).toNat : Nat) : Int) from by unfold valT; rw [List.getD_eq_getElem?_getD, List.getElem?_eq_getElem hzl, Option.getD_some])
  have HCC := hid (And.intro (And.intro hbz cz) (And.intro hbu cu))
  clear hfg hf hU hA hc hy hyu cz cu hbz hbu
  generalize valT zs q = res at *
  generalize zs[q] = z at *
  subst hAz
  subst hUu
  have q0 : (0 : Int) ≤ (q : Int) := by omega
  have q1 : (q : Int) < (us.length : Int) := by omega
  have q2 : (q : Int) < (zs.length : Int) := by omega
  generalize us.length = m at *
  generalize zs.length = n at *
  generalize y.cands.length = nc at *
  generalize ((2 ^ (z + 1).toNat : Nat) : Int) = pw at *
  clear hlen hq hzl
  have z0 : ¬ z < -1 := by omega
  have z1 : ¬ (nc : Int) ≤ z := by omega
  have q3 : ¬ n ≤ q := by omega
  have q4 : decide (n ≤ q) = false := decide_eq_false q3
  have z2 : decide ((nc : Int) ≤ z) = false := decide_eq_false z1
  have z3 : decide (z < -1) = false := decide_eq_false z0
  go_enter Tryz.func80, Tryz.ntmps80
  go_upto_region 1 with fail
  refine wp_name ?_
  intro u1 hu1
  rw [← hu1] at HX HB0 HCC
  clear hu1
  have hS : KB u1.heap.size u1 u1.drew := kb_drewJ (kb_refl _)
  have x0 := HX.out.2 0 _ rfl
  refine wp_planS (fun u => KB u1.heap.size u1 u) (.call [0, 1] 2 (.last [3, 4, 5, 6, 7, 8, 9, 10, 11, 12, 13, 14, 15, 16, 17, 18, 19, 20, 21, 22, 23, 24, 25, 26, 27, 28, 29, 30])) (by first | assumption | skip) (by kernel_rfl) (by intro _ _ d _ _ h; cases d <;> exact h) (by kernel_rfl) ?_
  have iS : Nonempty (SW fun u => KB u1.heap.size u1 u) := ⟨⟨_, hS⟩⟩
  have y0 := fun (s : SW fun u => KB u1.heap.size u1 u) => (HX.out.kb s.ok).2 0 _ rfl
  have yl := fun (s : SW fun u => KB u1.heap.size u1 u) => (HX.out.kb s.ok).1
  have e0 := fun (s : SW fun u => KB u1.heap.size u1 u) => cell_kb HCC.out.1.1 s.ok HCC.out.1.2
  have el := fun (s : SW fun u => KB u1.heap.size u1 u) => Nat.lt_of_lt_of_le HCC.out.1.1 s.ok.size
  have f0 := fun (s : SW fun u => KB u1.heap.size u1 u) => cell_kb HCC.out.2.1 s.ok HCC.out.2.2
  have fl := fun (s : SW fun u => KB u1.heap.size u1 u) => Nat.lt_of_lt_of_le HCC.out.2.1 s.ok.size
  clear x0
  with_reducible refine plan_call ?_
  simp only [pickOps, List.map_cons, List.map_nil, List.getElem?_toArray, List.getElem?_cons_zero, List.getElem?_cons_succ, Option.getD_some]
  repeat go_big_quiet_step (fail)
  refine wpQuiet_nil ?_
  go_wp2_with fail
  refine (HH.out _).mono ?_
  rintro _ u2 ⟨rfl, hb⟩
  have HK2 := hid (show KB u1.heap.size u1 u2 from Go.RowKit.Below.trans hS hb)
  clear hb
  go_wp2_with fail
  refine plan_onS (HK2.out) ?_
  with_reducible refine plan_last ?_
  simp only [pickOps, List.map_cons, List.map_nil, List.getElem?_toArray, List.getElem?_cons_zero, List.getElem?_cons_succ, Option.getD_some]
  repeat go_big_quiet_step (fail)
  refine wpQuiet_nil ?_
  clear iS y0 yl e0 el f0 fl
  have e0 := cell_kb HCC.out.1.1 HK2.out HCC.out.1.2
  have el := Nat.lt_of_lt_of_le HCC.out.1.1 HK2.out.size
  go_wp2_with fail
  refine (HT.out _).mono ?_
  rintro _ _ ⟨rfl, rfl⟩
  go_wp2_with fail
  try rw [Exit.noGoto_ret]
  try go_ret
  exact ⟨by rw [HV.out]; rfl, kb_tr HB0.out HK2.out⟩
end Go.Proofs.YtlmkglgjdmjnkaaGreatDoor
namespace Go.Proofs.YtlmkglgjdmjnkaaGreatDoor
open Go.RowKit Go.Lib
open Rw
set_option linter.unusedVariables false
set_option linter.unusedSimpArgs false
def isPk (i : Nat) (y : UnitP) (z : Int) : Bool := decide (0 < i) && (y.feature.toList.isEmpty && decide (0 ≤ z))
def packG : Nat → List UnitP → List Int → List ByteArray
  | i, y :: us, z :: zs => (if isPk i y z then [y.name] else []) ++ packG (i + 1) us zs
  | _, _, _ => []
theorem pack_drop {us : List UnitP} {zs : List Int} {k : Nat} (h1 : k < us.length) (h2 : k < zs.length) : packG k (us.drop k) (zs.drop k) = (if isPk k us[k] zs[k] then [us[k].name] else []) ++ packG (k + 1) (us.drop (k + 1)) (zs.drop (k + 1)) := by
  rw [List.drop_eq_getElem_cons h1, List.drop_eq_getElem_cons h2, packG]
def PackK (w : World) (l : List ByteArray) (e : Ending) (w' : World) : Prop := ∃ v, e = .returned v ∧ OwnL 9 1 cellT w' w.heap.size v l ∧ KB w.heap.size w w'
theorem cellT_one1G (s : ByteArray) : ∀ u ∈ cellT s, u.oneCell' = true := by
  intro u hu
  rcases List.mem_singleton.1 hu with rfl
  rfl
set_option maxRecDepth 100000 in
set_option maxHeartbeats 4000000 in
theorem ppack_any (U : Option Addr) (uc : Nat) (us : List UnitP) (A : Option Addr) (c : Nat) (zs : List Int) (w : World) (hU : UnitsAt w U us) (hA : IntsAt w A zs) (hlen : zs.length = us.length) (hm : us.length ≤ 1000) : Calls Tryz.prog 44 #[.agg #[.slice U us.length uc], .slice A zs.length c] w (PackK w (packG 0 us zs)) := by
  have HB0 := hid (kb_new w (.cells [.slice U us.length uc].toArray 42))
  have HX := hid (Box.new w [.slice U us.length uc] 42)
  have HU := hid (hU.kb HB0.out)
  have HZ := hid (hA.kb HB0.out)
  have HR0 := hid (show packG 0 us zs = [] ++ packG 0 (us.drop 0) (zs.drop 0) from rfl)
  clear hU hA
  generalize packG 0 us zs = res at *
  rw [hlen]
  have HLN := hid hlen
  clear hlen
  obtain ⟨m, hmm⟩ : ∃ m, us.length = m := ⟨_, rfl⟩
  rw [hmm] at hm HB0 HX HU HZ HLN ⊢
  have HM := hid hmm
  clear hmm
  go_enter Tryz.func44, Tryz.ntmps44
  go_upto_region 2 with fail
  refine wp_name ?_
  intro u0 hu0
  rw [← hu0] at HX HB0 HU HZ
  clear hu0
  have x0 := HX.out.2 0 _ rfl
  have xl := HX.out.1
  go_upto_block 0 with fail
  go_wp2_with fail
  go_loopw [11, 5] (fun iv ov wr => ∃ (k : Nat) (v : Value) (o : List ByteArray), iv = .int .i64 (k : Int) ∧ ov = v ∧ k ≤ m ∧ Hid (o.length ≤ k) ∧ Hid (res = o ++ packG k (us.drop k) (zs.drop k)) ∧ Hid (OwnL 9 1 cellT wr u0.heap.size v o) ∧ Hid (KB u0.heap.size u0 wr)) (fun iv _ _ => m - (intOf iv).toNat)
  case atStart => exact ⟨0, _, [], rfl, rfl, Nat.zero_le _, hid (Nat.le_refl _), HR0, hid OwnL.nil, hid (kb_refl _)⟩
  case round =>
    clear HR0 x0 xl
    rename World => wr
    obtain ⟨k, v, o, rfl, hv, hk, HOL, HR, HO, HK⟩ := hrel
    have hv := hv.symm
    subst hv
    have k0 : (0 : Int) ≤ (k : Int) := by omega
    by_cases hlt : k < m
    · have h1 : k < us.length := by rw [HM.out]; exact hlt
      have h2 : k < zs.length := by rw [HLN.out]; exact hlt
      have k1 : (k : Int) < (m : Int) := by omega
      obtain ⟨bz, oz, hAz, hbz, cz⟩ := int_at (HZ.out.kb HK.out) h2
      obtain ⟨bu, ou, hUu, hui, hbu, cn, cf, cu⟩ := unit_at (HU.out.kb HK.out) h1
      subst hAz
      subst hUu
      have HST := hid (HR.out.trans (by rw [pack_drop h1 h2]))
      have HZC := hid (And.intro hbz cz)
      clear HR hui hbz cz
      generalize us[k] = y at *
      generalize zs[k] = z at *
      clear h1 h2
      go_upto_region 5 with fail
      refine wp_name ?_
      intro u1 hu1
      have HG := hid (show Box u1 wr.heap.size (utC y) from by rw [hu1]; exact Box.new wr (utC y) 82)
      have HK1 := hid (show KB wr.heap.size wr u1 from by rw [hu1]; exact kb_new _ _)
      have HKK := hid (kb_tr HK.out HK1.out)
      have HO1 := hid (HO.out.kb HK1.out)
      have hsz : u0.heap.size ≤ u1.heap.size := HKK.out.size
      clear hu1 cn cf cu hbu HO
      have c0 := HG.out.2 0 _ rfl
      have c1 := HG.out.2 1 _ rfl
      have cl := HG.out.1
      have cz := cell_kb HZC.out.1 HK1.out HZC.out.2
      have lz := Nat.lt_of_lt_of_le HZC.out.1 HK1.out.size
      have HIP := hid (show isPk k y z = (decide (0 < k) && (y.feature.toList.isEmpty && decide (0 ≤ z))) from rfl)
      generalize isPk k y z = ip at *
      by_cases g1 : 0 < k
      · have i1 : (0 : Int) < (k : Int) := by omega
        cases hfe : y.feature.toList.isEmpty with
        | false =>
          have HNO := hid (show res = o ++ packG (k + 1) (us.drop (k + 1)) (zs.drop (k + 1)) from by rw [HST.out, show ip = false from by rw [HIP.out, hfe]; simp]; rfl)
          go_wp2_with fail
          refine ⟨⟨k + 1, _, o, by go_num, rfl, by omega, hid (by have := HOL.out; omega), HNO, HO1, HKK⟩, ?_⟩
          simp [intOf] <;> omega
        | true =>
          by_cases g2 : 0 ≤ z
          · have HYE := hid (show res = (o ++ [y.name]) ++ packG (k + 1) (us.drop (k + 1)) (zs.drop (k + 1)) from by rw [HST.out, show ip = true from by rw [HIP.out, hfe]; simp [g1, g2]]; simp)
            have HRW := hid (show u1.ownsRow u0.heap.size 9 1 v o.length (o.flatMap cellT) from HO1.out)
            go_wp2_with (at_builtin; refine wpList_app1y EKstrs rfl (.tmp 30) (.tmp 33) rfl (cellT y.name) HRW.out rfl rfl rfl (cellT_one1G y.name) (by have := HOL.out; unfold maxLen; omega) (by have := HOL.out; omega) hsz ?_; intro v' w3 h2 h3 h4 h5; have HO3 := hid (OwnL.snoc h2); have HK3 := hid (show KB u0.heap.size u0 w3 from Go.RowKit.Below.trans HKK.out h3.kb))
            refine ⟨⟨k + 1, _, o ++ [y.name], by go_num, rfl, by omega, hid (by rw [List.length_append]; have := HOL.out; simp; omega), HYE, HO3, HK3⟩, ?_⟩
            simp [intOf] <;> omega
          · have HNO := hid (show res = o ++ packG (k + 1) (us.drop (k + 1)) (zs.drop (k + 1)) from by rw [HST.out, show ip = false from by rw [HIP.out, hfe]; simp [g2]]; rfl)
            go_wp2_with fail
            refine ⟨⟨k + 1, _, o, by go_num, rfl, by omega, hid (by have := HOL.out; omega), HNO, HO1, HKK⟩, ?_⟩
            simp [intOf] <;> omega
      · obtain rfl : k = 0 := by omega
        have HNO := hid (show res = o ++ packG (0 + 1) (us.drop (0 + 1)) (zs.drop (0 + 1)) from by rw [HST.out, show ip = false from by rw [HIP.out]; simp]; rfl)
        go_wp2_with fail
        refine ⟨⟨0 + 1, _, o, by go_num, rfl, by omega, hid (by have := HOL.out; omega), HNO, HO1, HKK⟩, ?_⟩
        simp [intOf] <;> omega
    · obtain rfl : k = m := by omega
      have k1 : ¬ (k : Int) < (k : Int) := by omega
      have HRS := hid (show res = o from by rw [HR.out, List.drop_eq_nil_of_le (by rw [HM.out]; exact Nat.le_refl _)]; simp [packG])
      go_wp2_with fail
      try rw [Exit.noGoto_ret]
      try (first | go_ret | go_ret2)
      exact ⟨_, rfl, by rw [HRS.out]; exact own_lowB HO.out HB0.out.size, kb_tr HB0.out HK.out⟩
end Go.Proofs.YtlmkglgjdmjnkaaGreatDoor
namespace Go.Proofs.YtlmkglgjdmjnkaaGreatDoor
open Go.RowKit Go.Lib
open Rw
set_option linter.unusedVariables false
set_option linter.unusedSimpArgs false
set_option maxRecDepth 100000 in
set_option maxHeartbeats 1000000 in
theorem sindex_any (A : Option Addr) (c : Nat) (l : List ByteArray) (s : ByteArray) (w : World) (hA : Texts w A l) (hn : l.length ≤ 1000000) : Calls Tryz.prog 77 #[.slice A l.length c, .string s] w fun e w' => e = .returned (.int .i64 (findP (fun x => sameB s x) 0 l)) ∧ w = w' := by
  have HA := hid hA
  have HR0 := hid (show findP (fun x => sameB s x) 0 l = findP (fun x => sameB s x) 0 (l.drop 0) from rfl)
  clear hA
  generalize findP (fun x => sameB s x) 0 l = res at *
  obtain ⟨m, hm⟩ : ∃ m, l.length = m := ⟨_, rfl⟩
  rw [hm] at hn ⊢
  have HM := hid hm
  clear hm
  go_enter Tryz.func77, Tryz.ntmps77
  go_upto_block 0 with fail
  go_wp2_with fail
  go_loop [8] (fun iv => ∃ k : Nat, iv = .int .i64 (k : Int) ∧ k ≤ m ∧ Hid (res = findP (fun x => sameB s x) k (l.drop k))) (fun iv => m - (intOf iv).toNat)
  case atStart => exact ⟨0, rfl, Nat.zero_le _, HR0⟩
  case round =>
    clear HR0
    obtain ⟨k, rfl, hk, HR⟩ := hrel
    have k0 : (0 : Int) ≤ (k : Int) := by omega
    by_cases hlt : k < m
    · have h1 : k < l.length := by rw [HM.out]; exact hlt
      have k1 : (k : Int) < (m : Int) := by omega
      obtain ⟨b, off, hA, hbl, c0⟩ := HA.out.at_ h1
      have HST := hid (HR.out.trans (find_drop h1))
      unfold TextAt at c0
      rw [Nat.mul_one] at c0
      subst hA
      clear HR
      generalize l[k] = x at *
      clear h1
      generalize hs : sameB s x = r at *
      have HS := hid hs
      clear hs
      unfold sameB at HS
      cases r with
      | true =>
        have HRS := hid (show res = (k : Int) from by rw [HST.out]; rfl)
        have e1 := HS.out
        go_wp2_with fail
        try rw [Exit.noGoto_ret]
        try (first | go_ret | go_ret2)
        exact ⟨by rw [HRS.out]; rfl, rfl⟩
      | false =>
        have HRS := hid (show res = findP (fun x => sameB s x) (k + 1) (l.drop (k + 1)) from by rw [HST.out]; rfl)
        have e1 := HS.out
        go_wp2_with fail
        first
          | (go_round
             case rel => exact ⟨k + 1, by go_num, by omega, HRS⟩
             case measure => simp [intOf] <;> omega)
          | (refine ⟨⟨k + 1, by go_num, by omega, HRS⟩, ?_⟩
             simp [intOf] <;> omega)
    · obtain rfl : k = m := by omega
      have k1 : ¬ (k : Int) < (k : Int) := by omega
      have HRS := hid (show res = -1 from by rw [HR.out, find_end (by rw [HM.out]; exact Nat.le_refl _)])
      go_wp2_with fail
      try rw [Exit.noGoto_ret]
      try (first | go_ret | go_ret2)
      exact ⟨by rw [HRS.out]; rfl, rfl⟩
end Go.Proofs.YtlmkglgjdmjnkaaGreatDoor
namespace Go.Proofs.YtlmkglgjdmjnkaaGreatDoor
open Go.RowKit Go.Lib
open Rw
set_option linter.unusedVariables false
set_option linter.unusedSimpArgs false
theorem teach_any (k : Int) (w : World) : Calls Tryz.prog 108 #[.int .i64 k] w fun e w' => e = .returned (.func (.func 146) #[] #[.pointer (some ⟨w.heap.size, 0, none⟩)]) ∧ w' = w.alloc (.cells #[.int .i64 k] 3) := by
  have hmf : ∀ (fn : Fn) (first cap : Array Value) (w : World), (Instr.makeFunc fn first cap).run Tryz.prog w = .ok (.func fn first cap) w := fun _ _ _ _ => rfl
  go_enter Tryz.func108, Tryz.ntmps108
  go_wp2_with fail
  go_ret
  exact ⟨rfl, rfl⟩
theorem cmay_of (U : Option Addr) (uc : Nat) (us : List UnitP) (A : Option Addr) (c : Nat) (zs : List Int) (w : World) (bw : Bool) (hw : ∀ u, KB w.heap.size w u → Calls Tryz.prog 103 #[.agg #[.slice U us.length uc]] u (BoolK u bw)) (hU : UnitsAt w U us) (hA : IntsAt w A zs) (hn : zs.length ≤ 9223372036854775807) : Calls Tryz.prog 75 #[.agg #[.slice U us.length uc], .slice A zs.length c] w (BoolK w (bw && fitsC us zs)) := by
  have HB0 := hid (kb_new w (.cells [.slice U us.length uc].toArray 42))
  have HX := hid (Box.new w [.slice U us.length uc] 42)
  have HW := hid hw
  have HF := hid (fun u (hb : KB w.heap.size w u) => cfits_any U uc us A c zs u (hU.kb hb) (hA.kb hb) hn)
  clear hw hU hA
  generalize fitsC us zs = bf at *
  generalize us.length = m at *
  generalize zs.length = n at *
  go_enter Tryz.func75, Tryz.ntmps75
  go_upto_region 1 with fail
  refine wp_name ?_
  intro u1 hu1
  rw [← hu1] at HX HB0
  clear hu1
  have x0 := HX.out.2 0 _ rfl
  have xl := HX.out.1
  go_wp2_with fail
  refine (HW.out u1 HB0.out).mono ?_
  rintro _ u2 ⟨rfl, hb⟩
  have HK2 := hid (kb_tr HB0.out hb)
  have HX2 := hid (HX.out.kb hb)
  clear hb x0 xl
  have x0 := HX2.out.2 0 _ rfl
  have xl := HX2.out.1
  cases bw with
  | false =>
    go_wp2_with fail
    go_ret
    exact ⟨rfl, HK2.out⟩
  | true =>
    go_wp2_with fail
    refine (HF.out u2 HK2.out).mono ?_
    rintro _ u3 ⟨rfl, hb⟩
    have HK3 := hid (kb_tr HK2.out hb)
    clear hb
    go_wp2_with fail
    go_ret
    exact ⟨by simp, HK3.out⟩
end Go.Proofs.YtlmkglgjdmjnkaaGreatDoor
