/- Parts 40 of the proofs. -/
import Derived.Test.YtlmkglgjdmjnkaaGreatDoorQ39
import Derived.Test.YtlmkglgjdmjnkaaGreatDoorQ37
import Derived.Test.YtlmkglgjdmjnkaaGreatDoorQ36
import Derived.Test.YtlmkglgjdmjnkaaGreatDoorQ31
namespace Go.Proofs.YtlmkglgjdmjnkaaGreatDoor
open Go.RowKit Go.Lib
open Rw
set_option linter.unusedVariables false
set_option linter.unusedSimpArgs false
set_option maxHeartbeats 1000000 in
theorem gplace_big (v n : Int) (w : World) (hn : 0 < n) (hn2 : n ≤ 4000000000000000) : Calls Tryz.prog 8 #[.int .i64 v, .int .i64 n] w fun e w' => e = .returned (.int .i64 (placeI v n)) ∧ w = w' := by
  have hb := tmod_bd v n hn
  have hz : (n == 0) = false := by simp; omega
  have h1 : ¬ n < 1 := by omega
  obtain ⟨hb1, hb2⟩ := hb
  cases hlt : decide (v.tmod n < 0)
  · have HP := hid (show placeI v n = v.tmod n by rw [placeI, if_neg (by simpa using hlt)])
    go_enter Tryz.func8, Tryz.ntmps8
    go_wp2_with fail
    go_ret
    exact ⟨ret_i HP.out.symm, rfl⟩
  · have HP := hid (show placeI v n = v.tmod n + n by rw [placeI, if_pos (by simpa using hlt)])
    go_enter Tryz.func8, Tryz.ntmps8
    go_wp2_with fail
    go_ret
    exact ⟨ret_i HP.out.symm, rfl⟩
def HoldK (w : World) (e : Ending) (w' : World) : Prop := (∃ (A : Option Addr) (c : Nat) (zs : List Int) (b : Bool), e = .returned (.tuple #[.slice A zs.length c, .bool b]) ∧ IntsAt w' A zs ∧ zs.length ≤ 1000000) ∧ KB w.heap.size w w'
set_option maxRecDepth 100000 in
set_option maxHeartbeats 4000000 in
theorem lholding_any (U : Option Addr) (uc : Nat) (us : List UnitP) (n : Int) (w : World) (hU : UnitsAt w U us) (hW : Wants us) (h0 : 0 < us.length) : Calls Tryz.prog 13 #[.agg #[.slice U us.length uc], .int .i64 n] w (HoldK w) := by
  have HB0 := hid (kb_new w (.cells [.slice U us.length uc].toArray 42))
  have HX := hid (Box.new w [.slice U us.length uc] 42)
  have hlen := hU.len
  have hlc : ∀ j, lenC us j ≤ 1000000 := fun j => by
    by_cases hj : j < us.length
    · rw [lenC_at hj]; exact (hU.sub _ (List.getElem_mem hj)).cands.len
    · unfold lenC; rw [List.getD_eq_getElem?_getD, List.getElem?_eq_none (by simpa using hj)]; simp
  have HSZ := hid (fun u (hb : KB w.heap.size w u) => gsize_any U uc us u (hU.kb hb))
  have HCH := hid (fun (m : Nat) u (hb : KB w.heap.size w u) (hm : m ≤ 9223372036854775807) => gchoice_any U uc us m u (hU.kb hb) hm)
  have HMK := hid (fun u (hb : KB w.heap.size w u) => rmasked_any U uc us u (hU.kb hb) hW)
  have HFN := hid (fun F fn fc N nc ns B bc bs A cap zs u hM hz hzl hzc => rfine_any F fn fc N nc ns B bc bs us A cap zs u hM hz hzl hzc h0 hlen hlc)
  clear hU hW hlc
  obtain ⟨m, hm⟩ : ∃ m, us.length = m := ⟨_, rfl⟩
  have HML := hid hm
  rw [hm] at HX HB0 HSZ HCH HMK hlen ⊢
  rw [hm] at HFN
  clear hm
  go_enter Tryz.func13, Tryz.ntmps13
  go_upto_region 1 with fail
  refine wp_name ?_
  intro u1 hu1
  rw [← hu1] at HX HB0
  clear hu1
  have x0 := HX.out.2 0 _ rfl
  have xl := HX.out.1
  go_wp2_with fail
  refine (HSZ.out u1 HB0.out).mono ?_
  rintro _ u2 ⟨⟨s, hs1, hs2, rfl⟩, hb⟩
  have HK2 := hid (kb_tr HB0.out hb)
  have HX2 := hid (HX.out.kb hb)
  clear hb x0 xl HB0 HX
  go_wp2_with fail
  refine (gplace_big n (s : Int) u2 (by omega) (by omega)).mono ?_
  rintro _ _ ⟨rfl, rfl⟩
  obtain ⟨hp1, hp2⟩ := placeI_bd n (n := (s : Int)) (by omega)
  generalize placeI n (s : Int) = pi at *
  obtain ⟨p, rfl⟩ := Int.eq_ofNat_of_zero_le hp1
  have hps : p < 2000000000000 := by omega
  clear hp1 hp2
  have x0 := HX2.out.2 0 _ rfl
  have xl := HX2.out.1
  go_wp2_with fail
  refine (HMK.out u2 HK2.out).mono ?_
  rintro _ u3 ⟨⟨F, fn, fc, N, nc, ns, B, bc, bs, rfl, hms⟩, hb⟩
  have HK3 := hid (kb_tr HK2.out hb)
  have HX3 := hid (HX2.out.kb hb)
  have HMS := hid hms
  clear hb hms x0 xl HK2 HX2
  go_upto_block 0 with fail
  refine wp_name ?_
  intro wl hwl
  have hkl : KB u3.heap.size u3 wl := by rw [hwl]; exact kb_new _ _
  have HY := hid (show Box wl u3.heap.size [.slice F fn fc, .slice N ns.length nc, .slice B bs.length bc] from by rw [hwl]; exact Box.new u3 [.slice F fn fc, .slice N ns.length nc, .slice B bs.length bc] 96)
  have HKL := hid (kb_tr HK3.out hkl)
  have HXL := hid (HX3.out.kb hkl)
  have HML2 := hid (HMS.out.mono (Mono.kb hkl))
  clear hwl hkl HK3 HX3 HMS
  go_wp2_with fail
  go_loopw [7] (fun iv wr => ∃ k : Nat, iv = .int .i64 (k : Int) ∧ k ≤ 20000 ∧ Hid (KB wl.heap.size wl wr)) (fun iv _ => 20000 - (intOf iv).toNat)
  case atStart => exact ⟨0, rfl, Nat.zero_le _, hid (kb_refl _)⟩
  case round =>
    rename World => wr
    obtain ⟨k, rfl, hk, HK⟩ := hrel
    have k0 : (0 : Int) ≤ (k : Int) := by omega
    have x0 := (HXL.out.kb HK.out).2 0 _ rfl
    have xl := (HXL.out.kb HK.out).1
    go_wp2_with fail
    refine (HSZ.out wr (kb_tr HKL.out HK.out)).mono ?_
    rintro _ u4 ⟨⟨s4, hs3, hs4, rfl⟩, hb⟩
    have HK4 := hid (kb_tr HK.out hb)
    clear hb x0 xl
    by_cases c1 : k < s4
    · have j1 : (k : Int) < (s4 : Int) := by omega
      by_cases c2 : k < 20000
      · have j2 : (k : Int) < 20000 := by omega
        go_upto_region 6 with fail
        have hS : KB u4.heap.size u4 u4.drew := kb_drewJ (kb_refl _)
        have HX4 := hid (HXL.out.kb HK4.out)
        refine wp_planS (fun u => KB u4.heap.size u4 u) (.call [0, 1, 2, 3, 4] 5 (.call [6] 7 (.last [8]))) (by first | assumption | skip) (by kernel_rfl) (by intro _ _ d _ _ h; cases d <;> exact h) (by kernel_rfl) ?_
        have iS : Nonempty (SW fun u => KB u4.heap.size u4 u) := ⟨⟨_, hS⟩⟩
        have x0 := fun (z : SW fun u => KB u4.heap.size u4 u) => (HX4.out.kb z.ok).2 0 _ rfl
        have xl := fun (z : SW fun u => KB u4.heap.size u4 u) => (HX4.out.kb z.ok).1
        with_reducible refine plan_call ?_
        simp only [pickOps, List.map_cons, List.map_nil, List.getElem?_toArray, List.getElem?_cons_zero, List.getElem?_cons_succ, Option.getD_some]
        repeat go_big_quiet_step (fail)
        refine wpQuiet_nil ?_
        go_wp2_with fail
        refine (HSZ.out _ (kb_tr HKL.out (kb_tr HK4.out hS))).mono ?_
        rintro _ u5 ⟨⟨s5, hs5, hs6, rfl⟩, hb⟩
        have HK5 := hid (show KB u4.heap.size u4 u5 from kb_tr hS hb)
        clear hb
        go_wp2_with fail
        refine plan_onS (HK5.out) ?_
        obtain ⟨r, hr⟩ : ∃ r : Nat, ((p : Int) + (k : Int)).tmod (s5 : Int) = (r : Int) := ⟨(p + k) % s5, by rw [← Int.natCast_add, Int.ofNat_tmod]⟩
        have hrb : r ≤ 9223372036854775807 := by
          have : ((p : Int) + (k : Int)).tmod (s5 : Int) ≤ (p : Int) + (k : Int) := by
            rw [← Int.natCast_add, ← Int.ofNat_tmod]
            have := Nat.mod_le (p + k) s5
            omega
          omega
        have hnz : (s5 : Int) ≠ 0 := by omega
        have hnm : (s5 : Int) ≠ -1 := by omega
        with_reducible refine plan_call ?_
        simp only [pickOps, List.map_cons, List.map_nil, List.getElem?_toArray, List.getElem?_cons_zero, List.getElem?_cons_succ, Option.getD_some]
        repeat go_big_quiet_step (fail)
        refine wpQuiet_nil ?_
        go_wp2_with fail
        refine (HCH.out r u5 (kb_tr HKL.out (kb_tr HK4.out HK5.out)) hrb).mono ?_
        rintro _ u6 ⟨⟨Ac, cc, zs, rfl, hz, hzl, hzc⟩, hb⟩
        have HK6 := hid (show KB u4.heap.size u4 u6 from kb_tr HK5.out hb)
        have HZ := hid hz
        have HZC := hid hzc
        clear hb hz hzc
        go_wp2_with fail
        refine plan_onS (HK6.out) ?_
        with_reducible refine plan_last ?_
        simp only [pickOps, List.map_cons, List.map_nil, List.getElem?_toArray, List.getElem?_cons_zero, List.getElem?_cons_succ, Option.getD_some]
        repeat go_big_quiet_step (fail)
        refine wpQuiet_nil ?_
        clear x0 xl iS hr hS
        have HKA := hid (kb_tr HK4.out HK6.out)
        have y0 := (HY.out.kb HKA.out).2 0 _ rfl
        have y1 := (HY.out.kb HKA.out).2 1 _ rfl
        have y2 := (HY.out.kb HKA.out).2 2 _ rfl
        have yl := (HY.out.kb HKA.out).1
        go_wp2_with fail
        have HZL := hid hzl
        have HFX := hid (HFN.out F fn fc N nc ns B bc bs Ac cc zs u6 (HML2.out.mono (Mono.kb HKA.out)) HZ.out hzl HZC.out)
        rw [hzl] at HFX
        clear hzl
        refine HFX.out.mono ?_
        clear HFX
        rintro _ u7 ⟨⟨b, rfl⟩, hb⟩
        have HK7 := hid (kb_tr HKA.out hb)
        have HZ7 := hid (HZ.out.kb hb)
        clear hb y0 y1 y2 yl
        cases b with
        | true =>
          go_wp2_with fail
          try rw [Exit.noGoto_ret]
          try (first | go_ret | go_ret2)
          exact ⟨⟨Ac, cc, zs, true, by rw [HZL.out]; rfl, HZ7.out, by rw [HZL.out]; exact hlen⟩, kb_tr HKL.out HK7.out⟩
        | false =>
          go_wp2_with fail
          refine ⟨⟨k + 1, by go_num, by omega, HK7⟩, ?_⟩
          simp [intOf] <;> omega
      · have j2 : ¬ (k : Int) < 20000 := by omega
        go_wp2_with fail
        try rw [Exit.noGoto_ret]
        try (first | go_ret | go_ret2)
        exact ⟨⟨none, 0, [], false, rfl, .inl rfl, by simp⟩, kb_tr HKL.out HK4.out⟩
    · have j1 : ¬ (k : Int) < (s4 : Int) := by omega
      go_wp2_with fail
      try rw [Exit.noGoto_ret]
      try (first | go_ret | go_ret2)
      exact ⟨⟨none, 0, [], false, rfl, .inl rfl, by simp⟩, kb_tr HKL.out HK4.out⟩
end Go.Proofs.YtlmkglgjdmjnkaaGreatDoor
namespace Go.Proofs.YtlmkglgjdmjnkaaGreatDoor
open Go.RowKit Go.Lib
open Rw
set_option linter.unusedVariables false
set_option linter.unusedSimpArgs false
theorem eqLks_map {a b : List LP} (h : a.map (·.1) = b.map (·.1)) : eqLks a b = true := by
  unfold eqLks
  rw [h]
  exact eqL_self eqLk_refl _
theorem sortN_lenG {l : List LockL} (h : UnN l) : (sortN l).length = l.length := (sortN_ok h).2.length_eq
set_option maxRecDepth 100000 in
set_option maxHeartbeats 4000000 in
theorem walk_PlanArrives (C : Option Addr) (c : Nat) (xw : List Int) (n : Int) (A : Option Addr) (a : Nat) (xa : List Int) (B : Option Addr) (b : Nat) (xb : List Int) (w : World) (hC : IntsAt w C xw) (hnc : xw.length ≤ 9223372036854775807) (_ : (Lit.int .i64 n).wf = true) (hA : IntsAt w A xa) (hna : xa.length ≤ 9223372036854775807) (hB : IntsAt w B xb) (hnb : xb.length ≤ 9223372036854775807) (hF : First w) : Calls Tryz.prog 4 #[.slice C xw.length c, .int .i64 n, .slice A xa.length a, .slice B xb.length b] w (BoolK w true) := by
  have HAW := hid (fun u (hb : KB w.heap.size w u) => lawake_any u (hF.kb hb))
  have HLA := hid (fun u (hb : KB w.heap.size w u) => glines_any A a xa u (hA.kb hb) hna)
  have HLB := hid (fun u (hb : KB w.heap.size w u) => glines_any B b xb u (hB.kb hb) hnb)
  have HWD := hid (gworld_any C c xw w hF hC hnc 3 (by omega) (by omega))
  have HF := hid hF
  clear hA hB hC hF
  generalize xa.length = na at *
  generalize xb.length = nb at *
  generalize xw.length = nw at *
  go_enter Tryz.func4, Tryz.ntmps4
  by_cases h1 : 60 < na
  · have i1 : (60 : Int) < (na : Int) := by omega
    go_wp2_with fail
    refine (HAW.out _ (kb_refl _)).mono ?_
    rintro _ w1 ⟨rfl, hb⟩
    go_wp2_with fail
    go_ret
    exact ⟨rfl, hb⟩
  have i1 : ¬ (60 : Int) < (na : Int) := by omega
  by_cases h2 : 60 < nb
  · have i2 : (60 : Int) < (nb : Int) := by omega
    go_wp2_with fail
    refine (HAW.out _ (kb_refl _)).mono ?_
    rintro _ w1 ⟨rfl, hb⟩
    go_wp2_with fail
    go_ret
    exact ⟨rfl, hb⟩
  have i2 : ¬ (60 : Int) < (nb : Int) := by omega
  go_upto_region 3 with fail
  go_wp2_with fail
  refine HWD.out.mono ?_
  rintro _ w1 ⟨⟨us, U, uc, rfl, hun, hwt, hu0⟩, hb1⟩
  have HUN := hid hun
  have HWT := hid hwt
  have HK1 := hid hb1
  clear hun hwt hb1 HWD
  go_upto_region 4 with fail
  refine wp_name ?_
  intro w2 hw2
  have hk2 : KB w1.heap.size w1 w2 := by rw [hw2]; exact kb_new _ _
  have HX2 := hid (show Box w2 w1.heap.size [.slice U us.length uc] from by rw [hw2]; exact Box.new w1 [.slice U us.length uc] 42)
  have HK2 := hid (kb_tr HK1.out hk2)
  have HUN2 := hid (HUN.out.kb hk2)
  clear hw2 hk2 HUN HK1
  have x0 := HX2.out.2 0 _ rfl
  have xl := HX2.out.1
  go_wp2_with fail
  refine (lholding_any U uc us n w2 HUN2.out HWT.out hu0).mono ?_
  rintro _ w3 ⟨⟨Az, cz, zs, ok, rfl, hz, hzl⟩, hb3⟩
  have HZ := hid hz
  have HX3 := hid (HX2.out.kb hb3)
  have HK3 := hid (kb_tr HK2.out hb3)
  have HUN3 := hid (HUN2.out.kb hb3)
  clear hz hb3 x0 xl HX2 HK2 HUN2
  go_upto_if 36 with fail
  go_cut [10] from 36 to 37 (fun cv wx => ∃ (Ay : Option Addr) (cy : Nat) (ys : List Int), cv = .slice Ay ys.length cy ∧ ys.length ≤ 1000000 ∧ Hid (IntsAt w3 Ay ys) ∧ wx = w3)
  case first =>
    cases ok with
    | true =>
      go_wp2_with fail
      go_meet
      case rel => exact ⟨Az, cz, zs, rfl, hzl, HZ, rfl⟩
    | false =>
      go_wp2_with fail
      go_meet
      case rel => exact ⟨none, 0, [], rfl, by simp, hid (.inl rfl), rfl⟩
  case rest =>
    obtain ⟨Ay, cy, ys, hcv, hyl, HY, hwx⟩ := hcut
    subst hcv
    subst hwx
    rename World => w3
    go_wp2_with fail
    refine (HLA.out _ HK3.out).mono ?_
    rintro _ w4 ⟨v4, ps, rfl, hg4, hb4⟩
    have HG4 := hid hg4
    have HX4 := hid (HX3.out.kb hb4)
    have HK4 := hid (kb_tr HK3.out hb4)
    have HUN4 := hid (HUN3.out.kb hb4)
    have HY4 := hid (HY.out.kb hb4)
    clear hg4 hb4 HX3 HK3 HUN3 HY
    go_wp2_with fail
    refine (HLB.out _ HK4.out).mono ?_
    rintro _ w5 ⟨v5, qs, rfl, hg5, hb5⟩
    obtain ⟨A4, c4, rfl, hc4, hl4⟩ := HG4.out.locks
    obtain ⟨A5, c5, rfl, hc5, hl5⟩ := hg5.locks
    have HP := hid (hl4.kb hb5)
    have HQ := hid hl5
    have HUP := hid HG4.out.2.1
    have HUQ := hid hg5.2.1
    have hp4 := HG4.out.2.2
    have hq4 := hg5.2.2
    have HX5 := hid (HX4.out.kb hb5)
    have HK5 := hid (kb_tr HK4.out hb5)
    have HUN5 := hid (HUN4.out.kb hb5)
    have HY5 := hid (HY4.out.kb hb5)
    clear hg5 hb5 hl4 hl5 HX4 HK4 HUN4 HY4 HG4 hc4 hc5
    have x0 := HX5.out.2 0 _ rfl
    have xl := HX5.out.1
    go_wp2_with fail
    refine (pmoves_any U uc us Ay cy ys A4 c4 ps A5 c5 qs w5 (HF.out.kb HK5.out) HUN5.out HY5.out (by omega) HP.out HQ.out (by omega) (by omega)).mono ?_
    rintro e6 w6 hm6
    obtain ⟨M, mc, ms, rs, rfl, hmv, hper, hmm, hb6⟩ := moves_shape hm6
    have hml : ms.length ≤ 1000 := by
      have h := congrArg List.length hmm
      have h5 := hper.length_eq
      rw [List.length_map, List.length_append, List.length_append, List.length_map, List.length_map, List.length_map] at h
      have h6 := List.length_filter_le (fun x => !hasL (ps.map (·.1)) x) (qs.map (·.1))
      have h7 := List.length_filter_le (fun x => !hasL (qs.map (·.1)) x) (ps.map (·.1)).reverse
      rw [List.length_map] at h6
      rw [List.length_reverse, List.length_map] at h7
      omega
    have harr : doL (ps.map (·.1), []) (ms.map (·.1)) = some (sortN (qs.map (·.1))) := by rw [hmm]; exact arrives HUP.out HUQ.out hper
    have HDO := hid (pdo_any A4 c4 ps M mc ms w6 (HP.out.kb hb6) hmv HUP.out (by omega) hml)
    rw [harr] at HDO
    have HK6 := hid (kb_tr HK5.out hb6)
    have HQ6 := hid (HQ.out.kb hb6)
    clear hm6 hmv hper hmm harr hb6 hml x0 xl
    go_wp2_with fail
    refine HDO.out.mono ?_
    rintro _ w7 ⟨Ax, cx, xs, hxs, rfl, hxc, hxl, hb7⟩
    have HXL := hid hxl
    have HK7 := hid (kb_tr HK6.out hb7)
    have HQ7 := hid (HQ6.out.kb hb7)
    clear hxl hb7 hxc HDO
    have HD2 := hid (pdo_any A5 c5 qs none 0 [] w7 HQ7.out Moves.nil HUQ.out (by omega) (by simp))
    rw [show doL (qs.map (·.1), []) (([] : List MP).map (·.1)) = some (sortN (qs.map (·.1))) from do_none _] at HD2
    go_wp2_with fail
    refine HD2.out.mono ?_
    rintro _ w8 ⟨Ay2, cy2, ws, hws, rfl, hwc, hwl, hb8⟩
    have HK8 := hid (kb_tr HK7.out hb8)
    have hlx : xs.length = qs.length := by rw [← List.length_map (f := fun x : LP => x.1), hxs, sortN_lenG HUQ.out, List.length_map]
    have HSL := hid (samelines_any Ax Ay2 cx cy2 xs ws w8 (HXL.out.kb hb8) hwl (by omega))
    rw [eqLks_map (hxs.trans hws.symm)] at HSL
    clear hwl hb8 hwc HD2
    rw [hlx] at HSL ⊢
    go_wp2_with fail
    refine HSL.out.mono ?_
    rintro _ w9 ⟨rfl, hb9⟩
    have HK9 := hid (kb_tr HK8.out hb9)
    clear hb9
    go_wp2_with fail
    refine (HAW.out _ HK9.out).mono ?_
    rintro _ wa ⟨rfl, hb⟩
    go_wp2_with fail
    try rw [Exit.noGoto_ret]
    try go_ret
    exact ⟨rfl, kb_tr HK9.out hb⟩
end Go.Proofs.YtlmkglgjdmjnkaaGreatDoor
namespace Go.Proofs.YtlmkglgjdmjnkaaGreatDoor
open Go.RowKit Go.Lib
open Rw
set_option linter.unusedVariables false
set_option linter.unusedSimpArgs false
set_option maxRecDepth 100000 in
set_option maxHeartbeats 4000000 in
theorem walk_PlanBack (C : Option Addr) (c : Nat) (xw : List Int) (n : Int) (A : Option Addr) (a : Nat) (xa : List Int) (B : Option Addr) (b : Nat) (xb : List Int) (w : World) (hC : IntsAt w C xw) (hnc : xw.length ≤ 9223372036854775807) (_ : (Lit.int .i64 n).wf = true) (hA : IntsAt w A xa) (hna : xa.length ≤ 9223372036854775807) (hB : IntsAt w B xb) (hnb : xb.length ≤ 9223372036854775807) (hF : First w) : Calls Tryz.prog 5 #[.slice C xw.length c, .int .i64 n, .slice A xa.length a, .slice B xb.length b] w (BoolK w true) := by
  have HAW := hid (fun u (hb : KB w.heap.size w u) => lawake_any u (hF.kb hb))
  have HLA := hid (fun u (hb : KB w.heap.size w u) => glines_any A a xa u (hA.kb hb) hna)
  have HLB := hid (fun u (hb : KB w.heap.size w u) => glines_any B b xb u (hB.kb hb) hnb)
  have HWD := hid (gworld_any C c xw w hF hC hnc 3 (by omega) (by omega))
  have HF := hid hF
  clear hA hB hC hF
  generalize xa.length = na at *
  generalize xb.length = nb at *
  generalize xw.length = nw at *
  go_enter Tryz.func5, Tryz.ntmps5
  by_cases h1 : 60 < na
  · have i1 : (60 : Int) < (na : Int) := by omega
    go_wp2_with fail
    refine (HAW.out _ (kb_refl _)).mono ?_
    rintro _ w1 ⟨rfl, hb⟩
    go_wp2_with fail
    go_ret
    exact ⟨rfl, hb⟩
  have i1 : ¬ (60 : Int) < (na : Int) := by omega
  by_cases h2 : 60 < nb
  · have i2 : (60 : Int) < (nb : Int) := by omega
    go_wp2_with fail
    refine (HAW.out _ (kb_refl _)).mono ?_
    rintro _ w1 ⟨rfl, hb⟩
    go_wp2_with fail
    go_ret
    exact ⟨rfl, hb⟩
  have i2 : ¬ (60 : Int) < (nb : Int) := by omega
  go_upto_region 3 with fail
  go_wp2_with fail
  refine HWD.out.mono ?_
  rintro _ w1 ⟨⟨us, U, uc, rfl, hun, hwt, hu0⟩, hb1⟩
  have HUN := hid hun
  have HWT := hid hwt
  have HK1 := hid hb1
  clear hun hwt hb1 HWD
  go_upto_region 4 with fail
  refine wp_name ?_
  intro w2 hw2
  have hk2 : KB w1.heap.size w1 w2 := by rw [hw2]; exact kb_new _ _
  have HX2 := hid (show Box w2 w1.heap.size [.slice U us.length uc] from by rw [hw2]; exact Box.new w1 [.slice U us.length uc] 42)
  have HK2 := hid (kb_tr HK1.out hk2)
  have HUN2 := hid (HUN.out.kb hk2)
  clear hw2 hk2 HUN HK1
  have x0 := HX2.out.2 0 _ rfl
  have xl := HX2.out.1
  go_wp2_with fail
  refine (lholding_any U uc us n w2 HUN2.out HWT.out hu0).mono ?_
  rintro _ w3 ⟨⟨Az, cz, zs, ok, rfl, hz, hzl⟩, hb3⟩
  have HZ := hid hz
  have HX3 := hid (HX2.out.kb hb3)
  have HK3 := hid (kb_tr HK2.out hb3)
  have HUN3 := hid (HUN2.out.kb hb3)
  clear hz hb3 x0 xl HX2 HK2 HUN2
  go_upto_if 38 with fail
  go_cut [10] from 38 to 39 (fun cv wx => ∃ (Ay : Option Addr) (cy : Nat) (ys : List Int), cv = .slice Ay ys.length cy ∧ ys.length ≤ 1000000 ∧ Hid (IntsAt w3 Ay ys) ∧ wx = w3)
  case first =>
    cases ok with
    | true =>
      go_wp2_with fail
      go_meet
      case rel => exact ⟨Az, cz, zs, rfl, hzl, HZ, rfl⟩
    | false =>
      go_wp2_with fail
      go_meet
      case rel => exact ⟨none, 0, [], rfl, by simp, hid (.inl rfl), rfl⟩
  case rest =>
    obtain ⟨Ay, cy, ys, hcv, hyl, HY, hwx⟩ := hcut
    subst hcv
    subst hwx
    rename World => w3
    go_wp2_with fail
    refine (HLA.out _ HK3.out).mono ?_
    rintro _ w4 ⟨v4, ps, rfl, hg4, hb4⟩
    have HG4 := hid hg4
    have HX4 := hid (HX3.out.kb hb4)
    have HK4 := hid (kb_tr HK3.out hb4)
    have HUN4 := hid (HUN3.out.kb hb4)
    have HY4 := hid (HY.out.kb hb4)
    clear hg4 hb4 HX3 HK3 HUN3 HY
    go_wp2_with fail
    refine (HLB.out _ HK4.out).mono ?_
    rintro _ w5 ⟨v5, qs, rfl, hg5, hb5⟩
    obtain ⟨A4, c4, rfl, hc4, hl4⟩ := HG4.out.locks
    obtain ⟨A5, c5, rfl, hc5, hl5⟩ := hg5.locks
    have HP := hid (hl4.kb hb5)
    have HQ := hid hl5
    have HUP := hid HG4.out.2.1
    have HUQ := hid hg5.2.1
    have hp4 := HG4.out.2.2
    have hq4 := hg5.2.2
    have HX5 := hid (HX4.out.kb hb5)
    have HK5 := hid (kb_tr HK4.out hb5)
    have HUN5 := hid (HUN4.out.kb hb5)
    have HY5 := hid (HY4.out.kb hb5)
    clear hg5 hb5 hl4 hl5 HX4 HK4 HUN4 HY4 HG4 hc4 hc5
    have x0 := HX5.out.2 0 _ rfl
    have xl := HX5.out.1
    go_wp2_with fail
    refine (pmoves_any U uc us Ay cy ys A4 c4 ps A5 c5 qs w5 (HF.out.kb HK5.out) HUN5.out HY5.out (by omega) HP.out HQ.out (by omega) (by omega)).mono ?_
    rintro e6 w6 hm6
    obtain ⟨M, mc, ms, rs, rfl, hmv, hper, hmm, hb6⟩ := moves_shape hm6
    have hml : ms.length ≤ 1000 := by
      have h := congrArg List.length hmm
      have h5 := hper.length_eq
      rw [List.length_map, List.length_append, List.length_append, List.length_map, List.length_map, List.length_map] at h
      have h6 := List.length_filter_le (fun x => !hasL (ps.map (·.1)) x) (qs.map (·.1))
      have h7 := List.length_filter_le (fun x => !hasL (qs.map (·.1)) x) (ps.map (·.1)).reverse
      rw [List.length_map] at h6
      rw [List.length_reverse, List.length_map] at h7
      omega
    have harr : doL (ps.map (·.1), []) (ms.map (·.1)) = some (sortN (qs.map (·.1))) := by rw [hmm]; exact arrives HUP.out HUQ.out hper
    have HDO := hid (pdo_any A4 c4 ps M mc ms w6 (HP.out.kb hb6) hmv HUP.out (by omega) hml)
    rw [harr] at HDO
    have HK6 := hid (kb_tr HK5.out hb6)
    have HP6 := hid (HP.out.kb hb6)
    have HX6 := hid (HX5.out.kb hb6)
    have HUN6 := hid (HUN5.out.kb hb6)
    have HY6 := hid (HY5.out.kb hb6)
    clear hm6 hmv hper hmm harr hb6 hml x0 xl
    go_wp2_with fail
    refine HDO.out.mono ?_
    rintro _ w7 ⟨Ax, cx, xs, hxs, rfl, hxc, hxl, hb7⟩
    have hlx : xs.length = qs.length := by rw [← List.length_map (f := fun x : LP => x.1), hxs, sortN_lenG HUQ.out, List.length_map]
    have HXL := hid hxl
    have hk7 := kb_tr HK6.out hb7
    have HK7 := hid hk7
    have HP7 := hid ((HP6.out).kb hb7)
    have HX7 := hid (HX6.out.kb hb7)
    have HUN7 := hid (HUN6.out.kb hb7)
    have HY7 := hid (HY6.out.kb hb7)
    have HXS := hid hxs
    clear hxl hb7 hxc HDO hk7 HP6 HX6 HUN6 HY6 HK6
    have x0 := HX7.out.2 0 _ rfl
    have xl := HX7.out.1
    have HMV2 := hid (pmoves_any U uc us Ay cy ys Ax cx xs A4 c4 ps w7 (HF.out.kb HK7.out) HUN7.out HY7.out (by omega) HXL.out HP7.out (by omega) (by omega))
    obtain ⟨nx, hnx⟩ : ∃ n, xs.length = n := ⟨_, rfl⟩
    have HNX := hid hnx
    rw [hnx] at HMV2 hlx ⊢
    have hx4 : nx ≤ 4 := by omega
    clear hnx hxs hlx
    go_wp2_with fail
    refine HMV2.out.mono ?_
    rintro e8 w8 hm8
    obtain ⟨M2, mc2, ms2, rs2, rfl, hmv2, hper2, hmm2, hb8⟩ := moves_shape hm8
    have hml2 : ms2.length ≤ 1000 := by
      have h := congrArg List.length hmm2
      have h5 := hper2.length_eq
      rw [List.length_map, List.length_append, List.length_append, List.length_map, List.length_map, List.length_map] at h
      have h6 := List.length_filter_le (fun x => !hasL (xs.map (·.1)) x) (ps.map (·.1))
      have h7 := List.length_filter_le (fun x => !hasL (ps.map (·.1)) x) (xs.map (·.1)).reverse
      rw [List.length_map] at h6
      rw [List.length_reverse, List.length_map, HNX.out] at h7
      omega
    have hback : doL (xs.map (·.1), []) (ms2.map (·.1)) = some (sortN (ps.map (·.1))) := by
      rw [hmm2, HXS.out]
      rw [HXS.out] at hper2
      exact comes_back HUP.out HUQ.out hper2
    have HDO2 := hid (pdo_any Ax cx xs M2 mc2 ms2 w8 (HXL.out.kb hb8) hmv2 (by rw [HXS.out]; exact sortN_un HUQ.out) (by rw [HNX.out]; omega) hml2)
    rw [hback, HNX.out] at HDO2
    have HK8 := hid (kb_tr HK7.out hb8)
    have HP8 := hid (HP7.out.kb hb8)
    clear hm8 hmv2 hper2 hmm2 hback hb8 hml2 x0 xl HMV2
    go_wp2_with fail
    refine HDO2.out.mono ?_
    rintro _ w9 ⟨Ax2, cx2, xs2, hxs2, rfl, hxc2, hxl2, hb9⟩
    have HXL2 := hid hxl2
    have HK9 := hid (kb_tr HK8.out hb9)
    have HP9 := hid (HP8.out.kb hb9)
    have HXS2 := hid hxs2
    have hl2 : xs2.length ≤ 1000 := by
      have h : xs2.length = ps.length := by rw [← List.length_map (f := fun x : LP => x.1), hxs2, sortN_lenG HUP.out, List.length_map]
      omega
    clear hxl2 hb9 hxc2 HDO2 hxs2
    have HD3 := hid (pdo_any A4 c4 ps none 0 [] w9 HP9.out Moves.nil HUP.out (by omega) (by simp))
    rw [show doL (ps.map (·.1), []) (([] : List MP).map (·.1)) = some (sortN (ps.map (·.1))) from do_none _] at HD3
    go_wp2_with fail
    refine HD3.out.mono ?_
    rintro _ wa ⟨Az2, cz2, zs2, hzs2, rfl, hzc2, hzl2, hba⟩
    have HKA := hid (kb_tr HK9.out hba)
    have HSL := hid (samelines_any Ax2 Az2 cx2 cz2 xs2 zs2 wa (HXL2.out.kb hba) hzl2 (by omega))
    rw [eqLks_map (HXS2.out.trans hzs2.symm)] at HSL
    clear hzl2 hba hzc2 HD3 hzs2
    go_wp2_with fail
    refine HSL.out.mono ?_
    rintro _ wb ⟨rfl, hbb⟩
    have HKB := hid (kb_tr HKA.out hbb)
    clear hbb
    go_wp2_with fail
    refine (HAW.out _ HKB.out).mono ?_
    rintro _ wd ⟨rfl, hb⟩
    go_wp2_with fail
    try rw [Exit.noGoto_ret]
    try go_ret
    exact ⟨rfl, kb_tr HKB.out hb⟩
end Go.Proofs.YtlmkglgjdmjnkaaGreatDoor
