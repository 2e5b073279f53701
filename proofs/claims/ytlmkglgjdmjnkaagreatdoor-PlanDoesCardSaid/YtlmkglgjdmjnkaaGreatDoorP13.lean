/- world.candidate, world.order. -/
import Derived.Test.YtlmkglgjdmjnkaaGreatDoorP12
namespace Go.Proofs.YtlmkglgjdmjnkaaGreatDoor
open Go.RowKit Go.Lib
open Rw
set_option linter.unusedVariables false
set_option linter.unusedSimpArgs false

/-- may this row of wants be? -/
def mayN (n : Int) (x : NeedP) : Bool := !(decide (x.l.length < 1) || (decide (24 < x.l.length) || !x.l.all (mayW n)))
def mayCd (n : Int) (x : CandP) : Bool := !(decide (24 < x.needs.length) || decide (24 < x.bars.length)) && (x.needs.all (mayN n) && x.bars.all (mayW n))
theorem need_at {w : World} {A : Option Addr} {l : List NeedP} {k : Nat} (h : NeedsAt w A l) (hk : k < l.length) : ∃ b off, A = some ⟨b, off, none⟩ ∧ WantsAt w l[k].A l[k].l ∧ b < w.heap.size ∧ w.cell? ⟨b, off + k * 1, none⟩ = some (.slice l[k].A l[k].l.length l[k].c) := by
  obtain ⟨b, off, hA, hl, h2⟩ := h.row.at_ hk
  exact ⟨b, off, hA, h.sub _ (List.getElem_mem hk), hl, h2 0 _ rfl⟩
set_option maxRecDepth 100000 in
set_option maxHeartbeats 4000000 in
theorem wcand_any (x : CandP) (n : Int) (w : World) (hF : First w) (hA : CandIs w x) : Calls Tryz.prog 145 #[.agg #[.int .i64 x.v.maj, .int .i64 x.v.min, .int .i64 x.v.pat, .string x.v.pre, .string x.v.bld, .int .i64 x.shelf, .slice x.A x.needs.length x.c, .slice x.B x.bars.length x.d], .int .i64 n] w (BoolK w (mayCd n x)) := by
  have HB0 := hid (kb_new w (.cells (cdC x).toArray 79))
  have HX := hid (Box.new w (cdC x) 79)
  have HN := hid (hA.needs.kb HB0.out)
  have HFF := hid (hF.kb HB0.out)
  have hbl := hA.bars.len
  have hnl := hA.needs.len
  have HBW := hid (fun u (hb : KB w.heap.size w u) => show Calls Tryz.prog 176 #[.slice x.B x.bars.length x.d, .int .i64 n] u (BoolK u (x.bars.all (mayW n))) from wwants_any x.B x.d x.bars n u (hF.kb hb) (hA.bars.kb hb))
  have HV := hid (show mayCd n x = (!(decide (24 < x.needs.length) || decide (24 < x.bars.length)) && (x.needs.all (mayN n) && x.bars.all (mayW n))) from rfl)
  clear hF hA
  generalize mayCd n x = res at *
  obtain ⟨⟨v1, v2, v3, v4, v5⟩, sh, ns, bs, A, c, B, d⟩ := x
  dsimp only [cdC] at HX HN hbl hnl HBW HV HB0 HFF ⊢
  generalize bs.all (mayW n) = rb at *
  generalize bs.length = nb at *
  obtain ⟨m, hm⟩ : ∃ m, ns.length = m := ⟨_, rfl⟩
  rw [hm] at hnl HX HV HB0 HFF HN ⊢
  have HM := hid hm
  clear hm
  have HR0 := hid (show ns.all (mayN n) = (ns.drop 0).all (mayN n) from rfl)
  go_enter Tryz.func145, Tryz.ntmps145
  go_upto_region 1 with fail
  refine wp_name ?_
  intro u0 hu0
  rw [← hu0] at HX HB0 HFF HN
  clear hu0
  have x6 := HX.out.2 6 _ rfl
  have x7 := HX.out.2 7 _ rfl
  have xl := HX.out.1
  by_cases g1 : 24 < m
  · have i1 : (24 : Int) < (m : Int) := by omega
    have HRS := hid (show res = false from by rw [HV.out]; simp [g1])
    go_wp2_with fail
    go_ret
    exact ⟨by rw [HRS.out]; rfl, HB0.out⟩
  · have i1 : ¬ (24 : Int) < (m : Int) := by omega
    by_cases g2 : 24 < nb
    · have i2 : (24 : Int) < (nb : Int) := by omega
      have HRS := hid (show res = false from by rw [HV.out]; simp [g2])
      go_wp2_with fail
      go_ret
      exact ⟨by rw [HRS.out]; rfl, HB0.out⟩
    · have i2 : ¬ (24 : Int) < (nb : Int) := by omega
      have HV2 := hid (show res = (ns.all (mayN n) && rb) from by rw [HV.out]; simp [g1, g2])
      clear HV
      generalize ns.all (mayN n) = ra at *
      go_upto_block 0 with fail
      go_wp2_with fail
      go_loopw [20] (fun iv wr => ∃ k : Nat, iv = .int .i64 (k : Int) ∧ k ≤ m ∧ Hid (ra = (ns.drop k).all (mayN n)) ∧ Hid (KB u0.heap.size u0 wr)) (fun iv _ => m - (intOf iv).toNat)
      case atStart => exact ⟨0, rfl, Nat.zero_le _, HR0, hid (kb_refl _)⟩
      case round =>
        clear HR0 x6 x7 xl
        rename World => wr
        obtain ⟨k, rfl, hk, HR, HK⟩ := hrel
        have HKK := hid (kb_tr HB0.out HK.out)
        have k0 : (0 : Int) ≤ (k : Int) := by omega
        by_cases hlt : k < m
        · have h1 : k < ns.length := by rw [HM.out]; exact hlt
          have k1 : (k : Int) < (m : Int) := by omega
          obtain ⟨b, off, hA, hx, hbl, c0⟩ := need_at (HN.out.kb HK.out) h1
          subst hA
          have HST := hid (HR.out.trans (by rw [List.drop_eq_getElem_cons h1, List.all_cons]))
          rw [Nat.mul_one] at c0
          clear HR
          generalize ns[k] = y at *
          clear h1
          have hyl := hx.len
          have HW := hid (wwants_any y.A y.c y.l n wr (HFF.out.kb HK.out) hx)
          have HMN := hid (show mayN n y = !(decide (y.l.length < 1) || (decide (24 < y.l.length) || !y.l.all (mayW n))) from rfl)
          clear hx
          generalize y.l.all (mayW n) = ry at *
          generalize y.l.length = ny at *
          by_cases g3 : ny < 1
          · have j3 : (ny : Int) < 1 := by omega
            have HRS := hid (show res = false from by rw [HV2.out, HST.out, HMN.out]; simp [g3])
            go_wp2_with fail
            try rw [Exit.noGoto_ret]
            try (first | go_ret | go_ret2)
            exact ⟨by rw [HRS.out]; rfl, HKK.out⟩
          · have j3 : ¬ (ny : Int) < 1 := by omega
            by_cases g4 : 24 < ny
            · have j4 : (24 : Int) < (ny : Int) := by omega
              have HRS := hid (show res = false from by rw [HV2.out, HST.out, HMN.out]; simp [g4])
              go_wp2_with fail
              try rw [Exit.noGoto_ret]
              try (first | go_ret | go_ret2)
              exact ⟨by rw [HRS.out]; rfl, HKK.out⟩
            · have j4 : ¬ (24 : Int) < (ny : Int) := by omega
              go_wp2_with fail
              refine HW.out.mono ?_
              rintro _ u2 ⟨rfl, hb⟩
              have HK2 := hid (kb_tr HK.out hb)
              have HKK2 := hid (kb_tr HKK.out hb)
              clear hb
              cases ry with
              | false =>
                have HRS := hid (show res = false from by rw [HV2.out, HST.out, HMN.out]; simp)
                go_wp2_with fail
                try rw [Exit.noGoto_ret]
                try (first | go_ret | go_ret2)
                exact ⟨by rw [HRS.out]; rfl, HKK2.out⟩
              | true =>
                have HRS := hid (show ra = (ns.drop (k + 1)).all (mayN n) from by rw [HST.out, HMN.out]; simp [g3, g4])
                go_wp2_with fail
                refine ⟨⟨k + 1, by go_num, by omega, HRS, HK2⟩, ?_⟩
                simp [intOf] <;> omega
        · obtain rfl : k = m := by omega
          have k1 : ¬ (k : Int) < (k : Int) := by omega
          have HRS := hid (show res = rb from by rw [HV2.out, HR.out, List.drop_eq_nil_of_le (by rw [HM.out]; exact Nat.le_refl _)]; simp)
          have HXW := hid (HX.out.kb HK.out)
          have x7 := HXW.out.2 7 _ rfl
          have xl := HXW.out.1
          go_wp2_with fail
          refine (HBW.out _ HKK.out).mono ?_
          rintro _ u2 ⟨rfl, hb⟩
          go_wp2_with fail
          try rw [Exit.noGoto_ret]
          try (first | go_ret | go_ret2)
          exact ⟨by rw [HRS.out]; rfl, kb_tr HKK.out hb⟩
end Go.Proofs.YtlmkglgjdmjnkaaGreatDoor
namespace Go.Proofs.YtlmkglgjdmjnkaaGreatDoor
open Go.RowKit Go.Lib
open Rw
set_option linter.unusedVariables false
set_option linter.unusedSimpArgs false

def orI (p q : Int) : Int := if p ≠ 0 then p else q
set_option maxHeartbeats 1000000 in
theorem cmpor_any (g : Nat) (p q : Int) (w : World) (hB : Box w g [.int .i64 p, .int .i64 q]) : Calls Tryz.prog 167 #[.slice (some ⟨g, 0, none⟩) 2 2] w fun e w' => e = .returned (.int .i64 (orI p q)) ∧ w = w' := by
  have c0 := hB.2 0 _ rfl
  have c1 := hB.2 1 _ rfl
  have cl := hB.1
  have HO := hid (show orI p q = if p ≠ 0 then p else q from rfl)
  generalize orI p q = r at *
  clear hB
  go_enter Tryz.func167, Tryz.ntmps167
  go_upto_block 0 with fail
  go_wp2_with fail
  go_loop [8] (fun i => (i = .int .i64 0 ∨ (i = .int .i64 1 ∧ p = 0) ∨ (i = .int .i64 2 ∧ p = 0 ∧ q = 0))) (fun i => 2 - (intOf i).toNat)
  case atStart => exact .inl rfl
  case round =>
    rcases hrel with rfl | ⟨rfl, hp⟩ | ⟨rfl, hp, hq⟩
    · by_cases hp : p = 0
      · subst hp
        go_wp2_with fail
        go_round
        case rel => exact .inr (.inl ⟨rfl, by first | trivial | rfl⟩)
        case measure => simp [intOf]
      · have e0 : (p != 0) = true := by rw [bne_iff_ne]; exact hp
        have HR := hid (HO.out.trans (if_pos hp))
        go_wp2_with fail
        try rw [Exit.noGoto_ret]
        try (first | go_ret | go_ret2)
        exact ⟨by rw [HR.out]; rfl, rfl⟩
    · subst hp
      by_cases hq : q = 0
      · subst hq
        go_wp2_with fail
        go_round
        case rel => exact .inr (.inr ⟨rfl, by first | trivial | rfl, by first | trivial | rfl⟩)
        case measure => simp [intOf]
      · have e0 : (q != 0) = true := by rw [bne_iff_ne]; exact hq
        have HR := hid (HO.out.trans (if_neg (by simp)))
        go_wp2_with fail
        try rw [Exit.noGoto_ret]
        try (first | go_ret | go_ret2)
        exact ⟨by rw [HR.out]; rfl, rfl⟩
    · subst hp
      subst hq
      have HR := hid (HO.out.trans (if_neg (by simp)))
      go_wp2_with fail
      try rw [Exit.noGoto_ret]
      try (first | go_ret | go_ret2)
      exact ⟨by rw [HR.out]; rfl, rfl⟩
def ordU (a b c d : ByteArray) : Int := orI (cmpB (bts a) (bts c)) (cmpB (bts b) (bts d))
set_option maxHeartbeats 1000000 in
theorem worder_any (a b c d : ByteArray) (w : World) : Calls Tryz.prog 142 #[.agg #[.string a, .string b], .agg #[.string c, .string d]] w (IntK w (ordU a b c d)) := by
  have HC1 := hid (fun u => cmps_any a c u)
  have HC2 := hid (fun u => cmps_any b d u)
  have HU := hid (show ordU a b c d = orI (cmpB (bts a) (bts c)) (cmpB (bts b) (bts d)) from rfl)
  generalize cmpB (bts a) (bts c) = p at *
  generalize cmpB (bts b) (bts d) = q at *
  go_enter Tryz.func142, Tryz.ntmps142
  go_upto_region 1 with fail
  refine wp_name ?_
  intro u1 hu1
  have HB1 := hid (show Box u1 w.heap.size [.string a, .string b] from by rw [hu1]; exact (Box.new w [.string a, .string b] _).kb (kb_new _ _))
  have HB2 := hid (show Box u1 (w.heap.size + 1) [.string c, .string d] from by rw [hu1]; have h := Box.new (w.alloc (.cells [.string a, .string b].toArray 206)) [.string c, .string d] 206; rwa [World.size_alloc] at h)
  have HK := hid (show KB w.heap.size w u1 from by rw [hu1]; exact kb_tr (kb_new _ _) (kb_new _ _))
  clear hu1
  generalize w.heap.size + 1 = g2 at *
  have hS : KB u1.heap.size u1 u1.drew := kb_drewJ (kb_refl _)
  refine wp_planS (fun u => KB u1.heap.size u1 u) (.call [0, 1, 2, 3, 5, 6, 7, 8] 4 (.call [] 9 (.call [] 10 (.call [] 11 (.last [12]))))) (by first | assumption | skip) (by kernel_rfl) (by intro _ _ d _ _ h; cases d <;> exact h) (by kernel_rfl) ?_
  have iS : Nonempty (SW fun u => KB u1.heap.size u1 u) := ⟨⟨_, hS⟩⟩
  have x0 := fun (z : SW fun u => KB u1.heap.size u1 u) => (HB1.out.kb z.ok).2 0 _ rfl
  have x1 := fun (z : SW fun u => KB u1.heap.size u1 u) => (HB1.out.kb z.ok).2 1 _ rfl
  have xl := fun (z : SW fun u => KB u1.heap.size u1 u) => (HB1.out.kb z.ok).1
  have y0 := fun (z : SW fun u => KB u1.heap.size u1 u) => (HB2.out.kb z.ok).2 0 _ rfl
  have y1 := fun (z : SW fun u => KB u1.heap.size u1 u) => (HB2.out.kb z.ok).2 1 _ rfl
  have yl := fun (z : SW fun u => KB u1.heap.size u1 u) => (HB2.out.kb z.ok).1
  with_reducible refine plan_call ?_
  simp only [pickOps, List.map_cons, List.map_nil, List.getElem?_toArray, List.getElem?_cons_zero, List.getElem?_cons_succ, Option.getD_some]
  repeat go_big_quiet_step (fail)
  refine wpQuiet_nil ?_
  go_wp2_with fail
  refine (HC1.out _).mono ?_
  rintro _ _ ⟨rfl, rfl⟩
  go_wp2_with fail
  refine plan_onS (hS) ?_
  with_reducible refine plan_call ?_
  simp only [pickOps, List.map_cons, List.map_nil, List.getElem?_toArray, List.getElem?_cons_zero, List.getElem?_cons_succ, Option.getD_some]
  repeat go_big_quiet_step (fail)
  refine wpQuiet_nil ?_
  go_wp2_with fail
  refine (HC2.out _).mono ?_
  rintro _ _ ⟨rfl, rfl⟩
  go_wp2_with fail
  refine plan_onS (hS) ?_
  with_reducible refine plan_call ?_
  simp only [pickOps, List.map_cons, List.map_nil, List.getElem?_toArray, List.getElem?_cons_zero, List.getElem?_cons_succ, Option.getD_some]
  repeat go_big_quiet_step (fail)
  refine wpQuiet_nil ?_
  go_wp2_with fail
  have HBX := hid (show Box ((u1.alloc (.cells #[.int .i64 p, .int .i64 q] 3)).drew) u1.heap.size [.int .i64 p, .int .i64 q] from (Box.new u1 [.int .i64 p, .int .i64 q] 3).kb (kb_drewJ (kb_refl _)))
  have HK2 := hid (show KB u1.heap.size u1 ((u1.alloc (.cells #[.int .i64 p, .int .i64 q] 3)).drew) from kb_drewJ (kb_new _ _))
  generalize ((u1.alloc (.cells #[.int .i64 p, .int .i64 q] 3)).drew) = u2 at *
  refine plan_onS HK2.out ?_
  with_reducible refine plan_call ?_
  simp only [pickOps, List.map_cons, List.map_nil, List.getElem?_toArray, List.getElem?_cons_zero, List.getElem?_cons_succ, Option.getD_some]
  repeat go_big_quiet_step (fail)
  refine wpQuiet_nil ?_
  go_wp2_with fail
  refine (cmpor_any u1.heap.size p q u2 HBX.out).mono ?_
  rintro _ _ ⟨rfl, rfl⟩
  go_wp2_with fail
  refine plan_onS (HK2.out) ?_
  with_reducible refine plan_last ?_
  simp only [pickOps, List.map_cons, List.map_nil, List.getElem?_toArray, List.getElem?_cons_zero, List.getElem?_cons_succ, Option.getD_some]
  repeat go_big_quiet_step (fail)
  refine wpQuiet_nil ?_
  clear iS x0 x1 xl y0 y1 yl
  go_wp2_with fail
  try rw [Exit.noGoto_ret]
  try go_ret
  exact ⟨by rw [HU.out]; rfl, kb_tr HK.out HK2.out⟩
end Go.Proofs.YtlmkglgjdmjnkaaGreatDoor
namespace Go.Proofs.YtlmkglgjdmjnkaaGreatDoor
open Go.RowKit Go.Lib
open Rw
set_option linter.unusedVariables false
set_option linter.unusedSimpArgs false

/-- does each entry name a candidate of its unit, or none? -/
def fitsG : List Int → List UnitP → Bool
  | [], _ => true
  | _ :: _, [] => false
  | z :: zs, u :: us => !(decide (z < -1) || decide ((u.cands.length : Int) ≤ z)) && fitsG zs us
def fitsC (us : List UnitP) (zs : List Int) : Bool := decide (zs.length = us.length) && fitsG zs us
theorem fits_drop {zs : List Int} {us : List UnitP} {k : Nat} (h1 : k < zs.length) (h2 : k < us.length) : fitsG (zs.drop k) (us.drop k) = (!(decide (zs[k] < -1) || decide ((us[k].cands.length : Int) ≤ zs[k])) && fitsG (zs.drop (k + 1)) (us.drop (k + 1))) := by
  rw [List.drop_eq_getElem_cons h1, List.drop_eq_getElem_cons h2, fitsG]
theorem unit_at {w : World} {A : Option Addr} {l : List UnitP} {k : Nat} (h : UnitsAt w A l) (hk : k < l.length) : ∃ b off, A = some ⟨b, off, none⟩ ∧ UnitIs w l[k] ∧ b < w.heap.size ∧ w.cell? ⟨b, off + k * 3, none⟩ = some (.string l[k].name) ∧ w.cell? ⟨b, off + k * 3 + 1, none⟩ = some (.string l[k].feature) ∧ w.cell? ⟨b, off + k * 3 + 2, none⟩ = some (.slice l[k].A l[k].cands.length l[k].c) := by
  obtain ⟨b, off, hA, hl, h2⟩ := h.row.at_ hk
  exact ⟨b, off, hA, h.sub _ (List.getElem_mem hk), hl, h2 0 _ rfl, h2 1 _ rfl, h2 2 _ rfl⟩
theorem int_at {w : World} {A : Option Addr} {zs : List Int} {k : Nat} (h : IntsAt w A zs) (hk : k < zs.length) : ∃ b off, A = some ⟨b, off, none⟩ ∧ b < w.heap.size ∧ w.cell? ⟨b, off + k, none⟩ = some (.int .i64 zs[k]) := by
  rcases h with h | ⟨b, off, rfl, hb, hc⟩
  · subst h; simp at hk
  · have := hc k hk
    rw [List.getD_eq_getElem?_getD, List.getElem?_eq_getElem hk, Option.getD_some] at this
    exact ⟨b, off, rfl, hb, this⟩
set_option maxRecDepth 100000 in
set_option maxHeartbeats 4000000 in
theorem cfits_any (U : Option Addr) (uc : Nat) (us : List UnitP) (A : Option Addr) (c : Nat) (zs : List Int) (w : World) (hU : UnitsAt w U us) (hA : IntsAt w A zs) (hn : zs.length ≤ 9223372036854775807) : Calls Tryz.prog 104 #[.agg #[.slice U us.length uc], .slice A zs.length c] w (BoolK w (fitsC us zs)) := by
  have HB0 := hid (kb_new w (.cells [.slice U us.length uc].toArray 42))
  have HX := hid (Box.new w [.slice U us.length uc] 42)
  have HU := hid (hU.kb HB0.out)
  have HZ := hid (hA.kb HB0.out)
  have hul := hU.len
  have HV := hid (show fitsC us zs = (decide (zs.length = us.length) && fitsG (zs.drop 0) (us.drop 0)) from rfl)
  clear hU hA
  generalize fitsC us zs = res at *
  obtain ⟨m, hm⟩ : ∃ m, us.length = m := ⟨_, rfl⟩
  obtain ⟨n, hnn⟩ : ∃ n, zs.length = n := ⟨_, rfl⟩
  rw [hm] at hul HX HV HB0 HU HZ ⊢
  rw [hnn] at hn HV ⊢
  have HM := hid hm
  have HN := hid hnn
  clear hm hnn
  go_enter Tryz.func104, Tryz.ntmps104
  go_upto_region 1 with fail
  refine wp_name ?_
  intro u0 hu0
  rw [← hu0] at HX HB0 HU HZ
  clear hu0
  have xl := HX.out.1
  have x0 := HX.out.2 0 _ rfl
  by_cases g1 : n = m
  · subst g1
    have HV2 := hid (show res = fitsG (zs.drop 0) (us.drop 0) from by rw [HV.out]; simp)
    clear HV
    go_upto_block 0 with fail
    go_wp2_with fail
    go_loopw [15] (fun iv wr => ∃ k : Nat, iv = .int .i64 (k : Int) ∧ k ≤ n ∧ Hid (res = fitsG (zs.drop k) (us.drop k)) ∧ wr = u0) (fun iv _ => n - (intOf iv).toNat)
    case atStart => exact ⟨0, rfl, Nat.zero_le _, HV2, rfl⟩
    case round =>
      clear HV2
      rename World => wr
      obtain ⟨k, rfl, hk, HR, rfl⟩ := hrel
      have k0 : (0 : Int) ≤ (k : Int) := by omega
      by_cases hlt : k < n
      · have h1 : k < zs.length := by rw [HN.out]; exact hlt
        have h2 : k < us.length := by rw [HM.out]; exact hlt
        have k1 : (k : Int) < (n : Int) := by omega
        obtain ⟨bz, oz, hz, hbz, cz⟩ := int_at HZ.out h1
        obtain ⟨bu, ou, hu, hui, hbu, cn, cf, cc⟩ := unit_at HU.out h2
        subst hz
        subst hu
        have hcl := hui.cands.len
        have HST := hid (HR.out.trans (fits_drop h1 h2))
        clear HR hui cn cf
        generalize zs[k] = z at *
        generalize us[k] = y at *
        clear h1 h2
        generalize y.cands.length = nc at *
        by_cases g2 : z < -1
        · have HRS := hid (show res = false from by rw [HST.out]; simp [g2])
          go_wp2_with fail
          try rw [Exit.noGoto_ret]
          try (first | go_ret | go_ret2)
          exact ⟨by rw [HRS.out]; rfl, HB0.out⟩
        · by_cases g3 : (nc : Int) ≤ z
          · have HRS := hid (show res = false from by rw [HST.out]; simp [g3])
            go_wp2_with fail
            try rw [Exit.noGoto_ret]
            try (first | go_ret | go_ret2)
            exact ⟨by rw [HRS.out]; rfl, HB0.out⟩
          · have HRS := hid (show res = fitsG (zs.drop (k + 1)) (us.drop (k + 1)) from by rw [HST.out]; simp [g2, g3])
            go_wp2_with fail
            first
              | (go_roundw
                 case rel => exact ⟨k + 1, by go_num, by omega, HRS, by first | trivial | rfl⟩
                 case measure => simp [intOf] <;> omega)
              | (refine ⟨⟨k + 1, by go_num, by omega, HRS, by first | trivial | rfl⟩, ?_⟩
                 simp [intOf] <;> omega)
      · obtain rfl : k = n := by omega
        have k1 : ¬ (k : Int) < (k : Int) := by omega
        have HRS := hid (show res = true from by rw [HR.out, List.drop_eq_nil_of_le (by rw [HN.out]; exact Nat.le_refl _)]; rfl)
        go_wp2_with fail
        try rw [Exit.noGoto_ret]
        try (first | go_ret | go_ret2)
        exact ⟨by rw [HRS.out]; rfl, HB0.out⟩
  · have HRS := hid (show res = false from by rw [HV.out, decide_eq_false g1]; rfl)
    have i1 : ¬ (n : Int) = (m : Int) := by omega
    have e1 : ((n : Int) != (m : Int)) = true := by rw [bne_iff_ne]; exact i1
    go_wp2_with fail
    go_ret
    exact ⟨by rw [HRS.out]; rfl, HB0.out⟩
end Go.Proofs.YtlmkglgjdmjnkaaGreatDoor
namespace Go.Proofs.YtlmkglgjdmjnkaaGreatDoor
open Go.RowKit Go.Lib
open Rw
set_option linter.unusedVariables false
set_option linter.unusedSimpArgs false

/-- the candidate of a unit that the choice names -/
def candAt (us : List UnitP) (u k : Nat) : Option CandP := (us[u]?).bind fun y => y.cands[k]?
/-- is this want met? -/
def metC (us : List UnitP) (zs : List Int) (x : WantP) : Bool := match zs[x.unit.toNat]? with
  | some z => decide (0 ≤ z) && (match candAt us x.unit.toNat z.toNat with
    | some y => hasS x.fin x.pre y.v
    | none => false)
  | none => false
theorem cand_at {w : World} {A : Option Addr} {l : List CandP} {k : Nat} (h : CandsAt w A l) (hk : k < l.length) : ∃ b off, A = some ⟨b, off, none⟩ ∧ CandIs w l[k] ∧ b < w.heap.size ∧ ∀ (j : Nat) (v : Value), (cdC l[k])[j]? = some v → w.cell? ⟨b, off + k * 8 + j, none⟩ = some v := by
  obtain ⟨b, off, hA, hl, h2⟩ := h.row.at_ hk
  exact ⟨b, off, hA, h.sub _ (List.getElem_mem hk), hl, h2⟩
theorem fits_at : ∀ {zs : List Int} {us : List UnitP}, fitsG zs us = true → ∀ i (h : i < zs.length), -1 ≤ zs[i] ∧ ∃ y, us[i]? = some y ∧ zs[i] < (y.cands.length : Int)
  | [], _, _, i, h => by simp at h
  | z :: zs, [], hf, i, h => by cases hf
  | z :: zs, u :: us, hf, i, h => by
    rw [fitsG] at hf
    simp only [Bool.and_eq_true, Bool.not_eq_true', Bool.or_eq_false_iff, decide_eq_false_iff_not] at hf
    cases i with
    | zero => exact ⟨by simpa using by omega, u, rfl, by simpa using by omega⟩
    | succ i =>
      have h' : i < zs.length := by simpa using h
      obtain ⟨a, y, b, c⟩ := fits_at hf.2 i h'
      exact ⟨a, y, b, c⟩
set_option maxRecDepth 100000 in
set_option maxHeartbeats 4000000 in
theorem cmet_any (U : Option Addr) (uc : Nat) (us : List UnitP) (A : Option Addr) (c : Nat) (zs : List Int) (x : WantP) (w : World) (hF : First w) (hU : UnitsAt w U us) (hA : IntsAt w A zs) (hn : zs.length ≤ 9223372036854775807) (hx : WantIs w x) (hf : fitsC us zs = true) (hu0 : 0 ≤ x.unit) (hu1 : x.unit < (us.length : Int)) : Calls Tryz.prog 106 #[.agg #[.slice U us.length uc], .slice A zs.length c, .agg #[.int .i64 x.unit, .slice x.A x.fin.length x.c, .slice x.B x.pre.length x.d]] w (BoolK w (metC us zs x)) := by
  have hlen : zs.length = us.length := by
    unfold fitsC at hf
    simp only [Bool.and_eq_true, decide_eq_true_eq] at hf
    exact hf.1
  have hfg : fitsG zs us = true := by
    unfold fitsC at hf
    simp only [Bool.and_eq_true, decide_eq_true_eq] at hf
    exact hf.2
  obtain ⟨u, hu⟩ := Int.eq_ofNat_of_zero_le hu0
  have hul : u < us.length := by omega
  have hzl : u < zs.length := by omega
  obtain ⟨hz0, y, hy, hz1⟩ := fits_at hfg u hzl
  have hyu : us[u] = y := by rw [List.getElem?_eq_getElem hul] at hy; injection hy
  obtain ⟨bz, oz, hAz, hbz, cz⟩ := int_at hA hzl
  obtain ⟨bu, ou, hUu, hui, hbu, -, -, cu⟩ := unit_at hU hul
  rw [hyu] at hui cu
  have HM := hid (show metC us zs x = (decide (0 ≤ zs[u]) && (match candAt us u zs[u].toNat with
    | some y => hasS x.fin x.pre y.v
    | none => false)) from by unfold metC; rw [hu, Int.toNat_natCast, List.getElem?_eq_getElem hzl])
  have hcd : candAt us u zs[u].toNat = y.cands[zs[u].toNat]? := by unfold candAt; rw [hy]; rfl
  rw [hcd] at HM
  generalize zs[u] = z at *
  have HCD := hid hui.cands
  have HXI := hid hx
  have HFF := hid hF
  clear hui hcd hy hyu hfg hf hU hA hF hx hu1
  obtain ⟨xu, xf, xp, xA, xc, xB, xd⟩ := x
  dsimp only at hu hu0 HM HXI ⊢
  subst hu
  subst hAz
  subst hUu
  have hz0' : (0 : Int) ≤ (u : Int) := by omega
  have hu2 : (u : Int) < (us.length : Int) := by omega
  have hu3 : (u : Int) < (zs.length : Int) := by omega
  generalize metC us zs _ = res at *
  generalize us.length = m at *
  generalize zs.length = n at *
  obtain ⟨nc, hnc⟩ : ∃ n, y.cands.length = n := ⟨_, rfl⟩
  rw [hnc] at cu hz1
  have HNC := hid hnc
  have HCU := hid cu
  have HCZ := hid cz
  have HBZ := hid (And.intro hbz hbu)
  clear hnc cu cz hbz hbu
  go_enter Tryz.func106, Tryz.ntmps106
  go_upto_region 1 with fail
  refine wp_name ?_
  intro u1 hu1
  have HK := hid (show KB w.heap.size w u1 from by rw [hu1]; exact kb_tr (kb_new _ _) (kb_new _ _))
  have HB1 := hid (show Box u1 w.heap.size [.slice (some ⟨bu, ou, none⟩) m uc] from by rw [hu1]; exact (Box.new w [.slice (some ⟨bu, ou, none⟩) m uc] _).kb (kb_new _ _))
  have HB2 := hid (show Box u1 (w.heap.size + 1) [.int .i64 (u : Int), .slice xA xf.length xc, .slice xB xp.length xd] from by rw [hu1]; have h := Box.new (w.alloc (.cells [.slice (some ⟨bu, ou, none⟩) m uc].toArray 42)) [.int .i64 (u : Int), .slice xA xf.length xc, .slice xB xp.length xd] 89; rwa [World.size_alloc] at h)
  clear hu1
  have hg2 : w.heap.size ≠ w.heap.size + 1 := by omega
  generalize w.heap.size + 1 = g2 at *
  have cz := cell_kb HBZ.out.1 HK.out HCZ.out
  have lz := Nat.lt_of_lt_of_le HBZ.out.1 HK.out.size
  have b20 := HB2.out.2 0 _ rfl
  have l2 := HB2.out.1
  go_upto_region 2 with fail
  have hS : KB u1.heap.size u1 u1.drew := kb_drewJ (kb_refl _)
  by_cases hz : 0 ≤ z
  · obtain ⟨k, rfl⟩ := Int.eq_ofNat_of_zero_le hz
    have hkl : k < y.cands.length := by rw [HNC.out]; omega
    obtain ⟨bc, oc, hyA, hci, hbc, hcc⟩ := cand_at HCD.out hkl
    have HM2 := hid (show res = hasS xf xp y.cands[k].v from by rw [HM.out, Int.toNat_natCast, List.getElem?_eq_getElem hkl]; simp)
    generalize y.cands[k] = cd at *
    obtain ⟨cv, cs, cn, cb, cA, cc, cB, cD⟩ := cd
    dsimp only at hcc HM2 hci
    rw [hyA] at HCU
    have HCC := hid (fun (u : World) (hb : KB w.heap.size w u) (j : Nat) (v : Value) (h : _ = some v) => cell_kb hbc hb (hcc j v h))
    have HBC := hid hbc
    have HVF := hid hci.v
    clear hcc hbc hci hyA hkl HM
    have HH := hid (fun (u : World) (hb : KB w.heap.size w u) => shas_any xA xB xc xd xf xp cv u (HFF.out.kb hb) (HXI.out.s1.kb hb) (HXI.out.s2.kb hb) HXI.out.f1 HXI.out.f2 (by have h : xf.length ≤ 1000000 := HXI.out.n1; omega) (by have h : xp.length ≤ 1000000 := HXI.out.n2; omega) HVF.out)
    have k0 : (0 : Int) ≤ (k : Int) := by omega
    have k1 : (k : Int) < (nc : Int) := hz1
    unfold setV at HH
    generalize hasS xf xp cv = rb at *
    clear cz lz b20 l2
    generalize xf.length = nf at *
    generalize xp.length = np at *
    refine wp_planS (fun u => KB u1.heap.size u1 u) (.call [0, 1, 2, 3, 4, 5, 6, 7, 8, 9, 10, 11, 12, 13, 14, 15] 16 (.last [17, 18])) (by first | assumption | skip) (by kernel_rfl) (by intro _ _ d _ _ h; cases d <;> exact h) (by kernel_rfl) ?_
    have iS : Nonempty (SW fun u => KB u1.heap.size u1 u) := ⟨⟨_, hS⟩⟩
    have q0 := fun (z : SW fun u => KB u1.heap.size u1 u) => (HB1.out.kb z.ok).2 0 _ rfl
    have ql := fun (z : SW fun u => KB u1.heap.size u1 u) => (HB1.out.kb z.ok).1
    have r0 := fun (z : SW fun u => KB u1.heap.size u1 u) => (HB2.out.kb z.ok).2 0 _ rfl
    have r1 := fun (z : SW fun u => KB u1.heap.size u1 u) => (HB2.out.kb z.ok).2 1 _ rfl
    have r2 := fun (z : SW fun u => KB u1.heap.size u1 u) => (HB2.out.kb z.ok).2 2 _ rfl
    have rl := fun (z : SW fun u => KB u1.heap.size u1 u) => (HB2.out.kb z.ok).1
    have su := fun (z : SW fun u => KB u1.heap.size u1 u) => cell_kb HBZ.out.2 (kb_tr HK.out z.ok) HCU.out
    have sl := fun (z : SW fun u => KB u1.heap.size u1 u) => Nat.lt_of_lt_of_le HBZ.out.2 (kb_tr HK.out z.ok).size
    have t0 := fun (z : SW fun u => KB u1.heap.size u1 u) => show z.v.cell? ⟨bc, oc + k * 8, none⟩ = _ from HCC.out _ (kb_tr HK.out z.ok) 0 _ rfl
    have t1 := fun (z : SW fun u => KB u1.heap.size u1 u) => HCC.out _ (kb_tr HK.out z.ok) 1 _ rfl
    have t2 := fun (z : SW fun u => KB u1.heap.size u1 u) => HCC.out _ (kb_tr HK.out z.ok) 2 _ rfl
    have t3 := fun (z : SW fun u => KB u1.heap.size u1 u) => HCC.out _ (kb_tr HK.out z.ok) 3 _ rfl
    have t4 := fun (z : SW fun u => KB u1.heap.size u1 u) => HCC.out _ (kb_tr HK.out z.ok) 4 _ rfl
    have tl := fun (z : SW fun u => KB u1.heap.size u1 u) => Nat.lt_of_lt_of_le HBC.out (kb_tr HK.out z.ok).size
    with_reducible refine plan_call ?_
    simp only [pickOps, List.map_cons, List.map_nil, List.getElem?_toArray, List.getElem?_cons_zero, List.getElem?_cons_succ, Option.getD_some]
    repeat go_big_quiet_step (fail)
    refine wpQuiet_nil ?_
    go_wp2_with fail
    refine (HH.out _ (kb_tr HK.out hS)).mono ?_
    rintro _ u2 ⟨rfl, hb⟩
    have HK2 := hid (show KB u1.heap.size u1 u2 from kb_tr hS hb.kb)
    clear hb
    go_wp2_with fail
    refine plan_onS (HK2.out) ?_
    with_reducible refine plan_last ?_
    simp only [pickOps, List.map_cons, List.map_nil, List.getElem?_toArray, List.getElem?_cons_zero, List.getElem?_cons_succ, Option.getD_some]
    repeat go_big_quiet_step (fail)
    refine wpQuiet_nil ?_
    clear iS q0 ql r0 r1 r2 rl su sl t0 t1 t2 t3 t4 tl
    go_wp2_with fail
    try rw [Exit.noGoto_ret]
    try go_ret
    exact ⟨by rw [HM2.out]; rfl, kb_tr HK.out HK2.out⟩
  · have hz2 : z < 0 := by omega
    have HM2 := hid (show res = false from by rw [HM.out, decide_eq_false hz]; rfl)
    clear cz lz b20 l2
    refine wp_planS (fun u => KB u1.heap.size u1 u) (.call [0, 1, 2, 3, 4, 5, 6, 7, 8, 9, 10, 11, 12, 13, 14, 15] 16 (.last [17, 18])) (by first | assumption | skip) (by kernel_rfl) (by intro _ _ d _ _ h; cases d <;> exact h) (by kernel_rfl) ?_
    have iS : Nonempty (SW fun u => KB u1.heap.size u1 u) := ⟨⟨_, hS⟩⟩
    with_reducible refine plan_call ?_
    simp only [pickOps, List.map_cons, List.map_nil, List.getElem?_toArray, List.getElem?_cons_zero, List.getElem?_cons_succ, Option.getD_some]
    repeat go_big_quiet_step (fail)
    refine wpQuiet_nil ?_
    go_wp2_with fail
    refine plan_onS hS ?_
    with_reducible refine plan_last ?_
    simp only [pickOps, List.map_cons, List.map_nil, List.getElem?_toArray, List.getElem?_cons_zero, List.getElem?_cons_succ, Option.getD_some]
    repeat go_big_quiet_step (fail)
    refine wpQuiet_nil ?_
    clear iS
    go_wp2_with fail
    try rw [Exit.noGoto_ret]
    try go_ret
    exact ⟨by rw [HM2.out]; rfl, kb_tr HK.out hS⟩
end Go.Proofs.YtlmkglgjdmjnkaaGreatDoor
namespace Go.Proofs.YtlmkglgjdmjnkaaGreatDoor
open Go.RowKit Go.Lib
open Rw
set_option linter.unusedVariables false
set_option linter.unusedSimpArgs false

set_option maxRecDepth 100000 in
set_option maxHeartbeats 4000000 in
theorem crow_any (U : Option Addr) (uc : Nat) (us : List UnitP) (A : Option Addr) (c : Nat) (zs : List Int) (L : Option Addr) (lc : Nat) (l : List WantP) (w : World) (hF : First w) (hU : UnitsAt w U us) (hA : IntsAt w A zs) (hn : zs.length ≤ 9223372036854775807) (hl : WantsAt w L l) (hf : fitsC us zs = true) (hb : ∀ x ∈ l, 0 ≤ x.unit ∧ x.unit < (us.length : Int)) : Calls Tryz.prog 105 #[.agg #[.slice U us.length uc], .slice A zs.length c, .slice L l.length lc] w (BoolK w (l.any (metC us zs))) := by
  have HM := hid (fun (x : WantP) (hx : x ∈ l) (u : World) (hk : KB w.heap.size w u) => cmet_any U uc us A c zs x u (hF.kb hk) (hU.kb hk) (hA.kb hk) hn ((hl.sub x hx).kb hk) hf (hb x hx).1 (hb x hx).2)
  have HL := hid hl
  have hlen := hl.len
  have HR0 := hid (show l.any (metC us zs) = (l.drop 0).any (metC us zs) from rfl)
  have HB0 := hid (kb_new w (.cells [.slice U us.length uc].toArray 42))
  have HX := hid (Box.new w [.slice U us.length uc] 42)
  clear hF hU hA hl hf hb
  generalize l.any (metC us zs) = res at *
  generalize metC us zs = mt at *
  generalize us.length = nu at *
  generalize zs.length = nz at *
  obtain ⟨m, hm⟩ : ∃ m, l.length = m := ⟨_, rfl⟩
  rw [hm] at hlen ⊢
  have HLM := hid hm
  clear hm
  go_enter Tryz.func105, Tryz.ntmps105
  go_upto_block 0 with fail
  refine wp_name ?_
  intro u0 hu0
  rw [← hu0] at HB0 HX
  clear hu0
  go_wp2_with fail
  go_loopw [11] (fun iv wr => ∃ k : Nat, iv = .int .i64 (k : Int) ∧ k ≤ m ∧ Hid (res = (l.drop k).any mt) ∧ Hid (KB u0.heap.size u0 wr)) (fun iv _ => m - (intOf iv).toNat)
  case atStart => exact ⟨0, rfl, Nat.zero_le _, HR0, hid (kb_refl _)⟩
  case round =>
    clear HR0
    rename World => wr
    obtain ⟨k, rfl, hk, HR, HK⟩ := hrel
    have HKK := hid (kb_tr HB0.out HK.out)
    have k0 : (0 : Int) ≤ (k : Int) := by omega
    by_cases hlt : k < m
    · have h1 : k < l.length := by rw [HLM.out]; exact hlt
      have k1 : (k : Int) < (m : Int) := by omega
      obtain ⟨b, off, hA, -, hbl, c0, c1, c2⟩ := want_at (HL.out.kb HKK.out) h1
      subst hA
      have HST := hid (HR.out.trans (by rw [List.drop_eq_getElem_cons h1, List.any_cons]))
      have HMX := hid (HM.out l[k] (List.getElem_mem h1))
      clear HR
      generalize l[k] = x at *
      clear h1
      go_upto_region 4 with fail
      refine wp_name ?_
      intro u1 hu1
      have HG := hid (show Box u1 wr.heap.size (wtC x) from by rw [hu1]; exact Box.new wr (wtC x) 89)
      have HK1 := hid (show KB wr.heap.size wr u1 from by rw [hu1]; exact kb_new _ _)
      have HK2 := hid (kb_tr HK.out HK1.out)
      have HKK2 := hid (kb_tr HKK.out HK1.out)
      clear hu1 c0 c1 c2 hbl
      have HCM := hid (HMX.out u1 HKK2.out)
      have HX1 := hid (HX.out.kb HK2.out)
      clear HMX
      generalize mt x = r at *
      have x0 := HG.out.2 0 _ rfl
      have x1 := HG.out.2 1 _ rfl
      have x2 := HG.out.2 2 _ rfl
      have xl := HG.out.1
      have y0 := HX1.out.2 0 _ rfl
      have yl := HX1.out.1
      go_wp2_with fail
      refine HCM.out.mono ?_
      rintro _ u2 ⟨rfl, hb⟩
      have HK3 := hid (kb_tr HK2.out hb)
      have HKK3 := hid (kb_tr HKK2.out hb)
      clear hb
      cases r with
      | true =>
        have HRS := hid (show res = true from by rw [HST.out]; rfl)
        go_wp2_with fail
        try rw [Exit.noGoto_ret]
        try (first | go_ret | go_ret2)
        exact ⟨by rw [HRS.out]; rfl, HKK3.out⟩
      | false =>
        have HRS := hid (show res = (l.drop (k + 1)).any mt from by rw [HST.out]; rfl)
        go_wp2_with fail
        refine ⟨⟨k + 1, by go_num, by omega, HRS, HK3⟩, ?_⟩
        simp [intOf] <;> omega
    · obtain rfl : k = m := by omega
      have k1 : ¬ (k : Int) < (k : Int) := by omega
      have HRS := hid (show res = false from by rw [HR.out, List.drop_eq_nil_of_le (by rw [HLM.out]; exact Nat.le_refl _)]; rfl)
      go_wp2_with fail
      try rw [Exit.noGoto_ret]
      try (first | go_ret | go_ret2)
      exact ⟨by rw [HRS.out]; rfl, HKK.out⟩
end Go.Proofs.YtlmkglgjdmjnkaaGreatDoor
namespace Go.Proofs.YtlmkglgjdmjnkaaGreatDoor
open Go.RowKit Go.Lib
open Rw
set_option linter.unusedVariables false
set_option linter.unusedSimpArgs false

theorem lis_any (x : LockL) (h : LockH) (kd n : Int) (s : ByteArray) (w : World) : Calls Tryz.prog 17 #[.agg #[.int .i64 kd, .string x.name, .int .i64 x.v.maj, .int .i64 x.v.min, .int .i64 x.v.pat, .string x.v.pre, .string x.v.bld, .string x.shelf, .int .u64 x.sum, .slice h.A x.feats.length h.c], .int .i64 n, .string s] w (BoolK w ((kd == n) && sameB x.name s)) := by
  have HB0 := hid (kb_new w (.cells (mvC (⟨kd, x⟩, h)).toArray 35))
  have HX := hid (Box.new w (mvC (⟨kd, x⟩, h)) 35)
  obtain ⟨xn, xv, xs, xm, xf⟩ := x
  dsimp only [mvC] at HX HB0 ⊢
  generalize hr : ((kd == n) && sameB xn s) = r
  have HR := hid hr
  clear hr
  by_cases g : kd = n
  · subst g
    have g1 : (kd == kd) = true := by rw [beq_iff_eq]
    go_enter Tryz.func17, Tryz.ntmps17
    go_wp2_with fail
    go_ret
    exact ⟨by rw [← HR.out, g1]; rfl, HB0.out⟩
  · have g1 : (kd == n) = false := by rw [beq_eq_false_iff_ne]; exact g
    go_enter Tryz.func17, Tryz.ntmps17
    go_wp2_with fail
    go_ret
    exact ⟨by rw [← HR.out, g1]; rfl, HB0.out⟩
theorem thas_any (U : Option Addr) (uc m : Nat) (u : Int) (w : World) : Calls Tryz.prog 112 #[.agg #[.slice U m uc], .int .i64 u] w (BoolK w (decide (0 ≤ u) && decide (u < (m : Int)))) := by
  have HB0 := hid (kb_new w (.cells [.slice U m uc].toArray 42))
  obtain ⟨r, hr⟩ : ∃ r, r = (decide (0 ≤ u) && decide (u < (m : Int))) := ⟨_, rfl⟩
  rw [← hr]
  have HR := hid hr
  clear hr
  by_cases g : 0 ≤ u
  · by_cases g2 : u < (m : Int)
    · have HD := hid (show (decide (0 ≤ u) && decide (u < (m : Int))) = true from by simp [g, g2])
      go_enter Tryz.func112, Tryz.ntmps112
      go_wp2_with fail
      go_ret
      exact ⟨by rw [HR.out, HD.out]; rfl, HB0.out⟩
    · have HD := hid (show (decide (0 ≤ u) && decide (u < (m : Int))) = false from by rw [decide_eq_false g2, Bool.and_false])
      go_enter Tryz.func112, Tryz.ntmps112
      go_wp2_with fail
      go_ret
      exact ⟨by rw [HR.out, HD.out]; rfl, HB0.out⟩
  · have HD := hid (show (decide (0 ≤ u) && decide (u < (m : Int))) = false from by rw [decide_eq_false g]; rfl)
    go_enter Tryz.func112, Tryz.ntmps112
    go_wp2_with fail
    go_ret
    exact ⟨by rw [HR.out, HD.out]; rfl, HB0.out⟩
theorem wrap_pow : ∀ k : Nat, k ≤ 40 → wrap64 ((2 : Int) ^ k) = ((2 ^ k : Nat) : Int) := by decide +kernel
theorem tbit_any (k : Nat) (hk : k ≤ 40) (w : World) : Calls Tryz.prog 111 #[.int .i64 ((k : Int) - 1)] w fun e w' => e = .returned (.int .i64 ((2 ^ k : Nat) : Int)) ∧ w = w' := by
  go_enter Tryz.func111, Tryz.ntmps111
  go_wp2_with fail
  go_ret
  exact ⟨by rw [← wrap_pow k hk]; rfl, rfl⟩
end Go.Proofs.YtlmkglgjdmjnkaaGreatDoor
