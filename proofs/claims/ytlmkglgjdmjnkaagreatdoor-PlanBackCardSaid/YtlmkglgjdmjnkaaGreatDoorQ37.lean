/- Parts 37 of the proofs. -/
import Derived.Test.YtlmkglgjdmjnkaaGreatDoorQ33
namespace Go.Proofs.YtlmkglgjdmjnkaaGreatDoor
open Go.RowKit Go.Lib
open Rw
set_option linter.unusedVariables false
set_option linter.unusedSimpArgs false
def SomeI (w : World) (e : Ending) (w' : World) : Prop := (∃ v : Int, e = .returned (.int .i64 v)) ∧ KB w.heap.size w w'
set_option maxRecDepth 100000 in
set_option maxHeartbeats 1000000 in
theorem rbit21_any (k : Nat) (hk : k ≤ 1000000) (w : World) : Calls Tryz.prog 99 #[.int .i64 (k : Int)] w fun e w' => (∃ v : Int, e = .returned (.int .i64 v)) ∧ w = w' := by
  go_enter Tryz.func99, Tryz.ntmps99
  go_upto_block 0 with fail
  go_wp2_with fail
  go_loopw [3, 4] (fun mv iv wr => ∃ (v : Int) (i : Nat), mv = .int .i64 v ∧ iv = .int .i64 (i : Int) ∧ i ≤ k ∧ wr = w) (fun _ iv _ => k - (intOf iv).toNat)
  case atStart => exact ⟨1, 0, rfl, rfl, Nat.zero_le _, rfl⟩
  case round =>
    obtain ⟨v, i, rfl, rfl, hi, rfl⟩ := hrel
    by_cases hlt : i < k
    · have i0 : (0 : Int) ≤ (i : Int) := by omega
      have i1 : (i : Int) < (k : Int) := by omega
      go_wp2_with fail
      refine ⟨⟨_, i + 1, rfl, by go_num, by omega, trivial⟩, ?_⟩
      simp [intOf] <;> omega
    · obtain rfl : i = k := by omega
      have i1 : ¬ (i : Int) < (i : Int) := by omega
      go_wp2_with fail
      go_ret
      exact ⟨⟨v, rfl⟩, rfl⟩
set_option maxRecDepth 100000 in
set_option maxHeartbeats 2000000 in
theorem rfull21_any (U : Option Addr) (uc : Nat) (us : List UnitP) (q : Nat) (w : World) (hU : UnitsAt w U us) (hq : q < us.length) : Calls Tryz.prog 70 #[.agg #[.slice U us.length uc], .int .i64 (q : Int)] w (SomeI w) := by
  have HB0 := hid (kb_new w (.cells [.slice U us.length uc].toArray 42))
  have HX := hid (Box.new w [.slice U us.length uc] 42)
  have hlen := hU.len
  obtain ⟨b, off, hA, hui, hbl, -, -, c2⟩ := unit_at (hU.kb HB0.out) hq
  have hcl := hui.cands.len
  have HCC := hid (And.intro hbl c2)
  have q0 : (0 : Int) ≤ (q : Int) := by omega
  have q1 : (q : Int) < (us.length : Int) := by omega
  have q2 : ¬ (us.length : Int) ≤ (q : Int) := by omega
  have q3 : ¬ (q : Int) < 0 := by omega
  clear hU hui hbl c2
  subst hA
  generalize us[q].A = cA at *
  generalize us[q].c = cc at *
  generalize us[q].cands.length = nc at *
  clear hq
  generalize us.length = m at *
  go_enter Tryz.func70, Tryz.ntmps70
  go_upto_region 1 with fail
  refine wp_name ?_
  intro u1 hu1
  rw [← hu1] at HX HB0 HCC
  clear hu1
  have x0 := HX.out.2 0 _ rfl
  have xl := HX.out.1
  have k2 := HCC.out.2
  have kl := HCC.out.1
  obtain ⟨r, hr⟩ : ∃ r : Nat, min (nc : Int) 16 + 1 = (r : Int) := ⟨min nc 16 + 1, by omega⟩
  have hr2 : r ≤ 1000000 := by omega
  go_wp2_with fail
  refine (rbit21_any r hr2 u1).mono ?_
  rintro _ _ ⟨⟨v, rfl⟩, rfl⟩
  go_wp2_with fail
  go_ret
  exact ⟨⟨_, rfl⟩, HB0.out⟩
set_option maxRecDepth 100000 in
set_option maxHeartbeats 4000000 in
theorem rmet21_any (U : Option Addr) (uc : Nat) (us : List UnitP) (x : WantP) (w : World) (hU : UnitsAt w U us) (hx : WantIs w x) (hu0 : 0 ≤ x.unit) (hu1 : x.unit < (us.length : Int)) : Calls Tryz.prog 98 #[.agg #[.slice U us.length uc], .agg #[.int .i64 x.unit, .slice x.A x.fin.length x.c, .slice x.B x.pre.length x.d]] w (SomeI w) := by
  obtain ⟨q, hq⟩ := Int.eq_ofNat_of_zero_le hu0
  have hql : q < us.length := by omega
  obtain ⟨bu, ou, hUu, hui, hbu, -, -, cu⟩ := unit_at hU hql
  obtain ⟨w1, hw1⟩ : ∃ w1, (w.alloc (.cells #[.slice U us.length uc] 42)).alloc (.cells #[.int .i64 x.unit, .slice x.A x.fin.length x.c, .slice x.B x.pre.length x.d] 89) = w1 := ⟨_, rfl⟩
  have HK1 := hid (show KB w.heap.size w w1 from by rw [← hw1]; exact kb_tr (kb_new _ _) (kb_new _ _))
  have HX1 := hid (show Box w1 w.heap.size [.slice U us.length uc] from by rw [← hw1]; exact (Box.new w [.slice U us.length uc] 42).kb (kb_new _ _))
  have HX2 := hid (show Box w1 (w.heap.size + 1) [.int .i64 x.unit, .slice x.A x.fin.length x.c, .slice x.B x.pre.length x.d] from by rw [← hw1]; have h := Box.new (w.alloc (.cells #[.slice U us.length uc] 42)) [.int .i64 x.unit, .slice x.A x.fin.length x.c, .slice x.B x.pre.length x.d] 89; rwa [World.size_alloc] at h)
  have HW1 := hid hw1
  have HHAS := hid (fun (k : Nat) (hk : k < us[q].cands.length) u (hb : KB w1.heap.size w1 u) => rshas_any x.A x.B x.c x.d x.fin x.pre us[q].cands[k].v u (hx.s1.kb (kb_tr HK1.out hb)) (hx.s2.kb (kb_tr HK1.out hb)) hx.f1 hx.f2 (by have := hx.n1; omega) (by have := hx.n2; omega) (hui.cands.sub _ (List.getElem_mem hk)).v)
  have HCA := hid (fun (k : Nat) (hk : k < us[q].cands.length) => cand_val (hui.cands) hk)
  have HCU := hid (And.intro hbu cu)
  have hcl := hui.cands.len
  have hlen := hU.len
  clear hui hw1 hbu cu hU hx
  generalize us[q] = y at *
  obtain ⟨yn, yf, cs, yA, yd⟩ := y
  dsimp only at HHAS HCA HCU hcl
  obtain ⟨xu, xf, xp, xA, xc, xB, xd⟩ := x
  dsimp only at hq hu0 hu1 HX2 HHAS HW1 ⊢
  subst hq
  subst hUu
  clear hql
  generalize us.length = m at *
  unfold setV at HHAS
  generalize xf.length = nf at *
  generalize xp.length = np at *
  obtain ⟨nc, hnc⟩ : ∃ nc, cs.length = nc := ⟨_, rfl⟩
  have HNC := hid hnc
  rw [hnc] at hcl HCU
  clear hnc
  go_enter Tryz.func98, Tryz.ntmps98
  go_upto_region 1 with fail
  refine wp_name ?_
  intro u hu
  rw [hu.trans HW1.out]
  clear hu HW1
  have x0 := HX1.out.2 0 _ rfl
  have xl := HX1.out.1
  have y0 := HX2.out.2 0 _ rfl
  have yl := HX2.out.1
  have k2 := cell_kb HCU.out.1 HK1.out HCU.out.2
  have kl := Nat.lt_of_lt_of_le HCU.out.1 HK1.out.size
  have q3 : ¬ (q : Int) < 0 := by omega
  have q2 : ¬ (m : Int) ≤ (q : Int) := by omega
  go_upto_block 0 with fail
  go_wp2_with fail
  go_loopw [5, 7] (fun mv iv wr => ∃ (v : Int) (k : Nat), mv = .int .i64 v ∧ iv = .int .i64 (k : Int) ∧ k ≤ nc ∧ k ≤ 16 ∧ Hid (KB w1.heap.size w1 wr)) (fun _ iv _ => nc - (intOf iv).toNat)
  case atStart => exact ⟨0, 0, rfl, rfl, Nat.zero_le _, by omega, hid (kb_refl _)⟩
  case round =>
    clear x0 xl y0 yl k2 kl
    rename World => wr
    obtain ⟨v, k, rfl, rfl, hk, hk16, HK⟩ := hrel
    have k0 : (0 : Int) ≤ (k : Int) := by omega
    by_cases hlt : k < nc
    · have k1 : (k : Int) < (nc : Int) := by omega
      by_cases h16 : k < 16
      · have k16 : (k : Int) < 16 := by omega
        have hkl : k < cs.length := by rw [HNC.out]; exact hlt
        obtain ⟨bc, oc, hyA, -, hbc, hcc⟩ := HCA.out k hkl
        subst hyA
        have HCC := hid hcc
        have HSET := hid (HHAS.out k hkl)
        clear hcc
        generalize cs[k] = cd at *
        obtain ⟨cv, csh, cn, cb, cA, ck, cB, cD⟩ := cd
        dsimp only at HSET
        generalize hasS xf xp cv = r at *
        go_upto_region 8 with fail
        have hS : KB w1.heap.size w1 wr.drew := kb_drewJ HK.out
        refine wp_planS (fun u => KB w1.heap.size w1 u) (.call [0, 1, 2, 3, 4, 5, 6] 7 (.last [])) (by first | assumption | skip) (by kernel_rfl) (by intro _ _ d _ _ h; cases d <;> exact h) (by kernel_rfl) ?_
        have iS : Nonempty (SW fun u => KB w1.heap.size w1 u) := ⟨⟨_, hS⟩⟩
        have y1 := fun (z : SW fun u => KB w1.heap.size w1 u) => (HX2.out.kb z.ok).2 1 _ rfl
        have y2 := fun (z : SW fun u => KB w1.heap.size w1 u) => (HX2.out.kb z.ok).2 2 _ rfl
        have yl := fun (z : SW fun u => KB w1.heap.size w1 u) => (HX2.out.kb z.ok).1
        have t0 := fun (z : SW fun u => KB w1.heap.size w1 u) => show z.v.cell? ⟨bc, oc + k * 8, none⟩ = _ from HCC.out _ (kb_tr HK1.out z.ok) 0 _ rfl
        have t1 := fun (z : SW fun u => KB w1.heap.size w1 u) => HCC.out _ (kb_tr HK1.out z.ok) 1 _ rfl
        have t2 := fun (z : SW fun u => KB w1.heap.size w1 u) => HCC.out _ (kb_tr HK1.out z.ok) 2 _ rfl
        have t3 := fun (z : SW fun u => KB w1.heap.size w1 u) => HCC.out _ (kb_tr HK1.out z.ok) 3 _ rfl
        have t4 := fun (z : SW fun u => KB w1.heap.size w1 u) => HCC.out _ (kb_tr HK1.out z.ok) 4 _ rfl
        have tl := fun (z : SW fun u => KB w1.heap.size w1 u) => Nat.lt_of_lt_of_le hbc (kb_tr HK1.out z.ok).size
        with_reducible refine plan_call ?_
        simp only [pickOps, List.map_cons, List.map_nil, List.getElem?_toArray, List.getElem?_cons_zero, List.getElem?_cons_succ, Option.getD_some]
        repeat go_big_quiet_step (fail)
        refine wpQuiet_nil ?_
        go_wp2_with fail
        refine (HSET.out _ hS).mono ?_
        rintro _ u5 ⟨rfl, hb⟩
        have HK5 := hid (show KB w1.heap.size w1 u5 from kb_tr hS hb.kb)
        clear hb
        go_wp2_with fail
        refine plan_onS (HK5.out) ?_
        with_reducible refine plan_last ?_
        simp only [pickOps, List.map_cons, List.map_nil, List.getElem?_toArray, List.getElem?_cons_zero, List.getElem?_cons_succ, Option.getD_some]
        repeat go_big_quiet_step (fail)
        refine wpQuiet_nil ?_
        clear iS y1 y2 yl t0 t1 t2 t3 t4 tl HCC hbc HSET hS
        cases r with
        | false =>
          go_wp2_with fail
          refine ⟨⟨v, k + 1, rfl, by go_num, by omega, by omega, HK5⟩, ?_⟩
          simp [intOf] <;> omega
        | true =>
          go_wp2_with fail
          have hcb := rbit21_any (k + 1) (by omega) u5
          rw [Int.natCast_add] at hcb
          refine hcb.mono ?_
          rintro _ _ ⟨⟨bv, rfl⟩, rfl⟩
          go_wp2_with fail
          refine ⟨⟨_, k + 1, rfl, by go_num, by omega, by omega, HK5⟩, ?_⟩
          simp [intOf] <;> omega
      · have k16 : ¬ (k : Int) < 16 := by omega
        go_wp2_with fail
        go_ret
        exact ⟨⟨v, rfl⟩, kb_tr HK1.out HK.out⟩
    · obtain rfl : k = nc := by omega
      have k1 : ¬ (k : Int) < (k : Int) := by omega
      go_wp2_with fail
      go_ret
      exact ⟨⟨v, rfl⟩, kb_tr HK1.out HK.out⟩
end Go.Proofs.YtlmkglgjdmjnkaaGreatDoor
namespace Go.Proofs.YtlmkglgjdmjnkaaGreatDoor
open Go.RowKit Go.Lib
open Rw
set_option linter.unusedVariables false
set_option linter.unusedSimpArgs false
structure RowP (α : Type) where
  l : List α
  A : Option Addr
  c : Nat
abbrev wC (x : Int × Int) : List Value := [.int .i64 x.1, .int .i64 x.2]
abbrev hdC {α : Type} (x : RowP α) : List Value := [.slice x.A x.l.length x.c]
def WR (n : Nat) (w : World) (x : RowP (Int × Int)) : Prop := Lies 2 wC w x.A x.l ∧ (∀ y ∈ x.l, 0 ≤ y.1 ∧ y.1 < (n : Int)) ∧ x.l.length ≤ 1000000
def NR (n : Nat) (w : World) (x : RowP (RowP (Int × Int))) : Prop := Lies 1 hdC w x.A x.l ∧ (∀ y ∈ x.l, WR n w y) ∧ x.l.length ≤ 1000000
def CR (n : Nat) (w : World) (x : RowP (RowP (RowP (Int × Int)))) : Prop := Lies 1 hdC w x.A x.l ∧ (∀ y ∈ x.l, NR n w y) ∧ x.l.length ≤ 1000000
theorem WR.mono (n : Nat) : ∀ (w w' : World) (x : RowP (Int × Int)), Mono w w' → WR n w x → WR n w' x := fun _ _ _ m h => ⟨h.1.mono m, h.2⟩
theorem NR.mono (n : Nat) : ∀ (w w' : World) (x : RowP (RowP (Int × Int))), Mono w w' → NR n w x → NR n w' x := fun _ _ _ m h => ⟨h.1.mono m, fun y hy => WR.mono n _ _ _ m (h.2.1 y hy), h.2.2⟩
theorem CR.mono (n : Nat) : ∀ (w w' : World) (x : RowP (RowP (RowP (Int × Int)))), Mono w w' → CR n w x → CR n w' x := fun _ _ _ m h => ⟨h.1.mono m, fun y hy => NR.mono n _ _ _ m (h.2.1 y hy), h.2.2⟩
structure MasksAt (w : World) (us : List UnitP) (N : Option Addr) (ns : List (RowP (RowP (RowP (Int × Int))))) (B : Option Addr) (bs : List (RowP (RowP (Int × Int)))) : Prop where
  nrow : Lies 1 hdC w N ns
  brow : Lies 1 hdC w B bs
  sn : ∀ x ∈ ns, CR us.length w x
  sb : ∀ x ∈ bs, NR us.length w x
  nl : ns.length = us.length
  bl : bs.length = us.length
  nc : ∀ (j : Nat) (x : RowP (RowP (RowP (Int × Int)))), ns[j]? = some x → x.l.length = lenC us j
  bc : ∀ (j : Nat) (x : RowP (RowP (Int × Int))), bs[j]? = some x → x.l.length = lenC us j
theorem MasksAt.mono {w w' : World} {us : List UnitP} {N B : Option Addr} {ns : List (RowP (RowP (RowP (Int × Int))))} {bs : List (RowP (RowP (Int × Int)))} (h : MasksAt w us N ns B bs) (m : Mono w w') : MasksAt w' us N ns B bs :=
  ⟨h.nrow.mono m, h.brow.mono m, fun x hx => CR.mono _ _ _ _ m (h.sn x hx), fun x hx => NR.mono _ _ _ _ m (h.sb x hx), h.nl, h.bl, h.nc, h.bc⟩
def SomeB (w : World) (e : Ending) (w' : World) : Prop := (∃ b : Bool, e = .returned (.bool b)) ∧ KB w.heap.size w w'
set_option maxRecDepth 100000 in
set_option maxHeartbeats 2000000 in
theorem rmeets_any (A : Option Addr) (cap : Nat) (zs : List Int) (u k : Int) (w : World) (hz : IntsAt w A zs) (h0 : 0 ≤ u) (h1 : u < (zs.length : Int)) (hb : ∀ z ∈ zs, z ≤ 1000000) : Calls Tryz.prog 100 #[.slice A zs.length cap, .agg #[.int .i64 u, .int .i64 k]] w (SomeB w) := by
  have HB0 := hid (kb_new w (.cells [Value.int .i64 u, .int .i64 k].toArray 166))
  have HX := hid (Box.new w [.int .i64 u, .int .i64 k] 166)
  obtain ⟨q, rfl⟩ := Int.eq_ofNat_of_zero_le h0
  have hq : q < zs.length := by omega
  obtain ⟨b, off, hA, hbl, hcell⟩ := int_at hz hq
  have hzb := hb _ (List.getElem_mem hq)
  subst hA
  have HC := hid (And.intro hbl hcell)
  clear hz hb hbl hcell
  generalize zs[q] = z at *
  clear hq
  generalize zs.length = n at *
  go_enter Tryz.func100, Tryz.ntmps100
  go_upto_region 1 with fail
  refine wp_name ?_
  intro u1 hu1
  rw [← hu1] at HX HB0
  have c0 := cell_kb HC.out.1 HB0.out HC.out.2
  have cl := Nat.lt_of_lt_of_le HC.out.1 HB0.out.size
  clear hu1
  have hS : KB u1.heap.size u1 u1.drew := kb_drewJ (kb_refl _)
  refine wp_planS (fun u => KB u1.heap.size u1 u) (.last [0, 1, 2, 3, 4, 5, 6, 7, 8, 9, 10, 11, 12, 13, 14, 15, 16, 17, 18, 19]) (by first | assumption | skip) (by kernel_rfl) (by intro _ _ d _ _ h; cases d <;> exact h) (by kernel_rfl) ?_
  have iS : Nonempty (SW fun u => KB u1.heap.size u1 u) := ⟨⟨_, hS⟩⟩
  have x0 := fun (y : SW fun u => KB u1.heap.size u1 u) => (HX.out.kb y.ok).2 0 _ rfl
  have x1 := fun (y : SW fun u => KB u1.heap.size u1 u) => (HX.out.kb y.ok).2 1 _ rfl
  have xl := fun (y : SW fun u => KB u1.heap.size u1 u) => (HX.out.kb y.ok).1
  have y0 := fun (y : SW fun u => KB u1.heap.size u1 u) => cell_kb cl y.ok c0
  have yl := fun (y : SW fun u => KB u1.heap.size u1 u) => Nat.lt_of_lt_of_le cl y.ok.size
  by_cases hs : 0 ≤ z
  · with_reducible refine plan_last ?_
    simp only [pickOps, List.map_cons, List.map_nil, List.getElem?_toArray, List.getElem?_cons_zero, List.getElem?_cons_succ, Option.getD_some]
    repeat go_big_quiet_step (fail)
    refine wpQuiet_nil ?_
    clear x0 x1 xl y0 yl iS
    go_wp2_with fail
    try rw [Exit.noGoto_ret]
    try go_ret
    exact ⟨⟨_, rfl⟩, kb_drewJ HB0.out⟩
  · with_reducible refine plan_last ?_
    simp only [pickOps, List.map_cons, List.map_nil, List.getElem?_toArray, List.getElem?_cons_zero, List.getElem?_cons_succ, Option.getD_some]
    repeat go_big_quiet_step (fail)
    refine wpQuiet_nil ?_
    clear x0 x1 xl y0 yl iS
    go_wp2_with fail
    try rw [Exit.noGoto_ret]
    try go_ret
    exact ⟨⟨_, rfl⟩, kb_drewJ HB0.out⟩
set_option maxRecDepth 100000 in
set_option maxHeartbeats 2000000 in
theorem rkept_any (A : Option Addr) (cap : Nat) (zs : List Int) (x : RowP (Int × Int)) (w : World) (hz : IntsAt w A zs) (hx : WR zs.length w x) (hb : ∀ z ∈ zs, z ≤ 1000000) : Calls Tryz.prog 71 #[.slice A zs.length cap, .slice x.A x.l.length x.c] w (SomeB w) := by
  have HM := hid (fun (u k : Int) (v : World) (hv : KB w.heap.size w v) (h0 : 0 ≤ u) (h1 : u < (zs.length : Int)) => rmeets_any A cap zs u k v (hz.kb hv) h0 h1 hb)
  have HX := hid hx
  have hxl := hx.2.2
  clear hz hx hb
  obtain ⟨m, hm⟩ : ∃ m, x.l.length = m := ⟨_, rfl⟩
  have HML := hid hm
  rw [hm] at hxl ⊢
  clear hm
  generalize zs.length = n at *
  go_enter Tryz.func71, Tryz.ntmps71
  go_upto_block 0 with fail
  go_wp2_with fail
  go_loopw [5] (fun iv wr => ∃ k : Nat, iv = .int .i64 (k : Int) ∧ k ≤ m ∧ Hid (KB w.heap.size w wr)) (fun iv _ => m - (intOf iv).toNat)
  case atStart => exact ⟨0, rfl, Nat.zero_le _, hid (kb_refl _)⟩
  case round =>
    rename World => wr
    obtain ⟨k, rfl, hk, HK⟩ := hrel
    have k0 : (0 : Int) ≤ (k : Int) := by omega
    by_cases hlt : k < m
    · have k1 : (k : Int) < (m : Int) := by omega
      have hl : k < x.l.length := by rw [HML.out]; exact hlt
      obtain ⟨b, off, hA, hbl, hc⟩ := (HX.out.1.kb HK.out).at_ hl
      have hr := HX.out.2.1 _ (List.getElem_mem hl)
      have y0 : wr.cell? ⟨b, off + k * 2, none⟩ = _ := hc 0 _ rfl
      have y1 := hc 1 _ rfl
      have HMM := hid (HM.out x.l[k].1 x.l[k].2 wr HK.out hr.1 hr.2)
      clear hc hr
      rw [hA]
      generalize x.l[k].1 = p at *
      generalize x.l[k].2 = r at *
      go_wp2_with fail
      refine HMM.out.mono ?_
      rintro _ u1 ⟨⟨q, rfl⟩, hb⟩
      have HK1 := hid (kb_tr HK.out hb)
      clear hb y0 y1 hbl
      cases q with
      | true =>
        go_wp2_with fail
        try rw [Exit.noGoto_ret]
        try go_ret
        exact ⟨⟨_, rfl⟩, HK1.out⟩
      | false =>
        go_wp2_with fail
        refine ⟨⟨k + 1, by go_num, by omega, HK1⟩, ?_⟩
        simp [intOf] <;> omega
    · obtain rfl : k = m := by omega
      have k1 : ¬ (k : Int) < (k : Int) := by omega
      go_wp2_with fail
      try rw [Exit.noGoto_ret]
      try go_ret
      exact ⟨⟨_, rfl⟩, HK.out⟩
set_option maxRecDepth 100000 in
set_option maxHeartbeats 4000000 in
theorem rfine_any (F : Option Addr) (fn fc : Nat) (N : Option Addr) (nc : Nat) (ns : List (RowP (RowP (RowP (Int × Int))))) (B : Option Addr) (bc : Nat) (bs : List (RowP (RowP (Int × Int)))) (us : List UnitP) (A : Option Addr) (cap : Nat) (zs : List Int) (w : World) (hM : MasksAt w us N ns B bs) (hz : IntsAt w A zs) (hzl : zs.length = us.length) (hzc : InC us zs) (hu0 : 0 < us.length) (hul : us.length ≤ 1000000) (hcl : ∀ j, lenC us j ≤ 1000000) : Calls Tryz.prog 38 #[.agg #[.slice F fn fc, .slice N ns.length nc, .slice B bs.length bc], .slice A zs.length cap] w (SomeB w) := by
  have HB0 := hid (kb_new w (.cells [Value.slice F fn fc, .slice N ns.length nc, .slice B bs.length bc].toArray 96))
  have HX := hid (Box.new w [.slice F fn fc, .slice N ns.length nc, .slice B bs.length bc] 96)
  have hzb : ∀ z ∈ zs, z ≤ 1000000 := fun z hz => by
    obtain ⟨j, hj, e⟩ := List.getElem_of_mem hz
    have := hzc j z (by rw [List.getElem?_eq_getElem hj, e])
    have := hcl j
    omega
  have HMS := hid hM
  have HZ := hid hz
  have HZC := hid hzc
  have HKP := hid (fun (x : RowP (Int × Int)) (v : World) (hv : KB w.heap.size w v) (hx : WR zs.length v x) => rkept_any A cap zs x v (hz.kb hv) hx hzb)
  have hnl := hM.nl
  have hbl := hM.bl
  have HZL := hid hzl
  have HNL := hid hnl
  have HBL := hid hbl
  clear hM hz hzc hzb
  rw [hzl] at HKP ⊢
  rw [hnl, hbl] at HX HB0 ⊢
  obtain ⟨n, hn⟩ : ∃ n, us.length = n := ⟨_, rfl⟩
  rw [hn] at HKP HX HB0 hu0 hul hnl hbl hzl ⊢
  have HN := hid hn
  clear hn
  go_enter Tryz.func38, Tryz.ntmps38
  go_upto_region 1 with fail
  refine wp_name ?_
  intro u1 hu1
  rw [← hu1] at HX HB0
  clear hu1
  obtain ⟨bz, oz, hA, hbz, hc0⟩ := int_at (k := 0) (HZ.out.kb HB0.out) (by omega)
  subst hA
  rw [Nat.add_zero] at hc0
  generalize zs[0] = z0 at *
  by_cases h0 : z0 < 0
  · go_wp2_with fail
    try rw [Exit.noGoto_ret]
    try go_ret
    exact ⟨⟨_, rfl⟩, HB0.out⟩
  go_upto_block 0 with fail
  clear hc0 hbz h0
  go_wp2_with fail
  go_loopw [5] (fun iv wr => ∃ k : Nat, iv = .int .i64 (k : Int) ∧ k ≤ n ∧ Hid (KB u1.heap.size u1 wr)) (fun iv _ => n - (intOf iv).toNat)
  case atStart => exact ⟨0, rfl, Nat.zero_le _, hid (kb_refl _)⟩
  case round =>
    rename World => wr
    obtain ⟨k, rfl, hk, HK⟩ := hrel
    have HKK := hid (kb_tr HB0.out HK.out)
    have k0 : (0 : Int) ≤ (k : Int) := by omega
    by_cases hlt : k < n
    · have k1 : (k : Int) < (n : Int) := by omega
      have hzk : k < zs.length := by omega
      obtain ⟨b', off', hA', hbz, hcz⟩ := int_at (HZ.out.kb HKK.out) hzk
      injection hA' with hA'
      injection hA' with e1 e2 e3
      subst e1; subst e2
      obtain ⟨hy1, hy2⟩ := HZC.out k zs[k] (List.getElem?_eq_getElem hzk)
      have HCZ := hid (And.intro hbz hcz)
      clear hbz
      generalize zs[k] = zk at *
      clear hzk
      by_cases hneg : zk < 0
      · go_wp2_with fail
        refine ⟨⟨k + 1, by go_num, by omega, HK⟩, ?_⟩
        simp [intOf] <;> omega
      · obtain ⟨y, rfl⟩ := Int.eq_ofNat_of_zero_le (show 0 ≤ zk by omega)
        have hy : y < lenC us k := by omega
        have HMK := hid (HMS.out.mono (Mono.kb HKK.out))
        have hnk : k < ns.length := by omega
        have hbk : k < bs.length := by omega
        obtain ⟨nb, no, hNA, hnb, hnc⟩ := HMK.out.nrow.at_ hnk
        obtain ⟨bb, bo, hBA, hbb, hbc⟩ := HMK.out.brow.at_ hbk
        have hnL := HMK.out.nc k _ (List.getElem?_eq_getElem hnk)
        have hbL := HMK.out.bc k _ (List.getElem?_eq_getElem hbk)
        obtain ⟨hn1, hn2, hn3⟩ := HMK.out.sn _ (List.getElem_mem hnk)
        obtain ⟨hb1, hb2, hb3⟩ := HMK.out.sb _ (List.getElem_mem hbk)
        have cN : wr.cell? ⟨nb, no + k, none⟩ = some (.slice ns[k].A ns[k].l.length ns[k].c) := by have h := hnc 0 _ rfl; rwa [Nat.mul_one, Nat.add_zero] at h
        have cB : wr.cell? ⟨bb, bo + k, none⟩ = some (.slice bs[k].A bs[k].l.length bs[k].c) := by have h := hbc 0 _ rfl; rwa [Nat.mul_one, Nat.add_zero] at h
        subst hNA
        subst hBA
        clear hnc hbc HMK
        generalize ns[k] = xn at *
        generalize bs[k] = xb at *
        have hyn : y < xn.l.length := by omega
        have hyb : y < xb.l.length := by omega
        obtain ⟨nb2, no2, hNA2, hnb2, hnc2⟩ := hn1.at_ hyn
        obtain ⟨bb2, bo2, hBA2, hbb2, hbc2⟩ := hb1.at_ hyb
        obtain ⟨hr1, hr2, hr3⟩ := hn2 _ (List.getElem_mem hyn)
        have HW := hid (hb2 _ (List.getElem_mem hyb))
        have cN2 : wr.cell? ⟨nb2, no2 + y, none⟩ = some (.slice xn.l[y].A xn.l[y].l.length xn.l[y].c) := by have h := hnc2 0 _ rfl; rwa [Nat.mul_one, Nat.add_zero] at h
        have cB2 : wr.cell? ⟨bb2, bo2 + y, none⟩ = some (.slice xb.l[y].A xb.l[y].l.length xb.l[y].c) := by have h := hbc2 0 _ rfl; rwa [Nat.mul_one, Nat.add_zero] at h
        rw [hNA2] at cN
        rw [hBA2] at cB
        clear hnc2 hbc2 hn1 hn2 hn3 hb1 hb2 hb3
        generalize xn.l[y] = rn at *
        generalize xb.l[y] = rb at *
        rw [hnL] at cN
        rw [hbL] at cB
        clear hnL hbL hyn hyb hNA2 hBA2
        have HRN := hid (And.intro hr1 hr2)
        clear hr1 hr2
        have hyL : (y : Int) < ((lenC us k : Nat) : Int) := by omega
        generalize lenC us k = lc at *
        have x1 := (HX.out.kb HK.out).2 1 _ rfl
        have x2 := (HX.out.kb HK.out).2 2 _ rfl
        have xl := (HX.out.kb HK.out).1
        have HX1 := hid (And.intro x1 (And.intro x2 xl))
        have HCN := hid (And.intro cN (And.intro cB (And.intro cN2 cB2)))
        have HLB := hid (And.intro hnb (And.intro hbb (And.intro hnb2 hbb2)))
        clear x1 x2 xl cN cB cN2 cB2 hnb hbb hnb2 hbb2
        go_upto_region 7 with fail
        have y0 : (0 : Int) ≤ (y : Int) := by omega
        have hS : KB wr.heap.size wr wr.drew := kb_drewJ (kb_refl _)
        refine wp_planS (fun u => KB wr.heap.size wr u) (.last [0, 1, 2, 3, 4, 5, 6, 7, 8, 9, 10, 11, 12, 13, 14, 15, 16, 17, 18, 19, 20, 21, 22, 23]) (by first | assumption | skip) (by kernel_rfl) (by intro _ _ d _ _ h; cases d <;> exact h) (by kernel_rfl) ?_
        have iS : Nonempty (SW fun u => KB wr.heap.size wr u) := ⟨⟨_, hS⟩⟩
        have d1 := fun (z : SW fun u => KB wr.heap.size wr u) => cell_kb HX1.out.2.2 z.ok HX1.out.1
        have d2 := fun (z : SW fun u => KB wr.heap.size wr u) => cell_kb HX1.out.2.2 z.ok HX1.out.2.1
        have dl := fun (z : SW fun u => KB wr.heap.size wr u) => Nat.lt_of_lt_of_le HX1.out.2.2 z.ok.size
        have d3 := fun (z : SW fun u => KB wr.heap.size wr u) => cell_kb HCZ.out.1 z.ok HCZ.out.2
        have d3l := fun (z : SW fun u => KB wr.heap.size wr u) => Nat.lt_of_lt_of_le HCZ.out.1 z.ok.size
        have d4 := fun (z : SW fun u => KB wr.heap.size wr u) => cell_kb HLB.out.1 z.ok HCN.out.1
        have d4l := fun (z : SW fun u => KB wr.heap.size wr u) => Nat.lt_of_lt_of_le HLB.out.1 z.ok.size
        have d5 := fun (z : SW fun u => KB wr.heap.size wr u) => cell_kb HLB.out.2.1 z.ok HCN.out.2.1
        have d5l := fun (z : SW fun u => KB wr.heap.size wr u) => Nat.lt_of_lt_of_le HLB.out.2.1 z.ok.size
        have d6 := fun (z : SW fun u => KB wr.heap.size wr u) => cell_kb HLB.out.2.2.1 z.ok HCN.out.2.2.1
        have d6l := fun (z : SW fun u => KB wr.heap.size wr u) => Nat.lt_of_lt_of_le HLB.out.2.2.1 z.ok.size
        have d7 := fun (z : SW fun u => KB wr.heap.size wr u) => cell_kb HLB.out.2.2.2 z.ok HCN.out.2.2.2
        have d7l := fun (z : SW fun u => KB wr.heap.size wr u) => Nat.lt_of_lt_of_le HLB.out.2.2.2 z.ok.size
        with_reducible refine plan_last ?_
        simp only [pickOps, List.map_cons, List.map_nil, List.getElem?_toArray, List.getElem?_cons_zero, List.getElem?_cons_succ, Option.getD_some]
        repeat go_big_quiet_step (fail)
        refine wpQuiet_nil ?_
        clear d1 d2 dl d3 d3l d4 d4l d5 d5l d6 d6l d7 d7l iS
        rw [HN.out] at HW HRN
        go_upto_block 2 with fail
        refine wp_name ?_
        intro w5 hw5
        have hk5 : KB wr.heap.size wr w5 := by rw [hw5]; exact hS
        have HK5 := hid (kb_tr HKK.out hk5)
        have HR5 := hid (show Lies 1 hdC w5 rn.A rn.l ∧ ∀ x ∈ rn.l, WR n w5 x from ⟨HRN.out.1.kb hk5, fun x hx => WR.mono n _ _ _ (Mono.kb hk5) (HRN.out.2 x hx)⟩)
        have HW5 := hid (WR.mono n _ _ _ (Mono.kb hk5) HW.out)
        have HKU := hid (show KB u1.heap.size u1 w5 from kb_tr HK.out hk5)
        clear hw5 hk5 hS HRN HW HCN HLB HX1 HCZ
        obtain ⟨mr, hmr⟩ : ∃ m, rn.l.length = m := ⟨_, rfl⟩
        have HMR := hid hmr
        rw [hmr]
        clear hmr
        go_wp2_with fail
        go_loopw [8] (fun qv wq => ∃ q : Nat, qv = .int .i64 (q : Int) ∧ q ≤ mr ∧ Hid (KB w5.heap.size w5 wq)) (fun qv _ => mr - (intOf qv).toNat)
        case atStart => exact ⟨0, rfl, Nat.zero_le _, hid (kb_refl _)⟩
        case round =>
          rename World => wq
          obtain ⟨q, rfl, hq, HKQ⟩ := hrel
          have HKA := hid (kb_tr HK5.out HKQ.out)
          have q0 : (0 : Int) ≤ (q : Int) := by omega
          by_cases hql : q < mr
          · have q1 : (q : Int) < (mr : Int) := by omega
            have hl : q < rn.l.length := by rw [HMR.out]; exact hql
            obtain ⟨rb2, ro2, hrA, hrb, hrc⟩ := (HR5.out.1.kb HKQ.out).at_ hl
            have c0 : wq.cell? ⟨rb2, ro2 + q, none⟩ = some (.slice rn.l[q].A rn.l[q].l.length rn.l[q].c) := by have h := hrc 0 _ rfl; rwa [Nat.mul_one, Nat.add_zero] at h
            have HKX := hid (HKP.out rn.l[q] wq HKA.out (WR.mono n _ _ _ (Mono.kb HKQ.out) (HR5.out.2 _ (List.getElem_mem hl))))
            rw [hrA]
            clear hrc
            generalize rn.l[q] = xr at *
            go_wp2_with fail
            refine HKX.out.mono ?_
            rintro _ u5 ⟨⟨bq, rfl⟩, hb⟩
            have HK6 := hid (kb_tr HKQ.out hb)
            clear hb c0 hrb
            cases bq with
            | true =>
              go_wp2_with fail
              refine (show _ ∧ _ from ⟨?_, ?_⟩)
              · exact ⟨q + 1, by go_num, by omega, HK6⟩
              · simp [intOf] <;> omega
            | false =>
              go_wp2_with fail
              try rw [Exit.noGoto_ret]
              try go_ret
              exact ⟨⟨_, rfl⟩, kb_tr HK5.out HK6.out⟩
          · obtain rfl : q = mr := by omega
            have q1 : ¬ (q : Int) < (q : Int) := by omega
            go_wp2_with fail
            refine (HKP.out rb wq HKA.out (WR.mono n _ _ _ (Mono.kb HKQ.out) HW5.out)).mono ?_
            rintro _ u5 ⟨⟨bq, rfl⟩, hb⟩
            have HK6 := hid (kb_tr HKQ.out hb)
            clear hb
            cases bq with
            | true =>
              go_wp2_with fail
              try rw [Exit.noGoto_ret]
              try go_ret
              exact ⟨⟨_, rfl⟩, kb_tr HK5.out HK6.out⟩
            | false =>
              go_wp2_with fail
              refine (show _ ∧ _ from ⟨?_, ?_⟩)
              · exact ⟨k + 1, by go_num, by omega, hid (kb_tr HKU.out HK6.out)⟩
              · simp [intOf] <;> omega
    · obtain rfl : k = n := by omega
      have k1 : ¬ (k : Int) < (k : Int) := by omega
      go_wp2_with fail
      try rw [Exit.noGoto_ret]
      try go_ret
      exact ⟨⟨_, rfl⟩, HKK.out⟩
end Go.Proofs.YtlmkglgjdmjnkaaGreatDoor
namespace Go.Proofs.YtlmkglgjdmjnkaaGreatDoor
open Go.RowKit Go.Lib
open Rw
set_option linter.unusedVariables false
set_option linter.unusedSimpArgs false
def vis3 (B : Nat) (o1 o2 o3 : Option Nat) : Nat → Bool := fun k => decide (B ≤ k) && (decide (o1 ≠ some k) && (decide (o2 ≠ some k) && decide (o3 ≠ some k)))
theorem vis3_iff {B : Nat} {o1 o2 o3 : Option Nat} {k : Nat} : vis3 B o1 o2 o3 k = true ↔ B ≤ k ∧ o1 ≠ some k ∧ o2 ≠ some k ∧ o3 ≠ some k := by
  unfold vis3
  simp only [Bool.and_eq_true, decide_eq_true_eq]
section
variable {α β : Type} {T1 T2 : TypeId} {S1 : World → RowP α → Prop} {S2 : World → RowP β → Prop}
structure L2 (T1 T2 : TypeId) (S1 : World → RowP α → Prop) (S2 : World → RowP β → Prop) (B : Nat) (w : World) (v1 v2 : Value) (o3 : Option Nat) (ps ss : List (RowP α)) (qs tt : List (RowP β)) : Prop where
  r1 : OwnL T1 1 hdC w B v1 ps
  r2 : OwnL T2 1 hdC w B v2 qs
  a12 : ∀ k, v1.ownBlock = some k → v2.ownBlock ≠ some k
  a3 : ∀ k, o3 = some k → v1.ownBlock ≠ some k ∧ v2.ownBlock ≠ some k ∧ k < w.heap.size
  s1 : ∀ x ∈ ss, S1 (maskB w (vis3 B v1.ownBlock v2.ownBlock o3)) x
  s2 : ∀ x ∈ tt, S2 (maskB w (vis3 B v1.ownBlock v2.ownBlock o3)) x
variable {B : Nat} {w w' : World} {v1 v2 v' : Value} {o3 o' : Option Nat} {ps ss : List (RowP α)} {qs tt : List (RowP β)}
theorem L2.up (m1 : ∀ (w w' : World) (x : RowP α), Mono w w' → S1 w x → S1 w' x) (m2 : ∀ (w w' : World) (x : RowP β), Mono w w' → S2 w x → S2 w' x) (h : L2 T1 T2 S1 S2 B w v1 v2 o3 ps ss qs tt) (hs : w.heap.size ≤ w'.heap.size) (hk : ∀ k, B ≤ k → k < w.heap.size → w'.heap[k]? = w.heap[k]?) : L2 T1 T2 S1 S2 B w' v1 v2 o3 ps ss qs tt := by
  have hM : Mono (maskB w (vis3 B v1.ownBlock v2.ownBlock o3)) (maskB w' (vis3 B v1.ownBlock v2.ownBlock o3)) := maskB_mono hs fun k hl e => ⟨e, hk k (vis3_iff.1 e).1 hl⟩
  exact ⟨own_keep h.r1 fun q hq => hk q (World.ownsRow.lt h.r1 q hq).1 (World.ownsRow.lt h.r1 q hq).2, own_keep h.r2 fun q hq => hk q (World.ownsRow.lt h.r2 q hq).1 (World.ownsRow.lt h.r2 q hq).2, h.a12, fun k e => ⟨(h.a3 k e).1, (h.a3 k e).2.1, Nat.lt_of_lt_of_le (h.a3 k e).2.2 hs⟩, fun x hx => m1 _ _ _ hM (h.s1 x hx), fun x hx => m2 _ _ _ hM (h.s2 x hx)⟩
theorem L2.kb (m1 : ∀ (w w' : World) (x : RowP α), Mono w w' → S1 w x → S1 w' x) (m2 : ∀ (w w' : World) (x : RowP β), Mono w w' → S2 w x → S2 w' x) (h : L2 T1 T2 S1 S2 B w v1 v2 o3 ps ss qs tt) (hb : KB w.heap.size w w') : L2 T1 T2 S1 S2 B w' v1 v2 o3 ps ss qs tt := h.up m1 m2 hb.size fun k _ hl => hb.block k hl
theorem L2.put (m1 : ∀ (w w' : World) (x : RowP α), Mono w w' → S1 w x → S1 w' x) (m2 : ∀ (w w' : World) (x : RowP β), Mono w w' → S2 w x → S2 w' x) {g j : Nat} (h : L2 T1 T2 S1 S2 B w v1 v2 o3 ps ss qs tt) (hg : g < B) (x : Value) : L2 T1 T2 S1 S2 B (w.setCell ⟨g, j, none⟩ x) v1 v2 o3 ps ss qs tt := h.up m1 m2 (by rw [World.size_setCell]; exact Nat.le_refl _) fun k hk _ => heap_put (fun e => by omega)
theorem L2.app1 (m1 : ∀ (w w' : World) (x : RowP α), Mono w w' → S1 w x → S1 w' x) (m2 : ∀ (w w' : World) (x : RowP β), Mono w w' → S2 w x → S2 w' x) {x : RowP α} (h : L2 T1 T2 S1 S2 B w v1 v2 o3 ps ss qs tt) (h2 : w'.ownsRow B T1 1 v' (ps.length + 1) (ps.flatMap hdC ++ hdC x)) (hg : w.grownBy w' v1.ownBlock) (hv : ∀ k, v'.ownBlock = some k → v1.ownBlock = some k ∨ w.heap.size ≤ k) : L2 T1 T2 S1 S2 B w' v' v2 o3 (ps ++ [x]) ss qs tt := by
  have hl2 := World.ownsRow.lt h.r2
  have hM : Mono (maskB w (vis3 B v1.ownBlock v2.ownBlock o3)) (maskB w' (vis3 B v'.ownBlock v2.ownBlock o3)) := maskB_mono hg.size fun k hl e => by
    obtain ⟨e1, e2, e3, e4⟩ := vis3_iff.1 e
    exact ⟨vis3_iff.2 ⟨e1, fun q => by rcases hv k q with r | r <;> first | exact e2 r | omega, e3, e4⟩, hg.block k hl (fun q => e2 q.symm)⟩
  refine ⟨OwnL.snoc h2, own_keep h.r2 fun q hq => hg.block q (hl2 q hq).2 (fun e => h.a12 q e.symm hq), fun k e e2 => ?_, fun k e => ⟨fun e2 => ?_, (h.a3 k e).2.1, Nat.lt_of_lt_of_le (h.a3 k e).2.2 hg.size⟩, fun x hx => m1 _ _ _ hM (h.s1 x hx), fun x hx => m2 _ _ _ hM (h.s2 x hx)⟩
  · rcases hv k e with r | r
    · exact h.a12 k r e2
    · have := (hl2 k e2).2; omega
  · rcases hv k e2 with r | r
    · exact (h.a3 k e).1 r
    · have := (h.a3 k e).2.2; omega
theorem L2.app2 (m1 : ∀ (w w' : World) (x : RowP α), Mono w w' → S1 w x → S1 w' x) (m2 : ∀ (w w' : World) (x : RowP β), Mono w w' → S2 w x → S2 w' x) {x : RowP β} (h : L2 T1 T2 S1 S2 B w v1 v2 o3 ps ss qs tt) (h2 : w'.ownsRow B T2 1 v' (qs.length + 1) (qs.flatMap hdC ++ hdC x)) (hg : w.grownBy w' v2.ownBlock) (hv : ∀ k, v'.ownBlock = some k → v2.ownBlock = some k ∨ w.heap.size ≤ k) : L2 T1 T2 S1 S2 B w' v1 v' o3 ps ss (qs ++ [x]) tt := by
  have hl1 := World.ownsRow.lt h.r1
  have hM : Mono (maskB w (vis3 B v1.ownBlock v2.ownBlock o3)) (maskB w' (vis3 B v1.ownBlock v'.ownBlock o3)) := maskB_mono hg.size fun k hl e => by
    obtain ⟨e1, e2, e3, e4⟩ := vis3_iff.1 e
    exact ⟨vis3_iff.2 ⟨e1, e2, fun q => by rcases hv k q with r | r <;> first | exact e3 r | omega, e4⟩, hg.block k hl (fun q => e3 q.symm)⟩
  refine ⟨own_keep h.r1 fun q hq => hg.block q (hl1 q hq).2 (fun e => h.a12 q hq e.symm), OwnL.snoc h2, fun k e e2 => ?_, fun k e => ⟨(h.a3 k e).1, fun e2 => ?_, Nat.lt_of_lt_of_le (h.a3 k e).2.2 hg.size⟩, fun x hx => m1 _ _ _ hM (h.s1 x hx), fun x hx => m2 _ _ _ hM (h.s2 x hx)⟩
  · rcases hv k e2 with r | r
    · exact h.a12 k e r
    · have := (hl1 k e).2; omega
  · rcases hv k e2 with r | r
    · exact (h.a3 k e).2.1 r
    · have := (h.a3 k e).2.2; omega
theorem L2.app3 (m1 : ∀ (w w' : World) (x : RowP α), Mono w w' → S1 w x → S1 w' x) (m2 : ∀ (w w' : World) (x : RowP β), Mono w w' → S2 w x → S2 w' x) (h : L2 T1 T2 S1 S2 B w v1 v2 o3 ps ss qs tt) (hg : w.grownBy w' o3) (hv : ∀ k, o' = some k → o3 = some k ∨ w.heap.size ≤ k) (hl : ∀ k, o' = some k → k < w'.heap.size) : L2 T1 T2 S1 S2 B w' v1 v2 o' ps ss qs tt := by
  have hl1 := World.ownsRow.lt h.r1
  have hl2 := World.ownsRow.lt h.r2
  have hM : Mono (maskB w (vis3 B v1.ownBlock v2.ownBlock o3)) (maskB w' (vis3 B v1.ownBlock v2.ownBlock o')) := maskB_mono hg.size fun k hl e => by
    obtain ⟨e1, e2, e3, e4⟩ := vis3_iff.1 e
    exact ⟨vis3_iff.2 ⟨e1, e2, e3, fun q => by rcases hv k q with r | r <;> first | exact e4 r | omega⟩, hg.block k hl (fun q => e4 q.symm)⟩
  refine ⟨own_keep h.r1 fun q hq => hg.block q (hl1 q hq).2 (fun e => (h.a3 q e.symm).1 hq), own_keep h.r2 fun q hq => hg.block q (hl2 q hq).2 (fun e => (h.a3 q e.symm).2.1 hq), h.a12, fun k e => ⟨fun e2 => ?_, fun e2 => ?_, hl k e⟩, fun x hx => m1 _ _ _ hM (h.s1 x hx), fun x hx => m2 _ _ _ hM (h.s2 x hx)⟩
  · rcases hv k e with r | r
    · exact (h.a3 k r).1 e2
    · have := (hl1 k e2).2; omega
  · rcases hv k e with r | r
    · exact (h.a3 k r).2.1 e2
    · have := (hl2 k e2).2; omega
theorem L2.sees {b : Nat} (h : L2 T1 T2 S1 S2 B w v1 v2 o3 ps ss qs tt) {u : World} (hu : w.heap.size ≤ b) (hB : B ≤ b) : Mono (mask u b none) (maskB u (vis3 B v1.ownBlock v2.ownBlock o3)) := by
  refine ⟨by rw [mask_size, maskB_size]; exact Nat.le_refl _, fun p v e => ?_⟩
  obtain ⟨⟨e1, -⟩, e2⟩ := mask_cell.1 e
  refine maskB_cell.2 ⟨vis3_iff.2 ⟨by omega, fun q => ?_, fun q => ?_, fun q => ?_⟩, e2⟩
  · have := (World.ownsRow.lt h.r1 _ q).2; omega
  · have := (World.ownsRow.lt h.r2 _ q).2; omega
  · have := (h.a3 _ q).2.2; omega
theorem L2.more1 {x : RowP α} (h : L2 T1 T2 S1 S2 B w v1 v2 o3 ps ss qs tt) (hx : S1 (maskB w (vis3 B v1.ownBlock v2.ownBlock o3)) x) : L2 T1 T2 S1 S2 B w v1 v2 o3 ps (ss ++ [x]) qs tt :=
  ⟨h.r1, h.r2, h.a12, h.a3, fun y hy => by rcases List.mem_append.1 hy with hy | hy; exact h.s1 y hy; rcases List.mem_singleton.1 hy with rfl; exact hx, h.s2⟩
theorem L2.more2 {x : RowP β} (h : L2 T1 T2 S1 S2 B w v1 v2 o3 ps ss qs tt) (hx : S2 (maskB w (vis3 B v1.ownBlock v2.ownBlock o3)) x) : L2 T1 T2 S1 S2 B w v1 v2 o3 ps ss qs (tt ++ [x]) :=
  ⟨h.r1, h.r2, h.a12, h.a3, h.s1, fun y hy => by rcases List.mem_append.1 hy with hy | hy; exact h.s2 y hy; rcases List.mem_singleton.1 hy with rfl; exact hx⟩
theorem L2.nil : L2 T1 T2 S1 S2 B w (.slice none 0 0) (.slice none 0 0) none [] [] [] [] :=
  ⟨OwnL.nil, OwnL.nil, (fun _ e => by cases e), (fun _ e => by cases e), (fun _ h => by cases h), fun _ h => by cases h⟩
theorem L2.done (m1 : ∀ (w w' : World) (x : RowP α), Mono w w' → S1 w x → S1 w' x) (m2 : ∀ (w w' : World) (x : RowP β), Mono w w' → S2 w x → S2 w' x) (h : L2 T1 T2 S1 S2 B w v1 v2 o3 ps ss qs tt) : ∃ A c C d, v1 = .slice A ps.length c ∧ v2 = .slice C qs.length d ∧ Lies 1 hdC (mask w B none) A ps ∧ Lies 1 hdC (mask w B none) C qs ∧ (∀ x ∈ ss, S1 (mask w B none) x) ∧ ∀ x ∈ tt, S2 (mask w B none) x := by
  have hM : Mono (maskB w (vis3 B v1.ownBlock v2.ownBlock o3)) (mask w B none) := ⟨by rw [mask_size, maskB_size]; exact Nat.le_refl _, fun p v e => by
    obtain ⟨e1, e2⟩ := maskB_cell.1 e
    exact mask_cell.2 ⟨⟨(vis3_iff.1 e1).1, fun q => by cases q⟩, e2⟩⟩
  obtain ⟨A, c, hv, hl, hb, -⟩ := OwnL.lies (f := hdC) (n := 1) (fun _ => rfl) h.r1
  obtain ⟨C, d, hv2, hl2, hb2, -⟩ := OwnL.lies (f := hdC) (n := 1) (fun _ => rfl) h.r2
  refine ⟨A, c, C, d, hv, hv2, ?_, ?_, fun x hx => m1 _ _ _ hM (h.s1 x hx), fun x hx => m2 _ _ _ hM (h.s2 x hx)⟩
  · rcases hl with hl | ⟨b, off, rfl, hlt, hcell⟩
    · exact .inl hl
    · exact .inr ⟨b, off, rfl, by rw [mask_size]; exact hlt, fun i hi j u hj => mask_cell.2 ⟨⟨(hb _ rfl).1, fun e => by cases e⟩, hcell i hi j u hj⟩⟩
  · rcases hl2 with hl | ⟨b, off, rfl, hlt, hcell⟩
    · exact .inl hl
    · exact .inr ⟨b, off, rfl, by rw [mask_size]; exact hlt, fun i hi j u hj => mask_cell.2 ⟨⟨(hb2 _ rfl).1, fun e => by cases e⟩, hcell i hi j u hj⟩⟩
end
end Go.Proofs.YtlmkglgjdmjnkaaGreatDoor
