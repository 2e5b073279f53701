/- Parts 36 of the proofs. -/
import Derived.Test.YtlmkglgjdmjnkaaGreatDoorQ35
namespace Go.Proofs.YtlmkglgjdmjnkaaGreatDoor
open Go.RowKit Go.Lib
open Rw
set_option linter.unusedVariables false
set_option linter.unusedSimpArgs false
theorem split_at {α : Type} : ∀ (l : List α) (i : Nat), i < l.length → ∃ xs y ys, l = xs ++ y :: ys ∧ xs.length = i
  | [], i, h => by simp at h
  | y :: l, 0, _ => ⟨[], y, l, rfl, rfl⟩
  | y :: l, i + 1, h => by
    obtain ⟨xs, z, ys, e, hl⟩ := split_at l i (by simpa using h)
    exact ⟨y :: xs, z, ys, by rw [e]; rfl, by rw [List.length_cons, hl]⟩
theorem needs_more {n m B : Nat} {w w' : World} {v v' : Value} {ps qs : List NeedP} (h : Deep 77 1 ndC (NIs n) w B v ps) (hq : ∀ x ∈ qs, NIs n (mask w B v.ownBlock) x) (hm : qs.length = m) (hl : ps.length + m ≤ 1000000) (h2 : w'.ownsRow B 77 1 v' (ps.length + m) (ps.flatMap ndC ++ qs.flatMap ndC)) (hg : w.grownBy w' v.ownBlock) :
    ∃ A c, v' = .slice A (ps ++ qs).length c ∧ NeedsAt (mask w' B none) A (ps ++ qs) ∧ ∀ r ∈ ps ++ qs, ∀ t ∈ r.l, inU n t := by
  subst hm
  have ho : OwnL 77 1 ndC w' B v' (ps ++ qs) := by
    unfold OwnL
    rw [List.length_append, List.flatMap_append]
    exact h2
  have hM : Mono (mask w B v.ownBlock) (mask w' B none) := mask_mono hg.size fun k hk h1 h3 => ⟨⟨h1, fun e => by cases e⟩, hg.block k hk (fun e => h3 e.symm)⟩
  have hs : ∀ x ∈ ps ++ qs, NIs n (mask w' B none) x := fun x hx => by
    rcases List.mem_append.1 hx with hx | hx
    · exact NIs.mono n _ _ _ hM (h.2 x hx)
    · exact NIs.mono n _ _ _ hM (hq x hx)
  obtain ⟨A, c, hv, hl2, hb, hc⟩ := OwnL.lies (f := ndC) (n := 1) (fun _ => rfl) ho
  refine ⟨A, c, hv, ⟨?_, fun x hx => (hs x hx).1, by rw [List.length_append]; exact hl⟩, fun r hr => (hs r hr).2⟩
  rcases hl2 with hl2 | ⟨b, off, rfl, hlt, hcell⟩
  · exact .inl hl2
  · exact .inr ⟨b, off, rfl, by rw [mask_size]; exact hlt, fun i hi j u hj => mask_cell.2 ⟨⟨(hb _ rfl).1, fun e => by cases e⟩, hcell i hi j u hj⟩⟩
theorem lies_mid {α : Type} {n : Nat} {f : α → List Value} {w : World} {b off : Nat} {xs ys : List α} {a : α} (h : Lies n f w (some ⟨b, off, none⟩) (xs ++ a :: ys)) : b < w.heap.size ∧ ∀ (j : Nat) (v : Value), (f a)[j]? = some v → w.cell? ⟨b, off + xs.length * n + j, none⟩ = some v := by
  rcases h with e | ⟨b', off', e, h2, h3⟩
  · simp at e
  · injection e with e
    injection e with e1 e2 e3
    subst e1; subst e2
    refine ⟨h2, fun j v hj => ?_⟩
    have hi : xs.length < (xs ++ a :: ys).length := by simp
    have he : (xs ++ a :: ys)[xs.length] = a := by simp
    exact h3 xs.length hi j v (by rw [he]; exact hj)
theorem RowG.need {B g : Nat} {w : World} {ds os : List CandP} {y : CandP} (h : RowG B 8 cdC w (some ⟨g, 0, none⟩) (ds ++ y :: os)) (l : List NeedP) (A : Option Addr) (c : Nat) : RowG B 8 cdC (w.setCell ⟨g, ds.length * 8 + 6, none⟩ (.slice A l.length c)) (some ⟨g, 0, none⟩) (ds ++ { y with needs := l, A := A, c := c } :: os) :=
  h.set (fun _ => rfl) (by omega) rfl fun i hi => by rcases i with _ | _ | _ | _ | _ | _ | _ | _ | i <;> first | rfl | omega
theorem RowG.bar {B g : Nat} {w : World} {ds os : List CandP} {y : CandP} (h : RowG B 8 cdC w (some ⟨g, 0, none⟩) (ds ++ y :: os)) (l : List WantP) (A : Option Addr) (c : Nat) : RowG B 8 cdC (w.setCell ⟨g, ds.length * 8 + 7, none⟩ (.slice A l.length c)) (some ⟨g, 0, none⟩) (ds ++ { y with bars := l, B := A, d := c } :: os) :=
  h.set (fun _ => rfl) (by omega) rfl fun i hi => by rcases i with _ | _ | _ | _ | _ | _ | _ | _ | i <;> first | rfl | omega
theorem need_lit {n : Nat} {u : World} {B : Nat} {x : WantP} (hx : WIs n (mask u B none) x) (hB : B ≤ u.heap.size) : Deep 77 1 ndC (NIs n) ((u.alloc (.cells #[.int .i64 x.unit, .slice x.A x.fin.length x.c, .slice x.B x.pre.length x.d] 89)).alloc (.cells #[.slice (some ⟨u.heap.size, 0, none⟩) 1 1] 77)) B (.slice (some ⟨u.heap.size + 1, 0, none⟩) 1 1) [⟨[x], some ⟨u.heap.size, 0, none⟩, 1⟩] := by
  obtain ⟨A, c, hv, -, hl, hs⟩ := Deep.fresh (f := wtC) (n := 3) (fun _ => rfl) (WIs.mono n) (deep_lit hx hB)
  injection hv with e1 e2 e3
  subst e1
  have hz : (u.alloc (.cells #[.int .i64 x.unit, .slice x.A x.fin.length x.c, .slice x.B x.pre.length x.d] 89)).heap.size = u.heap.size + 1 := by simp
  have hr := World.ownsRow_lit (base := B) (e := 77) (size := 1) (u.alloc (.cells #[.int .i64 x.unit, .slice x.A x.fin.length x.c, .slice x.B x.pre.length x.d] 89)) #[.slice (some ⟨u.heap.size, 0, none⟩) 1 1] 1 (by omega) (by unfold maxLen; omega) rfl
  rw [hz] at hr
  refine ⟨hr, fun y hy => ?_⟩
  rcases List.mem_singleton.1 hy with rfl
  refine NIs.mono n _ _ _ (mask_mono (kb_new _ _).size fun k hk h1 _ => ⟨⟨h1, fun e => ?_⟩, (kb_new _ _).block k hk⟩) ⟨⟨hl, fun y hy => (hs y hy).1, by show 1 ≤ 1000000; omega⟩, fun y hy => (hs y hy).2⟩
  have e : some (u.heap.size + 1) = some k := e
  injection e with e
  omega
theorem drop_mid {α : Type} : ∀ (xs : List α) (a : α) (ys : List α), (xs ++ a :: ys).drop (xs.length + 1) = ys
  | [], _, _ => rfl
  | _ :: xs, a, ys => drop_mid xs a ys
theorem RR.grownN {w0 wr u u' : World} {g i : Nat} {z : Value} {o : Option Nat} (h : RR w0 wr g z i u) (hg : u.grownBy u' o) (ho : ∀ k, o = some k → wr.heap.size ≤ k ∧ k ≠ g) (hw : w0.heap.size ≤ wr.heap.size) : RR w0 wr g z i u' :=
  ⟨⟨Nat.le_trans h.keep.1 hg.size, fun k hk hn => (hg.block k (Nat.lt_of_lt_of_le hk h.keep.1) (fun e => by have := (ho k e.symm).1; omega)).trans (h.keep.2 k hk hn)⟩, h.ctr.grown hg (fun e => (ho _ e.symm).2 rfl), h.kb.grown hg (Nat.le_trans hw h.keep.1) (fun k hk => Nat.le_trans hw (ho k hk).1)⟩
def WorldK (w : World) (e : Ending) (w' : World) : Prop := (∃ (us : List UnitP) (U : Option Addr) (uc : Nat), e = .returned (.agg #[.slice U us.length uc]) ∧ UnitsAt w' U us ∧ Wants us ∧ 0 < us.length) ∧ KB w.heap.size w w'
theorem WB.wants {n B : Nat} {w : World} {U : Option Addr} {us : List UnitP} (h : WB n B w U us) (hn : us.length = n) : Wants us := fun x hx y hy => by
  subst hn
  exact (h.2 x hx y hy).2
set_option maxRecDepth 100000 in
set_option maxHeartbeats 8000000 in
theorem gworld_any (A : Option Addr) (c : Nat) (zs : List Int) (w : World) (hF : First w) (hz : IntsAt w A zs) (hzn : zs.length ≤ 9223372036854775807) (most : Nat) (hm0 : 0 < most) (hm : most ≤ 5) : Calls Tryz.prog 12 #[.slice A zs.length c, .int .i64 (most : Int)] w (WorldK w) := by
  have EE := hid (show GEnv w (w.heap.size + 1) (.slice A zs.length c) from ⟨hF, by omega, A, c, zs, rfl, hz, hzn⟩)
  clear hz hF
  generalize zs.length = zn at *
  go_enter Tryz.func12, Tryz.ntmps12
  go_upto_region 2 with fail
  refine wp_name ?_
  intro u1 hu1
  have hs1 : u1.heap.size = w.heap.size + 2 := by rw [hu1]; simp
  have HR1 := hid (show RR w w (w.heap.size + 1) (.slice A zn c) 0 u1 from by
    have hk : KB w.heap.size w u1 := by rw [hu1]; exact kb_tr (kb_new _ _) (kb_new _ _)
    refine ⟨Keep.kb hk, ?_, hk⟩
    rw [hu1]
    exact Own.new2 w _ [.slice A zn c, .int .i64 ((0 : Nat) : Int)] 73 (Nat.le_refl _))
  have HO1 := hid (show Own w.heap.size u1 w.heap.size [.slice none 0 0] from by rw [hu1]; exact (Own.new w [.slice none 0 0] 42 (Nat.le_refl _)).alloc _)
  clear hu1
  obtain ⟨gG, hgG⟩ : ∃ g, g = w.heap.size + 1 := ⟨_, rfl⟩
  obtain ⟨g4, hg4⟩ : ∃ g, g = w.heap.size := ⟨_, rfl⟩
  rw [← hgG] at EE HR1 ⊢
  have HO2 := hid (show Own w.heap.size u1 g4 [.slice none 0 0] from by rw [hg4]; exact HO1.out)
  rw [← hg4]
  have hsz : u1.heap.size = g4 + 2 ∧ gG = g4 + 1 ∧ g4 ≤ w.heap.size ∧ w.heap.size ≤ g4 := by omega
  have HSZ := hid hsz
  clear HO1 hgG hg4 hs1 hsz
  go_wp2_with fail
  refine (gunits_any EE.out 0 u1 HR1.out.self (by omega) most hm0 hm).mono ?_
  rintro _ u2 ⟨⟨us, U, uc, rfl, hwb, hl2, hl11, ⟨u0, y0, tl, rfl, huc⟩, hbare⟩, j, hj, hR2⟩
  obtain ⟨n, hn⟩ : ∃ n, (u0 :: tl).length = n := ⟨_, rfl⟩
  obtain ⟨B, hB⟩ : ∃ B, u1.heap.size = B := ⟨_, rfl⟩
  rw [hB] at hwb HSZ
  rw [hn] at hl2 hl11 ⊢
  have HWB := hid (hwb n)
  have HBA := hid hbare
  have HN := hid hn
  have HR2 := hid (HR1.out.from hR2)
  have HO3 := hid (hR2.keep.own HO2.out (fun e => by injection e with e; have := HSZ.out; omega))
  have hB2 : B ≤ u2.heap.size := by rw [← hB]; exact hR2.keep.1
  have hgB : gG < B := by have := HSZ.out; omega
  have h4B : g4 < B := by have := HSZ.out; omega
  have h4G : g4 ≠ gG := by have := HSZ.out; omega
  clear hwb hbare hR2 HR1 HO2 hn hB
  obtain ⟨g0, hA0, hBg, hs0⟩ := (HWB.out.1.cd u0 (by simp)).own (by rw [huc]; simp)
  obtain ⟨un, uf, ucs, uA, ucc⟩ := u0
  dsimp only at huc hA0
  subst huc
  subst hA0
  obtain ⟨bU, oU, hU, -, -⟩ := HWB.out.1.row.at_ (k := 0) (by simp)
  subst hU
  obtain ⟨hbU, hcU⟩ := lies_mid (xs := []) HWB.out.1.row
  have cU : u2.cell? ⟨bU, oU + 2, none⟩ = some (.slice (some ⟨g0, 0, none⟩) 1 ucc) := by have h := hcU 2 _ rfl; simpa using h
  have hbg : bU ≠ g0 := fun e => HWB.out.1.au ⟨un, uf, [y0], some ⟨g0, 0, none⟩, ucc⟩ (List.mem_cons_self ..) (by simp) (by rw [e]; rfl)
  have hbB : B ≤ bU := HWB.out.1.low _ rfl
  clear hcU
  go_upto_region 3 with fail
  have hdk : KB u2.heap.size u2 u2.drew := kb_drewJ (kb_refl _)
  have hS : u2.drew.cell? ⟨bU, oU + 2, none⟩ = some (.slice (some ⟨g0, 0, none⟩) 1 ucc) ∧ bU < u2.drew.heap.size := ⟨cell_kb hbU hdk cU, hbU⟩
  refine wp_planS (fun u => u.cell? ⟨bU, oU + 2, none⟩ = some (.slice (some ⟨g0, 0, none⟩) 1 ucc) ∧ bU < u.heap.size) (.call [0, 1, 2, 3, 4, 5] 6 (.call [7, 8] 9 (.last []))) (by first | assumption | skip) (by kernel_rfl) (by intro _ _ d _ _ h; cases d <;> exact h) (by kernel_rfl) ?_
  have iS : Nonempty (SW fun u => u.cell? ⟨bU, oU + 2, none⟩ = some (.slice (some ⟨g0, 0, none⟩) 1 ucc) ∧ bU < u.heap.size) := ⟨⟨_, hS⟩⟩
  have x0 := fun (z : SW fun u => u.cell? ⟨bU, oU + 2, none⟩ = some (.slice (some ⟨g0, 0, none⟩) 1 ucc) ∧ bU < u.heap.size) => z.ok.1
  have xl := fun (z : SW fun u => u.cell? ⟨bU, oU + 2, none⟩ = some (.slice (some ⟨g0, 0, none⟩) 1 ucc) ∧ bU < u.heap.size) => z.ok.2
  with_reducible refine plan_call ?_
  simp only [pickOps, List.map_cons, List.map_nil, List.getElem?_toArray, List.getElem?_cons_zero, List.getElem?_cons_succ, Option.getD_some]
  repeat go_big_quiet_step (fail)
  refine wpQuiet_nil ?_
  go_wp2_with fail
  have HGN := hid (gneeds_any EE.out j u2.drew (HR2.out.more hdk).self (by omega) (some ⟨bU, oU, none⟩) uc _ ((HWB.out.1.keep (Keep.kb hdk) hgB).heads hgB) (by rw [HN.out]; omega) (by rw [HN.out]; omega) 3 (by omega))
  rw [HN.out] at HGN
  refine HGN.out.mono ?_
  rintro _ u3 ⟨⟨l, lA, lc, rfl, hna, hl3, hin⟩, j3, hj3, hR3⟩
  have hk3 : Keep (some gG) u2 u3 := (Keep.kb hdk).trans hR3.keep
  have hS3 : u3.cell? ⟨bU, oU + 2, none⟩ = some (.slice (some ⟨g0, 0, none⟩) 1 ucc) ∧ bU < u3.heap.size := ⟨(World.cell?_of_block (hk3.2 bU hbU (fun e => by injection e with e; omega))).trans cU, Nat.lt_of_lt_of_le hbU hk3.1⟩
  go_wp2_with fail
  refine plan_onS (hS3) ?_
  have hrg3 := ((HWB.out.1.cd _ (List.mem_cons_self ..)).keep hk3 (fun g e e2 => by injection e2 with e2; injection e with e; have e : g0 = g := e; omega))
  obtain ⟨g0', e0, -, hg3, hsf, hc3⟩ := RowG.mid (ds := []) hrg3
  injection e0 with e0
  injection e0 with e0 _ _
  subst e0
  have x6 : u3.cell? ⟨g0, 6, none⟩ = some (.slice y0.A y0.needs.length y0.c) := by have h := hc3 6 _ rfl; simpa using h
  with_reducible refine plan_call ?_
  simp only [pickOps, List.map_cons, List.map_nil, List.getElem?_toArray, List.getElem?_cons_zero, List.getElem?_cons_succ, Option.getD_some]
  repeat go_big_quiet_step (fail)
  refine wpQuiet_nil ?_
  go_wp2_with fail
  refine planK_name ?_
  intro u4 hu4
  have hS4 : u4.cell? ⟨bU, oU + 2, none⟩ = some (.slice (some ⟨g0, 0, none⟩) 1 ucc) ∧ bU < u4.heap.size := by
    rw [hu4]
    exact ⟨by rw [World.cell?_setCell_other _ _ _ _ (by simp only [ne_eq, Addr.mk.injEq, not_and]; intro e; exact absurd e (by omega))]; exact hS3.1, by rw [World.size_setCell]; exact hS3.2⟩
  refine plan_onS hS4 ?_
  with_reducible refine plan_last ?_
  simp only [pickOps, List.map_cons, List.map_nil, List.getElem?_toArray, List.getElem?_cons_zero, List.getElem?_cons_succ, Option.getD_some]
  repeat go_big_quiet_step (fail)
  refine wpQuiet_nil ?_
  obtain ⟨yv, ysh, hye, hyf⟩ := HBA.out _ (List.mem_cons_self ..) y0 (by simp)
  subst hye
  have hrg4 : RowG B 8 cdC u4 (some ⟨g0, 0, none⟩) ([] ++ { bareC yv ysh with needs := l, A := lA, c := lc } :: []) := by rw [hu4]; exact RowG.need (ds := []) (os := []) hrg3 l lA lc
  have hk4 : Keep2 gG g0 u2 u4 := by rw [hu4]; exact ((Keep2.refl gG g0 u2).keep hk3).put _ (.inl rfl)
  have hg2 : g0 < u2.heap.size := by
    rcases (HWB.out.1.cd _ (List.mem_cons_self ..)).lies with e | ⟨b', o', e, h1, -⟩
    · simp at e
    · injection e with e
      injection e with e _ _
      omega
  have hci : CIs n (mask u4 u2.heap.size none) { bareC yv ysh with needs := l, A := lA, c := lc } := by
    refine ⟨⟨hyf, hna.mono (by rw [hu4]; exact mask_put (.inl hg2)), ⟨.inl rfl, (fun _ h => by cases h), Nat.zero_le _⟩⟩, hin, fun _ h => by cases h⟩
  have HW4 := hid (WB.step (xs := []) (ds := []) (os := []) HWB.out hk4 hgB hB2 rfl rfl hrg4 hci)
  have HR4 := hid (show RR w w gG (.slice A zn c) j3 u4 from by rw [hu4]; exact ((HR2.out.more hdk).from hR3).putB (by have := HSZ.out; omega) (by have := HSZ.out; omega) (by omega) _)
  have HO4 := hid (show Own w.heap.size u4 g4 [.slice none 0 0] from by rw [hu4]; exact (hk3.own HO3.out (fun e => by injection e with e; omega)).other (by omega) _)
  have hB4 : B ≤ u4.heap.size := Nat.le_trans hB2 hk4.1
  obtain ⟨us1, hus⟩ : ∃ us, ([] ++ putU ⟨un, uf, [bareC yv ysh], some ⟨g0, 0, none⟩, ucc⟩ ([] ++ { bareC yv ysh with needs := l, A := lA, c := lc } :: []) :: tl) = us := ⟨_, rfl⟩
  have HBR := hid (show ∀ x ∈ us1.drop 1, Bare x.cands from by rw [← hus]; exact fun x hx => HBA.out x (List.mem_cons_of_mem _ hx))
  have HL1 := hid (show us1.length = n from by rw [← hus, ← HN.out]; rfl)
  rw [hus] at HW4
  clear hus hci hg2 hk4 hrg4 hyf hu4 hS4 x6 hc3 hsf hg3 hrg3 hS3 hk3 hR3 hin hl3 hna HGN x0 xl iS hS hdk hbg cU hbU hs0 HBA HWB HR2 HO3 HN hBg hB2
  go_upto_block 0 with fail
  go_wp2_with fail
  go_loopw [7] (fun iv wr => ∃ (i j : Nat) (us : List UnitP), iv = .int .i64 (i : Int) ∧ 1 ≤ i ∧ i ≤ n ∧ Hid (us.length = n) ∧ Hid (WB n B wr (some ⟨bU, oU, none⟩) us) ∧ Hid (∀ x ∈ us.drop i, Bare x.cands) ∧ Hid (j ≤ 1000 * i) ∧ Hid (RR w w gG (.slice A zn c) j wr) ∧ Hid (Own w.heap.size wr g4 [.slice none 0 0]) ∧ Hid (B ≤ wr.heap.size)) (fun iv _ => n - (intOf iv).toNat)
  case atStart => exact ⟨1, j3, us1, rfl, Nat.le_refl _, by omega, HL1, HW4, HBR, hid (by omega), HR4, HO4, hid hB4⟩
  case round =>
    clear HL1 HW4 HBR HR4 HO4 hB4
    rename World => wr
    obtain ⟨i, j, us, rfl, hi1, hi, HL, HW, HBR, HJ, HR, HO, HBW⟩ := hrel
    have i0 : (0 : Int) ≤ (i : Int) := by omega
    by_cases hlt : i < n
    rotate_left
    · obtain rfl : i = n := by omega
      have i1 : ¬ (i : Int) < (i : Int) := by omega
      have x0 := HO.out.box.2 0 _ rfl
      have xl := HO.out.box.1
      have sf : ∀ j, wr.frozen? ⟨g4, j, none⟩ = false := HO.out.soft
      go_wp2_with fail
      refine body_name ?_
      intro w9 hw9
      have O9 : Own w.heap.size w9 g4 [.slice (some ⟨bU, oU, none⟩) i uc] := by rw [hw9]; exact HO.out.put (j := 0) (by simp) _
      have k4 : Keep (some g4) wr w9 := by rw [hw9]; exact (Keep.refl _ _).put _ (.inl rfl)
      have hwb := HW.out.keep k4 h4B
      have hkb : KB w.heap.size w w9 := by rw [hw9]; exact kb_putJ HR.out.kb HO.out.low _
      clear hw9
      have k0 := O9.box.2 0 _ rfl
      refine bodyPost_ret (v := .agg #[.slice (some ⟨bU, oU, none⟩) i uc]) (by simp [results, Tryz.results12, go_sem, k0]) rfl ?_
      exact ⟨⟨us, some ⟨bU, oU, none⟩, uc, by rw [HL.out], hwb.done (by have := HL.out; omega), hwb.wants HL.out, by have := HL.out; omega⟩, hkb⟩
    have i1 : (i : Int) < (n : Int) := by omega
    go_upto_block 2 with fail
    obtain ⟨xs, u, ys, hus, hxl⟩ := split_at us i (by rw [HL.out]; exact hlt)
    subst hus
    have hdr : ∀ x ∈ u :: ys, Bare x.cands := by
      have h := HBR.out
      rw [List.drop_append_of_le_length (by omega), List.drop_eq_nil_of_le (by omega)] at h
      exact h
    have HBU := hid (hdr u (by simp))
    have HBY := hid (fun x hx => hdr x (List.mem_cons_of_mem _ hx))
    have hln : xs.length + (ys.length + 1) = n := by have h := HL.out; rw [List.length_append] at h; exact h
    have hu4 : u.cands.length ≤ 4 := (HW.out.1.fit u (by simp)).2.2.1
    obtain ⟨un, uf, ucs, uA, uk⟩ := u
    dsimp only at hu4 HBU
    clear hdr HBR
    go_wp2_with fail
    go_loopw [8] (fun kv wq => ∃ (k j' : Nat) (ds os : List CandP), kv = .int .i64 (k : Int) ∧ k ≤ 4 ∧ Hid (ds.length = k) ∧ Hid (Bare os) ∧ Hid ((ds ++ os).length ≤ 4) ∧ Hid (WB n B wq (some ⟨bU, oU, none⟩) (xs ++ ⟨un, uf, ds ++ os, uA, uk⟩ :: ys)) ∧ Hid (j' ≤ 1000 * i + 100 * k) ∧ Hid (RR w w gG (.slice A zn c) j' wq) ∧ Hid (Own w.heap.size wq g4 [.slice none 0 0]) ∧ Hid (B ≤ wq.heap.size)) (fun kv _ => 4 - (intOf kv).toNat)
    case atStart => exact ⟨0, j, [], ucs, rfl, Nat.zero_le _, hid rfl, HBU, hid hu4, HW, hid (by have := HJ.out; omega), HR, HO, HBW⟩
    case round =>
      clear HBU hu4 HW HJ HR HO HBW HL
      rename World => wq
      obtain ⟨k, j', ds, os, rfl, hk4, HDL, HBO, HL4, HW, HJ, HR, HO, HBW⟩ := hrel
      have k0 : (0 : Int) ≤ (k : Int) := by omega
      obtain ⟨hbU, hcU⟩ := lies_mid HW.out.1.row
      rw [hxl] at hcU
      have c1 : wq.cell? ⟨bU, oU + i * 3 + 1, none⟩ = some (.string uf) := hcU 1 _ rfl
      have c2 : wq.cell? ⟨bU, oU + i * 3 + 2, none⟩ = some (.slice uA (ds ++ os).length uk) := hcU 2 _ rfl
      have HC := hid (And.intro hbU (And.intro c1 c2))
      clear hcU
      cases os with
      | nil =>
        have hkm : (ds ++ []).length = k := by rw [List.append_nil]; exact HDL.out
        rw [hkm] at c2
        have hk1 : ¬ (k : Int) < (k : Int) := by omega
        go_wp2_with fail
        refine (show _ ∧ _ from ⟨?_, ?_⟩)
        · exact ⟨i + 1, j', xs ++ ⟨un, uf, ds ++ [], uA, uk⟩ :: ys, by go_num, by omega, by omega, hid (by rw [List.length_append]; exact hln), HW, hid (by rw [← hxl, drop_mid]; exact HBY.out), hid (by have := HJ.out; omega), HR, HO, HBW⟩
        · simp [intOf] <;> omega
      | cons y os =>
        obtain ⟨m, hm⟩ : ∃ m, (ds ++ y :: os).length = m := ⟨_, rfl⟩
        have hkm : k < m := by rw [← hm, List.length_append, HDL.out, List.length_cons]; omega
        have hm4 : m ≤ 4 := by rw [← hm]; exact HL4.out
        have HM := hid hm
        rw [hm] at c2 HC
        clear hm HL4
        have k1 : (k : Int) < (m : Int) := by omega
        have hrg := HW.out.1.cd ⟨un, uf, ds ++ y :: os, uA, uk⟩ (by simp)
        obtain ⟨g, hA, hBg, hg, hsf, hcc⟩ := RowG.mid hrg
        have hA : uA = some ⟨g, 0, none⟩ := hA
        subst hA
        have HRG := hid (show RowG B 8 cdC wq (some ⟨g, 0, none⟩) (ds ++ y :: os) from hrg)
        obtain ⟨yv, ysh, hye, hyf⟩ := HBO.out y (by simp)
        subst hye
        rw [HDL.out] at hcc
        have HCC := hid hcc
        have HYF := hid hyf
        have hgU : bU ≠ g := fun e => HW.out.1.au ⟨un, uf, ds ++ bareC yv ysh :: os, some ⟨g, 0, none⟩, uk⟩ (by simp) (by simp) (by rw [e]; rfl)
        clear hrg hcc hyf hsf
        obtain ⟨bf, hbf⟩ : ∃ b, uf.toList.isEmpty = b := ⟨_, rfl⟩
        go_upto_if 53 with fail
        go_cut [] from 54 to 67 (fun wx => ∃ (l0 : List NeedP) (A0 : Option Addr) (c0 : Nat), Hid (RowG B 8 cdC wx (some ⟨g, 0, none⟩) (ds ++ { bareC yv ysh with needs := l0, A := A0, c := c0 } :: os)) ∧ Hid (Deep 77 1 ndC (NIs n) wx wq.heap.size (.slice A0 l0.length c0) l0) ∧ Hid (l0.length ≤ 1) ∧ Hid (Keep2 gG g wq wx) ∧ Hid (RR w w gG (.slice A zn c) j' wx) ∧ Hid (Own w.heap.size wx g4 [.slice none 0 0]))
        case first =>
          cases bf with
          | true =>
            go_wp2_with fail
            go_meet
            case rel => exact ⟨[], none, 0, HRG, hid Deep.nil, hid (Nat.zero_le _), hid (Keep2.refl _ _ _), HR, HO⟩
          | false =>
            have x0 : wq.cell? ⟨g, k * 8, none⟩ = some (.int .i64 yv.maj) := HCC.out 0 _ rfl
            have x1 : wq.cell? ⟨g, k * 8 + 1, none⟩ = some (.int .i64 yv.min) := HCC.out 1 _ rfl
            have x2 : wq.cell? ⟨g, k * 8 + 2, none⟩ = some (.int .i64 yv.pat) := HCC.out 2 _ rfl
            have x3 : wq.cell? ⟨g, k * 8 + 3, none⟩ = some (.string yv.pre) := HCC.out 3 _ rfl
            have x4 : wq.cell? ⟨g, k * 8 + 4, none⟩ = some (.string yv.bld) := HCC.out 4 _ rfl
            go_wp2_with fail
            refine (kexact_any yv wq HYF.out).mono ?_
            rintro _ u5 ⟨l1, m1, A1, c1, B1, d1, rfl, hs1, hb1⟩
            have hrg5 := HRG.out.keep (Keep.kb (o := none) hb1) (fun _ _ e => by cases e)
            obtain ⟨g', e0, -, hg5, hsf5, hc5⟩ := RowG.mid hrg5
            injection e0 with e0
            injection e0 with e0 _ _
            subst e0
            rw [HDL.out] at hc5
            have x6 : u5.cell? ⟨g, k * 8 + 6, none⟩ = some (.slice none 0 0) := hc5 6 _ rfl
            clear x0 x1 x2 x3 x4 hc5
            go_wp2_with fail
            go_meet
            case rel =>
              obtain ⟨v5, hv5⟩ : ∃ v, u5.setCell ⟨g, k * 8 + 6, none⟩ (.slice (some ⟨u5.heap.size + 1, 0, none⟩) 1 1) = v := ⟨_, rfl⟩
              have hz : v5.heap.size = u5.heap.size := by rw [← hv5, World.size_setCell]
              have hkp : Keep (some g) u5 v5 := by rw [← hv5]; exact (Keep.refl _ _).put _ (.inl rfl)
              have h6 : RowG B 8 cdC v5 (some ⟨g, 0, none⟩) (ds ++ { bareC yv ysh with needs := [⟨[⟨(i : Int) - 1, l1, m1, A1, c1, B1, d1⟩], some ⟨u5.heap.size, 0, none⟩, 1⟩], A := some ⟨u5.heap.size + 1, 0, none⟩, c := 1 } :: os) := by
                have h := RowG.need hrg5 [⟨[⟨(i : Int) - 1, l1, m1, A1, c1, B1, d1⟩], some ⟨u5.heap.size, 0, none⟩, 1⟩] (some ⟨u5.heap.size + 1, 0, none⟩) 1
                rw [HDL.out] at h
                rw [← hv5]
                exact h
              have hkk := kb_tr (kb_new v5 (.cells #[.int .i64 ((i : Int) - 1), .slice A1 l1.length c1, .slice B1 m1.length d1] 89)) (kb_new _ (.cells #[.slice (some ⟨u5.heap.size, 0, none⟩) 1 1] 77))
              have hK5 : Keep2 gG g wq v5 := by rw [← hv5]; exact ((Keep2.refl gG g wq).kb hb1).put _ (.inl rfl)
              have hgw : w.heap.size ≤ g := by have := HSZ.out; omega
              have hR5 : RR w w gG (.slice A zn c) j' v5 := by rw [← hv5]; exact (HR.out.more hb1).putB hgw hgw (by omega) _
              have hO5 : Own w.heap.size v5 g4 [.slice none 0 0] := by rw [← hv5]; exact (HO.out.kb hb1).other (by omega) _
              have hsf := hs1.keep hkp hg
              have hnl := need_lit (n := n) (u := v5) (B := wq.heap.size) (x := ⟨(i : Int) - 1, l1, m1, A1, c1, B1, d1⟩) ⟨WantIs.of ((i : Int) - 1) c1 d1 hsf (by omega), by show (0 : Int) ≤ (i : Int) - 1; omega, by show (i : Int) - 1 < (n : Int); omega⟩ (by rw [hz]; exact hb1.size)
              rw [hz] at hnl
              rw [hv5]
              exact ⟨[⟨[⟨(i : Int) - 1, l1, m1, A1, c1, B1, d1⟩], some ⟨u5.heap.size, 0, none⟩, 1⟩], some ⟨u5.heap.size + 1, 0, none⟩, 1, hid (h6.keep (Keep.kb (o := none) hkk) (fun _ _ e => by cases e)), hid hnl, hid (Nat.le_refl _), hid (hK5.kb hkk), hid (hR5.more hkk), hid (hO5.kb hkk)⟩
        case rest =>
          obtain ⟨l0, A0, c0, HRX, HDX, HLX, HKX, HRR, HOX⟩ := hcut
          clear HR HO HCC HRG c1 c2 hbU
          have hgw : w.heap.size ≤ g := by have := HSZ.out; omega
          have hgG : g ≠ gG := by omega
          have hgq : gG < wq.heap.size := by have := HBW.out; omega
          have hjj := HJ.out
          have hi11 : i ≤ 11 := by omega
          have HEND := hid (fun (wz : World) (y3 : CandP) (jz : Nat) (hr : RowG B 8 cdC wz (some ⟨g, 0, none⟩) (ds ++ y3 :: os)) (hk : Keep2 gG g wq wz) (hc : CIs n (mask wz wq.heap.size none) y3) (hrr : RR w w gG (.slice A zn c) jz wz) (hjz : jz ≤ j' + 60) (ho : Own w.heap.size wz g4 [.slice none 0 0]) => show ∃ (k2 j2 : Nat) (ds2 os2 : List CandP), Value.int .i64 ((k : Int) + 1) = .int .i64 (k2 : Int) ∧ k2 ≤ 4 ∧ Hid (ds2.length = k2) ∧ Hid (Bare os2) ∧ Hid ((ds2 ++ os2).length ≤ 4) ∧ Hid (WB n B wz (some ⟨bU, oU, none⟩) (xs ++ ⟨un, uf, ds2 ++ os2, some ⟨g, 0, none⟩, uk⟩ :: ys)) ∧ Hid (j2 ≤ 1000 * i + 100 * k2) ∧ Hid (RR w w gG (.slice A zn c) j2 wz) ∧ Hid (Own w.heap.size wz g4 [.slice none 0 0]) ∧ Hid (B ≤ wz.heap.size) from by
            refine ⟨k + 1, jz, ds ++ [y3], os, by go_num, by omega, hid (by rw [List.length_append, HDL.out]; rfl), hid (fun x hx => HBO.out x (List.mem_cons_of_mem _ hx)), hid ?_, hid ?_, hid (by omega), hid hrr, hid ho, hid (Nat.le_trans HBW.out hk.1)⟩
            · rw [List.append_assoc]
              have h := HM.out
              rw [List.length_append] at h ⊢
              show ds.length + (os.length + 1) ≤ 4
              have h : ds.length + (os.length + 1) = m := h
              omega
            · rw [List.append_assoc]
              exact WB.step HW.out hk hgB HBW.out rfl rfl hr hc)
          have hlen : (xs ++ putU ⟨un, uf, ds ++ bareC yv ysh :: os, some ⟨g, 0, none⟩, uk⟩ (ds ++ { bareC yv ysh with needs := l0, A := A0, c := c0 } :: os) :: ys).length = n := by rw [List.length_append]; exact hln
          have HGN := hid (fun (u : World) (hu : KB wc.heap.size wc u) => show Calls Tryz.prog 31 #[.pointer (some ⟨gG, 0, none⟩), .slice (some ⟨bU, oU, none⟩) n uc, .int .i64 ((2 : Nat) : Int)] u (NeedG w u gG (.slice A zn c) j' n 2) from by
            have hrg := HRX.out.keep (Keep.kb (o := none) hu) (fun _ _ e => by cases e)
            have hwh := WH.step HW.out.1 (HKX.out.kb hu) hgB rfl (by simp) hrg (by simp) (fun y hy => by
              have hf := (HW.out.1.fit ⟨un, uf, ds ++ bareC yv ysh :: os, some ⟨g, 0, none⟩, uk⟩ (by simp)).2.2.2
              rcases List.mem_append.1 hy with hy | hy
              · exact hf y (by simp [hy])
              · rcases List.mem_cons.1 hy with rfl | hy
                · exact HYF.out
                · exact hf y (by simp [hy]))
            have h := gneeds_any EE.out j' u (HRR.out.more hu).self (by omega) (some ⟨bU, oU, none⟩) uc _ (hwh.heads hgB) (by rw [hlen]; omega) (by rw [hlen]; omega) 2 (by omega)
            rw [hlen] at h
            exact h)
          go_upto_region 13 with fail
          have hdk : KB wc.heap.size wc wc.drew := kb_drewJ (kb_refl _)
          have hgc : g < wc.heap.size := Nat.lt_of_lt_of_le hg HKX.out.1
          have hS : g < wc.drew.heap.size := hgc
          refine wp_planS (fun u => g < u.heap.size) (.two [0, 1, 2, 3, 5, 6] 4 7 (.call [] 7 (.call [] 8 (.call [9, 10] 11 (.last [])))) (.call [] 4 (.call [] 8 (.call [9, 10] 11 (.last []))))) (by first | assumption | skip) (by kernel_rfl) (by intro _ _ d _ _ h; cases d <;> exact h) (by kernel_rfl) ?_
          have iS : Nonempty (SW fun u => g < u.heap.size) := ⟨⟨_, hS⟩⟩
          have gl := fun (z : SW fun u => g < u.heap.size) => z.ok
          have hbq : ∀ q, blkA (some (⟨g, 0, none⟩ : Addr)) = some q → some gG ≠ some q := fun q e e2 => by injection e with e; injection e2 with e2; have e : g = q := e; omega
          with_reducible refine plan_two ?_
          simp only [pickOps, List.map_cons, List.map_nil, List.getElem?_toArray, List.getElem?_cons_zero, List.getElem?_cons_succ, Option.getD_some]
          repeat go_big_quiet_step (fail)
          refine wpQuiet_nil ?_
          refine ⟨?_, ?_⟩
          focus
            obtain ⟨g', e0, -, hgz, hsf, hcc⟩ := RowG.mid (HRX.out.keep (Keep.kb (o := none) hdk) (fun _ _ e => by cases e))
            injection e0 with e0
            injection e0 with e0 _ _
            subst e0
            rw [HDL.out] at hcc
            have x6 : wc.drew.cell? ⟨g, k * 8 + 6, none⟩ = some (.slice A0 l0.length c0) := hcc 6 _ rfl
            clear hcc hsf hgz
            go_wp2_with fail
            refine plan_onS hS ?_
            with_reducible refine plan_call ?_
            simp only [pickOps, List.map_cons, List.map_nil, List.getElem?_toArray, List.getElem?_cons_zero, List.getElem?_cons_succ, Option.getD_some]
            repeat go_big_quiet_step (fail)
            refine wpQuiet_nil ?_
            go_wp2_with fail
            refine (HGN.out wc.drew hdk).mono ?_
            rintro _ u6 ⟨⟨l6, lA6, lc6, rfl, hna, hl6, hin⟩, j6, hj6, hR6⟩
            have hk6 : Keep (some gG) wc u6 := (Keep.kb hdk).trans hR6.keep
            have hs6 : g < u6.heap.size := Nat.lt_of_lt_of_le hgc hk6.1
            go_wp2_with fail
            refine plan_onS (hs6) ?_
          rotate_left
          focus
            go_wp2_with fail
            refine (HGN.out wc.drew hdk).mono ?_
            rintro _ u6 ⟨⟨l6, lA6, lc6, rfl, hna, hl6, hin⟩, j6, hj6, hR6⟩
            have hk6 : Keep (some gG) wc u6 := (Keep.kb hdk).trans hR6.keep
            have hs6 : g < u6.heap.size := Nat.lt_of_lt_of_le hgc hk6.1
            obtain ⟨g', e0, -, hgz, hsf, hcc⟩ := RowG.mid (HRX.out.keep hk6 hbq)
            injection e0 with e0
            injection e0 with e0 _ _
            subst e0
            rw [HDL.out] at hcc
            have x6 : u6.cell? ⟨g, k * 8 + 6, none⟩ = some (.slice A0 l0.length c0) := hcc 6 _ rfl
            clear hcc hsf hgz
            go_wp2_with fail
            refine plan_onS (hs6) ?_
            with_reducible refine plan_call ?_
            simp only [pickOps, List.map_cons, List.map_nil, List.getElem?_toArray, List.getElem?_cons_zero, List.getElem?_cons_succ, Option.getD_some]
            repeat go_big_quiet_step (fail)
            refine wpQuiet_nil ?_
            go_wp2_with fail
            refine plan_onS hs6 ?_
          all_goals
            have hD6 := HDX.out.keep (NIs.mono n) hk6 hgq
            have hsrc := lies_src (f := ndC) (n := 1) (fun _ => rfl) (by omega) (hna.row.mono (Mono.of_mask _ _ _))
            have hone : ∀ u ∈ l6.flatMap ndC, u.oneCell' = true := flat_oneQ (fun a u hu => by rcases List.mem_singleton.1 hu with rfl; rfl) l6
            have hl01 := HLX.out
            have hqc : wq.heap.size ≤ wc.heap.size := HKX.out.1
            have hq6 : wq.heap.size ≤ u6.heap.size := Nat.le_trans hqc hk6.1
            with_reducible refine plan_call ?_
            simp only [pickOps, List.map_cons, List.map_nil, List.getElem?_toArray, List.getElem?_cons_zero, List.getElem?_cons_succ, Option.getD_some]
            repeat go_big_quiet_step (fail)
            refine wpQuiet_nil ?_
            go_wp2_with (at_builtin; refine wpList_appx EKneedsG rfl (.tmp 71) (.tmp 74) rfl rfl hD6.1 rfl hsrc hone (by unfold maxLen; omega) (by omega) hq6 ?_; intro v9 w9 h2 h3 h4)
            obtain ⟨A9, c9, rfl, hn9, hin9⟩ := needs_more hD6 (fun x hx => NIs.mono n _ _ _ (mask_less hqc (fun q e => Nat.lt_of_lt_of_le (Deep.lt HDX.out q e) (Nat.le_refl _))) ⟨hna.sub x hx, hin x hx⟩) rfl (by omega) h2 h4
            have hon := World.ownsRow.lt hD6.1
            have hrg9 := (HRX.out.keep hk6 hbq).keep (o := (Value.slice A0 l0.length c0).ownBlock) ⟨h4.size, fun q hq ho => h4.block q hq (fun e => ho e.symm)⟩ (fun q e e2 => by injection e with e; have e : g = q := e; have := (hon q e2).1; omega)
            obtain ⟨g', e0, -, hg9, hsf, hcc⟩ := RowG.mid hrg9
            injection e0 with e0
            injection e0 with e0 _ _
            subst e0
            rw [HDL.out] at hcc
            have x9 : w9.cell? ⟨g, k * 8 + 6, none⟩ = some (.slice A0 l0.length c0) := hcc 6 _ rfl
            clear hcc
            refine plan_onS hg9 ?_
            with_reducible refine plan_call ?_
            simp only [pickOps, List.map_cons, List.map_nil, List.getElem?_toArray, List.getElem?_cons_zero, List.getElem?_cons_succ, Option.getD_some]
            repeat go_big_quiet_step (fail)
            refine wpQuiet_nil ?_
            go_wp2_with fail
            refine planK_name ?_
            intro wa hwa
            refine plan_onS (by rw [hwa, World.size_setCell]; exact hg9) ?_
            with_reducible refine plan_last ?_
            simp only [pickOps, List.map_cons, List.map_nil, List.getElem?_toArray, List.getElem?_cons_zero, List.getElem?_cons_succ, Option.getD_some]
            repeat go_big_quiet_step (fail)
            refine wpQuiet_nil ?_
            have HRA := hid (show RowG B 8 cdC wa (some ⟨g, 0, none⟩) (ds ++ { bareC yv ysh with needs := l0 ++ l6, A := A9, c := c9 } :: os) from by
              have h := RowG.need hrg9 (l0 ++ l6) A9 c9
              rw [HDL.out, List.length_append] at h
              rw [hwa]
              exact h)
            have HKA := hid (show Keep2 gG g wq wa from by rw [hwa]; exact ((HKX.out.keep hk6).grown h4 (fun q e => (hon q e).1)).put _ (.inl rfl))
            have HNA := hid (show NeedsAt (mask wa wq.heap.size none) A9 (l0 ++ l6) from hn9.mono (by rw [hwa]; exact mask_put (.inl hg)))
            have HIN := hid hin9
            have HRRA := hid (show RR w w gG (.slice A zn c) j6 wa from by rw [hwa]; exact ((((HRR.out.more hdk).from hR6).grownN h4 (fun q e => by have := (hon q e).1; omega) (Nat.le_refl _)).putB hgw hgw (by omega) _))
            have HOA := hid (show Own w.heap.size wa g4 [.slice none 0 0] from by rw [hwa]; exact ((hk6.own HOX.out (fun e => by injection e with e; omega)).grown h4 (fun e => by have := (hon g4 e.symm).1; omega)).other (by omega) _)
            clear hwa hrg9 hn9 hin9 hon h2 h3 h4 x9 hsf hg9 hsrc hone hD6 hna hin hl6 hR6 hk6 hs6 x6 gl iS hS hdk HGN HRX HDX HLX HKX HRR HOX
            go_wp2_with fail
            refine (gnx_any EE.out w j6 4 wa HRRA.out (by omega) (by omega) (by omega)).mono ?_
            rintro _ u7 ⟨⟨q7, hq7, rfl⟩, hR7, hK7⟩
            have HK7 := hid (HKA.out.keep hK7)
            have HRG7 := hid (HRA.out.keep hK7 hbq)
            have HN7 := hid (HNA.out.mono (mask_keep hK7 hgq))
            have HO7 := hid (hK7.own HOA.out (fun e => by injection e with e; omega))
            have HR7 := hid hR7
            clear hR7 hK7 HKA HRA HNA HRRA HOA
            by_cases hz7 : q7 = 0
            rotate_left
            · have e7 : ((q7 : Int) == 0) = false := by rw [beq_eq_false_iff_ne]; omega
              have HE := HEND.out u7 { bareC yv ysh with needs := l0 ++ l6, A := A9, c := c9 } (j6 + 1) HRG7.out HK7.out ⟨⟨HYF.out, HN7.out, ⟨.inl rfl, (fun _ h => by cases h), Nat.zero_le _⟩⟩, HIN.out, fun _ h => by cases h⟩ HR7.out (by omega) HO7.out
              clear HEND HK7 HRG7 HN7 HO7 HR7 HIN
              go_wp2_with fail
              refine (show _ ∧ _ from ⟨?_, ?_⟩)
              · exact HE
              · simp [intOf] <;> omega
            subst hz7
            have hlen7 : (xs ++ putU ⟨un, uf, ds ++ bareC yv ysh :: os, some ⟨g, 0, none⟩, uk⟩ (ds ++ { bareC yv ysh with needs := l0 ++ l6, A := A9, c := c9 } :: os) :: ys).length = n := by rw [List.length_append]; exact hln
            have HGW := hid (show Calls Tryz.prog 34 #[.pointer (some ⟨gG, 0, none⟩), .slice (some ⟨bU, oU, none⟩) n uc] u7 (WantG w u7 gG (.slice A zn c) (j6 + 1) n) from by
              have hwh := WH.step HW.out.1 HK7.out hgB rfl (by simp) HRG7.out (by simp) (fun y hy => by
                have hf := (HW.out.1.fit ⟨un, uf, ds ++ bareC yv ysh :: os, some ⟨g, 0, none⟩, uk⟩ (by simp)).2.2.2
                rcases List.mem_append.1 hy with hy | hy
                · exact hf y (by simp [hy])
                · rcases List.mem_cons.1 hy with rfl | hy
                  · exact HYF.out
                  · exact hf y (by simp [hy]))
              have h := gwant_any EE.out (j6 + 1) u7 HR7.out.self (by omega) (some ⟨bU, oU, none⟩) uc _ (hwh.heads hgB) (by rw [hlen7]; omega) (by rw [hlen7]; omega)
              rw [hlen7] at h
              exact h)
            clear hlen7
            go_wp2_with fail
            refine HGW.out.mono ?_
            rintro _ u8 ⟨⟨x, rfl, hxu, hx⟩, hR8⟩
            have hk8 := hR8.keep
            have hrg8 := HRG7.out.keep hk8 hbq
            obtain ⟨g', e0, -, hg8, hsf, hcc⟩ := RowG.mid hrg8
            injection e0 with e0
            injection e0 with e0 _ _
            subst e0
            rw [HDL.out] at hcc
            have x7 : u8.cell? ⟨g, k * 8 + 7, none⟩ = some (.slice none 0 0) := hcc 7 _ rfl
            have hq7 : wq.heap.size ≤ u7.heap.size := HK7.out.1
            have HX := hid (And.intro hxu hx)
            clear hcc HGW hxu hx
            obtain ⟨v8, hv8⟩ : ∃ v, u8.setCell ⟨g, k * 8 + 7, none⟩ (.slice (some ⟨u8.heap.size, 0, none⟩) 1 1) = v := ⟨_, rfl⟩
            have hz : v8.heap.size = u8.heap.size := by rw [← hv8, World.size_setCell]
            have h7 : RowG B 8 cdC v8 (some ⟨g, 0, none⟩) (ds ++ { ({ bareC yv ysh with needs := l0 ++ l6, A := A9, c := c9 } : CandP) with bars := [x], B := some ⟨u8.heap.size, 0, none⟩, d := 1 } :: os) := by
              have h := RowG.bar hrg8 [x] (some ⟨u8.heap.size, 0, none⟩) 1
              rw [HDL.out] at h
              rw [← hv8]
              exact h
            have hkk := kb_new v8 (.cells #[.int .i64 x.unit, .slice x.A x.fin.length x.c, .slice x.B x.pre.length x.d] 89)
            have hM : Mono (mask u8 wq.heap.size none) (mask v8 wq.heap.size none) := by rw [← hv8]; exact mask_put (.inl hg)
            have hM7 : Mono (mask u8 u7.heap.size none) (mask u8 wq.heap.size none) := mask_less hq7 (fun q e => by cases e)
            have hdl := deep_lit (n := n) (u := v8) (B := wq.heap.size) (x := x) ⟨(HX.out.2.mono hM7).mono hM, HX.out.1⟩ (by rw [hz]; exact Nat.le_trans hq7 hk8.1)
            obtain ⟨A8, c8, hv, -, hl8, hs8⟩ := Deep.fresh (f := wtC) (n := 3) (fun _ => rfl) (WIs.mono n) hdl
            injection hv with e1 e2 e3
            rw [hz] at e1
            subst e1
            have hn8 : NeedsAt (mask (v8.alloc (.cells #[.int .i64 x.unit, .slice x.A x.fin.length x.c, .slice x.B x.pre.length x.d] 89)) wq.heap.size none) A9 (l0 ++ l6) := ((HN7.out.mono (mask_keep hk8 hgq)).mono hM).mono (mask_kb hkk)
            have HE := HEND.out (v8.alloc (.cells #[.int .i64 x.unit, .slice x.A x.fin.length x.c, .slice x.B x.pre.length x.d] 89)) _ (j6 + 4) (h7.keep (Keep.kb (o := none) hkk) (fun _ _ e => by cases e)) (by
                refine Keep2.kb ?_ hkk
                rw [← hv8]
                exact (HK7.out.keep hk8).put _ (.inl rfl)) ⟨⟨HYF.out, hn8, ⟨hl8, fun y hy => (hs8 y hy).1, by show 1 ≤ 1000000; omega⟩⟩, HIN.out, fun y hy => (hs8 y hy).2⟩ (by
                refine RR.more ?_ hkk
                rw [← hv8]
                exact (HR7.out.from hR8).putB hgw hgw (by omega) _) (by omega) (by
                refine Own.kb ?_ hkk
                rw [← hv8]
                exact (hk8.own HO7.out (fun e => by injection e with e; omega)).other (by omega) _)
            have HEE := hid HE
            have HV8 := hid hv8
            clear HE hv8 e2 e3 HEND HK7 HRG7 HN7 HO7 HR7 HIN HX hn8 hl8 hs8 hdl hM hM7 hkk h7 hrg8 hk8 hR8 hz
            go_wp2_with fail
            rw [HV8.out]
            refine (show _ ∧ _ from ⟨?_, ?_⟩)
            · exact HEE.out
            · simp [intOf] <;> omega
end Go.Proofs.YtlmkglgjdmjnkaaGreatDoor
