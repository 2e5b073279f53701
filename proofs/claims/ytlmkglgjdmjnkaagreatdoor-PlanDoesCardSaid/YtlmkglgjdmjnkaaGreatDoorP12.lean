/- The law of Do, but for what every program says: linchpinlaw39.PlanDoes. -/
import Derived.Test.YtlmkglgjdmjnkaaGreatDoorP11
namespace Go.Proofs.YtlmkglgjdmjnkaaGreatDoor
open Go.RowKit Go.Lib
open Rw
set_option linter.unusedVariables false
set_option linter.unusedSimpArgs false

theorem Tryz.info35 : (Tryz.prog.info? 35).map (fun i => (i.zero, i.size, i.bytes)) = some (some (.agg #[.int .i64 0, .string ⟨#[]⟩, .int .i64 0, .int .i64 0, .int .i64 0, .string ⟨#[]⟩, .string ⟨#[]⟩, .string ⟨#[]⟩, .int .u64 0, .slice none 0 0]), 10, 128) := by kernel_rfl
theorem EKmoves : EK Tryz.prog 26 35 10 128 := .mk' _ Tryz.underlying26 Tryz.info35 rfl (by omega)
theorem mvs_one (l : List MP) : ∀ u ∈ l.flatMap mvC, u.oneCell' = true := flat_oneQ mv_one l
theorem mv_add0 (A : Option Addr) : A.map (·.add (0 * 10)) = A := by
  cases A with
  | none => rfl
  | some a => simp [Addr.add]
theorem Tryz.elem26 : Tryz.prog.underlying 26 = some (.slice (Tryz.prog.elem 26)) := by kernel_rfl
theorem Tryz.sizeE26 (u : World) : (sizeOf (Tryz.prog.elem 26)).run Tryz.prog u = .ok 10 u := by kernel_rfl
theorem slm_head (A : Option Addr) (n c k : Nat) (hk : k ≤ c) (u : World) : (Instr.slice 26 (.slice A n c) none (some (.int .i64 (k:Int))) none).run Tryz.prog u = .ok (.slice A k c) u := by
  rw [run_slice_h (h0 := by omega) (h2 := by omega) (ht := Tryz.elem26), Tryz.sizeE26]
  simp only [Result.andThen, sliced, Int.toNat_natCast, Nat.sub_zero, mv_add0, ite_self]
theorem slm_headAt (A : Option Addr) (n c k : Nat) (hk : k ≤ c) (u : World) : (Instr.sliceAt 26 (.slice A n c) none (some (.int .i64 (k:Int))) none).run Tryz.prog u = .ok (.slice A k c) u := by
  rw [run_sliceAt_slice (h := Tryz.elem26), slm_head _ _ _ _ hk]
theorem Moves.take {w : World} {A : Option Addr} {l : List MP} (h : Moves w A l) (k : Nat) : Moves w A (l.take k) := by
  refine ⟨?_, fun p hp => h.sub p (List.mem_of_mem_take hp)⟩
  rcases h.row with h | ⟨b, off, h1, h2, h3⟩
  · exact .inl (by rw [h]; simp)
  · refine .inr ⟨b, off, h1, h2, fun i hi j v hv => ?_⟩
    have hi' : i < l.length := by rw [List.length_take] at hi; omega
    rw [List.getElem_take] at hv
    exact h3 i hi' j v hv
/-- moves of the call's own, of lines that were there -/
structure RowMv (w0 w : World) (v : Value) (ms : List MP) : Prop where
  own : OwnL 35 10 mvC w w0.heap.size v ms
  sub : ∀ m ∈ ms, MvSub w0 m
theorem RowMv.kb {w0 w w' : World} {v : Value} {ms : List MP} (h : RowMv w0 w v ms) (hb : KB w.heap.size w w') : RowMv w0 w' v ms := ⟨h.own.kb hb, h.sub⟩
theorem RowMv.moves {w0 w : World} {v : Value} {ms : List MP} (h : RowMv w0 w v ms) (hb : KB w0.heap.size w0 w) : ∃ A c, v = .slice A ms.length c ∧ ms.length ≤ c ∧ Moves w A ms := by
  obtain ⟨A, c, hv, hl, -, hc⟩ := OwnL.lies mv_len h.own
  exact ⟨A, c, hv, hc, hl, fun p hp => MvSub.mono _ _ _ (Mono.kb hb) (h.sub p hp)⟩
theorem LinesG.locks {w : World} {B : Nat} {v : Value} {ps : List LP} (h : LinesG w B v ps) : ∃ A c, v = .slice A ps.length c ∧ ps.length ≤ c ∧ Locks w A ps := by
  obtain ⟨A, c, rfl, hc, hl, hs⟩ := h.1.fresh lk_len LkSub.mono
  exact ⟨A, c, rfl, hc, hl.mono (Mono.of_mask _ _ _), fun p hp => LkSub.mono _ _ _ (Mono.of_mask _ _ _) (hs p hp)⟩
theorem eqLks_self (a b : List LP) (h : a.map (·.1) = b.map (·.1)) : eqLks a b = true := by
  rw [eqLks, h]
  exact eqL_self (fun x => eqLk_iff.2 rfl) _
theorem step_len {s t : List LockL × List LockL} {m : MoveL} (h : stepD s m = some t) : t.1.length ≤ s.1.length + 1 := by
  unfold stepD at h
  split at h
  · injection h with h; subst h; exact Nat.le_succ _
  · split at h
    · injection h with h; subst h; exact Nat.le_succ_of_le (List.length_filter_le _ _)
    · split at h
      · injection h with h; subst h; simp
      · cases h
theorem insN_len (p : LockL) (l : List LockL) : (insN p l).length = l.length + 1 := by rw [(insN_perm p l).length_eq, List.length_cons]
theorem sortN_len (l : List LockL) : (sortN l).length = l.length := by
  have : ∀ (l o : List LockL), (l.foldl (fun o p => insN p o) o).length = o.length + l.length := by
    intro l
    induction l with
    | nil => intro o; rfl
    | cons a r ih => intro o; rw [List.foldl_cons, ih, insN_len, List.length_cons]; omega
  rw [sortN, this]; simp
theorem doL_len : ∀ (ms : List MoveL) (s : List LockL × List LockL) (l : List LockL), doL s ms = some l → l.length ≤ s.1.length + ms.length
  | [], s, l, h => by
    rw [doL] at h
    injection h with h; subst h
    rw [sortN_len]; exact Nat.le_add_right _ _
  | m :: ms, s, l, h => by
    rw [doL] at h
    split at h
    · rename_i t ht
      have h1 := doL_len ms t l h
      have h2 := step_len ht
      rw [List.length_cons]; omega
    · cases h
theorem gplace_nat (v : Int) (n : Nat) (u : World) (hn : 0 < n) (hn2 : n ≤ 2000000000) : Calls Tryz.prog 8 #[.int .i64 v, .int .i64 (n : Int)] u fun e w' => ∃ q : Nat, q < n ∧ e = .returned (.int .i64 (q : Int)) ∧ u = w' := by
  obtain ⟨b1, b2⟩ := placeI_bd v (n : Int) (by omega)
  refine (gplace_any v (n : Int) u (by omega) (by omega)).mono ?_
  rintro e w' ⟨rfl, rfl⟩
  exact ⟨(placeI v n).toNat, by omega, by rw [Int.toNat_of_nonneg b1], rfl⟩
theorem mono_grown {w w' : World} {B : Nat} {o row : Option Nat} (hg : w.grownBy w' row) (h : ∀ k, row = some k → k < B ∨ o = some k) : Mono (mask w B o) w' := by
  refine ⟨by rw [mask_size]; exact hg.size, fun p v hc => ?_⟩
  obtain ⟨⟨h1, h2⟩, h3⟩ := mask_cell.1 hc
  have e := hg.block p.block (cell_lt h3) (fun e => by
    rcases h _ e.symm with h | h
    · omega
    · exact h2 h)
  unfold World.cell? at h3 ⊢
  rw [e]
  exact h3
set_option maxRecDepth 100000 in
set_option maxHeartbeats 8000000 in
theorem does_any (w : World) (A B C : Option Addr) (a b c : Nat) (xa xb xk : List Int) (hA : IntsAt w A xa) (hB : IntsAt w B xb) (hC : IntsAt w C xk) (hna : xa.length ≤ 9223372036854775807) (hnb : xb.length ≤ 9223372036854775807) (hnk : xk.length ≤ 9223372036854775807)
    (haw : ∀ u, KB w.heap.size w u → Calls Tryz.prog 6 #[] u (BoolK u true)) : Calls Tryz.prog 3 #[.slice A xa.length a, .slice B xb.length b, .slice C xk.length c] w (BoolK w true) := by
  have HAW := hid haw
  have HLA := hid (fun u (hb : KB w.heap.size w u) => glines_any A a xa u (hA.kb hb) hna)
  have HLB := hid (fun u (hb : KB w.heap.size w u) => glines_any B b xb u (hB.kb hb) hnb)
  have HKS := hid (fun (i : Nat) (hi : i < xk.length) => show ∃ b off z, C = some ⟨b, off, none⟩ ∧ b < w.heap.size ∧ w.cell? ⟨b, off + i, none⟩ = some (.int .i64 z) from by
    rcases hC with h | ⟨b, off, rfl, hb, hc⟩
    · subst h; cases hi
    · exact ⟨b, off, _, rfl, hb, hc i hi⟩)
  clear haw hA hB hC
  generalize xa.length = na at *
  generalize xb.length = nb at *
  generalize xk.length = nk at *
  go_enter Tryz.func3, Tryz.ntmps3
  by_cases h1 : 60 < na
  · have i1 : (60 : Int) < (na : Int) := by omega
    go_wp2_with fail
    refine (HAW.out _ (kb_refl _)).mono ?_
    rintro _ w1 ⟨rfl, hb⟩
    go_wp2_with fail
    go_ret
    exact ⟨rfl, hb⟩
  · have i1 : ¬ (60 : Int) < (na : Int) := by omega
    by_cases h2 : 60 < nb
    · have i2 : (60 : Int) < (nb : Int) := by omega
      go_wp2_with fail
      refine (HAW.out _ (kb_refl _)).mono ?_
      rintro _ w1 ⟨rfl, hb⟩
      go_wp2_with fail
      go_ret
      exact ⟨rfl, hb⟩
    · have i2 : ¬ (60 : Int) < (nb : Int) := by omega
      by_cases h3 : 60 < nk
      · have i3 : (60 : Int) < (nk : Int) := by omega
        go_wp2_with fail
        refine (HAW.out _ (kb_refl _)).mono ?_
        rintro _ w1 ⟨rfl, hb⟩
        go_wp2_with fail
        go_ret
        exact ⟨rfl, hb⟩
      · have i3 : ¬ (60 : Int) < (nk : Int) := by omega
        go_upto_region 3 with fail
        go_wp2_with fail
        refine (HLA.out _ (kb_refl _)).mono ?_
        rintro _ w1 ⟨v1, ps, rfl, hg1, hb1⟩
        have HG1 := hid hg1
        have HK1 := hid hb1
        clear hg1 hb1
        go_wp2_with fail
        refine (HLB.out _ HK1.out).mono ?_
        rintro _ w2 ⟨v2, qs, rfl, hg2, hb2⟩
        have HG2 := hid hg2
        have HK2 := hid (kb_tr HK1.out hb2)
        have HB2 := hid hb2
        clear hg2 hb2
        go_wp2_with fail
        refine (HLA.out _ HK2.out).mono ?_
        rintro _ w3 ⟨v3, rs, rfl, hg3, hb3⟩
        have HK3 := hid (kb_tr HK2.out hb3)
        obtain ⟨A1, c1, rfl, hc1, hl1⟩ := HG1.out.locks
        obtain ⟨A2, c2, rfl, hc2, hl2⟩ := HG2.out.locks
        obtain ⟨A3, c3, rfl, hc3, hl3⟩ := hg3.locks
        have hr2 := (show w2.ownsRow w1.heap.size 33 9 (.slice A2 qs.length c2) qs.length (qs.flatMap lkC) from HG2.out.1.1)
        have hr3 := row_kb hr2 hb3
        have hs3 := src_lk hl3.row
        have hq4 := HG2.out.2.2
        have hr4 := hg3.2.2
        have hp4 := HG1.out.2.2
        have hsz : w1.heap.size ≤ w3.heap.size := Nat.le_trans HB2.out.size hb3.size
        have HD2 := hid HG2.out.1.2
        have HD3 := hid hg3.1.2
        have HB3 := hid hb3
        have HL1 := hid hl1
        have HO2 := hid (World.ownsRow.lt hr2)
        have HUP := hid HG1.out.2.1
        clear hg3 hb3 hl1 hl2 hl3 hc1 hc2 hc3 hr2 HLA HLB
        obtain ⟨n1, hn1⟩ : ∃ n, ps.length = n := ⟨_, rfl⟩
        obtain ⟨n2, hn2⟩ : ∃ n, qs.length = n := ⟨_, rfl⟩
        obtain ⟨n3, hn3⟩ : ∃ n, rs.length = n := ⟨_, rfl⟩
        rw [hn2] at hr3 hq4
        rw [hn3] at hs3 hr4
        rw [hn1] at hp4
        rw [hn1, hn2, hn3]
        have HN1 := hid hn1
        have HN2 := hid hn2
        have HN3 := hid hn3
        have HR3 := hid hr3
        have HS3 := hid hs3
        clear hn1 hn2 hn3 hr3 hs3 HG1 HG2
        dsimp only
        go_wp2_with (at_builtin; refine wpList_appx EKlocks rfl (.tmp 33) (.tmp 35) rfl rfl HR3.out rfl HS3.out (lks_one rs) (by unfold maxLen; omega) (by omega) hsz ?_; intro v4 w4 h2 h3 h4)
        have h4 : w3.grownBy w4 (Value.slice A2 n2 c2).ownBlock := h4
        have HB4 := hid (show KB w1.heap.size w1 w4 from Go.RowKit.Below.trans (kb_tr HB2.out HB3.out) h3.kb)
        have HK4 := hid (kb_tr HK1.out HB4.out)
        have HL4 := hid (show ∃ A4 c4, v4 = .slice A4 (qs ++ rs).length c4 ∧ (qs ++ rs).length ≤ c4 ∧ Locks w4 A4 (qs ++ rs) from by
          obtain ⟨A4, c4, hv, hl, -, hc⟩ := OwnL.lies lk_len (show OwnL 33 9 lkC w4 w1.heap.size v4 (qs ++ rs) from by unfold OwnL; rw [List.length_append, HN2.out, HN3.out, List.flatMap_append]; exact h2)
          refine ⟨A4, c4, hv, hc, hl, fun p hp => ?_⟩
          rcases List.mem_append.1 hp with hp | hp
          · exact LkSub.mono _ _ _ ((mask_kb HB3.out).trans (mono_grown h4 (fun k e => .inr (by rw [own_len A2 qs.length c2 n2 c2]; exact e)))) (HD2.out p hp)
          · exact LkSub.mono _ _ _ (mono_grown h4 (fun k e => .inl (HO2.out k (by rw [own_len A2 qs.length c2 n2 c2]; exact e)).2)) (HD3.out p hp))
        have HLP := hid (HL1.out.kb HB4.out)
        clear h2 h3 h4 HD2 HD3 HB3 HB2 HO2 HR3 HS3 HL1 hsz HK2 HK3
        obtain ⟨A4, c4, rfl, hc4, hl4⟩ := HL4.out
        have hn4 : (qs ++ rs).length ≤ 8 := by rw [List.length_append, HN2.out, HN3.out]; omega
        have HL := hid hl4
        clear hl4 HL4 hc4
        generalize qs ++ rs = ls at *
        obtain ⟨n4, hn5⟩ : ∃ n, ls.length = n := ⟨_, rfl⟩
        rw [hn5] at hn4
        rw [hn5]
        have HN4 := hid hn5
        clear hn5
        go_upto_block 0 with fail
        go_wp2_with fail
        go_loopw [10, 9] (fun iv mv wr => ∃ (i : Nat) (v : Value) (ms : List MP), iv = .int .i64 (i : Int) ∧ mv = v ∧ i ≤ 20 ∧ i ≤ nk ∧ Hid (ms.length = i) ∧ Hid (RowMv w4 wr v ms) ∧ Hid (KB w4.heap.size w4 wr)) (fun iv _ _ => nk - (intOf iv).toNat)
        case atStart => exact ⟨0, _, [], rfl, rfl, by omega, by omega, hid rfl, hid ⟨OwnL.nil, fun _ h => by cases h⟩, hid (kb_refl _)⟩
        case round =>
          rename World => wr
          obtain ⟨i, v, ms, rfl, hmv, hi20, hik, HML, HMV, HKR⟩ := hrel
          have hmv := hmv.symm
          subst hmv
          have i0 : (0 : Int) ≤ (i : Int) := by omega
          by_cases hgo : i < nk ∧ i < 20 ∧ 0 < n4
          · obtain ⟨hg1, hg2, hg3⟩ := hgo
            have j1 : (i : Int) < (nk : Int) := by omega
            have j2 : (i : Int) < 20 := by omega
            have j3 : (0 : Int) < (n4 : Int) := by omega
            obtain ⟨bk, ok, z, rfl, hbl, hcz⟩ := HKS.out i hg1
            have HCZ := hid (cell_kb hbl HK4.out hcz)
            have HBL := hid (show bk < w4.heap.size from Nat.lt_of_lt_of_le hbl HK4.out.size)
            clear hbl hcz
            go_upto_region 8 with fail
            have hS : KB w4.heap.size w4 wr.drew := kb_drewJ HKR.out
            have HP9 := hid (fun u => show Calls _ _ #[.int .i64 z, .int .i64 9] u _ from gplace_nat z 9 u (by omega) (by omega))
            have HPN := hid (fun v u => gplace_nat v n4 u (by omega) (by omega))
            refine wp_planS (fun u => KB w4.heap.size w4 u) (.call [0, 1, 2, 3, 4, 7, 8, 9, 10, 14, 15, 16, 17, 18, 19, 20, 21] 5 (.call [6] 11 (.call [12, 13] 22 (.call [23, 24, 25] 26 (.call [] 27 (.last [28])))))) (by first | assumption | skip) (by kernel_rfl) (by intro _ _ d _ _ h; cases d <;> exact h) (by kernel_rfl) ?_
            have iS : Nonempty (SW fun u => KB w4.heap.size w4 u) := ⟨⟨_, hS⟩⟩
            have cz := fun (z' : SW fun u => KB w4.heap.size w4 u) => cell_kb HBL.out z'.ok HCZ.out
            have cl := fun (z' : SW fun u => KB w4.heap.size w4 u) => Nat.lt_of_lt_of_le HBL.out z'.ok.size
            with_reducible refine plan_call ?_
            simp only [pickOps, List.map_cons, List.map_nil, List.getElem?_toArray, List.getElem?_cons_zero, List.getElem?_cons_succ, Option.getD_some]
            repeat go_big_quiet_step (fail)
            refine wpQuiet_nil ?_
            go_wp2_with fail
            refine (HP9.out _).mono ?_
            rintro _ _ ⟨q1, hq1, rfl, rfl⟩
            go_wp2_with fail
            refine plan_onS (hS) ?_
            with_reducible refine plan_call ?_
            simp only [pickOps, List.map_cons, List.map_nil, List.getElem?_toArray, List.getElem?_cons_zero, List.getElem?_cons_succ, Option.getD_some]
            repeat go_big_quiet_step (fail)
            refine wpQuiet_nil ?_
            go_wp2_with fail
            refine (HP9.out _).mono ?_
            rintro _ _ ⟨q2, hq2, rfl, rfl⟩
            go_wp2_with fail
            refine plan_onS (hS) ?_
            with_reducible refine plan_call ?_
            simp only [pickOps, List.map_cons, List.map_nil, List.getElem?_toArray, List.getElem?_cons_zero, List.getElem?_cons_succ, Option.getD_some]
            repeat go_big_quiet_step (fail)
            refine wpQuiet_nil ?_
            go_wp2_with fail
            refine (HPN.out _ _).mono ?_
            rintro _ _ ⟨j, hj, rfl, rfl⟩
            go_wp2_with fail
            refine plan_onS (hS) ?_
            have hjl : j < ls.length := by rw [HN4.out]; exact hj
            obtain ⟨g, og, hA, hix, hcx⟩ := lock_at HL.out hjl
            subst hA
            have HCX := hid hcx
            have HSJ := hid (HL.out.sub _ (List.getElem_mem hjl))
            clear hix hcx
            generalize ls[j] = x at *
            clear hjl
            have l0 : (0 : Int) ≤ (j : Int) := by omega
            have l1 : (j : Int) < (n4 : Int) := by omega
            have x0 := fun (z' : SW fun u => KB w4.heap.size w4 u) => (HCX.out.kb z'.ok).c0
            have x1 := fun (z' : SW fun u => KB w4.heap.size w4 u) => (HCX.out.kb z'.ok).c1
            have x2 := fun (z' : SW fun u => KB w4.heap.size w4 u) => (HCX.out.kb z'.ok).c2
            have x3 := fun (z' : SW fun u => KB w4.heap.size w4 u) => (HCX.out.kb z'.ok).c3
            have x4 := fun (z' : SW fun u => KB w4.heap.size w4 u) => (HCX.out.kb z'.ok).c4
            have x5 := fun (z' : SW fun u => KB w4.heap.size w4 u) => (HCX.out.kb z'.ok).c5
            have x6 := fun (z' : SW fun u => KB w4.heap.size w4 u) => (HCX.out.kb z'.ok).c6
            have x7 := fun (z' : SW fun u => KB w4.heap.size w4 u) => (HCX.out.kb z'.ok).c7
            have x8 := fun (z' : SW fun u => KB w4.heap.size w4 u) => (HCX.out.kb z'.ok).c8
            have xl := fun (z' : SW fun u => KB w4.heap.size w4 u) => (HCX.out.kb z'.ok).lt
            with_reducible refine plan_call ?_
            simp only [pickOps, List.map_cons, List.map_nil, List.getElem?_toArray, List.getElem?_cons_zero, List.getElem?_cons_succ, Option.getD_some]
            repeat go_big_quiet_step (fail)
            refine wpQuiet_nil ?_
            go_wp2_with fail
            have HW2 := hid (show KB wr.heap.size wr ((wr.alloc (.cells #[.int .i64 ((q1 : Int) % 4 + (q2 : Int) / 8), .string x.1.name, .int .i64 x.1.v.maj, .int .i64 x.1.v.min, .int .i64 x.1.v.pat, .string x.1.v.pre, .string x.1.v.bld, .string x.1.shelf, .int .u64 x.1.sum, .slice x.2.A x.1.feats.length x.2.c] 35)).drew) from kb_drewJ (kb_new _ _))
            have HB2 := hid (show KB w4.heap.size w4 ((wr.alloc (.cells #[.int .i64 ((q1 : Int) % 4 + (q2 : Int) / 8), .string x.1.name, .int .i64 x.1.v.maj, .int .i64 x.1.v.min, .int .i64 x.1.v.pat, .string x.1.v.pre, .string x.1.v.bld, .string x.1.shelf, .int .u64 x.1.sum, .slice x.2.A x.1.feats.length x.2.c] 35)).drew) from kb_drewJ (kb_tr HKR.out (kb_new _ _)))
            have HBX := hid (show Box ((wr.alloc (.cells #[.int .i64 ((q1 : Int) % 4 + (q2 : Int) / 8), .string x.1.name, .int .i64 x.1.v.maj, .int .i64 x.1.v.min, .int .i64 x.1.v.pat, .string x.1.v.pre, .string x.1.v.bld, .string x.1.shelf, .int .u64 x.1.sum, .slice x.2.A x.1.feats.length x.2.c] 35)).drew) wr.heap.size (mvC ((⟨(q1 : Int) % 4 + (q2 : Int) / 8, x.1⟩ : MoveL), x.2)) from (Box.new wr (mvC ((⟨(q1 : Int) % 4 + (q2 : Int) / 8, x.1⟩ : MoveL), x.2)) 35).kb (kb_drewJ (kb_refl _)))
            generalize ((wr.alloc (.cells #[.int .i64 ((q1 : Int) % 4 + (q2 : Int) / 8), .string x.1.name, .int .i64 x.1.v.maj, .int .i64 x.1.v.min, .int .i64 x.1.v.pat, .string x.1.v.pre, .string x.1.v.bld, .string x.1.shelf, .int .u64 x.1.sum, .slice x.2.A x.1.feats.length x.2.c] 35)).drew) = u2 at *
            have hrow := (show wr.ownsRow w4.heap.size 35 10 v i (ms.flatMap mvC) from by have h := HMV.out.own; unfold OwnL at h; rwa [HML.out] at h)
            have HRW := hid (row_kb hrow HW2.out)
            have hsz2 : w4.heap.size ≤ u2.heap.size := HB2.out.size
            clear hrow
            refine plan_onS HB2.out ?_
            with_reducible refine plan_call ?_
            simp only [pickOps, List.map_cons, List.map_nil, List.getElem?_toArray, List.getElem?_cons_zero, List.getElem?_cons_succ, Option.getD_some]
            repeat go_big_quiet_step (fail)
            refine wpQuiet_nil ?_
            go_wp2_with (at_builtin; refine wpList_appx EKmoves rfl (.tmp 52) (.tmp 78) rfl rfl HRW.out rfl (src_boxQ HBX.out (show (mvC ((⟨(q1 : Int) % 4 + (q2 : Int) / 8, x.1⟩ : MoveL), x.2)).length = 1 * 10 from rfl)) (mv_one ((⟨(q1 : Int) % 4 + (q2 : Int) / 8, x.1⟩ : MoveL), x.2)) (by unfold maxLen; omega) (by omega) hsz2 ?_; intro v5 w5 h2 h3 h4)
            have HB5 := hid (show KB w4.heap.size w4 w5 from Go.RowKit.Below.trans HB2.out h3.kb)
            have HMX := hid (show RowMv w4 w5 v5 (ms ++ [((⟨(q1 : Int) % 4 + (q2 : Int) / 8, x.1⟩ : MoveL), x.2)]) from ⟨OwnL.snoc (by rw [HML.out]; exact h2), fun y hy => by
              rcases List.mem_append.1 hy with hy | hy
              · exact HMV.out.sub y hy
              · rcases List.mem_singleton.1 hy with rfl
                exact HSJ.out⟩)
            clear h2 h3 h4
            refine plan_onS HB5.out ?_
            with_reducible refine plan_last ?_
            simp only [pickOps, List.map_cons, List.map_nil, List.getElem?_toArray, List.getElem?_cons_zero, List.getElem?_cons_succ, Option.getD_some]
            repeat go_big_quiet_step (fail)
            refine wpQuiet_nil ?_
            clear iS cz cl x0 x1 x2 x3 x4 x5 x6 x7 x8 xl
            go_wp2_with fail
            go_roundw
            case rel => exact ⟨i + 1, _, ms ++ [((⟨(q1 : Int) % 4 + (q2 : Int) / 8, x.1⟩ : MoveL), x.2)], by go_num, rfl, by omega, by omega, hid (by rw [List.length_append, HML.out]; rfl), HMX, HB5⟩
            case measure => simp [intOf] <;> omega
          · go_upto_region 6 with fail
            go_cut [49] from 37 to 79 (fun bv wx => bv = .bool false ∧ wx = wr)
            case first =>
              by_cases g1 : i < nk
              · have j1 : (i : Int) < (nk : Int) := by omega
                by_cases g2 : i < 20
                · have j2 : (i : Int) < 20 := by omega
                  have j3 : ¬ (0 : Int) < (n4 : Int) := by omega
                  go_wp2_with fail
                  go_meet
                  case rel => exact ⟨by first | rfl | rw [decide_eq_false (by omega)], rfl⟩
                · have j2 : ¬ (i : Int) < 20 := by omega
                  go_wp2_with fail
                  go_meet
                  case rel => exact ⟨rfl, rfl⟩
              · have j1 : ¬ (i : Int) < (nk : Int) := by omega
                go_wp2_with fail
                go_meet
                case rel => exact ⟨rfl, rfl⟩
            case rest =>
              obtain ⟨hb9, hw9⟩ := hcut
              subst hb9
              subst hw9
              rename World => wr
              obtain ⟨M, mc, rfl, hmc, hmv⟩ := HMV.out.moves HKR.out
              have HMC := hid hmc
              have HMM := hid hmv
              clear hmc hmv HKS HN4 HL hgo
              rw [HML.out] at HMC
              rw [HML.out]
              have HKW := hid (kb_tr HK4.out HKR.out)
              have HPW := hid (HLP.out.kb HKR.out)
              clear HMV HKR HLP HK4
              go_upto_block 2 with fail
              go_wp2_with fail
              go_loopw [11] (fun kv w5 => ∃ k : Nat, kv = .int .i64 (k : Int) ∧ k ≤ i + 1 ∧ Hid (KB wr.heap.size wr w5)) (fun kv _ => i + 1 - (intOf kv).toNat)
              case atStart => exact ⟨0, rfl, by omega, hid (kb_refl _)⟩
              case round =>
                rename World => w5
                obtain ⟨k, rfl, hk, HK5⟩ := hrel
                have k0 : (0 : Int) ≤ (k : Int) := by omega
                by_cases hlt : k ≤ i
                · have k1 : (k : Int) ≤ (i : Int) := by omega
                  have htl : (ms.take k).length = k := by rw [List.length_take, HML.out]; omega
                  have hd := fun (u : World) (hb : KB wr.heap.size wr u) => pdo_any A1 c1 ps M mc (ms.take k) u (HPW.out.kb hb) ((HMM.out.kb hb).take k) HUP.out (by rw [HN1.out]; omega) (by rw [htl]; omega)
                  have hr := fun (u : World) (hb : KB wr.heap.size wr u) => rdo_any A1 c1 ps M mc (ms.take k) u (HPW.out.kb hb) ((HMM.out.kb hb).take k) HUP.out (by rw [HN1.out]; omega) (by rw [htl]; omega)
                  rw [HN1.out, htl] at hd hr
                  have HD := hid hd
                  have HR := hid hr
                  clear hd hr htl
                  have s1 := fun u => slm_head M i mc k (by have := HMC.out; omega) u
                  have s2 := fun u => slm_headAt M i mc k (by have := HMC.out; omega) u
                  have HLE := hid (fun (l : List LockL) (h : doL (ps.map (·.1), []) ((ms.take k).map (·.1)) = some l) => show l.length ≤ 100 from by
                    have h1 := doL_len _ _ _ h
                    rw [List.length_map, List.length_map, List.length_take, HN1.out] at h1
                    omega)
                  generalize doL (ps.map (·.1), []) ((ms.take k).map (·.1)) = r at *
                  cases r with
                  | none =>
                    go_wp2_with fail
                    refine (HD.out _ HK5.out).mono ?_
                    rintro _ w6 ⟨rfl, hb⟩
                    have HK6 := hid (kb_tr HK5.out hb)
                    clear hb
                    go_wp2_with fail
                    refine (HR.out _ HK6.out).mono ?_
                    rintro _ w7 ⟨rfl, hb⟩
                    have HK7 := hid (kb_tr HK6.out hb)
                    clear hb
                    have HS := hid (show Calls _ _ #[.slice none 0 0, .slice none 0 0] w7 (BoolK w7 true) from samelines_any none none 0 0 [] [] w7 ⟨.inl rfl, fun _ h => by cases h⟩ ⟨.inl rfl, fun _ h => by cases h⟩ (by simp))
                    go_wp2_with fail
                    refine HS.out.mono ?_
                    rintro _ w8 ⟨rfl, hb⟩
                    have HK8 := hid (kb_tr HK7.out hb)
                    clear hb
                    go_wp2_with fail
                    refine ⟨⟨k + 1, by go_num, by omega, HK8⟩, ?_⟩
                    simp [intOf] <;> omega
                  | some l =>
                    have hle := HLE.out l rfl
                    go_wp2_with fail
                    refine (HD.out _ HK5.out).mono ?_
                    rintro _ w6 ⟨A5, c5, p5, h5, rfl, hc5, hl5, hb⟩
                    have HK6 := hid (kb_tr HK5.out hb)
                    have HL5 := hid hl5
                    have HE5 := hid h5
                    clear hb hl5 h5 hc5
                    go_wp2_with fail
                    refine (HR.out _ HK6.out).mono ?_
                    rintro _ w7 ⟨A6, c6, p6, h6, rfl, hc6, hl6, hb⟩
                    have HK7 := hid (kb_tr HK6.out hb)
                    have HS := hid (show Calls _ _ #[.slice A5 p5.length c5, .slice A6 p6.length c6] w7 (BoolK w7 true) from by
                      have h := samelines_any A5 A6 c5 c6 p5 p6 w7 (HL5.out.kb hb) hl6 (by have e := congrArg List.length HE5.out; rw [List.length_map] at e; omega)
                      rwa [eqLks_self p5 p6 (HE5.out.trans h6.symm)] at h)
                    clear hb hl6 h6 hc6 HD HR
                    go_wp2_with fail
                    refine HS.out.mono ?_
                    rintro _ w8 ⟨rfl, hb⟩
                    have HK8 := hid (kb_tr HK7.out hb)
                    clear hb
                    go_wp2_with fail
                    refine ⟨⟨k + 1, by go_num, by omega, HK8⟩, ?_⟩
                    simp [intOf] <;> omega
                · have k1 : ¬ (k : Int) ≤ (i : Int) := by omega
                  go_wp2_with fail
                  refine (HAW.out _ (kb_tr HKW.out HK5.out)).mono ?_
                  rintro _ w6 ⟨rfl, hb⟩
                  go_wp2_with fail
                  try rw [Exit.noGoto_ret]
                  try (first | go_ret | go_ret2)
                  exact ⟨rfl, kb_tr (kb_tr HKW.out HK5.out) hb⟩
end Go.Proofs.YtlmkglgjdmjnkaaGreatDoor
namespace Go.Proofs.YtlmkglgjdmjnkaaGreatDoor
open Go.RowKit Go.Lib
open Rw
set_option linter.unusedVariables false
set_option linter.unusedSimpArgs false

/-- a want, with the heads of its two rows -/
structure WantP where
  unit : Int
  fin : List SpanL
  pre : List SpanL
  A : Option Addr
  c : Nat
  B : Option Addr
  d : Nat
/-- a row of wants, with its head -/
structure NeedP where
  l : List WantP
  A : Option Addr
  c : Nat
structure CandP where
  v : Ver
  shelf : Int
  needs : List NeedP
  bars : List WantP
  A : Option Addr
  c : Nat
  B : Option Addr
  d : Nat
structure UnitP where
  name : ByteArray
  feature : ByteArray
  cands : List CandP
  A : Option Addr
  c : Nat
abbrev wtC (x : WantP) : List Value := [.int .i64 x.unit, .slice x.A x.fin.length x.c, .slice x.B x.pre.length x.d]
abbrev ndC (x : NeedP) : List Value := [.slice x.A x.l.length x.c]
abbrev cdC (x : CandP) : List Value := [.int .i64 x.v.maj, .int .i64 x.v.min, .int .i64 x.v.pat, .string x.v.pre, .string x.v.bld, .int .i64 x.shelf, .slice x.A x.needs.length x.c, .slice x.B x.bars.length x.d]
abbrev utC (x : UnitP) : List Value := [.string x.name, .string x.feature, .slice x.A x.cands.length x.c]
structure WantIs (w : World) (x : WantP) : Prop where
  s1 : Spans w x.A x.fin
  s2 : Spans w x.B x.pre
  f1 : fitL x.fin
  f2 : fitL x.pre
  n1 : x.fin.length ≤ 1000000
  n2 : x.pre.length ≤ 1000000
structure WantsAt (w : World) (A : Option Addr) (l : List WantP) : Prop where
  row : Lies 3 wtC w A l
  sub : ∀ x ∈ l, WantIs w x
  len : l.length ≤ 1000000
structure NeedsAt (w : World) (A : Option Addr) (l : List NeedP) : Prop where
  row : Lies 1 ndC w A l
  sub : ∀ x ∈ l, WantsAt w x.A x.l
  len : l.length ≤ 1000000
structure CandIs (w : World) (x : CandP) : Prop where
  v : x.v.fit
  needs : NeedsAt w x.A x.needs
  bars : WantsAt w x.B x.bars
structure CandsAt (w : World) (A : Option Addr) (l : List CandP) : Prop where
  row : Lies 8 cdC w A l
  sub : ∀ x ∈ l, CandIs w x
  len : l.length ≤ 1000000
structure UnitIs (w : World) (x : UnitP) : Prop where
  cands : CandsAt w x.A x.cands
  s1 : x.name.size ≤ 1000000
  s2 : x.feature.size ≤ 1000000
structure UnitsAt (w : World) (A : Option Addr) (l : List UnitP) : Prop where
  row : Lies 3 utC w A l
  sub : ∀ x ∈ l, UnitIs w x
  len : l.length ≤ 1000000
theorem WantIs.kb {w w' : World} {x : WantP} (h : WantIs w x) (hb : KB w.heap.size w w') : WantIs w' x := ⟨h.s1.kb hb, h.s2.kb hb, h.f1, h.f2, h.n1, h.n2⟩
theorem WantsAt.kb {w w' : World} {A : Option Addr} {l : List WantP} (h : WantsAt w A l) (hb : KB w.heap.size w w') : WantsAt w' A l := ⟨h.row.kb hb, fun x hx => (h.sub x hx).kb hb, h.len⟩
theorem NeedsAt.kb {w w' : World} {A : Option Addr} {l : List NeedP} (h : NeedsAt w A l) (hb : KB w.heap.size w w') : NeedsAt w' A l := ⟨h.row.kb hb, fun x hx => (h.sub x hx).kb hb, h.len⟩
theorem CandIs.kb {w w' : World} {x : CandP} (h : CandIs w x) (hb : KB w.heap.size w w') : CandIs w' x := ⟨h.v, h.needs.kb hb, h.bars.kb hb⟩
theorem CandsAt.kb {w w' : World} {A : Option Addr} {l : List CandP} (h : CandsAt w A l) (hb : KB w.heap.size w w') : CandsAt w' A l := ⟨h.row.kb hb, fun x hx => (h.sub x hx).kb hb, h.len⟩
theorem UnitIs.kb {w w' : World} {x : UnitP} (h : UnitIs w x) (hb : KB w.heap.size w w') : UnitIs w' x := ⟨h.cands.kb hb, h.s1, h.s2⟩
theorem UnitsAt.kb {w w' : World} {A : Option Addr} {l : List UnitP} (h : UnitsAt w A l) (hb : KB w.heap.size w w') : UnitsAt w' A l := ⟨h.row.kb hb, fun x hx => (h.sub x hx).kb hb, h.len⟩
theorem want_at {w : World} {A : Option Addr} {l : List WantP} {k : Nat} (h : WantsAt w A l) (hk : k < l.length) : ∃ b off, A = some ⟨b, off, none⟩ ∧ WantIs w l[k] ∧ b < w.heap.size ∧ w.cell? ⟨b, off + k * 3, none⟩ = some (.int .i64 l[k].unit) ∧ w.cell? ⟨b, off + k * 3 + 1, none⟩ = some (.slice l[k].A l[k].fin.length l[k].c) ∧ w.cell? ⟨b, off + k * 3 + 2, none⟩ = some (.slice l[k].B l[k].pre.length l[k].d) := by
  obtain ⟨b, off, hA, hl, h2⟩ := h.row.at_ hk
  exact ⟨b, off, hA, h.sub _ (List.getElem_mem hk), hl, h2 0 _ rfl, h2 1 _ rfl, h2 2 _ rfl⟩
/-! ### Plain -/
/-- may this want be, of so many units? -/
def mayW (n : Int) (x : WantP) : Bool := !(decide (x.unit < 1) || (decide (n ≤ x.unit) || !mayS x.fin x.pre))
set_option maxRecDepth 100000 in
set_option maxHeartbeats 4000000 in
theorem wwants_any (A : Option Addr) (c : Nat) (l : List WantP) (n : Int) (w : World) (hF : First w) (hA : WantsAt w A l) : Calls Tryz.prog 176 #[.slice A l.length c, .int .i64 n] w (BoolK w (l.all (mayW n))) := by
  have HA := hid hA
  have HF := hid hF
  have HR0 := hid (show l.all (mayW n) = (l.drop 0).all (mayW n) from rfl)
  have hlen := hA.len
  clear hA hF
  generalize l.all (mayW n) = res at *
  obtain ⟨m, hm⟩ : ∃ m, l.length = m := ⟨_, rfl⟩
  rw [hm] at hlen ⊢
  have HM := hid hm
  clear hm
  go_enter Tryz.func176, Tryz.ntmps176
  go_upto_block 0 with fail
  go_wp2_with fail
  go_loopw [9] (fun iv wr => ∃ k : Nat, iv = .int .i64 (k : Int) ∧ k ≤ m ∧ Hid (res = (l.drop k).all (mayW n)) ∧ Hid (KB w.heap.size w wr)) (fun iv _ => m - (intOf iv).toNat)
  case atStart => exact ⟨0, rfl, Nat.zero_le _, HR0, hid (kb_refl _)⟩
  case round =>
    clear HR0
    rename World => wr
    obtain ⟨k, rfl, hk, HR, HK⟩ := hrel
    have k0 : (0 : Int) ≤ (k : Int) := by omega
    by_cases hlt : k < m
    · have h1 : k < l.length := by rw [HM.out]; exact hlt
      have k1 : (k : Int) < (m : Int) := by omega
      obtain ⟨b, off, hA, hx, hbl, c0, c1, c2⟩ := want_at (HA.out.kb HK.out) h1
      subst hA
      have HX := hid hx
      have HST := hid (HR.out.trans (by rw [List.drop_eq_getElem_cons h1, List.all_cons]))
      clear hx HR
      generalize l[k] = x at *
      clear h1
      go_upto_region 4 with fail
      refine wp_name ?_
      intro u1 hu1
      have HG := hid (show Box u1 wr.heap.size (wtC x) from by rw [hu1]; exact Box.new wr (wtC x) 89)
      have HK1 := hid (show KB wr.heap.size wr u1 from by rw [hu1]; exact kb_new _ _)
      have HKK := hid (kb_tr HK.out HK1.out)
      clear hu1 c0 c1 c2 hbl
      have HS := hid (show Calls _ _ _ u1 _ from smay_any x.A x.B x.c x.d x.fin x.pre u1 (HF.out.kb HKK.out) (HX.out.s1.kb HK1.out) (HX.out.s2.kb HK1.out) HX.out.f1 HX.out.f2 (by have := HX.out.n1; omega) (by have := HX.out.n2; omega))
      have HMW := hid (show mayW n x = !(decide (x.unit < 1) || (decide (n ≤ x.unit) || !mayS x.fin x.pre)) from rfl)
      have x0 := HG.out.2 0 _ rfl
      have x1 := HG.out.2 1 _ rfl
      have x2 := HG.out.2 2 _ rfl
      have xl := HG.out.1
      unfold setV at HS
      generalize mayS x.fin x.pre = ms at *
      generalize x.fin.length = nf at *
      generalize x.pre.length = np at *
      by_cases g1 : x.unit < 1
      · have HRS := hid (show res = false from by rw [HST.out, HMW.out]; simp [g1])
        go_wp2_with fail
        try rw [Exit.noGoto_ret]
        try (first | go_ret | go_ret2)
        exact ⟨by rw [HRS.out]; rfl, HKK.out⟩
      · by_cases g2 : n ≤ x.unit
        · have HRS := hid (show res = false from by rw [HST.out, HMW.out]; simp [g2])
          go_wp2_with fail
          try rw [Exit.noGoto_ret]
          try (first | go_ret | go_ret2)
          exact ⟨by rw [HRS.out]; rfl, HKK.out⟩
        · go_wp2_with fail
          refine HS.out.mono ?_
          rintro _ u2 ⟨rfl, hb⟩
          have HK2 := hid (kb_tr HKK.out hb.kb)
          clear hb
          cases ms with
          | false =>
            have HRS := hid (show res = false from by rw [HST.out, HMW.out]; simp)
            go_wp2_with fail
            try rw [Exit.noGoto_ret]
            try (first | go_ret | go_ret2)
            exact ⟨by rw [HRS.out]; rfl, HK2.out⟩
          | true =>
            have HRS := hid (show res = (l.drop (k + 1)).all (mayW n) from by rw [HST.out, HMW.out]; simp [g1, g2])
            go_wp2_with fail
            refine ⟨⟨k + 1, by go_num, by omega, HRS, HK2⟩, ?_⟩
            simp [intOf] <;> omega
    · obtain rfl : k = m := by omega
      have k1 : ¬ (k : Int) < (k : Int) := by omega
      have HRS := hid (show res = true from by rw [HR.out, List.drop_eq_nil_of_le (by rw [HM.out]; exact Nat.le_refl _)]; rfl)
      go_wp2_with fail
      try rw [Exit.noGoto_ret]
      try (first | go_ret | go_ret2)
      exact ⟨by rw [HRS.out]; rfl, HK.out⟩
end Go.Proofs.YtlmkglgjdmjnkaaGreatDoor
