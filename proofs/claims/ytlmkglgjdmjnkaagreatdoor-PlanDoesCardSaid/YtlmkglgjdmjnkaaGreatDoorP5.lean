/- The reference's Do: linchpinref39.Do. -/
import Derived.Test.YtlmkglgjdmjnkaaGreatDoorP4
namespace Go.Proofs.YtlmkglgjdmjnkaaGreatDoor
open Go.RowKit Go.Lib
open Rw
set_option linter.unusedVariables false
set_option linter.unusedSimpArgs false

/-- what has come of moves: the lines, or that one could not be done -/
def DoK (w : World) (r : Option (List LockL)) (e : Ending) (w' : World) : Prop := match r with
  | none => e = .returned (.tuple #[.slice none 0 0, .bool false]) ∧ KB w.heap.size w w'
  | some l => ∃ A c ps, ps.map (·.1) = l ∧ e = .returned (.tuple #[.slice A ps.length c, .bool true]) ∧ ps.length ≤ c ∧ Locks w' A ps ∧ KB w.heap.size w w'
theorem step1 {s : List LockL × List LockL} {m : MoveL} (h : m.kind = 1) : stepD s m = some (s.1, s.2 ++ [m.line]) := by rw [stepD, if_pos h]
theorem step2 {s : List LockL × List LockL} {m : MoveL} (h : m.kind = 2) (h2 : sameAt m.line s.1 = true) : stepD s m = some (outN m.line.name s.1, s.2) := by
  rw [stepD, if_neg (by omega), if_pos ⟨h, h2⟩]
theorem step3 {s : List LockL × List LockL} {m : MoveL} (h : m.kind = 3) (h2 : (atN m.line.name s.1).isNone = true) (h3 : s.2.any (fun y => eqLk y m.line) = true) : stepD s m = some (s.1 ++ [m.line], s.2) := by
  rw [stepD, if_neg (by omega), if_neg (fun k => by omega), if_pos ⟨h, h2, h3⟩]
theorem step0 {s : List LockL × List LockL} {m : MoveL} (h1 : m.kind ≠ 1) (h2 : ¬ (m.kind = 2 ∧ sameAt m.line s.1 = true)) (h3 : ¬ (m.kind = 3 ∧ (atN m.line.name s.1).isNone = true ∧ s.2.any (fun y => eqLk y m.line) = true)) : stepD s m = none := by
  rw [stepD, if_neg h1, if_neg h2, if_neg h3]
theorem sameAt_at {n : ByteArray} {x : LockL} {l : List LockL} {y : LockL} (hx : x.name = n) (h : atN n l = some y) : sameAt x l = eqLk y x := by rw [sameAt, hx, h]
theorem sameAt_no {x : LockL} {l : List LockL} (h : atN x.name l = none) : sameAt x l = false := by rw [sameAt, h]
set_option maxRecDepth 100000 in
set_option maxHeartbeats 8000000 in
theorem rdo_any (A : Option Addr) (c : Nat) (hl : List LP) (M : Option Addr) (mc : Nat) (ml : List MP) (w : World) (hA : Locks w A hl) (hM : Moves w M ml) (hu : UnN (hl.map (·.1))) (hn : hl.length ≤ 1000) (hm : ml.length ≤ 1000) : Calls Tryz.prog 10 #[.slice A hl.length c, .slice M ml.length mc] w (DoK w (doL (hl.map (·.1), []) (ml.map (·.1)))) := by
  have HM := hid hM
  have HU := hid hu
  have HSA := hid (src_lk hA.row)
  have HSU := hid hA.sub
  have HR0 := hid (show doL (hl.map (·.1), []) (ml.map (·.1)) = doL (hl.map (·.1), []) ((ml.map (·.1)).drop 0) from rfl)
  clear hA hM hu
  generalize doL (hl.map (·.1), []) (ml.map (·.1)) = res at *
  generalize hmm : ml.length = m at *
  have HMM := hid hmm
  clear hmm
  obtain ⟨n0, hn0⟩ : ∃ n, hl.length = n := ⟨_, rfl⟩
  have HN0 := hid hn0
  rw [hn0] at hn HSA ⊢
  clear hn0
  go_enter Tryz.func10, Tryz.ntmps10
  go_wp2_with (at_builtin; refine wpList_appx EKlocks rfl (.const (.slice none 0 0)) (.tmp 11) rfl rfl (World.ownsRow_nil _ w.heap.size _ _) rfl HSA.out (lks_one _) (by unfold maxLen; omega) (by omega) (Nat.le_refl _) ?_; intro v1 w1 h2 h3 h4)
  have HB1 := hid (show KB w.heap.size w w1 from h3.kb)
  have HR1 := hid (show RowLk w w1 v1 hl from ⟨by
    show w1.ownsRow w.heap.size 33 9 v1 hl.length (hl.flatMap lkC)
    rw [HN0.out, show n0 = 0 + n0 by omega]
    exact h2, HSU.out⟩)
  clear h2 h3 h4
  go_upto_block 0 with fail
  go_wp2_with fail
  go_loopw [6, 7, 8] (fun nv hv iv wr => ∃ (k : Nat) (v v2 : Value) (now hand : List LP), nv = v ∧ hv = v2 ∧ iv = .int .i64 (k : Int) ∧ k ≤ m ∧ now.length ≤ 1000 + k ∧ hand.length ≤ k ∧ Hid (res = doL (now.map (·.1), hand.map (·.1)) ((ml.map (·.1)).drop k)) ∧ Hid (UnN (now.map (·.1))) ∧ Hid (RowLk w wr v now) ∧ Hid (RowLk w wr v2 hand) ∧ Hid (apartV v v2) ∧ Hid (KB w.heap.size w wr)) (fun _ _ iv _ => m - (intOf iv).toNat)
  case atStart => exact ⟨0, _, _, hl, [], rfl, rfl, rfl, Nat.zero_le _, by rw [HN0.out]; omega, Nat.le_refl _, HR0, HU, HR1, hid RowLk.nil, hid (fun k _ e => by cases e), HB1⟩
  case round =>
    rename World => wr
    obtain ⟨k, v, v2, now, hand, rfl, rfl, rfl, hk, hnl, hhl, HD, HUN, HNR, HHR, HAP, HK⟩ := hrel
    have k0 : (0 : Int) ≤ (k : Int) := by omega
    by_cases hlt : k < m
    · have h1 : k < ml.length := by rw [HMM.out]; exact hlt
      have k1 : (k : Int) < (m : Int) := by omega
      obtain ⟨p, off, hA, hix, hkd, hcx⟩ := move_at HM.out h1
      subst hA
      have HIX := hid hix
      have HCW := hid hcx
      have HKW := hid hkd
      have HST := hid (do_drop (s := (now.map (·.1), hand.map (·.1))) (l := ml.map (·.1)) (k := k) (by simpa using h1))
      rw [List.getElem_map] at HST
      clear hix hcx hkd
      generalize ml[k] = mm at *
      obtain ⟨An, cn, rfl, hcn, hln⟩ := HNR.out.locks HK.out
      obtain ⟨Ah, ch, rfl, hch, hlh⟩ := HHR.out.locks HK.out
      have HLN := hid hln
      have HLH := hid hlh
      have HCN := hid hcn
      clear hln hlh hcn hch
      obtain ⟨n1, hn1⟩ : ∃ n, now.length = n := ⟨_, rfl⟩
      obtain ⟨n2, hn2⟩ : ∃ n, hand.length = n := ⟨_, rfl⟩
      rw [hn1] at HNR HAP HCN hnl ⊢
      rw [hn2] at HHR HAP hhl ⊢
      have HN1 := hid hn1
      have HN2 := hid hn2
      clear hn1 hn2
      have HCR := hid (HCW.out.kb HK.out)
      have x0 := HCR.out.c0
      have x1 := HCR.out.c1
      have x2 := HCR.out.c2
      have x3 := HCR.out.c3
      have x4 := HCR.out.c4
      have x5 := HCR.out.c5
      have x6 := HCR.out.c6
      have x7 := HCR.out.c7
      have x8 := HCR.out.c8
      have xl := HCR.out.lt
      go_upto_region 7 with fail
      refine wp_name ?_
      intro w1 hw1
      have HG := hid (show Box w1 wr.heap.size (lkC (mm.1.line, mm.2)) from by rw [hw1]; exact Box.new wr (lkC (mm.1.line, mm.2)) 33)
      have HK1 := hid (show KB wr.heap.size wr w1 from by rw [hw1]; exact kb_new _ _)
      clear hw1 x0 x1 x2 x3 x4 x5 x6 x7 x8 xl HCR
      have HNM := hid (show Calls _ _ #[.slice An n1 cn, .string mm.1.line.name] w1 _ from by have := rnamed_any An cn now mm.1.line.name w1 (HLN.out.kb HK1.out) (by rw [HN1.out]; omega); rwa [HN1.out] at this)
      have x0 := HG.out.2 0 _ rfl
      have xl := HG.out.1
      go_wp2_with fail
      refine HNM.out.mono ?_
      rintro _ w2 ⟨rfl, hb⟩
      have HK2 := hid (kb_tr HK1.out hb)
      have HG2 := hid (HG.out.kb hb)
      have HKK := hid (kb_tr HK.out HK2.out)
      have HN2R := hid (HNR.out.kb HK2.out)
      have HH2R := hid (HHR.out.kb HK2.out)
      have HC2 := hid (HCW.out.kb HKK.out)
      have HZ1 := hid (fun (q : Nat) (h : placeN mm.1.line.name 0 now = (q : Int)) => atN_some h)
      have HZ2 := hid (fun (h : placeN mm.1.line.name 0 now < 0) => atN_no h)
      have HZ3 := hid (fun (h : ¬ placeN mm.1.line.name 0 now < 0) => placeN_nat h)
      have hszw : w.heap.size ≤ w2.heap.size := HKK.out.size
      clear hb x0 xl HNM HG HK1
      generalize placeN mm.1.line.name 0 now = z at *
      have kd := cell_kb HCW.out.lt HKK.out HKW.out
      have xkl := HC2.out.lt
      have x0 := HG2.out.2 0 _ rfl
      have x1 := HG2.out.2 1 _ rfl
      have x2 := HG2.out.2 2 _ rfl
      have x3 := HG2.out.2 3 _ rfl
      have x4 := HG2.out.2 4 _ rfl
      have x5 := HG2.out.2 5 _ rfl
      have x6 := HG2.out.2 6 _ rfl
      have x7 := HG2.out.2 7 _ rfl
      have x8 := HG2.out.2 8 _ rfl
      have xl := HG2.out.1
      by_cases hk1 : mm.1.kind = 1
      · have e1 : (mm.1.kind == 1) = true := by rw [beq_iff_eq]; exact hk1
        have HS := hid (HD.out.trans (by rw [HST.out, step1 hk1]))
        clear HZ1 HZ2 HZ3
        go_wp2_with (at_builtin; refine wpList_app1y EKlocks rfl (.tmp 35) (.tmp 37) rfl [.string mm.1.line.name, .int .i64 mm.1.line.v.maj, .int .i64 mm.1.line.v.min, .int .i64 mm.1.line.v.pat, .string mm.1.line.v.pre, .string mm.1.line.v.bld, .string mm.1.line.shelf, .int .u64 mm.1.line.sum, .slice mm.2.A mm.1.line.feats.length mm.2.c] (show w2.ownsRow w.heap.size 33 9 (.slice Ah n2 ch) n2 (hand.flatMap lkC) from by have h := HH2R.out.own; unfold OwnL at h; rwa [HN2.out] at h) rfl rfl rfl (lk_one (mm.1.line, mm.2)) (by unfold maxLen; omega) (by omega) hszw ?_; intro v' w3 h2 h3 h4 h5)
        have h4 : w2.grownBy w3 (Value.slice Ah n2 ch).ownBlock := h4
        have h5 : ∀ k, v'.ownBlock = some k → (Value.slice Ah n2 ch).ownBlock = some k ∨ w2.heap.size ≤ k := h5
        have HB3 := hid (show KB w.heap.size w w3 from Go.RowKit.Below.trans HKK.out h3.kb)
        have HNX := hid (show RowLk w w3 (.slice An n1 cn) now from HN2R.out.grown h4 fun q hq => HAP.out q hq)
        have HHX := hid (show RowLk w w3 v' (hand ++ [(mm.1.line, mm.2)]) from ⟨OwnL.snoc (by rw [HN2.out]; exact h2), fun y hy => by
          rcases List.mem_append.1 hy with hy | hy
          · exact HHR.out.sub y hy
          · rcases List.mem_singleton.1 hy with rfl
            exact HIX.out⟩)
        have HAX := hid (show apartV (.slice An n1 cn) v' from fun q hq e => by
          rcases h5 q e with h6 | h6
          · exact HAP.out q hq h6
          · have := (HN2R.out.lt q hq).2
            omega)
        clear h2 h3 h4 h5 kd xkl x0 x1 x2 x3 x4 x5 x6 x7 x8 xl
        go_roundw
        case rel => exact ⟨k + 1, _, _, now, hand ++ [(mm.1.line, mm.2)], rfl, rfl, by go_num, by omega, by rw [HN1.out]; omega, by rw [List.length_append, HN2.out]; simp; omega, hid (by rw [HS.out, List.map_append]; rfl), HUN, HNX, HHX, HAX, HB3⟩
        case measure => simp [intOf] <;> omega
      · have e1 : (mm.1.kind == 1) = false := by rw [beq_eq_false_iff_ne]; exact hk1
        go_upto_region 11 with fail
        have hS : KB w2.heap.size w2 w2.drew := kb_drewJ (kb_refl _)
        by_cases hc2 : mm.1.kind = 2 ∧ ¬ z < 0
        · obtain ⟨hk2, hz⟩ := hc2
          have e2 : (mm.1.kind == 2) = true := by rw [beq_iff_eq]; exact hk2
          have e3 : (mm.1.kind == 3) = false := by rw [beq_eq_false_iff_ne]; omega
          obtain ⟨q, rfl⟩ := HZ3.out (by omega)
          obtain ⟨hqn, hat, hnm⟩ := HZ1.out q rfl
          have hqn1 : q < n1 := by rw [← HN1.out]; exact hqn
          have q0 : (0 : Int) ≤ (q : Int) := by omega
          have q1 : (q : Int) < (n1 : Int) := by omega
          obtain ⟨p2, of2, hAn, hiy, hcy⟩ := lock_at (HLN.out.kb HK2.out) hqn
          have HCY := hid hcy
          have HEQ := hid (sameAt_at (x := mm.1.line) rfl hat)
          have HFU := hid (filter_un (l := now.map (·.1)) (n := mm.1.line.name) (k := q) (by simpa using hqn) HUN.out (by rw [List.getElem_map]; exact hnm))
          have HC := hid (fun (u : World) (hb : KB w2.heap.size w2 u) => sameline_any now[q].1 mm.1.line now[q].2 mm.2 u (hiy.kb hb) ((HIX.out.kb HKK.out).kb hb))
          clear hat hnm hiy hcy HZ1 HZ2 HZ3 hz
          generalize now[q] = y at *
          clear hqn
          generalize eqLk y.1 mm.1.line = b at *
          have HKD := hid kd
          have HXK := hid xkl
          clear kd xkl x0 x1 x2 x3 x4 x5 x6 x7 x8 xl
          refine wp_planS (fun u => KB w2.heap.size w2 u) (.call [0, 1, 2, 3, 4, 5, 6, 7, 8, 9, 10, 11, 12, 13, 14, 15] 16 (.last [17, 18])) (by first | assumption | skip) (by kernel_rfl) (by intro _ _ d _ _ h; cases d <;> exact h) (by kernel_rfl) ?_
          have iS : Nonempty (SW fun u => KB w2.heap.size w2 u) := ⟨⟨_, hS⟩⟩
          have kd := fun (z : SW fun u => KB w2.heap.size w2 u) => cell_kb HXK.out z.ok HKD.out
          have xkl := fun (z : SW fun u => KB w2.heap.size w2 u) => Nat.lt_of_lt_of_le HXK.out z.ok.size
          have x0 := fun (z : SW fun u => KB w2.heap.size w2 u) => (HG2.out.kb z.ok).2 0 _ rfl
          have x1 := fun (z : SW fun u => KB w2.heap.size w2 u) => (HG2.out.kb z.ok).2 1 _ rfl
          have x2 := fun (z : SW fun u => KB w2.heap.size w2 u) => (HG2.out.kb z.ok).2 2 _ rfl
          have x3 := fun (z : SW fun u => KB w2.heap.size w2 u) => (HG2.out.kb z.ok).2 3 _ rfl
          have x4 := fun (z : SW fun u => KB w2.heap.size w2 u) => (HG2.out.kb z.ok).2 4 _ rfl
          have x5 := fun (z : SW fun u => KB w2.heap.size w2 u) => (HG2.out.kb z.ok).2 5 _ rfl
          have x6 := fun (z : SW fun u => KB w2.heap.size w2 u) => (HG2.out.kb z.ok).2 6 _ rfl
          have x7 := fun (z : SW fun u => KB w2.heap.size w2 u) => (HG2.out.kb z.ok).2 7 _ rfl
          have x8 := fun (z : SW fun u => KB w2.heap.size w2 u) => (HG2.out.kb z.ok).2 8 _ rfl
          have xl := fun (z : SW fun u => KB w2.heap.size w2 u) => (HG2.out.kb z.ok).1
          have y0 := fun (z : SW fun u => KB w2.heap.size w2 u) => (HCY.out.kb z.ok).c0
          have y1 := fun (z : SW fun u => KB w2.heap.size w2 u) => (HCY.out.kb z.ok).c1
          have y2 := fun (z : SW fun u => KB w2.heap.size w2 u) => (HCY.out.kb z.ok).c2
          have y3 := fun (z : SW fun u => KB w2.heap.size w2 u) => (HCY.out.kb z.ok).c3
          have y4 := fun (z : SW fun u => KB w2.heap.size w2 u) => (HCY.out.kb z.ok).c4
          have y5 := fun (z : SW fun u => KB w2.heap.size w2 u) => (HCY.out.kb z.ok).c5
          have y6 := fun (z : SW fun u => KB w2.heap.size w2 u) => (HCY.out.kb z.ok).c6
          have y7 := fun (z : SW fun u => KB w2.heap.size w2 u) => (HCY.out.kb z.ok).c7
          have y8 := fun (z : SW fun u => KB w2.heap.size w2 u) => (HCY.out.kb z.ok).c8
          have yl := fun (z : SW fun u => KB w2.heap.size w2 u) => (HCY.out.kb z.ok).lt
          subst hAn
          with_reducible refine plan_call ?_
          simp only [pickOps, List.map_cons, List.map_nil, List.getElem?_toArray, List.getElem?_cons_zero, List.getElem?_cons_succ, Option.getD_some]
          repeat go_big_quiet_step (fail)
          refine wpQuiet_nil ?_
          go_wp2_with fail
          refine (HC.out _ hS).mono ?_
          rintro _ w3 ⟨rfl, hb3⟩
          have HB3 := hid (kb_tr hS hb3)
          clear hb3
          go_wp2_with fail
          refine plan_onS (HB3.out) ?_
          with_reducible refine plan_last ?_
          simp only [pickOps, List.map_cons, List.map_nil, List.getElem?_toArray, List.getElem?_cons_zero, List.getElem?_cons_succ, Option.getD_some]
          repeat go_big_quiet_step (fail)
          refine wpQuiet_nil ?_
          clear kd xkl x0 x1 x2 x3 x4 x5 x6 x7 x8 xl y0 y1 y2 y3 y4 y5 y6 y7 y8 yl iS hS
          have HKK3 := hid (kb_tr HKK.out HB3.out)
          have HG3 := hid (HG2.out.kb HB3.out)
          have HN3R := hid (HN2R.out.kb HB3.out)
          have HH3R := hid (HH2R.out.kb HB3.out)
          have HL3 := hid (HLN.out.kb (kb_tr HK2.out HB3.out))
          have kd := cell_kb HXK.out HB3.out HKD.out
          have xkl := Nat.lt_of_lt_of_le HXK.out HB3.out.size
          cases b
          · have HRS := hid (show res = none from by rw [HD.out, HST.out, step0 (by omega) (by rw [HEQ.out]; simp) (by omega)])
            go_wp2_with fail
            try rw [Exit.noGoto_ret]
            try (first | go_ret | go_ret2)
            unfold DoK
            rw [HRS.out]
            exact ⟨rfl, HKK3.out⟩
          · have HS := hid (show res = doL ((now.take q ++ now.drop (q + 1)).map (·.1), hand.map (·.1)) ((ml.map (·.1)).drop (k + 1)) from by rw [HD.out, HST.out, step2 hk2 HEQ.out, HFU.out, map_take_drop])
            have HUX := hid (show UnN ((now.take q ++ now.drop (q + 1)).map (·.1)) from by rw [map_take_drop, ← HFU.out]; exact HUN.out.out _)
            have s1 := fun u => sll_head (some ⟨p2, of2, none⟩) n1 cn q (by have := HCN.out; omega) u
            have s2 := fun u => show (Instr.slice 24 (.slice (some ⟨p2, of2, none⟩) n1 cn) (some (.int .i64 ((q:Int) + 1))) none none).run Tryz.prog u = .ok (.slice (tlL (some ⟨p2, of2, none⟩) (q + 1) cn) (n1 - (q + 1)) (cn - (q + 1))) u from sll_tail (some ⟨p2, of2, none⟩) n1 cn (q + 1) hqn1 u
            have s3 := fun u => sll_headAt (some ⟨p2, of2, none⟩) n1 cn q (by have := HCN.out; omega) u
            have s4 := fun u => show (Instr.sliceAt 24 (.slice (some ⟨p2, of2, none⟩) n1 cn) (some (.int .i64 ((q:Int) + 1))) none none).run Tryz.prog u = .ok (.slice (tlL (some ⟨p2, of2, none⟩) (q + 1) cn) (n1 - (q + 1)) (cn - (q + 1))) u from sll_tailAt (some ⟨p2, of2, none⟩) n1 cn (q + 1) hqn1 u
            have hS : KB w3.heap.size w3 w3.drew := kb_drewJ (kb_refl _)
            have HS1 := hid (fun u (hb : KB w3.heap.size w3 u) => src_take (HL3.out.kb hb).row (k := q) (by rw [HN1.out]; omega))
            have HS2 := hid (fun u (hb : KB w3.heap.size w3 u) => show SrcOf u (tlL (some ⟨p2, of2, none⟩) (q + 1) cn) (n1 - (q + 1)) 9 ((now.drop (q + 1)).flatMap lkC) from by have h := src_drop (HL3.out.kb hb).row (c := cn) (k := q + 1) (by rw [HN1.out]; omega) (by rw [HN1.out]; exact HCN.out); rwa [HN1.out] at h)
            go_upto_region 12 with fail
            clear kd xkl
            refine wp_planS (fun u => KB w3.heap.size w3 u) (.call [0, 1, 2, 4, 5, 6, 7] 3 (.call [] 8 (.last [9]))) (by first | assumption | skip) (by kernel_rfl) (by intro _ _ d _ _ h; cases d <;> exact h) (by kernel_rfl) ?_
            have iS : Nonempty (SW fun u => KB w3.heap.size w3 u) := ⟨⟨_, hS⟩⟩
            with_reducible refine plan_call ?_
            simp only [pickOps, List.map_cons, List.map_nil, List.getElem?_toArray, List.getElem?_cons_zero, List.getElem?_cons_succ, Option.getD_some]
            repeat go_big_quiet_step (fail)
            refine wpQuiet_nil ?_
            go_wp2_with (at_builtin; refine wpList_appx EKlocks rfl (.const (.slice none 0 0)) (.tmp 60) rfl rfl (World.ownsRow_nil _ w3.heap.size _ _) rfl (HS1.out _ hS) (lks_one _) (by unfold maxLen; omega) (by omega) (Nat.le_refl _) ?_; intro v3 w4 h2 h3 h4)
            have HB4 := hid (show KB w3.heap.size w3 w4 from Go.RowKit.Below.trans hS h3.kb)
            have HO4 := hid h2
            clear h2 h3 h4
            refine plan_onS HB4.out ?_
            with_reducible refine plan_call ?_
            simp only [pickOps, List.map_cons, List.map_nil, List.getElem?_toArray, List.getElem?_cons_zero, List.getElem?_cons_succ, Option.getD_some]
            repeat go_big_quiet_step (fail)
            refine wpQuiet_nil ?_
            go_wp2_with (at_builtin; refine wpList_appx EKlocks rfl (.tmp 61) (.tmp 65) rfl rfl HO4.out rfl (HS2.out _ HB4.out) (lks_one _) (by unfold maxLen; omega) (by omega) HB4.out.size ?_; intro v4 w5 h2 h3 h4)
            have HB5 := hid (show KB w3.heap.size w3 w5 from Go.RowKit.Below.trans HB4.out h3.kb)
            have hlx : (now.take q ++ now.drop (q + 1)).length = 0 + q + (n1 - (q + 1)) := by rw [List.length_append, List.length_take, List.length_drop, HN1.out]; omega
            have HO5 := hid (show w5.ownsRow w3.heap.size 33 9 v4 (now.take q ++ now.drop (q + 1)).length ((now.take q ++ now.drop (q + 1)).flatMap lkC) from by rw [hlx, List.flatMap_append]; exact h2)
            have HLX := hid hlx
            clear h2 h3 h4 hlx
            refine plan_onS HB5.out ?_
            with_reducible refine plan_last ?_
            simp only [pickOps, List.map_cons, List.map_nil, List.getElem?_toArray, List.getElem?_cons_zero, List.getElem?_cons_succ, Option.getD_some]
            repeat go_big_quiet_step (fail)
            refine wpQuiet_nil ?_
            clear iS s1 s2 s3 s4
            have hsz3 : w.heap.size ≤ w3.heap.size := HKK3.out.size
            go_wp2_with fail
            go_roundw
            case rel => exact ⟨k + 1, _, _, now.take q ++ now.drop (q + 1), hand, rfl, rfl, by go_num, by omega, by rw [HLX.out]; omega, by rw [HN2.out]; omega, HS, HUX, hid ⟨own_lowB HO5.out hsz3, fun y hy => by
                rcases List.mem_append.1 hy with hy | hy
                · exact HNR.out.sub y (List.mem_of_mem_take hy)
                · exact HNR.out.sub y (List.mem_of_mem_drop hy)⟩, hid (HH3R.out.kb HB5.out), hid (fun r hr e => by
                have h8 := (World.ownsRow.lt HO5.out r hr).1
                have h9 := (HH3R.out.lt r e).2
                omega), hid (kb_tr HKK3.out HB5.out)⟩
            case measure => simp [intOf] <;> omega
        · have HKD := hid kd
          have HXK := hid xkl
          clear kd xkl x0 x1 x2 x3 x4 x5 x6 x7 x8 xl
          have HNO := hid (show ¬ (mm.1.kind = 2 ∧ sameAt mm.1.line (now.map (·.1)) = true) from fun h => by
            by_cases hz : z < 0
            · rw [sameAt_no (HZ2.out hz)] at h
              cases h.2
            · exact hc2 ⟨h.1, hz⟩)
          by_cases hc3 : mm.1.kind = 3 ∧ z < 0
          · obtain ⟨hk3, hz⟩ := hc3
            have e2 : (mm.1.kind == 2) = false := by rw [beq_eq_false_iff_ne]; omega
            have e3 : (mm.1.kind == 3) = true := by rw [beq_iff_eq]; exact hk3
            have z1 : ¬ 0 ≤ z := by omega
            have HAN := hid (HZ2.out hz)
            clear HZ1 HZ2 HZ3 hc2
            refine wp_planS (fun u => KB w2.heap.size w2 u) (.call [0, 1, 2, 3, 4, 5, 6, 7, 8, 9, 10, 11, 12, 13, 14, 15] 16 (.last [17, 18])) (by first | assumption | skip) (by kernel_rfl) (by intro _ _ d _ _ h; cases d <;> exact h) (by kernel_rfl) ?_
            have iS : Nonempty (SW fun u => KB w2.heap.size w2 u) := ⟨⟨_, hS⟩⟩
            have kd := fun (z : SW fun u => KB w2.heap.size w2 u) => cell_kb HXK.out z.ok HKD.out
            have xkl := fun (z : SW fun u => KB w2.heap.size w2 u) => Nat.lt_of_lt_of_le HXK.out z.ok.size
            with_reducible refine plan_call ?_
            simp only [pickOps, List.map_cons, List.map_nil, List.getElem?_toArray, List.getElem?_cons_zero, List.getElem?_cons_succ, Option.getD_some]
            repeat go_big_quiet_step (fail)
            refine wpQuiet_nil ?_
            go_wp2_with fail
            with_reducible refine plan_onS hS ?_
            with_reducible refine plan_last ?_
            simp only [pickOps, List.map_cons, List.map_nil, List.getElem?_toArray, List.getElem?_cons_zero, List.getElem?_cons_succ, Option.getD_some]
            repeat go_big_quiet_step (fail)
            refine wpQuiet_nil ?_
            clear kd xkl iS
            have kd := cell_kb HXK.out hS HKD.out
            have xkl := Nat.lt_of_lt_of_le HXK.out hS.size
            have HD2 := hid (HG2.out.kb hS)
            have x0 := HD2.out.2 0 _ rfl
            have x1 := HD2.out.2 1 _ rfl
            have x2 := HD2.out.2 2 _ rfl
            have x3 := HD2.out.2 3 _ rfl
            have x4 := HD2.out.2 4 _ rfl
            have x5 := HD2.out.2 5 _ rfl
            have x6 := HD2.out.2 6 _ rfl
            have x7 := HD2.out.2 7 _ rfl
            have x8 := HD2.out.2 8 _ rfl
            have xl := HD2.out.1
            have HHS := hid (show Calls _ _ #[.slice Ah n2 ch, mm.1.line.val mm.2] w2.drew _ from by have h := rhas_any Ah ch hand mm.1.line mm.2 w2.drew ((HLH.out.kb HK2.out).kb hS) ((HIX.out.kb HKK.out).kb hS) (by rw [HN2.out]; omega); rwa [HN2.out] at h)
            obtain ⟨b, hb⟩ : ∃ b, ((hand.map (·.1)).any fun y => eqLk y mm.1.line) = b := ⟨_, rfl⟩
            rw [hb] at HHS
            have HBB := hid hb
            clear hb
            go_wp2_with fail
            refine HHS.out.mono ?_
            rintro _ w3 ⟨rfl, hb3⟩
            have HB3 := hid (kb_tr hS hb3)
            clear hb3 kd xkl x0 x1 x2 x3 x4 x5 x6 x7 x8 xl HD2 HHS
            have HKK3 := hid (kb_tr HKK.out HB3.out)
            cases b
            · have HRS := hid (show res = none from by rw [HD.out, HST.out, step0 hk1 HNO.out (fun h => by rw [HBB.out] at h; cases h.2.2)])
              go_wp2_with fail
              try rw [Exit.noGoto_ret]
              try (first | go_ret | go_ret2)
              unfold DoK
              rw [HRS.out]
              exact ⟨rfl, HKK3.out⟩
            · have HS := hid (HD.out.trans (by rw [HST.out, step3 hk3 (by rw [HAN.out]; rfl) HBB.out]))
              have HUX := hid (HUN.out.put (x := mm.1.line) (by rw [HAN.out]; rfl))
              have HG3 := hid (HG2.out.kb HB3.out)
              have HN3R := hid (HN2R.out.kb HB3.out)
              have HH3R := hid (HH2R.out.kb HB3.out)
              have hsz3 : w.heap.size ≤ w3.heap.size := HKK3.out.size
              have x0 := HG3.out.2 0 _ rfl
              have x1 := HG3.out.2 1 _ rfl
              have x2 := HG3.out.2 2 _ rfl
              have x3 := HG3.out.2 3 _ rfl
              have x4 := HG3.out.2 4 _ rfl
              have x5 := HG3.out.2 5 _ rfl
              have x6 := HG3.out.2 6 _ rfl
              have x7 := HG3.out.2 7 _ rfl
              have x8 := HG3.out.2 8 _ rfl
              have xl := HG3.out.1
              go_wp2_with (at_builtin; refine wpList_app1y EKlocks rfl (.tmp 83) (.tmp 85) rfl [.string mm.1.line.name, .int .i64 mm.1.line.v.maj, .int .i64 mm.1.line.v.min, .int .i64 mm.1.line.v.pat, .string mm.1.line.v.pre, .string mm.1.line.v.bld, .string mm.1.line.shelf, .int .u64 mm.1.line.sum, .slice mm.2.A mm.1.line.feats.length mm.2.c] (show w3.ownsRow w.heap.size 33 9 (.slice An n1 cn) n1 (now.flatMap lkC) from by have h := HN3R.out.own; unfold OwnL at h; rwa [HN1.out] at h) rfl rfl rfl (lk_one (mm.1.line, mm.2)) (by unfold maxLen; omega) (by omega) hsz3 ?_; intro v' w4 h2 h3 h4 h5)
              have h4 : w3.grownBy w4 (Value.slice An n1 cn).ownBlock := h4
              have h5 : ∀ k, v'.ownBlock = some k → (Value.slice An n1 cn).ownBlock = some k ∨ w3.heap.size ≤ k := h5
              have HB4 := hid (show KB w.heap.size w w4 from Go.RowKit.Below.trans HKK3.out h3.kb)
              have HHX := hid (show RowLk w w4 (.slice Ah n2 ch) hand from HH3R.out.grown h4 fun q hq => HAP.out.symm q hq)
              have HNX := hid (show RowLk w w4 v' (now ++ [(mm.1.line, mm.2)]) from ⟨OwnL.snoc (by rw [HN1.out]; exact h2), fun y hy => by
                rcases List.mem_append.1 hy with hy | hy
                · exact HNR.out.sub y hy
                · rcases List.mem_singleton.1 hy with rfl
                  exact HIX.out⟩)
              have HAX := hid (show apartV v' (.slice Ah n2 ch) from fun q hq e => by
                rcases h5 q hq with h6 | h6
                · exact HAP.out q h6 e
                · have := (HH3R.out.lt q e).2
                  omega)
              clear h2 h3 h4 h5 x0 x1 x2 x3 x4 x5 x6 x7 x8 xl
              go_roundw
              case rel => exact ⟨k + 1, _, _, now ++ [(mm.1.line, mm.2)], hand, rfl, rfl, by go_num, by omega, by rw [List.length_append, HN1.out]; simp; omega, by rw [HN2.out]; omega, hid (by rw [HS.out, List.map_append]; rfl), hid (by rw [List.map_append]; exact HUX.out), HNX, HHX, HAX, HB4⟩
              case measure => simp [intOf] <;> omega
          · have HRS := hid (show res = none from by
              rw [HD.out, HST.out, step0 hk1 HNO.out (fun h => by
                by_cases hz : z < 0
                · exact hc3 ⟨h.1, hz⟩
                · obtain ⟨q, hq⟩ := HZ3.out (by omega)
                  obtain ⟨hq2, h6⟩ := HZ1.out q hq
                  have h7 := h.2.1
                  rw [h6.1] at h7
                  cases h7)])
            obtain ⟨b2, e2⟩ : ∃ b, (mm.1.kind == 2) = b := ⟨_, rfl⟩
            obtain ⟨b3, e3⟩ : ∃ b, (mm.1.kind == 3) = b := ⟨_, rfl⟩
            by_cases hz : z < 0
            · have z1 : ¬ 0 ≤ z := by omega
              obtain rfl : b3 = false := by rw [← e3, beq_eq_false_iff_ne]; exact fun h => hc3 ⟨h, hz⟩
              clear HZ1 HZ2 HZ3 hc2 hc3
              cases b2
              all_goals
                refine wp_planS (fun u => KB w2.heap.size w2 u) (.call [0, 1, 2, 3, 4, 5, 6, 7, 8, 9, 10, 11, 12, 13, 14, 15] 16 (.last [17, 18])) (by first | assumption | skip) (by kernel_rfl) (by intro _ _ d _ _ h; cases d <;> exact h) (by kernel_rfl) ?_
                have iS : Nonempty (SW fun u => KB w2.heap.size w2 u) := ⟨⟨_, hS⟩⟩
                have kd := fun (z : SW fun u => KB w2.heap.size w2 u) => cell_kb HXK.out z.ok HKD.out
                have xkl := fun (z : SW fun u => KB w2.heap.size w2 u) => Nat.lt_of_lt_of_le HXK.out z.ok.size
                with_reducible refine plan_call ?_
                simp only [pickOps, List.map_cons, List.map_nil, List.getElem?_toArray, List.getElem?_cons_zero, List.getElem?_cons_succ, Option.getD_some]
                repeat go_big_quiet_step (fail)
                refine wpQuiet_nil ?_
                go_wp2_with fail
                with_reducible refine plan_onS hS ?_
                with_reducible refine plan_last ?_
                simp only [pickOps, List.map_cons, List.map_nil, List.getElem?_toArray, List.getElem?_cons_zero, List.getElem?_cons_succ, Option.getD_some]
                repeat go_big_quiet_step (fail)
                refine wpQuiet_nil ?_
                clear kd xkl iS
                have kd := cell_kb HXK.out hS HKD.out
                have xkl := Nat.lt_of_lt_of_le HXK.out hS.size
                go_wp2_with fail
                try rw [Exit.noGoto_ret]
                try (first | go_ret | go_ret2)
                unfold DoK
                rw [HRS.out]
                exact ⟨rfl, kb_tr HKK.out hS⟩
            · have z1 : 0 ≤ z := by omega
              obtain rfl : b2 = false := by rw [← e2, beq_eq_false_iff_ne]; exact fun h => hc2 ⟨h, hz⟩
              clear HZ1 HZ2 HZ3 hc2 hc3
              cases b3
              all_goals
                refine wp_planS (fun u => KB w2.heap.size w2 u) (.call [0, 1, 2, 3, 4, 5, 6, 7, 8, 9, 10, 11, 12, 13, 14, 15] 16 (.last [17, 18])) (by first | assumption | skip) (by kernel_rfl) (by intro _ _ d _ _ h; cases d <;> exact h) (by kernel_rfl) ?_
                have iS : Nonempty (SW fun u => KB w2.heap.size w2 u) := ⟨⟨_, hS⟩⟩
                have kd := fun (z : SW fun u => KB w2.heap.size w2 u) => cell_kb HXK.out z.ok HKD.out
                have xkl := fun (z : SW fun u => KB w2.heap.size w2 u) => Nat.lt_of_lt_of_le HXK.out z.ok.size
                with_reducible refine plan_call ?_
                simp only [pickOps, List.map_cons, List.map_nil, List.getElem?_toArray, List.getElem?_cons_zero, List.getElem?_cons_succ, Option.getD_some]
                repeat go_big_quiet_step (fail)
                refine wpQuiet_nil ?_
                go_wp2_with fail
                with_reducible refine plan_onS hS ?_
                with_reducible refine plan_last ?_
                simp only [pickOps, List.map_cons, List.map_nil, List.getElem?_toArray, List.getElem?_cons_zero, List.getElem?_cons_succ, Option.getD_some]
                repeat go_big_quiet_step (fail)
                refine wpQuiet_nil ?_
                clear kd xkl iS
                have kd := cell_kb HXK.out hS HKD.out
                have xkl := Nat.lt_of_lt_of_le HXK.out hS.size
                go_wp2_with fail
                try rw [Exit.noGoto_ret]
                try (first | go_ret | go_ret2)
                unfold DoK
                rw [HRS.out]
                exact ⟨rfl, kb_tr HKK.out hS⟩
    · obtain rfl : k = m := by omega
      have k1 : ¬ (k : Int) < (k : Int) := by omega
      obtain ⟨An, cn, rfl, hcn, hln⟩ := HNR.out.locks HK.out
      have HRS := hid (show res = some (sortN (now.map (·.1))) from by rw [HD.out, do_end (by rw [List.length_map, HMM.out]; exact Nat.le_refl _)])
      have HBY := hid (rbyname_any An cn now wr hln (by omega))
      clear hcn hln
      go_wp2_with fail
      refine HBY.out.mono ?_
      rintro _ w2 ⟨A2, c2, ps, hps, rfl, hc2, hl2, hb⟩
      have HB2 := hid (kb_tr HK.out hb)
      have HPS := hid (And.intro hps (And.intro hc2 hl2))
      clear hps hc2 hl2 hb
      go_wp2_with fail
      try rw [Exit.noGoto_ret]
      try (first | go_ret | go_ret2)
      unfold DoK
      rw [HRS.out]
      exact ⟨A2, c2, ps, HPS.out.1, rfl, HPS.out.2.1, HPS.out.2.2, HB2.out⟩
end Go.Proofs.YtlmkglgjdmjnkaaGreatDoor
