import Derived.Test.YtplmlahpmnjneaaGreatDoorMDl
import Derived.Test.YtplmlahpmnjneaaGreatDoorMCt
namespace Go.Proofs.YtplmlahpmnjneaaGreatDoor
open Go.RowKit Go.Lib
open Rw
set_option linter.unusedVariables false
set_option linter.unusedSimpArgs false
set_option maxRecDepth 100000 in
set_option maxHeartbeats 4000000 in
theorem same7_any (A B : Option Addr) (c d : Nat) (r : List (List CompL)) (w : World) (h : Alts w A r) (k : Alts w B r) (h6 : r.length ≤ 6) (h66 : ∀ a ∈ r, a.length ≤ 6) : Calls Tryz.prog 26 #[rangeV A r.length c, rangeV B r.length d] w (BoolPost w true) := by
  have HA := hid h
  have HK := hid k
  have H66 := hid h66
  clear h k h66
  generalize hn : r.length = n at *
  have HN := hid hn
  clear hn
  go_enter Tryz.func26, Tryz.ntmps26
  go_upto_region 1 with fail
  refine wp_name ?_
  intro w1 hw1
  have HX := hid (show Box w1 w.heap.size [.slice A n c] by rw [hw1]; exact (Box.new w [.slice A n c] 35).below (below_new _ _))
  have HY := hid (show Box w1 (w.heap.size + 1) [.slice B n d] by
    rw [hw1]
    have := Box.new (w.alloc (.cells [Value.slice A n c].toArray 35)) [.slice B n d] 35
    rw [World.size_alloc] at this
    exact this)
  have HB := hid (show Below w.heap.size w w1 by rw [hw1]; exact below_tr (below_new _ _) (below_new _ _))
  clear hw1
  have HA := hid (HA.out.below HB.out)
  have HK := hid (HK.out.below HB.out)
  generalize hg2 : w.heap.size + 1 = g2 at *
  generalize hg1 : w.heap.size = g1 at *
  have x0 := HX.out.2 0 _ rfl
  have xl := HX.out.1
  have y0 := HY.out.2 0 _ rfl
  have yl := HY.out.1
  go_upto_block 0 with fail
  clear x0 xl y0 yl
  go_wp2_with fail
  go_loopw [5] (fun i wr => ∃ (k : Nat), i = .int .i64 k ∧ k ≤ n ∧ Hid (Below w1.heap.size w1 wr)) (fun i _ => n - (intOf i).toNat)
  case atStart => exact ⟨0, rfl, Nat.zero_le _, hid (Below.refl _ _)⟩
  case round =>
    obtain ⟨k, rfl, hk, HB1⟩ := hrel
    have HX1 := hid (HX.out.below HB1.out)
    have HY1 := hid (HY.out.below HB1.out)
    have x0 := HX1.out.2 0 _ rfl
    have xl := HX1.out.1
    by_cases hlt : k < n
    · have hlt' : k < r.length := by rw [HN.out]; exact hlt
      obtain ⟨b, off, Ai, ci, hA, hbl, hcell, hcs⟩ := HA.out.at_ hlt'
      obtain ⟨b', off', Bi, di, hB, hbl', hcell', hcs'⟩ := HK.out.at_ hlt'
      subst hA
      subst hB
      have HCS := hid hcs
      have HCS' := hid hcs'
      have HH := hid (fun u (hb : Below w1.heap.size w1 u) => (hb.cell (p := ⟨b, off + k, none⟩) hbl).trans hcell)
      have HH' := hid (fun u (hb : Below w1.heap.size w1 u) => (hb.cell (p := ⟨b', off' + k, none⟩) hbl').trans hcell')
      have ha6 := H66.out _ (List.getElem_mem hlt')
      clear hcs hcs' hcell hcell'
      generalize r[k] = a at *
      generalize hm : a.length = m at *
      have HM := hid hm
      clear hm
      have i0 : (0 : Int) ≤ (k : Int) := by omega
      have i1 : (k : Int) < (n : Int) := by omega
      go_upto_region 6 with fail
      have hS : Below w1.heap.size w1 wr.drew := HB1.out.drew
      refine wp_planS (fun u => Below w1.heap.size w1 u) (.last [0, 1, 2, 3, 4, 5, 6, 7, 8, 9, 10, 11, 12]) (by first | assumption | skip) (by kernel_rfl) (by intro _ _ d _ _ h; cases d <;> exact h) (by kernel_rfl) ?_
      have iS : Nonempty (SW fun u => Below w1.heap.size w1 u) := ⟨⟨_, hS⟩⟩
      have q0 := fun (z : SW fun u => Below w1.heap.size w1 u) => (HX.out.below z.ok).2 0 _ rfl
      have q1 := fun (z : SW fun u => Below w1.heap.size w1 u) => (HY.out.below z.ok).2 0 _ rfl
      have q2 := fun (z : SW fun u => Below w1.heap.size w1 u) => HH.out z.v z.ok
      have q3 := fun (z : SW fun u => Below w1.heap.size w1 u) => HH'.out z.v z.ok
      refine plan_last ?_
      simp only [pickOps, List.map_cons, List.map_nil, List.getElem?_toArray, List.getElem?_cons_zero, List.getElem?_cons_succ, Option.getD_some]
      repeat go_big_quiet_step (fail)
      refine wpQuiet_nil ?_
      clear q0 q1 q2 q3
      go_upto_block 2 with fail
      have HBD := hid hS
      go_wp2_with fail
      go_loopw [6] (fun i ur => ∃ (j : Nat), i = .int .i64 j ∧ j ≤ m ∧ Hid (Below w1.heap.size w1 ur)) (fun i _ => m - (intOf i).toNat)
      case atStart => exact ⟨0, rfl, Nat.zero_le _, HBD⟩
      case round =>
        rename World => ur
        obtain ⟨j, rfl, hj, HB2⟩ := hrel
        have HX2 := hid (HX.out.below HB2.out)
        have x0 := HX2.out.2 0 _ rfl
        have xl := HX2.out.1
        have h0 := HH.out ur HB2.out
        have hbu : b < ur.heap.size := Nat.lt_of_lt_of_le hbl HB2.out.size
        by_cases hlj : j < m
        · have hlj' : j < a.length := by rw [HM.out]; exact hlj
          have j0 : (0 : Int) ≤ (j : Int) := by omega
          have j1 : (j : Int) < (m : Int) := by omega
          obtain ⟨b2, off2, hAi, hbl2, hrow⟩ := HCS.out.at7 hlj'
          obtain ⟨b3, off3, hBi, hbl3, hrow'⟩ := HCS'.out.at7 hlj'
          subst hAi
          subst hBi
          have HR := hid (fun u (hb : Below w1.heap.size w1 u) => row7_below hrow hbl2 hb)
          have HR' := hid (fun u (hb : Below w1.heap.size w1 u) => row7_below hrow' hbl3 hb)
          clear hrow hrow'
          generalize a[j] = x at *
          go_upto_region 11 with fail
          have hS : Below w1.heap.size w1 ur.drew := HB2.out.drew
          refine wp_planS (fun u => Below w1.heap.size w1 u) (.last [0, 1, 2, 3, 4, 5, 6, 7, 8, 9, 10, 11, 12, 13, 14, 15, 16]) (by first | assumption | skip) (by kernel_rfl) (by intro _ _ d _ _ h; cases d <;> exact h) (by kernel_rfl) ?_
          have iS : Nonempty (SW fun u => Below w1.heap.size w1 u) := ⟨⟨_, hS⟩⟩
          have q0 := fun (z : SW fun u => Below w1.heap.size w1 u) => (HX.out.below z.ok).2 0 _ rfl
          have q1 := fun (z : SW fun u => Below w1.heap.size w1 u) => (HY.out.below z.ok).2 0 _ rfl
          have q2 := fun (z : SW fun u => Below w1.heap.size w1 u) => HH.out z.v z.ok
          have q3 := fun (z : SW fun u => Below w1.heap.size w1 u) => HH'.out z.v z.ok
          have a0 := fun (z : SW fun u => Below w1.heap.size w1 u) => (HR.out z.v z.ok).1
          have a1 := fun (z : SW fun u => Below w1.heap.size w1 u) => (HR.out z.v z.ok).2.1
          have a2 := fun (z : SW fun u => Below w1.heap.size w1 u) => (HR.out z.v z.ok).2.2.1
          have a3 := fun (z : SW fun u => Below w1.heap.size w1 u) => (HR.out z.v z.ok).2.2.2.1
          have a4 := fun (z : SW fun u => Below w1.heap.size w1 u) => (HR.out z.v z.ok).2.2.2.2.1
          have a5 := fun (z : SW fun u => Below w1.heap.size w1 u) => (HR.out z.v z.ok).2.2.2.2.2.1
          have a6 := fun (z : SW fun u => Below w1.heap.size w1 u) => (HR.out z.v z.ok).2.2.2.2.2.2
          have c0 := fun (z : SW fun u => Below w1.heap.size w1 u) => (HR'.out z.v z.ok).1
          have c1 := fun (z : SW fun u => Below w1.heap.size w1 u) => (HR'.out z.v z.ok).2.1
          have c2 := fun (z : SW fun u => Below w1.heap.size w1 u) => (HR'.out z.v z.ok).2.2.1
          have c3 := fun (z : SW fun u => Below w1.heap.size w1 u) => (HR'.out z.v z.ok).2.2.2.1
          have c4 := fun (z : SW fun u => Below w1.heap.size w1 u) => (HR'.out z.v z.ok).2.2.2.2.1
          have c5 := fun (z : SW fun u => Below w1.heap.size w1 u) => (HR'.out z.v z.ok).2.2.2.2.2.1
          have c6 := fun (z : SW fun u => Below w1.heap.size w1 u) => (HR'.out z.v z.ok).2.2.2.2.2.2
          refine plan_last ?_
          simp only [pickOps, List.map_cons, List.map_nil, List.getElem?_toArray, List.getElem?_cons_zero, List.getElem?_cons_succ, Option.getD_some]
          repeat go_big_quiet_step (fail)
          refine wpQuiet_nil ?_
          clear q0 q1 q2 q3 a0 a1 a2 a3 a4 a5 a6 c0 c1 c2 c3 c4 c5 c6
          have HBD2 := hid hS
          go_wp2_with fail
          go_roundw
          case rel => exact ⟨j + 1, by go_num, by omega, HBD2⟩
          case measure => simp [intOf]; omega
        · obtain rfl : j = m := by omega
          have hge : ¬ (j : Int) < (j : Int) := by omega
          go_wp2_with fail
          go_roundw
          case rel => exact ⟨k + 1, by go_num, by omega, HB2⟩
          case measure => simp [intOf]; omega
    · obtain rfl : k = n := by omega
      have hge : ¬ (k : Int) < (k : Int) := by omega
      go_wp2_with fail
      go_ret
      exact ⟨rfl, tr_g hg1 HB.out HB1.out⟩
structure FewB (r : List (List CompL)) : Prop where
  len : r.length ≤ 9
  each : ∀ a ∈ r, a.length ≤ 8 ∧ ∀ c ∈ a, c.v.pre.size ≤ 60 ∧ c.v.bld.size ≤ 60
theorem FewB.fit {r : List (List CompL)} (h : FewB r) : fitG r := fun a ha c hc => by
  have := (h.each a ha).2 c hc
  exact ⟨by have := this.1; omega, by have := this.2; omega⟩
def FewPost (w : World) (r : List (List CompL)) (e : Ending) (w' : World) : Prop := ∃ b : Bool, e = .returned (.bool b) ∧ (b = true → FewB r) ∧ Below w.heap.size w w'
set_option maxRecDepth 100000 in
set_option maxHeartbeats 4000000 in
theorem few7_any (A : Option Addr) (c : Nat) (r : List (List CompL)) (w : World) (h : Alts w A r) (hn : r.length ≤ 9223372036854775807) (hm : ∀ a ∈ r, a.length ≤ 9223372036854775807) : Calls Tryz.prog 27 #[rangeV A r.length c] w (FewPost w r) := by
  have HMM := hid hm
  have HA := hid h
  clear hm h
  have HLE := hn
  generalize hn2 : r.length = n at *
  have HN := hid hn2
  clear hn hn2
  go_enter Tryz.func27, Tryz.ntmps27
  go_upto_block 0 with fail
  refine wp_name ?_
  intro w1 hw1
  have HX := hid (show Box w1 w.heap.size [.slice A n c] by rw [hw1]; exact Box.new w [.slice A n c] 35)
  have HB := hid (show Below w.heap.size w w1 by rw [hw1]; exact below_new _ _)
  have HA := hid (HA.out.below HB.out)
  clear hw1
  generalize hg : w.heap.size = g at *
  go_wp2_with fail
  go_loopw [3] (fun i wr => ∃ (k : Nat), i = .int .i64 k ∧ k ≤ n ∧ k ≤ 9 ∧ Hid (∀ a ∈ r.take k, a.length ≤ 8 ∧ ∀ c ∈ a, c.v.pre.size ≤ 60 ∧ c.v.bld.size ≤ 60) ∧ Hid (Below w1.heap.size w1 wr)) (fun i _ => n - (intOf i).toNat)
  case atStart => exact ⟨0, rfl, Nat.zero_le _, by omega, hid (fun a ha => by simp at ha), hid (Below.refl _ _)⟩
  case round =>
    obtain ⟨k, rfl, hk, hk9, HT, HB1⟩ := hrel
    have HBW := hid (tr_g hg HB.out HB1.out)
    have x0 := (HX.out.below HB1.out).2 0 _ rfl
    have xl := (HX.out.below HB1.out).1
    by_cases hlt : k < n
    · have hlt' : k < r.length := by rw [HN.out]; exact hlt
      obtain ⟨b, off, Ai, ci, hA, hbl, hcell, hcs⟩ := HA.out.at_ hlt'
      subst hA
      have hcell' := HB1.out.cell (p := ⟨b, off + k, none⟩) hbl
      rw [hcell] at hcell'
      have HCS := hid hcs
      have HHC := hid hcell
      have hbr : b < wr.heap.size := Nat.lt_of_lt_of_le hbl HB1.out.size
      have ham := HMM.out _ (List.getElem_mem hlt')
      have HST := hid (List.take_succ_eq_append_getElem hlt')
      clear hcell hcs
      generalize r[k] = a at *
      generalize hm : a.length = m at *
      have HM := hid hm
      clear hm
      have i0 : (0 : Int) ≤ (k : Int) := by omega
      have i1 : (k : Int) < (n : Int) := by omega
      by_cases hk8 : k ≤ 8
      · have b1 : ¬ (8 : Int) < (k : Int) := by omega
        by_cases hm8 : m ≤ 8
        · have b2 : ¬ (8 : Int) < (m : Int) := by omega
          go_upto_block 2 with fail
          go_wp2_with fail
          go_loopw [4] (fun i ur => ∃ (j : Nat), i = .int .i64 j ∧ j ≤ m ∧ Hid (∀ c ∈ a.take j, c.v.pre.size ≤ 60 ∧ c.v.bld.size ≤ 60) ∧ Hid (Below w1.heap.size w1 ur)) (fun i _ => m - (intOf i).toNat)
          case atStart => exact ⟨0, rfl, Nat.zero_le _, hid (fun c hc => by simp at hc), HB1⟩
          case round =>
            rename World => ur
            obtain ⟨j, rfl, hj, HU, HB2⟩ := hrel
            have HBU := hid (tr_g hg HB.out HB2.out)
            have x0 := (HX.out.below HB2.out).2 0 _ rfl
            have xl2 := (HX.out.below HB2.out).1
            have hcell' := (HB2.out.cell (p := ⟨b, off + k, none⟩) hbl).trans HHC.out
            have hbu : b < ur.heap.size := Nat.lt_of_lt_of_le hbl HB2.out.size
            by_cases hlj : j < m
            · have hlj' : j < a.length := by rw [HM.out]; exact hlj
              have j0 : (0 : Int) ≤ (j : Int) := by omega
              have j1 : (j : Int) < (m : Int) := by omega
              obtain ⟨b2', off2, hAi, hbl2, hrow⟩ := (Lies.below HCS.out HB2.out).at7 hlj'
              subst hAi
              have HSU := hid (List.take_succ_eq_append_getElem hlj')
              generalize a[j] = x at *
              obtain ⟨c0, c1, c2, c3, c4, c5, c6⟩ := hrow
              clear c0 c1 c2 c3 c4
              by_cases hp : x.v.pre.size ≤ 60
              · have p1 : ¬ (60 : Int) < (x.v.pre.size : Int) := by omega
                by_cases hbs : x.v.bld.size ≤ 60
                · have p2 : ¬ (60 : Int) < (x.v.bld.size : Int) := by omega
                  go_wp2_with fail
                  go_roundw
                  case rel => exact ⟨j + 1, by go_num, by omega, hid (fun c hc => by
                    rw [HSU.out] at hc
                    rcases List.mem_append.1 hc with h | h
                    · exact HU.out c h
                    · rw [List.mem_singleton.1 h]; exact ⟨hp, hbs⟩), HB2⟩
                  case measure => simp [intOf]; omega
                · have p2 : (60 : Int) < (x.v.bld.size : Int) := by omega
                  go_wp2_with fail
                  go_ret
                  exact ⟨false, rfl, (fun h => by cases h), HBU.out⟩
              · have p1 : (60 : Int) < (x.v.pre.size : Int) := by omega
                go_wp2_with fail
                go_ret
                exact ⟨false, rfl, (fun h => by cases h), HBU.out⟩
            · obtain rfl : j = m := by omega
              have hge : ¬ (j : Int) < (j : Int) := by omega
              have HUA := hid (show ∀ c ∈ a, c.v.pre.size ≤ 60 ∧ c.v.bld.size ≤ 60 by
                have := HU.out
                rwa [List.take_of_length_le (by rw [HM.out]; exact Nat.le_refl _)] at this)
              have HM8 := hid hm8
              go_wp2_with fail
              go_roundw
              case rel => exact ⟨k + 1, by go_num, by omega, by omega, hid (fun x hx => by
                rw [HST.out] at hx
                rcases List.mem_append.1 hx with h | h
                · exact HT.out x h
                · rw [List.mem_singleton.1 h]; exact ⟨by rw [HM.out]; exact HM8.out, HUA.out⟩), HB2⟩
              case measure => simp [intOf]; omega
        · have b2 : (8 : Int) < (m : Int) := by omega
          go_wp2_with fail
          go_ret
          exact ⟨false, rfl, (fun h => by cases h), HBW.out⟩
      · have b1 : (8 : Int) < (k : Int) := by omega
        go_wp2_with fail
        go_ret
        exact ⟨false, rfl, (fun h => by cases h), HBW.out⟩
    · obtain rfl : k = n := by omega
      have hge : ¬ (k : Int) < (k : Int) := by omega
      have HFB := hid (show FewB r from ⟨by rw [HN.out]; exact hk9, by
        have := HT.out
        rwa [List.take_of_length_le (by rw [HN.out]; exact Nat.le_refl _)] at this⟩)
      go_wp2_with fail
      go_ret
      exact ⟨true, rfl, fun _ => HFB.out, HBW.out⟩
set_option maxRecDepth 100000 in
set_option maxHeartbeats 4000000 in
theorem holds7_any (A : Option Addr) (c : Nat) (l : List CompL) (v : Ver) (w : World) (h : Comps w A l) (hf : ∀ x ∈ l, CompL.fit x) (hv : v.fit) (hn : l.length ≤ 4398046511104) : Calls Tryz.prog 36 #[.slice A l.length c, v.val] w (BoolPost w (l.all fun x => hasR (regionX x) v)) := by
  have HF := hid hf
  have HA := hid h
  have HV := hid hv
  clear hf h hv
  generalize hn2 : l.length = n at *
  have HN := hid hn2
  clear hn2
  go_enter Tryz.func36, Tryz.ntmps36
  go_upto_block 0 with fail
  refine wp_name ?_
  intro w1 hw1
  have HX := hid (show Box w1 w.heap.size v.cells by rw [hw1]; exact Box.new w v.cells 46)
  have HB := hid (show Below w.heap.size w w1 by rw [hw1]; exact below_new _ _)
  have HA := hid (Lies.below HA.out HB.out)
  clear hw1
  generalize hg : w.heap.size = g at *
  go_wp2_with fail
  go_loopw [5] (fun i wr => ∃ (k : Nat), i = .int .i64 k ∧ k ≤ n ∧ Hid ((l.take k).all (fun x => hasR (regionX x) v) = true) ∧ Hid (Below w1.heap.size w1 wr)) (fun i _ => n - (intOf i).toNat)
  case atStart => exact ⟨0, rfl, Nat.zero_le _, hid (by simp), hid (Below.refl _ _)⟩
  case round =>
    obtain ⟨k, rfl, hk, HT, HB1⟩ := hrel
    by_cases hlt : k < n
    · have hlt' : k < l.length := by rw [HN.out]; exact hlt
      obtain ⟨b, off, hA, hbl, hrow⟩ := HA.out.at7 hlt'
      subst hA
      have HR := hid (fun u (hb : Below w1.heap.size w1 u) => row7_below hrow hbl hb)
      have HCF := hid (HF.out _ (List.getElem_mem hlt'))
      have HST := hid (fun h => all_take (p := fun x => hasR (regionX x) v) hlt' HT.out h)
      have HNO := hid (show hasR (regionX l[k]) v = false → (l.all fun x => hasR (regionX x) v) = false from fun h => by
        rw [List.all_eq_false]
        exact ⟨_, List.getElem_mem hlt', by simp [h]⟩)
      clear hrow
      try dsimp only at HST
      generalize l[k] = x at *
      have HRG := hid (regionX_good HCF.out)
      have i0 : (0 : Int) ≤ (k : Int) := by omega
      have i1 : (k : Int) < (n : Int) := by omega
      have HBR := hid (fun u => rregion_any x u HCF.out)
      have HHAS := hid (fun u (A3 : Option Addr) (c3 : Nat) (hs : Spans u A3 (regionX x)) => rrowhas_any A3 c3 (regionX x) v u hs HRG.out.1 (by have := HRG.out.2; omega) HV.out)
      generalize hasR (regionX x) v = hb at *
      generalize hr : (regionX x).length = nr at *
      have HNR := hid hr
      clear hr
      go_upto_region 4 with fail
      have hS : Below w1.heap.size w1 wr.drew := HB1.out.drew
      refine wp_planS (fun u => Below w1.heap.size w1 u) (.call [0, 1, 2, 3, 5] 4 (.call [] 6 (.last [7]))) (by first | assumption | skip) (by kernel_rfl) (by intro _ _ d _ _ h; cases d <;> exact h) (by kernel_rfl) ?_
      have iS : Nonempty (SW fun u => Below w1.heap.size w1 u) := ⟨⟨_, hS⟩⟩
      have q0 := fun (z : SW fun u => Below w1.heap.size w1 u) => (HX.out.below z.ok).get5.1
      have q1 := fun (z : SW fun u => Below w1.heap.size w1 u) => (HX.out.below z.ok).get5.2.1
      have q2 := fun (z : SW fun u => Below w1.heap.size w1 u) => (HX.out.below z.ok).get5.2.2.1
      have q3 := fun (z : SW fun u => Below w1.heap.size w1 u) => (HX.out.below z.ok).get5.2.2.2.1
      have q4 := fun (z : SW fun u => Below w1.heap.size w1 u) => (HX.out.below z.ok).get5.2.2.2.2
      have a0 := fun (z : SW fun u => Below w1.heap.size w1 u) => (HR.out z.v z.ok).1
      have a1 := fun (z : SW fun u => Below w1.heap.size w1 u) => (HR.out z.v z.ok).2.1
      have a2 := fun (z : SW fun u => Below w1.heap.size w1 u) => (HR.out z.v z.ok).2.2.1
      have a3 := fun (z : SW fun u => Below w1.heap.size w1 u) => (HR.out z.v z.ok).2.2.2.1
      have a4 := fun (z : SW fun u => Below w1.heap.size w1 u) => (HR.out z.v z.ok).2.2.2.2.1
      have a5 := fun (z : SW fun u => Below w1.heap.size w1 u) => (HR.out z.v z.ok).2.2.2.2.2.1
      have a6 := fun (z : SW fun u => Below w1.heap.size w1 u) => (HR.out z.v z.ok).2.2.2.2.2.2
      refine plan_call ?_
      simp only [pickOps, List.map_cons, List.map_nil, List.getElem?_toArray, List.getElem?_cons_zero, List.getElem?_cons_succ, Option.getD_some]
      repeat go_big_quiet_step (fail)
      refine wpQuiet_nil ?_
      go_wp2_with fail
      refine (HBR.out _).mono ?_
      rintro _ u1 ⟨A3, c3, he, hs3, hb1⟩
      rw [HNR.out] at he
      subst he
      have HB2 := hid (Below.trans hS (hb1.mono hS.size))
      have HS3 := hid hs3.1
      clear hb1 hs3
      go_wp2_with fail
      refine plan_onS (HB2.out) ?_
      refine plan_call ?_
      simp only [pickOps, List.map_cons, List.map_nil, List.getElem?_toArray, List.getElem?_cons_zero, List.getElem?_cons_succ, Option.getD_some]
      repeat go_big_quiet_step (fail)
      refine wpQuiet_nil ?_
      go_wp2_with fail
      refine (HHAS.out _ A3 c3 HS3.out).mono ?_
      rintro _ u2 ⟨rfl, hb2⟩
      have HB3 := hid (Below.trans HB2.out (hb2.mono HB2.out.size))
      clear hb2
      go_wp2_with fail
      refine plan_onS (HB3.out) ?_
      refine plan_last ?_
      simp only [pickOps, List.map_cons, List.map_nil, List.getElem?_toArray, List.getElem?_cons_zero, List.getElem?_cons_succ, Option.getD_some]
      repeat go_big_quiet_step (fail)
      refine wpQuiet_nil ?_
      clear q0 q1 q2 q3 q4 a0 a1 a2 a3 a4 a5 a6
      have HBW := hid (tr_g hg HB.out HB3.out)
      cases hb
      · have HE := hid (HNO.out rfl)
        go_wp2_with fail
        go_ret
        exact ⟨by rw [HE.out]; rfl, HBW.out⟩
      · have HE := hid (HST.out rfl)
        go_wp2_with fail
        go_roundw
        case rel => exact ⟨k + 1, by go_num, by omega, HE, HB3⟩
        case measure => simp [intOf]; omega
    · obtain rfl : k = n := by omega
      have hge : ¬ (k : Int) < (k : Int) := by omega
      have HE := hid (show (l.all fun x => hasR (regionX x) v) = true by
        have := HT.out
        rwa [List.take_of_length_le (by rw [HN.out]; exact Nat.le_refl _)] at this)
      go_wp2_with fail
      go_ret
      exact ⟨by rw [HE.out]; rfl, tr_g hg HB.out HB1.out⟩
theorem any_take {α : Type} {p : α → Bool} {l : List α} {k : Nat} (h : k < l.length) (ha : (l.take k).any p = false) (hp : p l[k] = false) : (l.take (k + 1)).any p = false := by
  rw [List.take_succ_eq_append_getElem h, List.any_append, ha]; simp [hp]
set_option maxRecDepth 100000 in
set_option maxHeartbeats 4000000 in
theorem ahead7_any (A : Option Addr) (c : Nat) (l : List CompL) (v : Ver) (w : World) (h : Comps w A l) (hn : l.length ≤ 4398046511104) : Calls Tryz.prog 37 #[.slice A l.length c, v.val] w (BoolPost w (l.any (aheadX v))) := by
  have HA := hid h
  clear h
  generalize hn2 : l.length = n at *
  have HN := hid hn2
  clear hn2
  go_enter Tryz.func37, Tryz.ntmps37
  go_upto_block 0 with fail
  refine wp_name ?_
  intro w1 hw1
  have HX := hid (show Box w1 w.heap.size v.cells by rw [hw1]; exact Box.new w v.cells 46)
  have HB := hid (show Below w.heap.size w w1 by rw [hw1]; exact below_new _ _)
  have HA := hid (Lies.below HA.out HB.out)
  clear hw1
  generalize hg : w.heap.size = g at *
  go_wp2_with fail
  go_loopw [5] (fun i wr => ∃ (k : Nat), i = .int .i64 k ∧ k ≤ n ∧ Hid ((l.take k).any (aheadX v) = false) ∧ Hid (Below w1.heap.size w1 wr)) (fun i _ => n - (intOf i).toNat)
  case atStart => exact ⟨0, rfl, Nat.zero_le _, hid (by simp), hid (Below.refl _ _)⟩
  case round =>
    obtain ⟨k, rfl, hk, HT, HB1⟩ := hrel
    by_cases hlt : k < n
    · have hlt' : k < l.length := by rw [HN.out]; exact hlt
      obtain ⟨b, off, hA, hbl, hrow⟩ := (Lies.below HA.out HB1.out).at7 hlt'
      subst hA
      have HST := hid (fun h => any_take (p := aheadX v) hlt' HT.out h)
      have HYES := hid (show aheadX v l[k] = true → l.any (aheadX v) = true from fun h => by
        rw [List.any_eq_true]
        exact ⟨_, List.getElem_mem hlt', h⟩)
      have HAX := hid (show aheadX v l[k] = (!(bts l[k].v.pre).isEmpty && decide (l[k].v.maj = v.maj) && decide (l[k].v.min = v.min) && decide (l[k].v.pat = v.pat)) from rfl)
      generalize l[k] = x at *
      generalize aheadX v x = ax at *
      have i0 : (0 : Int) ≤ (k : Int) := by omega
      have i1 : (k : Int) < (n : Int) := by omega
      have HBW := hid (tr_g hg HB.out HB1.out)
      obtain ⟨c0, c1, c2, c3, c4, c5, c6⟩ := hrow
      go_upto_region 5 with fail
      refine wp_name ?_
      intro u1 hu1
      have HZ := hid (show Box u1 wr.heap.size x.v.cells by rw [hu1]; exact Box.new wr x.v.cells 46)
      have HXU := hid (show Box u1 g v.cells by rw [hu1]; exact (HX.out.below HB1.out).below (below_new _ _))
      have HBU := hid (show Below wr.heap.size wr u1 by rw [hu1]; exact below_new _ _)
      clear hu1 c0 c1 c2 c3 c4 c5 c6
      have HB2 := hid (below_tr HB1.out HBU.out)
      have HBW2 := hid (below_tr HBW.out HBU.out)
      obtain ⟨z0, z1, z2, z3, z4⟩ := HZ.out.get5
      obtain ⟨x0, x1, x2, x3, x4⟩ := HXU.out.get5
      have zl := HZ.out.1
      have xl := HXU.out.1
      have yes : ax = true → ∀ (P : Prop), (l.any (aheadX v) = true → P) → P := fun h P hp => hp (HYES.out h)
      rcases str_case x.v.pre with ⟨e4, n4⟩ | e4
      · by_cases h1 : x.v.maj = v.maj
        · have d1 : (x.v.maj == v.maj) = true := by rw [beq_iff_eq]; exact h1
          by_cases h2 : x.v.min = v.min
          · have d2 : (x.v.min == v.min) = true := by rw [beq_iff_eq]; exact h2
            by_cases h3 : x.v.pat = v.pat
            · have d3 : (x.v.pat == v.pat) = true := by rw [beq_iff_eq]; exact h3
              have HE := hid (HYES.out (by rw [HAX.out, bts, e4, decide_eq_true h1, decide_eq_true h2, decide_eq_true h3]; rfl))
              clear h1 h2 h3
              go_wp2_with fail
              go_ret
              exact ⟨by rw [HE.out]; rfl, HBW2.out⟩
            · have d3 : (x.v.pat == v.pat) = false := by rw [beq_eq_false_iff_ne]; exact h3
              have HE := hid (HST.out (by rw [HAX.out, decide_eq_false h3, Bool.and_false]))
              clear h1 h2 h3
              go_wp2_with fail
              go_roundw
              case rel => exact ⟨k + 1, by go_num, by omega, HE, HB2⟩
              case measure => simp [intOf]; omega
          · have d2 : (x.v.min == v.min) = false := by rw [beq_eq_false_iff_ne]; exact h2
            have HE := hid (HST.out (by rw [HAX.out, decide_eq_false h2, Bool.and_false, Bool.false_and]))
            clear h1 h2
            go_wp2_with fail
            go_roundw
            case rel => exact ⟨k + 1, by go_num, by omega, HE, HB2⟩
            case measure => simp [intOf]; omega
        · have d1 : (x.v.maj == v.maj) = false := by rw [beq_eq_false_iff_ne]; exact h1
          have HE := hid (HST.out (by rw [HAX.out, decide_eq_false h1, Bool.and_false, Bool.false_and, Bool.false_and]))
          clear h1
          go_wp2_with fail
          go_roundw
          case rel => exact ⟨k + 1, by go_num, by omega, HE, HB2⟩
          case measure => simp [intOf]; omega
      · have HE := hid (HST.out (by rw [HAX.out, bts, e4]; rfl))
        go_wp2_with fail
        go_roundw
        case rel => exact ⟨k + 1, by go_num, by omega, HE, HB2⟩
        case measure => simp [intOf]; omega
    · obtain rfl : k = n := by omega
      have hge : ¬ (k : Int) < (k : Int) := by omega
      have HE := hid (show l.any (aheadX v) = false by
        have := HT.out
        rwa [List.take_of_length_le (by rw [HN.out]; exact Nat.le_refl _)] at this)
      go_wp2_with fail
      go_ret
      exact ⟨by rw [HE.out]; rfl, tr_g hg HB.out HB1.out⟩
end Go.Proofs.YtplmlahpmnjneaaGreatDoor
