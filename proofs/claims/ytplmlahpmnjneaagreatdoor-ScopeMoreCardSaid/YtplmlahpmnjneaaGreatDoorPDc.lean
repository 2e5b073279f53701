import Derived.Test.YtplmlahpmnjneaaGreatDoorPCt
import Derived.Test.YtplmlahpmnjneaaGreatDoorMCi
namespace Go.Proofs.YtplmlahpmnjneaaGreatDoor
open Go.RowKit Go.Lib
open Rw
set_option linter.unusedVariables false
set_option linter.unusedSimpArgs false
theorem tr_g {w w1 w2 : World} {g : Nat} (hg : w.heap.size = g) (h : Below g w w1) (k : Below w1.heap.size w1 w2) : Below w.heap.size w w2 := by subst hg; exact below_tr h k
abbrev barsB : List UInt8 := [32, 124, 124, 32]
abbrev commB : List UInt8 := [44, 32]
theorem bts_bars : bts (⟨#[32, 124, 124, 32]⟩ : ByteArray) = barsB := bts_lit [32, 124, 124, 32]
theorem bts_comm : bts (⟨#[44, 32]⟩ : ByteArray) = commB := bts_lit [44, 32]
theorem jt_alt {r : List (List CompL)} {k : Nat} (h : k < r.length) : jt barsB (r.map altT) (k + 1) = (jt barsB (r.map altT) k ++ if 0 < k then barsB else []) ++ altT r[k] := by
  rw [jt_step barsB (l := r.map altT) (k := k) (by rw [List.length_map]; exact h), List.getElem_map]
theorem jt_comp {a : List CompL} {k : Nat} (h : k < a.length) : jt commB (a.map printX) (k + 1) = (jt commB (a.map printX) k ++ if 0 < k then commB else []) ++ printX a[k] := by
  rw [jt_step commB (l := a.map printX) (k := k) (by rw [List.length_map]; exact h), List.getElem_map]
theorem jt_range (r : List (List CompL)) : jt barsB (r.map altT) r.length = rangeT r := by
  have := jt_all barsB (r.map altT)
  rw [List.length_map] at this
  exact this
theorem jt_altT (a : List CompL) : jt commB (a.map printX) a.length = altT a := by
  have := jt_all commB (a.map printX)
  rw [List.length_map] at this
  exact this
def Row7X (w : World) (b o : Nat) (c : CompL) : Prop := w.cell? ⟨b, o, none⟩ = some (.int .i64 c.op) ∧ w.cell? ⟨b, o + 1, none⟩ = some (.int .i64 c.parts) ∧ w.cell? ⟨b, o + 2, none⟩ = some (.int .i64 c.v.maj) ∧ w.cell? ⟨b, o + 3, none⟩ = some (.int .i64 c.v.min) ∧ w.cell? ⟨b, o + 4, none⟩ = some (.int .i64 c.v.pat) ∧ w.cell? ⟨b, o + 5, none⟩ = some (.string c.v.pre) ∧ w.cell? ⟨b, o + 6, none⟩ = some (.string c.v.bld)
theorem Lies.at7 {w : World} {A : Option Addr} {l : List CompL} {k : Nat} (h : Comps w A l) (hk : k < l.length) : ∃ b off, A = some ⟨b, off, none⟩ ∧ b < w.heap.size ∧ Row7X w b (off + k * 7) l[k] := by
  obtain ⟨b, off, hA, hl, hc⟩ := h.at_ hk
  exact ⟨b, off, hA, hl, hc 0 _ rfl, hc 1 _ rfl, hc 2 _ rfl, hc 3 _ rfl, hc 4 _ rfl, hc 5 _ rfl, hc 6 _ rfl⟩
set_option maxRecDepth 100000 in
set_option maxHeartbeats 4000000 in
theorem rtext_any (A : Option Addr) (c : Nat) (r : List (List CompL)) (w : World) (h : Alts w A r) (hf : fitG r) (h6 : r.length ≤ 6) (h66 : ∀ a ∈ r, a.length ≤ 6) : Calls Tryz.prog 65 #[rangeV A r.length c] w (StrPost w (rangeT r)) := by
  have HF := hid hf
  have H66 := hid h66
  have HA := hid h
  have HALL := hid (jt_range r)
  clear hf h66 h
  generalize hn : r.length = n at *
  have HN := hid hn
  clear hn
  go_enter Tryz.func65, Tryz.ntmps65
  go_upto_block 0 with fail
  refine wp_name ?_
  intro w1 hw1
  have HX := hid (show Box w1 w.heap.size [.slice A n c] by rw [hw1]; exact Box.new w [.slice A n c] 35)
  have HB := hid (show Below w.heap.size w w1 by rw [hw1]; exact below_new _ _)
  have HA := hid (HA.out.below HB.out)
  clear hw1
  generalize hg : w.heap.size = g at *
  go_wp2_with fail
  go_loopw [4, 3] (fun i s wr => ∃ (k : Nat) (t : ByteArray), i = .int .i64 k ∧ s = .string t ∧ k ≤ n ∧ t.size ≤ 400 * k ∧ Hid (bts t = jt barsB (r.map altT) k) ∧ Hid (Below w1.heap.size w1 wr)) (fun i _ _ => n - (intOf i).toNat)
  case atStart => exact ⟨0, _, rfl, rfl, Nat.zero_le _, Nat.zero_le _, hid (by rw [jt_0]; exact bts_lit []), hid (Below.refl _ _)⟩
  case round =>
    obtain ⟨k, t, rfl, rfl, hk, hts, HT, HB1⟩ := hrel
    have x0 := (HX.out.below HB1.out).2 0 _ rfl
    have xl := (HX.out.below HB1.out).1
    by_cases hlt : k < n
    · have hlt' : k < r.length := by rw [HN.out]; exact hlt
      obtain ⟨b, off, Ai, ci, hA, hbl, hcell, hcs⟩ := HA.out.at_ hlt'
      subst hA
      have hcell' := HB1.out.cell (p := ⟨b, off + k, none⟩) hbl
      rw [hcell] at hcell'
      have HCS := hid hcs
      have HHC := hid hcell
      have hbr : b < wr.heap.size := Nat.lt_of_lt_of_le hbl HB1.out.size
      have HAF := hid (HF.out _ (List.getElem_mem hlt'))
      have ha6 := H66.out _ (List.getElem_mem hlt')
      have HJ := hid (jt_alt hlt')
      clear hcell hcs
      generalize r[k] = a at *
      generalize hm : a.length = m at *
      have HM := hid hm
      clear hm
      have i0 : (0 : Int) ≤ (k : Int) := by omega
      have i1 : (k : Int) < (n : Int) := by omega
      go_upto_if 14 with fail
      go_cut [3] from 15 to 41 (fun s wx => ∃ t2 : ByteArray, s = .string t2 ∧ t2.size ≤ 400 * k + 4 ∧ Hid (bts t2 = jt barsB (r.map altT) k ++ if 0 < k then barsB else []) ∧ wx = wr)
      case first =>
        by_cases hk0 : k = 0
        · subst hk0
          go_wp2_with fail
          go_meet
          case rel => exact ⟨t, rfl, by omega, hid (by rw [HT.out]; simp), rfl⟩
        · have hkp : (0 : Int) < (k : Int) := by omega
          have HKP := hid (show 0 < k by omega)
          go_wp2_with fail
          go_meet
          case rel => exact ⟨_, rfl, by rw [ByteArray.size_append]; simp only [show (⟨#[32, 124, 124, 32]⟩ : ByteArray).size = 4 from rfl]; omega, hid (by rw [bts_append, HT.out, if_pos HKP.out, bts_bars]), rfl⟩
      case rest =>
        obtain ⟨t2, rfl, hts2, HT2, hwx⟩ := hcut
        subst hwx
        clear hcell' x0
        go_upto_block 2 with fail
        go_wp2_with fail
        go_loopw [5, 3] (fun i s ur => ∃ (j : Nat) (u : ByteArray), i = .int .i64 j ∧ s = .string u ∧ j ≤ m ∧ u.size ≤ 400 * k + 4 + 62 * j ∧ Hid (bts u = (jt barsB (r.map altT) k ++ if 0 < k then barsB else []) ++ jt commB (a.map printX) j) ∧ Hid (Below w1.heap.size w1 ur)) (fun i _ _ => m - (intOf i).toNat)
        case atStart => exact ⟨0, _, rfl, rfl, Nat.zero_le _, by omega, hid (by rw [HT2.out, jt_0, List.append_nil]), HB1⟩
        case round =>
          rename World => ur
          obtain ⟨j, u, rfl, rfl, hj, hus, HU, HB2⟩ := hrel
          have x0 := (HX.out.below HB2.out).2 0 _ rfl
          have xl2 := (HX.out.below HB2.out).1
          have hcell' := (HB2.out.cell (p := ⟨b, off + k, none⟩) hbl).trans HHC.out
          have hbu : b < ur.heap.size := Nat.lt_of_lt_of_le hbl HB2.out.size
          by_cases hlj : j < m
          · have hlj' : j < a.length := by rw [HM.out]; exact hlj
            have j0 : (0 : Int) ≤ (j : Int) := by omega
            have j1 : (j : Int) < (m : Int) := by omega
            obtain ⟨b2, off2, hAi, hbl2, hrow⟩ := (Lies.below HCS.out HB2.out).at7 hlj'
            subst hAi
            have HCF := hid (HAF.out _ (List.getElem_mem hlj'))
            have HJ2 := hid (jt_comp hlj')
            generalize a[j] = x at *
            obtain ⟨c0, c1, c2, c3, c4, c5, c6⟩ := hrow
            go_upto_if 28 with fail
            go_cut [3] from 29 to 41 (fun s wx => ∃ u2 : ByteArray, s = .string u2 ∧ u2.size ≤ 400 * k + 6 + 62 * j ∧ Hid (bts u2 = bts u ++ if 0 < j then commB else []) ∧ wx = ur)
            case first =>
              by_cases hj0 : j = 0
              · subst hj0
                go_wp2_with fail
                go_meet
                case rel => exact ⟨u, rfl, by omega, hid (by simp), rfl⟩
              · have hjp : (0 : Int) < (j : Int) := by omega
                have HJP := hid (show 0 < j by omega)
                go_wp2_with fail
                go_meet
                case rel => exact ⟨_, rfl, by rw [ByteArray.size_append]; simp only [show (⟨#[44, 32]⟩ : ByteArray).size = 2 from rfl]; omega, hid (by rw [bts_append, if_pos HJP.out, bts_comm]), rfl⟩
            case rest =>
              obtain ⟨u2, rfl, hus2, HU2, hwx⟩ := hcut
              subst hwx
              go_wp2_with fail
              refine (rxprint_any x _ HCF.out).mono ?_
              rintro _ w3 ⟨p, rfl, hp, hb⟩
              have HP := hid hp
              have hps : p.size ≤ 60 := by rw [← bts_len, hp]; exact printX_len x
              have HB3 := hid (below_tr HB2.out hb)
              clear hp hb x0 hcell' c0 c1 c2 c3 c4 c5 c6
              go_wp2_with fail
              go_roundw
              case rel => exact ⟨j + 1, _, by go_num, rfl, by omega, by rw [ByteArray.size_append]; omega, hid (by rw [bts_append, HU2.out, HU.out, HP.out, HJ2.out]; simp only [List.append_assoc]), HB3⟩
              case measure => simp [intOf]; omega
          · obtain rfl : j = m := by omega
            have hge : ¬ (j : Int) < (j : Int) := by omega
            go_wp2_with fail
            go_roundw
            case rel => exact ⟨k + 1, _, by go_num, rfl, by omega, by omega, hid (by rw [HU.out, HJ.out, ← jt_altT, HM.out]), HB2⟩
            case measure => simp [intOf]; omega
    · obtain rfl : k = n := by omega
      have hge : ¬ (k : Int) < (k : Int) := by omega
      go_wp2_with fail
      go_ret
      exact ⟨_, rfl, by rw [HT.out, HALL.out], tr_g hg HB.out HB1.out⟩
theorem fewA_at {a : List CompL} {k : Nat} (h : k < a.length) (hm : mayX a[k] = false) : fewA a = false := by
  rw [fewA, Bool.and_eq_false_iff]
  right
  rw [List.all_eq_false]
  exact ⟨_, List.getElem_mem h, by rw [hm]; simp⟩
theorem fewG_at {r : List (List CompL)} {k : Nat} (h : k < r.length) (hm : fewA r[k] = false) : fewG r = false := by
  rw [fewG, Bool.and_eq_false_iff]
  right
  rw [List.all_eq_false]
  exact ⟨_, List.getElem_mem h, by rw [hm]; simp⟩
theorem fewA_long {a : List CompL} (h : ¬ (1 ≤ a.length ∧ a.length ≤ 6)) : fewA a = false := by rw [fewA, decide_eq_false h]; rfl
theorem fewG_long {r : List (List CompL)} (h : ¬ (1 ≤ r.length ∧ r.length ≤ 6)) : fewG r = false := by rw [fewG, decide_eq_false h]; rfl
theorem all_take {α : Type} {p : α → Bool} {l : List α} {k : Nat} (h : k < l.length) (ha : (l.take k).all p = true) (hp : p l[k] = true) : (l.take (k + 1)).all p = true := by
  rw [List.take_succ_eq_append_getElem h, List.all_append, ha]; simp [hp]
theorem fewA_yes {a : List CompL} (h : 1 ≤ a.length ∧ a.length ≤ 6) (ha : (a.take a.length).all mayX = true) : fewA a = true := by rw [List.take_length] at ha; rw [fewA, ha, decide_eq_true h]; rfl
theorem fewG_yes {r : List (List CompL)} (h : 1 ≤ r.length ∧ r.length ≤ 6) (ha : (r.take r.length).all fewA = true) : fewG r = true := by rw [List.take_length] at ha; rw [fewG, ha, decide_eq_true h]; rfl
set_option maxRecDepth 100000 in
set_option maxHeartbeats 4000000 in
theorem rfew_any (A : Option Addr) (c : Nat) (r : List (List CompL)) (w : World) (h : Alts w A r) (hf : fitG r) (hn : r.length ≤ 4398046511104) (hm : ∀ a ∈ r, a.length ≤ 4398046511104) : Calls Tryz.prog 64 #[rangeV A r.length c] w (BoolPost w (fewG r)) := by
  have HF := hid hf
  have HMM := hid hm
  have HA := hid h
  have HL0 := hid (fewG_long (r := r))
  have HY0 := hid (fewG_yes (r := r))
  clear hf hm h
  have HLE := hn
  generalize hn2 : r.length = n at *
  have HN := hid hn2
  clear hn hn2
  by_cases hsm : 1 ≤ n ∧ n ≤ 6
  · go_enter Tryz.func64, Tryz.ntmps64
    have a1 : ¬ (n : Int) < 1 := by omega
    have a2 : ¬ (6 : Int) < (n : Int) := by omega
    go_upto_block 0 with fail
    refine wp_name ?_
    intro w1 hw1
    have HX := hid (show Box w1 w.heap.size [.slice A n c] by rw [hw1]; exact Box.new w [.slice A n c] 35)
    have HB := hid (show Below w.heap.size w w1 by rw [hw1]; exact below_new _ _)
    have HA := hid (HA.out.below HB.out)
    clear hw1
    generalize hg : w.heap.size = g at *
    go_wp2_with fail
    go_loopw [3] (fun i wr => ∃ (k : Nat), i = .int .i64 k ∧ k ≤ n ∧ Hid ((r.take k).all fewA = true) ∧ Hid (Below w1.heap.size w1 wr)) (fun i _ => n - (intOf i).toNat)
    case atStart => exact ⟨0, rfl, Nat.zero_le _, hid (by simp), hid (Below.refl _ _)⟩
    case round =>
      obtain ⟨k, rfl, hk, HT, HB1⟩ := hrel
      have HBW := hid (tr_g hg HB.out HB1.out)
      have x0 := (HX.out.below HB1.out).2 0 _ rfl
      have xl := (HX.out.below HB1.out).1
      by_cases hlt : k < n
      · have hlt' : k < r.length := by rw [HN.out]; exact hlt
        obtain ⟨b, off, Ai, ci, hA, hbl, hcell, hcs⟩ := HA.out.at_ hlt'
        subst hA
        have hcell' := HB1.out.cell (p := ⟨b, off + k, none⟩) hbl
        rw [hcell] at hcell'
        have HCS := hid hcs
        have HHC := hid hcell
        have hbr : b < wr.heap.size := Nat.lt_of_lt_of_le hbl HB1.out.size
        have HAF := hid (HF.out _ (List.getElem_mem hlt'))
        have ham := HMM.out _ (List.getElem_mem hlt')
        have HNO := hid (fewG_at hlt')
        have HST := hid (fun h => all_take hlt' HT.out h)
        clear hcell hcs
        generalize r[k] = a at *
        have HL1 := hid (fewA_long (a := a))
        have HY1 := hid (fewA_yes (a := a))
        generalize hm : a.length = m at *
        have HM := hid hm
        clear hm
        have i0 : (0 : Int) ≤ (k : Int) := by omega
        have i1 : (k : Int) < (n : Int) := by omega
        by_cases hsa : 1 ≤ m ∧ m ≤ 6
        · have b1 : ¬ (m : Int) < 1 := by omega
          have b2 : ¬ (6 : Int) < (m : Int) := by omega
          go_upto_block 2 with fail
          go_wp2_with fail
          go_loopw [4] (fun i ur => ∃ (j : Nat), i = .int .i64 j ∧ j ≤ m ∧ Hid ((a.take j).all mayX = true) ∧ Hid (Below w1.heap.size w1 ur)) (fun i _ => m - (intOf i).toNat)
          case atStart => exact ⟨0, rfl, Nat.zero_le _, hid (by simp), HB1⟩
          case round =>
            rename World => ur
            obtain ⟨j, rfl, hj, HU, HB2⟩ := hrel
            have HBU := hid (tr_g hg HB.out HB2.out)
            have x0 := (HX.out.below HB2.out).2 0 _ rfl
            have xl2 := (HX.out.below HB2.out).1
            have hcell' := (HB2.out.cell (p := ⟨b, off + k, none⟩) hbl).trans HHC.out
            have hbu : b < ur.heap.size := Nat.lt_of_lt_of_le hbl HB2.out.size
            by_cases hlj : j < m
            · have hlj' : j < a.length := by rw [HM.out]; exact hlj
              have j0 : (0 : Int) ≤ (j : Int) := by omega
              have j1 : (j : Int) < (m : Int) := by omega
              obtain ⟨b2', off2, hAi, hbl2, hrow⟩ := (Lies.below HCS.out HB2.out).at7 hlj'
              subst hAi
              have HCF := hid (HAF.out _ (List.getElem_mem hlj'))
              have HNA := hid (fewA_at hlj')
              have HSU := hid (fun h => all_take hlj' HU.out h)
              generalize a[j] = x at *
              obtain ⟨c0, c1, c2, c3, c4, c5, c6⟩ := hrow
              have HMX := hid (fun u => rxmay_any x u HCF.out)
              go_wp2_with fail
              refine (HMX.out _).mono ?_
              rintro _ w3 ⟨rfl, hb⟩
              have HB3 := hid (below_tr HB2.out hb)
              have HBW3 := hid (below_tr HBU.out hb)
              clear hb x0 hcell' c0 c1 c2 c3 c4 c5 c6 HMX
              cases hmx : mayX x
              · have HE := hid (HNO.out (HNA.out hmx))
                go_wp2_with fail
                go_ret
                exact ⟨by rw [show fewG r = false from HE.out]; rfl, HBW3.out⟩
              · have HE := hid (HSU.out hmx)
                go_wp2_with fail
                go_roundw
                case rel => exact ⟨j + 1, by go_num, by omega, HE, HB3⟩
                case measure => simp [intOf]; omega
            · obtain rfl : j = m := by omega
              have hge : ¬ (j : Int) < (j : Int) := by omega
              have HE := hid (HST.out (HY1.out hsa HU.out))
              go_wp2_with fail
              go_roundw
              case rel => exact ⟨k + 1, by go_num, by omega, HE, HB2⟩
              case measure => simp [intOf]; omega
        · have HE := hid (HNO.out (HL1.out hsa))
          by_cases hs0 : m < 1
          · have b1 : (m : Int) < 1 := by omega
            go_wp2_with fail
            go_ret
            exact ⟨by rw [show fewG r = false from HE.out]; rfl, HBW.out⟩
          · have b1 : ¬ (m : Int) < 1 := by omega
            have b2 : (6 : Int) < (m : Int) := by omega
            go_wp2_with fail
            go_ret
            exact ⟨by rw [show fewG r = false from HE.out]; rfl, HBW.out⟩
      · obtain rfl : k = n := by omega
        have hge : ¬ (k : Int) < (k : Int) := by omega
        have HE := hid (HY0.out hsm HT.out)
        go_wp2_with fail
        go_ret
        exact ⟨by rw [show fewG r = true from HE.out]; rfl, HBW.out⟩
  · have HE := hid (HL0.out hsm)
    by_cases hs0 : n < 1
    · have b1 : (n : Int) < 1 := by omega
      go_enter Tryz.func64, Tryz.ntmps64
      go_wp2_with fail
      go_ret
      exact ⟨by rw [show fewG r = false from HE.out]; rfl, below_new _ _⟩
    · have b1 : ¬ (n : Int) < 1 := by omega
      have b2 : (6 : Int) < (n : Int) := by omega
      go_enter Tryz.func64, Tryz.ntmps64
      go_wp2_with fail
      go_ret
      exact ⟨by rw [show fewG r = false from HE.out]; rfl, below_new _ _⟩
theorem few_parts {r : List (List CompL)} (h : fewG r = true) : r.length ≤ 6 ∧ ∀ a ∈ r, a.length ≤ 6 := by
  have := fewG_iff.1 h
  exact ⟨this.le, fun a ha => (this.may a ha).le⟩
set_option maxRecDepth 100000 in
set_option maxHeartbeats 2000000 in
theorem rmay7_any (A : Option Addr) (c : Nat) (r : List (List CompL)) (w : World) (h : Alts w A r) (hf : fitG r) (hn : r.length ≤ 4398046511104) (hm : ∀ a ∈ r, a.length ≤ 4398046511104) : Calls Tryz.prog 29 #[rangeV A r.length c] w (BoolPost w (mayG r)) := by
  have HFEW := hid (fun u (hb : Below w.heap.size w u) => rfew_any A c r u (h.below hb) hf hn hm)
  have HTX := hid (fun u (hb : Below w.heap.size w u) (h6 : fewG r = true) => rtext_any A c r u (h.below hb) hf (few_parts h6).1 (few_parts h6).2)
  have HMG := hid (show mayG r = (fewG r && decide ((rangeT r).length ≤ 96)) from rfl)
  have HB0 := hid (below_new w (.cells #[.slice A r.length c] 35))
  have HX0 := hid (Box.new w [.slice A r.length c] 35)
  clear h hf hn hm
  generalize r.length = n at *
  go_enter Tryz.func29, Tryz.ntmps29
  go_wp2_with fail
  refine (HFEW.out _ HB0.out).mono ?_
  rintro _ w1 ⟨rfl, hb⟩
  have HB := hid (below_tr HB0.out hb)
  have x0 := (HX0.out.below hb).2 0 _ rfl
  have xl := (HX0.out.below hb).1
  clear hb
  cases hfe : fewG r
  · rw [hfe] at HMG
    go_wp2_with fail
    go_ret
    exact ⟨by rw [HMG.out]; rfl, HB.out⟩
  · have HT := hid (HTX.out _ HB.out hfe)
    rw [hfe] at HMG
    clear hfe
    go_wp2_with fail
    refine HT.out.mono ?_
    rintro _ w2 ⟨t, rfl, ht, hb⟩
    have HB2 := hid (below_tr HB.out hb)
    have HTS := hid (show t.size = (rangeT r).length by rw [← ht, bts_len])
    clear ht hb x0 HT
    go_wp2_with fail
    go_ret
    refine ⟨?_, HB2.out⟩
    rw [HMG.out, Bool.true_and, ← HTS.out]
    by_cases h96 : t.size ≤ 96 <;> simp [h96] <;> omega
end Go.Proofs.YtplmlahpmnjneaaGreatDoor
namespace Go.Proofs.YtplmlahpmnjneaaGreatDoor
open Go.RowKit Go.Lib
open Rw
set_option linter.unusedVariables false
set_option linter.unusedSimpArgs false
theorem trimL_eq (l : List UInt8) (c : UInt8) : Lib.trimLeftB l c = l.dropWhile (· == c) := rfl
end Go.Proofs.YtplmlahpmnjneaaGreatDoor
