import Derived.Test.YtplmlahpmnjneaaGreatDoorNDf
import Derived.Test.YtplmlahpmnjneaaGreatDoorNCi
namespace Go.Proofs.YtplmlahpmnjneaaGreatDoor
open Go.RowKit Go.Lib
open Rw
set_option linter.unusedVariables false
set_option linter.unusedSimpArgs false
def OwnT (w : World) (base : Nat) (v : Value) (ds : List ByteArray) : Prop := w.ownsRow base 9 1 v ds.length (ds.map Value.string)
section
variable {w w' : World} {base : Nat} {v : Value} {ds : List ByteArray}
theorem OwnT.nil : OwnT w base (.slice none 0 0) [] := World.ownsRow_nil _ _ _ _
theorem OwnT.kb (h : OwnT w base v ds) (hb : KB w.heap.size w w') : OwnT w' base v ds := row_kb h hb
theorem OwnT.snoc {p : ByteArray} {v' : Value} (h : w'.ownsRow base 9 1 v' (ds.length + 1) (ds.map Value.string ++ [.string p])) : OwnT w' base v' (ds ++ [p]) := by
  unfold OwnT
  rw [List.length_append, List.map_append]
  simpa using h
theorem OwnT.box (h : OwnT w base v ds) (h0 : 0 < ds.length) : ∃ g cap, v = .slice (some ⟨g, 0, none⟩) ds.length cap ∧ Box w g (ds.map Value.string) ∧ ds.length ≤ cap ∧ base ≤ g := by
  obtain ⟨g, cap, hv, hg, hlt, hc, hcell⟩ := own_form h h0
  refine ⟨g, cap, hv, ⟨hlt, fun j u hj => ?_⟩, hc, hg⟩
  have hjl : j < ds.length * 1 := by
    rcases Nat.lt_or_ge j ds.length with h | h
    · omega
    · rw [List.getElem?_eq_none (by rw [List.length_map]; exact h)] at hj; cases hj
  rw [hcell j hjl]; exact hj
end
theorem map_take_snoc {α : Type} {g : α → List UInt8} {l : List α} {ds : List ByteArray} {k : Nat} {p : ByteArray} (h : ds.map bts = (l.map g).take k) (hk : k < l.length) (hp : bts p = g l[k]) : (ds ++ [p]).map bts = (l.map g).take (k + 1) := by
  rw [List.take_succ_eq_append_getElem (by rw [List.length_map]; exact hk), List.map_append, h, List.getElem_map, List.map_cons, List.map_nil, hp]
theorem map_take_all {α : Type} {g : α → List UInt8} {l : List α} {ds : List ByteArray} {k : Nat} (h : ds.map bts = (l.map g).take k) (hk : l.length ≤ k) : ds.map bts = l.map g := by
  rw [h, List.take_of_length_le (by rw [List.length_map]; exact hk)]
def TxtK (w : World) (r : List (List CompL)) (e : Ending) (w' : World) : Prop := ∃ t : ByteArray, e = .returned (.tuple #[.string t, .bool (fewG r)]) ∧ bts t = (if fewG r then rangeT r else []) ∧ KB w.heap.size w w'
theorem txt_none {w w' : World} {r : List (List CompL)} (hf : fewG r = false) (h : KB w.heap.size w w') : TxtK w r (.returned (.tuple #[.string ⟨#[]⟩, .bool false])) w' := ⟨⟨#[]⟩, by rw [hf], by rw [hf]; exact bts_lit [], h⟩
theorem kb_g {w w1 w2 : World} {g : Nat} (hg : w.heap.size = g) (h : KB g w w1) (k : KB w1.heap.size w1 w2) : KB w.heap.size w w2 := by subst hg; exact kb_tr h k
set_option maxRecDepth 100000 in
set_option maxHeartbeats 8000000 in
theorem text_any (A : Option Addr) (c : Nat) (r : List (List CompL)) (w : World) (hL : Laid w) (h : Alts w A r) (hf : fitG r) (hn : r.length ≤ 4398046511104) (hm : ∀ a ∈ r, a.length ≤ 4398046511104) : Calls Tryz.prog 59 #[rangeV A r.length c] w (TxtK w r) := by
  have HL := hid hL
  have HF := hid hf
  have HMM := hid hm
  have HA := hid h
  have HL0 := hid (fewG_long (r := r))
  have HY0 := hid (fewG_yes (r := r))
  have HFP := hid (fun h => few_parts (r := r) h)
  clear hf hm h hL
  have HLE := hn
  generalize hn2 : r.length = n at *
  have HN := hid hn2
  clear hn hn2
  go_enter Tryz.func59, Tryz.ntmps59
  go_upto_region 1 with fail
  refine wp_name ?_
  intro w1 hw1
  have HX := hid (show Box w1 w.heap.size [.slice A n c] by rw [hw1]; exact Box.new w [.slice A n c] 35)
  have HB := hid (show KB w.heap.size w w1 by rw [hw1]; exact kb_new _ _)
  have HA := hid (HA.out.kb HB.out)
  have HL := hid (HL.out.kb HB.out)
  clear hw1
  have x0 := HX.out.2 0 _ rfl
  have xl := HX.out.1
  by_cases hsm : 1 ≤ n ∧ n ≤ 6
  · have a1 : ¬ (n : Int) < 1 := by omega
    have a2 : ¬ (6 : Int) < (n : Int) := by omega
    go_upto_block 0 with fail
    clear x0 xl
    generalize hB : w1.heap.size = B at *
    generalize hg : w.heap.size = g at *
    go_wp2_with fail
    go_loopw [23, 4] (fun i vs wr => ∃ (k : Nat) (ds : List ByteArray) (v : Value), i = .int .i64 k ∧ v = vs ∧ k ≤ n ∧ ds.length = k ∧ Hid (ds.map bts = (r.map altT).take k) ∧ Hid ((r.take k).all fewA = true) ∧ Hid (OwnT wr B v ds) ∧ Hid (KB w1.heap.size w1 wr)) (fun i _ _ => n - (intOf i).toNat)
    case atStart => exact ⟨0, [], _, rfl, rfl, Nat.zero_le _, rfl, hid (by simp), hid (by simp), hid .nil, hid (kb_refl _)⟩
    case round =>
      obtain ⟨k, ds, v, rfl, rfl, hk, hdk, HD, HT, HO, HB1⟩ := hrel
      have HBW := hid (kb_g hg HB.out HB1.out)
      have hBr : B ≤ wr.heap.size := by have := HB1.out.size; omega
      by_cases hlt : k < n
      · have hlt' : k < r.length := by rw [HN.out]; exact hlt
        obtain ⟨b, off, Ai, ci, hA, hbl, hcell, hcs⟩ := (HA.out.kb HB1.out).at_ hlt'
        subst hA
        have HCS := hid hcs
        have HAF := hid (HF.out _ (List.getElem_mem hlt'))
        have ham := HMM.out _ (List.getElem_mem hlt')
        have HNO := hid (fewG_at hlt')
        have HST := hid (fun h => all_take hlt' HT.out h)
        have HDS := hid (fun p => map_take_snoc (g := altT) (p := p) HD.out hlt')
        clear hcs
        generalize r[k] = a at *
        have HL1 := hid (fewA_long (a := a))
        have HY1 := hid (fewA_yes (a := a))
        have HAL := hid (show (joinS commB (a.map printX)).length ≤ 62 * a.length from altT_len a)
        generalize hm : a.length = m at *
        have HM := hid hm
        clear hm
        have i0 : (0 : Int) ≤ (k : Int) := by omega
        have i1 : (k : Int) < (n : Int) := by omega
        by_cases hsa : 1 ≤ m ∧ m ≤ 6
        · have b1 : ¬ (m : Int) < 1 := by omega
          have b2 : ¬ (6 : Int) < (m : Int) := by omega
          go_upto_block 2 with fail
          clear hcell
          go_wp2_with fail
          go_loopw [37, 7] (fun i vs ur => ∃ (j : Nat) (ps : List ByteArray) (va : Value), i = .int .i64 j ∧ va = vs ∧ j ≤ m ∧ ps.length = j ∧ Hid (ps.map bts = (a.map printX).take j) ∧ Hid ((a.take j).all mayX = true) ∧ Hid (OwnT ur wr.heap.size va ps) ∧ Hid (KB wr.heap.size wr ur)) (fun i _ _ => m - (intOf i).toNat)
          case atStart => exact ⟨0, [], _, rfl, rfl, Nat.zero_le _, rfl, hid (by simp), hid (by simp), hid .nil, hid (kb_refl _)⟩
          case round =>
            rename World => ur
            obtain ⟨j, ps, va, rfl, rfl, hj, hpj, HP, HU, HOU, HB2⟩ := hrel
            have hBu := HB2.out.size
            by_cases hlj : j < m
            · have hlj' : j < a.length := by rw [HM.out]; exact hlj
              have j0 : (0 : Int) ≤ (j : Int) := by omega
              have j1 : (j : Int) < (m : Int) := by omega
              obtain ⟨b2', off2, hAi, hbl2, hrow⟩ := (Lies.kb HCS.out HB2.out).at7 hlj'
              subst hAi
              have HCF := hid (HAF.out _ (List.getElem_mem hlj'))
              have HNA := hid (fewA_at hlj')
              have HSU := hid (fun h => all_take hlj' HU.out h)
              have HPS := hid (fun p => map_take_snoc (g := printX) (p := p) HP.out hlj')
              generalize a[j] = x at *
              obtain ⟨c0, c1, c2, c3, c4, c5, c6⟩ := hrow
              go_upto_region 13 with fail
              refine wp_name ?_
              intro u1 hu1
              have HXX := hid (show Box u1 ur.heap.size x.cells by rw [hu1]; exact Box.new ur x.cells 52)
              have HB3 := hid (show KB wr.heap.size wr u1 by rw [hu1]; exact kb_tr HB2.out (kb_new _ _))
              have HOU := hid (show OwnT u1 wr.heap.size va ps by rw [hu1]; exact HOU.out.kb (kb_new _ _))
              clear hu1 c0 c1 c2 c3 c4 c5 c6
              obtain ⟨x0, x1, x2, x3, x4, x5, x6⟩ := HXX.out.get7
              have xl := HXX.out.1
              have HMX := hid (fun u => xmay_any x u HCF.out)
              go_wp2_with fail
              refine (HMX.out _).mono ?_
              rintro _ u2 ⟨rfl, hb⟩
              have HB4 := hid (kb_tr HB3.out hb.kb)
              have HOU := hid (HOU.out.kb hb.kb)
              have HXX := hid (HXX.out.below hb)
              clear hb x0 x1 x2 x3 x4 x5 x6 xl HMX
              cases hmx : mayX x
              · have HE := hid (HNO.out (HNA.out hmx))
                go_wp2_with fail
                go_ret2
                exact txt_none HE.out (kb_tr HBW.out HB4.out)
              · have HE := hid (HSU.out hmx)
                obtain ⟨x0, x1, x2, x3, x4, x5, x6⟩ := HXX.out.get7
                have xl := HXX.out.1
                have HPX := hid (fun u hu => xprint_any x u hu HCF.out)
                have HLU := hid ((HL.out.kb HB1.out).kb HB4.out)
                go_wp2_with fail
                refine (HPX.out _ HLU.out).mono ?_
                rintro _ u3 ⟨p, rfl, hp, hb⟩
                have HPP := hid (HPS.out p hp)
                have HB5 := hid (kb_tr HB4.out hb.kb)
                have HOU := hid (HOU.out.kb hb.kb)
                clear hb x0 x1 x2 x3 x4 x5 x6 xl HPX hp
                have hsz := HB5.out.size
                go_wp2_with (first | (at_builtin; refine wpList_app1g EKstrs rfl (.tmp 44) (.tmp 47) rfl [.string p] HOU.out rfl rfl rfl (one1 _ rfl) (by unfold maxLen; omega) (by omega) hsz ?_; intro v' w' h2 h3 h4))
                go_roundw
                case rel => exact ⟨j + 1, ps ++ [p], _, by go_num, rfl, by omega, by rw [List.length_append, hpj]; rfl, HPP, HE, hid (OwnT.snoc h2), hid (Go.RowKit.Below.trans HB5.out h3.kb)⟩
                case measure => simp [intOf]; omega
            · obtain rfl : j = m := by omega
              have hge : ¬ (j : Int) < (j : Int) := by omega
              have HE := hid (HST.out (HY1.out hsa HU.out))
              have HPA := hid (map_take_all (g := printX) HP.out (by rw [HM.out]; exact Nat.le_refl _))
              obtain ⟨gq, cap, rfl, hbq, hcq, -⟩ := HOU.out.box (by omega)
              have HBQ := hid hbq
              have HJ := hid (sjoin_any gq cap ps ⟨#[44, 32]⟩ ur hbq hcq (by omega) (by rw [bts_comm, HPA.out]; have := HAL.out; omega))
              rw [bts_comm, HPA.out] at HJ
              have HOW := hid (HO.out.kb HB2.out)
              clear hbq
              generalize hpl : ps.length = pl at *
              subst hpj
              go_wp2_with fail
              refine HJ.out.mono ?_
              rintro _ u1 ⟨t, rfl, ht, hb⟩
              have HDT := hid (HDS.out t ht)
              have HB3 := hid (kb_tr HB2.out hb)
              have HOW := hid (HOW.out.kb hb)
              have hsz := HB3.out.size
              have hszB : B ≤ u1.heap.size := by omega
              have HB4 := hid (kb_tr HB1.out HB3.out)
              clear hb ht
              go_wp2_with (first | (at_builtin; refine wpList_app1g EKstrs rfl (.tmp 50) (.tmp 53) rfl [.string t] HOW.out rfl rfl rfl (one1 _ rfl) (by unfold maxLen; omega) (by omega) hszB ?_; intro v' w' h2 h3 h4))
              go_roundw
              case rel => exact ⟨k + 1, ds ++ [t], _, by go_num, rfl, by omega, by rw [List.length_append, hdk]; rfl, HDT, HE, hid (OwnT.snoc h2), hid (Go.RowKit.Below.trans HB4.out (by rw [hB]; exact h3.kb))⟩
              case measure => simp [intOf]; omega
        · have HE := hid (HNO.out (HL1.out hsa))
          by_cases hs0 : m < 1
          · have b1 : (m : Int) < 1 := by omega
            go_wp2_with fail
            go_ret2
            exact txt_none HE.out HBW.out
          · have b1 : ¬ (m : Int) < 1 := by omega
            have b2 : (6 : Int) < (m : Int) := by omega
            go_wp2_with fail
            go_ret2
            exact txt_none HE.out HBW.out
      · obtain rfl : k = n := by omega
        have hge : ¬ (k : Int) < (k : Int) := by omega
        have HE := hid (HY0.out hsm HT.out)
        have HPA := hid (map_take_all (g := altT) HD.out (by rw [HN.out]; exact Nat.le_refl _))
        obtain ⟨gq, cap, rfl, hbq, hcq, -⟩ := HO.out.box (by omega)
        have hlen := rangeT_len (HFP.out HE.out).2
        have hn6 := (HFP.out HE.out).1
        rw [HN.out] at hlen
        have HRT := hid (show joinS barsB (r.map altT) = rangeT r from rfl)
        have HJ := hid (sjoin_any gq cap ds ⟨#[32, 124, 124, 32]⟩ wr hbq hcq (by omega) (by rw [bts_bars, HPA.out, HRT.out]; omega))
        rw [bts_bars, HPA.out, HRT.out] at HJ
        clear hbq
        generalize hpl : ds.length = pl at *
        subst hdk
        go_wp2_with fail
        refine HJ.out.mono ?_
        rintro _ u1 ⟨t, rfl, ht, hb⟩
        have HTT := hid ht
        have HB3 := hid (kb_tr HBW.out hb)
        clear ht hb
        go_wp2_with fail
        go_ret2
        exact ⟨t, by rw [show fewG r = true from HE.out]; rfl, by rw [show fewG r = true from HE.out, if_pos rfl, HTT.out], HB3.out⟩
  · have HE := hid (HL0.out hsm)
    by_cases hs0 : n < 1
    · have b1 : (n : Int) < 1 := by omega
      go_wp2_with fail
      go_ret2
      exact txt_none HE.out HB.out
    · have b1 : ¬ (n : Int) < 1 := by omega
      have b2 : (6 : Int) < (n : Int) := by omega
      go_wp2_with fail
      go_ret2
      exact txt_none HE.out HB.out
set_option maxRecDepth 100000 in
set_option maxHeartbeats 2000000 in
theorem may7_any (A : Option Addr) (c : Nat) (r : List (List CompL)) (w : World) (hL : Laid w) (h : Alts w A r) (hf : fitG r) (hn : r.length ≤ 4398046511104) (hm : ∀ a ∈ r, a.length ≤ 4398046511104) : Calls Tryz.prog 28 #[rangeV A r.length c] w (BoolK w (mayG r)) := by
  have HTX := hid (fun u (hb : KB w.heap.size w u) => text_any A c r u (hL.kb hb) (h.kb hb) hf hn hm)
  have HMG := hid (show mayG r = (fewG r && decide ((rangeT r).length ≤ 96)) from rfl)
  have HB0 := hid (kb_new w (.cells #[.slice A r.length c] 35))
  clear h hf hn hm hL
  generalize r.length = n at *
  go_enter Tryz.func28, Tryz.ntmps28
  go_wp2_with fail
  refine (HTX.out _ HB0.out).mono ?_
  rintro _ w1 ⟨t, rfl, ht, hb⟩
  have HB := hid (kb_tr HB0.out hb)
  have HT := hid ht
  clear hb ht
  cases hfe : fewG r
  · rw [hfe] at HMG
    go_wp2_with fail
    go_ret
    exact ⟨by rw [HMG.out]; rfl, HB.out⟩
  · rw [hfe] at HMG HT
    have HTS := hid (show t.size = (rangeT r).length by rw [← bts_len, HT.out, if_pos rfl])
    clear hfe
    go_wp2_with fail
    go_ret
    refine ⟨?_, HB.out⟩
    rw [HMG.out, Bool.true_and, ← HTS.out]
    by_cases h96 : t.size ≤ 96 <;> simp [h96] <;> omega
end Go.Proofs.YtplmlahpmnjneaaGreatDoor
