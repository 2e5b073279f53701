/- Contracts: tell.spans. -/
import Derived.Test.YtjceaniffooohaaGreatDoorTh
namespace Go.Proofs.YtjceaniffooohaaGreatDoor
open Go.RowKit Go.Lib
open Rw
set_option linter.unusedVariables false
set_option linter.unusedSimpArgs false

theorem splitK_len (sep : List UInt8) : ∀ (k : Nat) (s : List UInt8), ∀ p ∈ Lib.splitK sep 0 k s, p.length ≤ s.length
  | 0, s, p, hp => by simp [Lib.splitK] at hp; subst hp; omega
  | k + 1, s, p, hp => by
    unfold Lib.splitK at hp
    split at hp
    · simp at hp; subst hp; omega
    · rcases List.mem_cons.1 hp with h | h
      · subst h; simp only [List.length_take]; omega
      · have := splitK_len sep k _ p h
        simp only [List.length_drop] at this
        omega
/-- what strings.Split has left: a block that holds the pieces -/
theorem split_at (s sep : ByteArray) (w : World) (hL : Laid w) (hs : s.size < 4294967281) (h1 : 1 ≤ sep.size) :
    Calls Tryz.prog 45 #[.string s, .string sep] w fun e w' => ∃ ps : List ByteArray, ps.map bts = Lib.split (bts s) (bts sep) ∧ (∀ p ∈ ps, p.size ≤ s.size) ∧ 0 < ps.length ∧ ps.length ≤ s.size + 1 ∧
      e = .returned (.slice (some ⟨w.heap.size, 0, none⟩) ps.length ps.length) ∧ w' = w.alloc (.cells (ps.map Value.string).toArray 9) := by
  obtain ⟨m, hm⟩ := hL.maxl
  refine (Any.strings_Split Tryz.lays146 (by kernel_rfl) s sep m w hs hm h1).mono ?_
  rintro e w' ⟨rfl, rfl⟩
  have hlen := Lib.splitB_all sep h1 0 _ s rfl
  have hd := Lib.splitB_data sep 0 (Lib.countB s sep) s
  have he : (Lib.splitB sep 0 (Lib.countB s sep) s).map bts = Lib.split (bts s) (bts sep) := by
    have e1 : ∀ x : ByteArray, bts x = x.data.toList := fun x => by rw [bts, bts_data]
    have e2 : (bts : ByteArray → List UInt8) = fun x => x.data.toList := funext e1
    rw [e2, hd]; rfl
  refine ⟨_, he, fun p hp => ?_, by rw [hlen]; omega, ?_, by rw [hlen], rfl⟩
  · have hp2 : bts p ∈ Lib.split (bts s) (bts sep) := by rw [← he]; exact List.mem_map_of_mem hp
    have := splitK_len _ _ _ _ hp2
    rwa [bts_len, bts_len] at this
  · rw [hlen]
    have := Lib.countB_le sep h1 s.size s (Nat.le_refl _)
    omega
theorem has_any (s p : ByteArray) (w : World) : Calls Tryz.prog 124 #[.string s, .string p] w fun e w' => e = .returned (.bool (Lib.hasPrefix (bts s) (bts p))) ∧ w = w' := by
  refine (Any.strings_HasPrefix Tryz.lays99 s p w).mono ?_
  rintro e w' ⟨rfl, rfl⟩
  exact ⟨by rw [bts, bts, bts_data, bts_data], rfl⟩
theorem cutp_any (s p : ByteArray) (w : World) : Calls Tryz.prog 125 #[.string s, .string p] w fun e w' => e = .returned (.tuple #[.string (strB (Lib.trimPrefix (bts s) (bts p))), .bool (Lib.hasPrefix (bts s) (bts p))]) ∧ w = w' := by
  refine (Any.strings_CutPrefix Tryz.lays103 s p w).mono ?_
  rintro e w' ⟨rfl, rfl⟩
  exact ⟨by rw [bts, bts, bts_data, bts_data]; rfl, rfl⟩
theorem own_other {w : World} {base size n g o : Nat} {e : TypeId} {v : Value} {xs vs : List Value} (h : w.ownsRow base e size v n xs) (hg : v.ownBlock ≠ some g) : (w.setCells g o vs).ownsRow base e size v n xs := by
  obtain ⟨h1, h2⟩ := h
  refine ⟨h1, ?_⟩
  rcases h2 with h2 | ⟨k, cap, cur, hv, hk, hh, r⟩
  · exact .inl h2
  · refine .inr ⟨k, cap, cur, hv, hk, ?_, r⟩
    have hne : k ≠ g := fun e => hg (by rw [hv, ← e]; rfl)
    rw [setCells_block g k hne]; exact hh
/-- spans have come back, or the word that there are none -/
def RowsPost (w : World) (o : Option (List SpanL)) (e : Ending) (w' : World) : Prop :=
  ∃ A c, e = .returned (.tuple #[.slice A (o.getD []).length c, .bool o.isSome]) ∧ SpanB w' w.heap.size A (o.getD []) ∧ fitL (o.getD []) ∧ (o.getD []).length ≤ 4294967281 ∧ Below w.heap.size w w'
theorem rows_none {w w' : World} (h : Below w.heap.size w w') : RowsPost w none (.returned (.tuple #[.slice none 0 0, .bool false])) w' := ⟨none, 0, rfl, ⟨Spans.nil, fun ad h => by cases h⟩, fun i hi => by simp at hi, by simp, h⟩
def spansFrom (l : List SpanL) (r : List (List UInt8)) : Option (List SpanL) := (spansP r).map (l ++ ·)
theorem spansFrom_start (r : List (List UInt8)) : spansFrom [] r = spansP r := by rw [spansFrom]; cases spansP r <;> simp
theorem spansFrom_cons (l : List SpanL) (x : List UInt8) (r : List (List UInt8)) : spansFrom l (x :: r) = match spanP x with | none => none | some s => spansFrom (l ++ [s]) r := by
  rw [spansFrom, spansP]
  cases spanP x with
  | none => rfl
  | some s =>
    simp only [spansFrom]
    cases spansP r <;> simp
theorem fit_full : fullS.fit := ⟨firstC_fit, ⟨by simp [zeroV, fullS, lastC]; decide, by simp [zeroV, fullS, lastC]; decide⟩⟩
theorem parse_fit {s : List UInt8} {v : Ver} (h : parseV s = some v) (hs : s.length ≤ 4398046511104) : v.fit := parseV_fit h hs
theorem trim_len (l p : List UInt8) : (Lib.trimPrefix l p).length ≤ l.length := by
  unfold Lib.trimPrefix
  split
  · rw [List.length_drop]; omega
  · exact Nat.le_refl _
theorem fitL_snoc {l : List SpanL} {a : SpanL} (h : fitL l) (ha : a.fit) : fitL (l ++ [a]) := fun i hi => by
  rcases Nat.lt_or_ge i l.length with k | k
  · have := h i k
    rw [nth_lt k] at this
    rw [nth_lt hi, List.getElem_append_left k]; exact this
  · have e : i = l.length := by simp at hi; omega
    subst e
    rw [nth_lt hi]; simpa using ha
theorem own_spanB {w : World} {base : Nat} {v : Value} {l : List SpanL} (h : OwnS w base v l) : ∃ A cap, v = .slice A l.length cap ∧ SpanB w base A l := by
  obtain ⟨A, cap, hv, hs⟩ := h.spans
  refine ⟨A, cap, hv, hs, fun ad had => ?_⟩
  have hb : v.ownBlock = some ad.block ∨ v = .slice none 0 0 := by
    rcases h.form with ⟨h1, h2⟩ | ⟨g, c, h1, -⟩
    · exact .inr h1
    · left
      rw [hv] at h1
      injection h1 with h1
      rw [had] at h1
      injection h1 with h1
      rw [hv, had, h1]; rfl
  rcases hb with hb | hb
  · exact (own_bound h _ hb).1
  · rw [hv] at hb
    injection hb with hb
    rw [hb] at had; cases had
theorem spanB_below {w w' : World} {base : Nat} {A : Option Addr} {l : List SpanL} (h : SpanB w base A l) (hb : Below w.heap.size w w') : SpanB w' base A l := ⟨h.1.below hb, h.2⟩
theorem spanB_put {w : World} {base k j : Nat} {A : Option Addr} {l : List SpanL} (h : SpanB w base A l) (hk : k < base) (v : Value) : SpanB (w.setCell ⟨k, j, none⟩ v) base A l := by
  refine ⟨?_, h.2⟩
  rcases h.1 with h1 | ⟨b, off, rfl, hlt, hc⟩
  · exact .inl h1
  · have hb := h.2 _ rfl
    simp only at hb
    refine .inr ⟨b, off, rfl, by rw [World.size_setCell]; exact hlt, fun i hi q u hq => ?_⟩
    exact (put_cell (by omega) v).trans (hc i hi q u hq)
theorem bts_tail (s : ByteArray) : bts (s.extract 1 s.size) = (bts s).drop 1 := by
  rw [bts_extract, List.take_of_length_le]
  rw [List.length_drop, bts_len]; omega
theorem strB_size (l : List UInt8) : (strB l).size = l.length := by rw [← bts_len, bts_strB]
theorem wordsP_cons {a : SpanL} {w : List UInt8} {r : List (List UInt8)} : wordsP a (w :: r) = match wordP a w with | none => none | some b => wordsP b r := rfl
theorem wordP_star {a : SpanL} {w : List UInt8} (h : w = [42]) : wordP a w = some a := by rw [wordP, if_pos h]
theorem wordP_bad {a : SpanL} {w : List UInt8} (h : w ≠ [42]) (h1 : Lib.hasPrefix w [62] = false) (h2 : Lib.hasPrefix w [60] = false) : wordP a w = none := by rw [wordP, if_neg h, h1, h2]; rfl
theorem wordP_none {a : SpanL} {w : List UInt8} (h : w ≠ [42]) (h1 : (Lib.hasPrefix w [62] || Lib.hasPrefix w [60]) = true) (h2 : parseV (Lib.trimPrefix (w.drop 1) [61]) = none) : wordP a w = none := by
  rw [wordP, if_neg h, if_neg (by revert h1; cases Lib.hasPrefix w [62] <;> cases Lib.hasPrefix w [60] <;> simp), h2]
theorem wordP_fr {a : SpanL} {w : List UInt8} {v : Ver} (h : w ≠ [42]) (h1 : Lib.hasPrefix w [62] = true) (h2 : parseV (Lib.trimPrefix (w.drop 1) [61]) = some v) : wordP a w = some ⟨⟨0, v, !Lib.hasPrefix (w.drop 1) [61]⟩, a.til⟩ := by
  rw [wordP, if_neg h, h1, if_neg (by simp), h2]; rfl
theorem wordP_til {a : SpanL} {w : List UInt8} {v : Ver} (h : w ≠ [42]) (h1 : Lib.hasPrefix w [62] = false) (h3 : Lib.hasPrefix w [60] = true) (h2 : parseV (Lib.trimPrefix (w.drop 1) [61]) = some v) : wordP a w = some ⟨a.fr, ⟨0, v, Lib.hasPrefix (w.drop 1) [61]⟩⟩ := by
  rw [wordP, if_neg h, h1, h3, if_neg (by simp), h2]; rfl
theorem pre_pos {s : ByteArray} {b : UInt8} (h : Lib.hasPrefix (bts s) [b] = true) : 0 < s.size := by
  rw [← bts_len]
  cases hb : bts s with
  | nil => rw [hb] at h; cases h
  | cons c r => simp
/-- the words' walk at hand: the word's list is left from j on -/
structure WdW (base : Nat) (gw : Nat) (ws : List ByteArray) (gy : Nat) (gp : Nat) (ps : List ByteArray) (v : Value) (l : List SpanL) (a : SpanL) (wr : World) : Prop where
  words : Box wr gw (ws.map Value.string)
  parts : Box wr gp (ps.map Value.string)
  box : Own base wr gy a.cells
  out : OwnS wr base v l
  ne1 : gw ≠ gy
  ne2 : gp ≠ gy
  ne3 : v.ownBlock ≠ some gy
theorem WdW.below {base gw gy gp : Nat} {ws ps : List ByteArray} {v : Value} {l : List SpanL} {a : SpanL} {wr w' : World} (h : WdW base gw ws gy gp ps v l a wr) (hb : Below wr.heap.size wr w') : WdW base gw ws gy gp ps v l a w' :=
  ⟨h.words.below hb, h.parts.below hb, h.box.below hb, h.out.below hb, h.ne1, h.ne2, h.ne3⟩
theorem WdW.fr {base gw gy gp : Nat} {ws ps : List ByteArray} {v : Value} {l : List SpanL} {a : SpanL} {wr : World} (c : CutL) (h : WdW base gw ws gy gp ps v l a wr) : WdW base gw ws gy gp ps v l ⟨c, a.til⟩ (wr.setCells gy 0 c.cells) :=
  ⟨h.words.setOther h.ne1, h.parts.setOther h.ne2, ⟨h.box.box.setFr c, h.box.soft.set, h.box.low⟩, own_other h.out h.ne3, h.ne1, h.ne2, h.ne3⟩
theorem WdW.til {base gw gy gp : Nat} {ws ps : List ByteArray} {v : Value} {l : List SpanL} {a : SpanL} {wr : World} (c : CutL) (h : WdW base gw ws gy gp ps v l a wr) : WdW base gw ws gy gp ps v l ⟨a.fr, c⟩ (wr.setCells gy 7 c.cells) :=
  ⟨h.words.setOther h.ne1, h.parts.setOther h.ne2, ⟨h.box.box.setTil c, h.box.soft.set, h.box.low⟩, own_other h.out h.ne3, h.ne1, h.ne2, h.ne3⟩
theorem box_str {w : World} {g k : Nat} {ps : List ByteArray} (h : Box w g (ps.map Value.string)) (hk : k < ps.length) : w.cell? ⟨g, k, none⟩ = some (.string ps[k]) := h.2 k _ (by simp [hk])
set_option maxRecDepth 100000 in
set_option maxHeartbeats 4000000 in
theorem tspans_any (s : ByteArray) (w : World) (hL : Laid w) (hs : s.size ≤ 4294967280) : Calls Tryz.prog 76 #[.string s] w (RowsPost w (rowP (bts s))) := by
  by_cases h45 : bts s = [45]
  · obtain rfl : s = ⟨#[45]⟩ := bts_inj (h45.trans b45x.symm)
    have HR := hid (show rowP (bts ⟨#[45]⟩) = some [] by rw [b45x]; rfl)
    clear hL
    go_enter Tryz.func76, Tryz.ntmps76
    go_wp2_with fail
    go_ret2
    rw [HR.out]
    exact ⟨none, 0, rfl, ⟨Spans.nil, fun ad h => by cases h⟩, fun i hi => by simp at hi, by simp, Below.refl _ _⟩
  · have HL := hid hL
    clear hL
    have HR := hid (show rowP (bts s) = spansP (Lib.split (bts s) orB) by rw [rowP, if_neg h45])
    have h45b : (s.toList == [45]) = false := by simpa using h45
    clear h45
    go_enter Tryz.func76, Tryz.ntmps76
    go_wp2_with fail
    refine (split_at s ⟨#[32, 111, 114, 32]⟩ w HL.out (by omega) (by decide)).mono ?_
    rintro _ w1 ⟨ps, hps, hsz, hpos, hplen, rfl, hw1⟩
    rw [bor] at hps
    have HXS := hid hps
    have HSZ := hid hsz
    have HPB := hid (show Box w1 w.heap.size (ps.map Value.string) by rw [hw1]; exact Box.new w _ _)
    have HB := hid (show Below w.heap.size w w1 by rw [hw1]; exact below_new _ _)
    have HLL := hid (HL.out.below HB.out)
    clear hps hsz hw1 h45b
    generalize hxs : Lib.split (bts s) orB = xs at *
    clear hxs
    generalize hn : ps.length = n at *
    have HN := hid hn
    have HXN := hid (show xs.length = n by rw [← HXS.out, List.length_map, hn])
    clear hn
    generalize hgp : w.heap.size = gp at *
    go_wp2_with fail
    go_loopw [4, 20] (fun o t wr => ∃ (k : Nat) (v : Value) (l : List SpanL), t = .int .i64 k ∧ v = o ∧ k ≤ n ∧ l.length ≤ k ∧ Hid (spansFrom l (xs.drop k) = spansP xs) ∧ Hid (fitL l) ∧ Hid (OwnS wr w1.heap.size v l) ∧ Hid (Box wr gp (ps.map Value.string)) ∧ Below w1.heap.size w1 wr) (fun _ t _ => n - (intOf t).toNat)
    case atStart => exact ⟨0, _, [], rfl, rfl, Nat.zero_le _, Nat.le_refl _, hid (by rw [List.drop_zero]; exact spansFrom_start xs), hid (fun i hi => by simp at hi), hid (OwnS.nil _ _), HPB, Below.refl _ _⟩
    case round =>
      obtain ⟨k, v, l, rfl, rfl, hk, hlk, HS, HF, HO, HP, hbr⟩ := hrel
      by_cases hlt : k < n
      · have hlt' : k < ps.length := by rw [HN.out]; exact hlt
        have cx := box_str HP.out hlt'
        have HPK := hid (HSZ.out _ (List.getElem_mem hlt'))
        have HXK : Hid (xs.drop k = bts ps[k] :: xs.drop (k + 1)) := hid (by
          have hx : k < xs.length := by rw [HXN.out]; exact hlt
          rw [List.drop_eq_getElem_cons hx]
          congr 1
          have := HXS.out
          subst this
          rw [List.getElem_map])
        generalize ps[k] = x at *
        have HNONE : Hid (spanP (bts x) = none → rowP (bts s) = none) := hid (fun e => by rw [HR.out, ← HS.out, HXK.out, spansFrom_cons, e])
        have i0 : (0 : Int) ≤ (k : Int) := by omega
        have i1 : (k : Int) < (n : Int) := by omega
        have hgr : gp < wr.heap.size := HP.out.1
        go_wp2_with fail
        have hpk := HPK.out
        refine (split_at x ⟨#[32]⟩ _ (HLL.out.below (below_tr hbr (below_new _ _))) (by omega) (by decide)).mono ?_
        rintro _ w2 ⟨ws, hws, hwz, hwpos, hwlen, rfl, hw2⟩
        rw [World.size_alloc]
        rw [b32] at hws
        have HYS := hid hws
        have HWZ := hid hwz
        have hbb : Below wr.heap.size wr w2 := by rw [hw2]; exact below_tr (below_new _ _) (below_new _ _)
        have hgyr : w1.heap.size ≤ wr.heap.size := hbr.size
        have HW : Hid (WdW w1.heap.size (wr.heap.size + 1) ws wr.heap.size gp ps v l fullS w2) := hid (by
          refine ⟨?_, HP.out.below hbb, ?_, HO.out.below hbb, by omega, by omega, fun e => absurd ((HO.out.lt _ e).2) (Nat.lt_irrefl _)⟩
          · have := Box.new (wr.alloc (.cells fullS.cells.toArray 83)) (ws.map Value.string) 9
            rw [World.size_alloc] at this
            rw [hw2]; exact this
          · rw [hw2]
            exact (Own.new wr fullS.cells 83 hgyr).alloc _)
        have HB2 := hid (below_tr hbr hbb)
        clear hws hwz hw2 hbb cx
        generalize hm : ws.length = m at *
        have HM := hid hm
        clear hm
        generalize hzs : Lib.split (bts x) [32] = zs at *
        have HZS := hid (show spanP (bts x) = wordsP fullS zs by rw [← hzs]; rfl)
        clear hzs
        have HZN := hid (show zs.length = m by rw [← HYS.out, List.length_map, HM.out])
        generalize hgy : wr.heap.size = gy at *
        go_wp2_with fail
        go_loopw [30] (fun t ur => ∃ (j : Nat) (a : SpanL), t = .int .i64 j ∧ j ≤ m ∧ Hid (wordsP a (zs.drop j) = spanP (bts x)) ∧ Hid a.fit ∧ Hid (WdW w1.heap.size (gy + 1) ws gy gp ps v l a ur) ∧ Below w1.heap.size w1 ur) (fun t _ => m - (intOf t).toNat)
        case atStart => exact ⟨0, fullS, rfl, Nat.zero_le _, hid (by rw [List.drop_zero]; exact HZS.out.symm), hid fit_full, HW, HB2.out⟩
        case round =>
          obtain ⟨j, a, rfl, hj, HWS, HAF, HWD, hbu⟩ := hrel
          by_cases hlj : j < m
          · have hlj' : j < ws.length := by rw [HM.out]; exact hlj
            have cw := box_str HWD.out.words hlj'
            have HWK := hid (HWZ.out _ (List.getElem_mem hlj'))
            have HZJ : Hid (zs.drop j = bts ws[j] :: zs.drop (j + 1)) := hid (by
              have hx : j < zs.length := by rw [HZN.out]; exact hlj
              rw [List.drop_eq_getElem_cons hx]
              congr 1
              have := HYS.out
              subst this
              rw [List.getElem_map])
            generalize ws[j] = wd at *
            have j0 : (0 : Int) ≤ (j : Int) := by omega
            have j1 : (j : Int) < (m : Int) := by omega
            by_cases h42 : bts wd = [42]
            · have H42 := hid h42
              have h42b : (wd.toList == [42]) = true := by simpa using h42
              clear h42
              go_wp2_with fail
              go_roundw
              case rel => exact ⟨j + 1, a, by go_num, by omega, hid (by rw [← HWS.out, HZJ.out, wordsP_cons, wordP_star H42.out]), HAF, HWD, hbu⟩
              case measure => simp [intOf]; omega
            · have H42 := hid h42
              have h42b : (wd.toList == [42]) = false := by simpa using h42
              clear h42
              have HLO := hid (has_any wd ⟨#[62]⟩)
              have HHI := hid (has_any wd ⟨#[60]⟩)
              rw [b62] at HLO
              rw [b60] at HHI
              have HCP := hid (cutp_any (wd.extract 1 wd.size) ⟨#[61]⟩)
              rw [b61, bts_tail] at HCP
              have hwk := HWK.out
              have HRL := hid (trim_len ((bts wd).drop 1) [61])
              cases hlo : Lib.hasPrefix (bts wd) [62]
              · rw [hlo] at HLO
                cases hhi : Lib.hasPrefix (bts wd) [60]
                · rw [hhi] at HHI
                  have HW0 := hid (wordP_bad (a := a) H42.out hlo hhi)
                  clear hlo hhi
                  go_wp2_with fail
                  refine (HLO.out _).mono ?_
                  rintro _ _ ⟨rfl, rfl⟩
                  go_wp2_with fail
                  refine (HHI.out _).mono ?_
                  rintro _ _ ⟨rfl, rfl⟩
                  have HNO := hid (HNONE.out (by rw [← HWS.out, HZJ.out, wordsP_cons, HW0.out]))
                  go_wp2_with fail
                  go_ret2
                  rw [show rowP (bts s) = none from HNO.out]
                  exact rows_none (below_tr (by rw [hgp]; exact HB.out) hbu)
                · rw [hhi] at HHI
                  have hpz := pre_pos hhi
                  have HPOS := hid hpz
                  have HWN := hid (fun h => wordP_none (a := a) H42.out (by rw [hlo, hhi]; rfl) h)
                  have HWY := hid (fun v h => wordP_til (a := a) (v := v) H42.out hlo hhi h)
                  clear hlo hhi
                  generalize hr : Lib.trimPrefix ((bts wd).drop 1) [61] = r at *
                  generalize hi : Lib.hasPrefix ((bts wd).drop 1) [61] = is at *
                  clear hr hi
                  go_wp2_with fail
                  refine (HLO.out _).mono ?_
                  rintro _ _ ⟨rfl, rfl⟩
                  go_wp2_with fail
                  refine (HHI.out _).mono ?_
                  rintro _ _ ⟨rfl, rfl⟩
                  go_wp2_with fail
                  refine (HCP.out _).mono ?_
                  rintro _ _ ⟨rfl, rfl⟩
                  go_wp2_with fail
                  have hrl : r.length ≤ wd.size := by
                    have h1 := HRL.out
                    rw [List.length_drop, bts_len] at h1
                    omega
                  have HPV := hid (vparse_any (strB r) wr (HLL.out.below hbu) (by rw [strB_size]; omega))
                  rw [bts_strB] at HPV
                  cases hpv : parseV r with
                  | none =>
                    rw [hpv] at HPV
                    have HNO := hid (HNONE.out (by rw [← HWS.out, HZJ.out, wordsP_cons, HWN.out hpv]))
                    clear hpv cw
                    refine HPV.out.mono ?_
                    rintro _ u ⟨rfl, hb⟩
                    dsimp only [Option.getD_none, Option.isSome_none]
                    go_wp2_with fail
                    go_ret2
                    rw [show rowP (bts s) = none from HNO.out]
                    exact rows_none (below_tr (by rw [hgp]; exact HB.out) (below_tr hbu (below_tr hb (below_new _ _))))
                  | some pv =>
                    rw [hpv] at HPV
                    have HWY2 := hid (HWY.out pv hpv)
                    have HPF := hid (parse_fit hpv (by omega))
                    clear hpv cw
                    refine HPV.out.mono ?_
                    rintro _ u ⟨rfl, hb⟩
                    dsimp only [Option.getD_some, Option.isSome_some]
                    have HBU := hid (below_tr hbu hb)
                    have HW2 := hid (HWD.out.below hb)
                    clear hb
                    obtain ⟨-, ⟨y0, y1, y2, y3, y4, y5, y6⟩⟩ := HW2.out.box.box.get14
                    have sf : ∀ j, u.frozen? ⟨gy, j, none⟩ = false := HW2.out.box.soft
                    have hgu : gy < u.heap.size := HW2.out.box.box.1
                    have hgl := HW2.out.box.low
                    go_wp2_with fail
                    go_roundw
                    case rel => exact ⟨j + 1, ⟨a.fr, ⟨0, pv, is⟩⟩, by go_num, by omega, hid (by rw [← HWS.out, HZJ.out, wordsP_cons, HWY2.out]), hid ⟨HAF.out.1, HPF.out⟩, hid ((HW2.out.til ⟨0, pv, is⟩).below (below_new _ (.cells pv.cells.toArray 44))), below_tr (Below.setCells hgl (CutL.cells ⟨0, pv, is⟩) 7 HBU.out) (below_new _ (.cells pv.cells.toArray 44))⟩
                    case measure => simp [intOf]; omega
              · rw [hlo] at HLO
                have hpz := pre_pos hlo
                have HPOS := hid hpz
                have HWN := hid (fun h => wordP_none (a := a) H42.out (by rw [hlo]; rfl) h)
                have HWY := hid (fun v h => wordP_fr (a := a) (v := v) H42.out hlo h)
                clear hlo
                generalize hr : Lib.trimPrefix ((bts wd).drop 1) [61] = r at *
                generalize hi : Lib.hasPrefix ((bts wd).drop 1) [61] = is at *
                clear hr hi
                go_wp2_with fail
                refine (HLO.out _).mono ?_
                rintro _ _ ⟨rfl, rfl⟩
                go_wp2_with fail
                refine (HCP.out _).mono ?_
                rintro _ _ ⟨rfl, rfl⟩
                go_wp2_with fail
                have hrl : r.length ≤ wd.size := by
                  have h1 := HRL.out
                  rw [List.length_drop, bts_len] at h1
                  omega
                have HPV := hid (vparse_any (strB r) wr (HLL.out.below hbu) (by rw [strB_size]; omega))
                rw [bts_strB] at HPV
                cases hpv : parseV r with
                | none =>
                  rw [hpv] at HPV
                  have HNO := hid (HNONE.out (by rw [← HWS.out, HZJ.out, wordsP_cons, HWN.out hpv]))
                  clear hpv cw
                  refine HPV.out.mono ?_
                  rintro _ u ⟨rfl, hb⟩
                  dsimp only [Option.getD_none, Option.isSome_none]
                  go_wp2_with fail
                  go_ret2
                  rw [show rowP (bts s) = none from HNO.out]
                  exact rows_none (below_tr (by rw [hgp]; exact HB.out) (below_tr hbu (below_tr hb (below_new _ _))))
                | some pv =>
                  rw [hpv] at HPV
                  have HWY2 := hid (HWY.out pv hpv)
                  have HPF := hid (parse_fit hpv (by omega))
                  clear hpv cw
                  refine HPV.out.mono ?_
                  rintro _ u ⟨rfl, hb⟩
                  dsimp only [Option.getD_some, Option.isSome_some]
                  have HBU := hid (below_tr hbu hb)
                  have HW2 := hid (HWD.out.below hb)
                  clear hb
                  obtain ⟨⟨y0, y1, y2, y3, y4, y5, y6⟩, -⟩ := HW2.out.box.box.get14
                  have sf : ∀ j, u.frozen? ⟨gy, j, none⟩ = false := HW2.out.box.soft
                  have hgu : gy < u.heap.size := HW2.out.box.box.1
                  have hgl := HW2.out.box.low
                  go_wp2_with fail
                  go_roundw
                  case rel => exact ⟨j + 1, ⟨⟨0, pv, !is⟩, a.til⟩, by go_num, by omega, hid (by rw [← HWS.out, HZJ.out, wordsP_cons, HWY2.out]), hid ⟨HPF.out, HAF.out.2⟩, hid ((HW2.out.fr ⟨0, pv, !is⟩).below (below_new _ (.cells pv.cells.toArray 44))), below_tr (Below.setCells hgl (CutL.cells ⟨0, pv, !is⟩) 0 HBU.out) (below_new _ (.cells pv.cells.toArray 44))⟩
                  case measure => simp [intOf]; omega
          · obtain rfl : j = m := by omega
            have HSP : Hid (spanP (bts x) = some a) := hid (by
              have := HWS.out
              rw [List.drop_eq_nil_of_le (by rw [HZN.out]; exact Nat.le_refl _)] at this
              rw [← this]; rfl)
            obtain ⟨⟨y0, y1, y2, y3, y4, y5, y6⟩, ⟨y7, y8, y9, y10, y11, y12, y13⟩⟩ := HWD.out.box.box.get14
            have HO2 := hid HWD.out.out
            have hsz := hid hbu.size
            have hln : l.length ≤ 4294967281 := by omega
            go_wp2_with (first | (at_builtin; refine wpList_app1g EKspans rfl (.tmp 69) (.tmp 71) rfl (SpanL.cells a) HO2.out rfl rfl rfl (oneS1 _) (by unfold maxLen; omega) (by omega) hsz.out ?_; intro v' w' h2 h3 h4))
            go_roundw
            case rel =>
              refine ⟨k + 1, v', l ++ [a], by go_num, rfl, by omega, by simp; omega, hid ?_, hid (fitL_snoc HF.out HAF.out), hid (OwnS.app h2), hid (HWD.out.parts.grown h4 ?_), hbu.trans h3⟩
              · rw [← HS.out, HXK.out, spansFrom_cons, HSP.out]
              · intro e
                have h5 := (own_bound HO2.out _ e.symm).1
                have h6 := HPB.out.1
                omega
            case measure => simp [intOf]; omega
      · obtain rfl : k = n := by omega
        have HE := hid (show spansP xs = some l by
          have := HS.out
          rw [List.drop_eq_nil_of_le (by rw [HXN.out]; exact Nat.le_refl _), spansFrom] at this
          rw [← this]; simp [spansP])
        obtain ⟨A, cap, hv, hspn⟩ := own_spanB HO.out
        subst hv
        have HSPN := hid hspn
        clear hspn
        go_wp2_with fail
        go_ret2
        rw [HR.out, HE.out]
        exact ⟨A, cap, rfl, ⟨HSPN.out.1, fun ad h => by have := HSPN.out.2 ad h; have h2 := HB.out.size; omega⟩, HF.out, by simp only [Option.getD_some]; omega, below_tr (by rw [hgp]; exact HB.out) hbr⟩
end Go.Proofs.YtjceaniffooohaaGreatDoor
