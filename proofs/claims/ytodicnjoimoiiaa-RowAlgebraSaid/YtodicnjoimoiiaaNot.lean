/- The walk of the program's Not of rows. -/
import Derived.Test.YtodicnjoimoiiaaBx
import Derived.Test.YtodicnjoimoiiaaRowMath
namespace Go.Proofs.Ytodicnjoimoiiaa
open Go.RowKit Go.Lib
set_option linter.unusedVariables false
set_option linter.unusedSimpArgs false

def fitAll (l : List SpanL) : Prop := ∀ s, s ∈ l → s.fit
theorem fitAll.addIf {o : List SpanL} {f t : CutL} (h : fitAll o) (hf : f.fit) (ht : t.fit) : fitAll (Rw.addIf o f t) := Rw.addIf_low (Q := SpanL.fit) h ⟨hf, ht⟩
theorem addIf_len (o : List SpanL) (f t : CutL) : (Rw.addIf o f t).length ≤ o.length + 1 := by unfold Rw.addIf; split <;> simp
theorem addIf_yes {o : List SpanL} {f t : CutL} (h : cmpC f t < 0) : Rw.addIf o f t = o ++ [⟨f, t⟩] := by rw [Rw.addIf, if_pos h]
theorem addIf_no {o : List SpanL} {f t : CutL} (h : ¬ cmpC f t < 0) : Rw.addIf o f t = o := by rw [Rw.addIf, if_neg h]
/-- what a call has so far: its row, from block 'base' on, no longer than k -/
structure HasRow (w : World) (base : Nat) (v : Value) (o : List SpanL) (k : Nat) : Prop where
  own : OwnS w base v o
  fit : fitAll o
  len : o.length ≤ k

theorem en_last {c : CutL} (h : mayC c = true) : c.en < 1 ↔ cmpC c lastC < 0 := by
  rw [cmpC_ne h last_may (by simp [lastC]), cmpI_lt]; rfl

set_option maxRecDepth 100000 in
set_option maxHeartbeats 1000000 in
theorem not_no (base : Nat) (A : Option Addr) (cap : Nat) (a : List SpanL) (w : World) (ha : Spans w A a) (hf : fitL a) (hln : a.length ≤ 40000) (hb : base ≤ w.heap.size) (hmay : mayR a = false) : Calls Try.prog 29 #[.slice A a.length cap] w (RowPost w base []) := by
  have hma := hid (rowmay_any A cap a w ha hf (by omega))
  rw [hmay] at hma
  clear ha hf hmay
  generalize a.length = n at *
  go_enter Try.func29, Try.ntmps29
  go_wp2_with fail
  refine hma.out.mono ?_
  rintro _ w1 ⟨rfl, hb1⟩
  go_wp2_with fail
  go_ret
  exact ⟨_, rfl, OwnS.nil _ _, hb1.mono hb, hb1.size⟩

set_option maxRecDepth 100000 in
set_option maxHeartbeats 2000000 in
theorem not_yes (base : Nat) (A : Option Addr) (cap : Nat) (a : List SpanL) (w : World) (ha : Spans w A a) (hf : fitL a) (hln : a.length ≤ 40000) (hb : base ≤ w.heap.size) (hmay : mayR a = true) : Calls Try.prog 29 #[.slice A a.length cap] w (RowPost w base (rnotL a)) := by
  have hma := hid (rowmay_any A cap a w ha hf (by omega))
  rw [hmay] at hma
  have HV := hid (Rw.mayR_val.1 hmay)
  have HA := hid ha
  have HF := hid hf
  have hM : maxLen = 9223372036854775807 := rfl
  clear ha hf hmay
  generalize hn : a.length = n at *
  have HN := hid hn
  clear hn
  go_enter Try.func29, Try.ntmps29
  go_wp2_with fail
  refine hma.out.mono ?_
  rintro _ w1 ⟨rfl, hb1⟩
  have HA1 := hid (HA.out.below hb1)
  have HB0 := hid (Box.new w1 firstC.cells 35)
  have HS0 := hid (Soft.new w1 firstC.cells.toArray 35)
  have HBL := hid (below_new w1 (.cells firstC.cells.toArray 35))
  clear HA hma
  go_wp2_with fail
  go_loopw [6, 13, 3] (fun _ i o wr => ∃ (k : Nat) (v : Value) (out : List SpanL) (fr : CutL), i = .int .i64 k ∧ v = o ∧ k ≤ n ∧ Hid (Box wr w1.heap.size fr.cells) ∧ Hid (Soft wr w1.heap.size) ∧ Hid (HasRow wr (w1.heap.size + 1) v out k) ∧ Hid (Rw.NotInv a out k fr) ∧ Hid fr.fit ∧ Below w1.heap.size w1 wr) (fun _ i _ _ => n - (intOf i).toNat)
  case atStart => exact ⟨0, _, [], firstC, rfl, rfl, Nat.zero_le _, HB0, HS0, ⟨OwnS.nil _ _, (fun s h => by cases h), by simp⟩, Rw.NotInv.start HV.out, firstC_fit, HBL.out⟩
  case round =>
    obtain ⟨k, v, out, fr, rfl, rfl, hk, HB, HS, HR, HI, HFR, hbr⟩ := hrel
    have hgb := HB.out.1
    by_cases hlt : k < n
    · have hlt' : k < a.length := by rw [HN.out]; exact hlt
      obtain ⟨b, off, rfl, hbl, ⟨x0, x1, x2, x3, x4, x5, x6⟩, z0, z1, z2, z3, z4, z5, z6⟩ := (HA1.out.below hbr).at_ (k := k) hlt'
      have i0 : (0 : Int) ≤ (k : Int) := by omega
      have i1 : (k : Int) < (n : Int) := by omega
      have hfk := hid (HF.out k hlt')
      have HST := hid (HI.out.step HV.out hlt')
      generalize nth a k = s at *
      obtain ⟨y0, y1, y2, y3, y4, y5, y6⟩ := HB.out.get7
      have hcmp := hid (fun w' => ccompare_any fr s.fr w' HFR.out hfk.out.1)
      have HBN := hid (below_new wr (.cells s.cells.toArray 37))
      cases hlt2 : decide (cmpC fr s.fr < 0)
      · have HX := hid (addIf_no (o := out) (f := fr) (t := s.fr) (by simpa using hlt2))
        go_wp2_with fail
        refine (hcmp.out _).mono ?_
        rintro _ w2 ⟨rfl, hb2⟩
        clear x0 x1 x2 x3 x4 x5 x6 z0 z1 z2 z3 z4 z5 z6 y0 y1 y2 y3 y4 y5 y6
        obtain ⟨hx, hbw⟩ := box_1 (cs := s.cells) hb2
        have HB2 := hid (HB.out.below hbw)
        have HS2 := hid (HS.out.below hgb hbw)
        obtain ⟨⟨x0, x1, x2, x3, x4, x5, x6⟩, z0, z1, z2, z3, z4, z5, z6⟩ := hx.get14
        obtain ⟨y0, y1, y2, y3, y4, y5, y6⟩ := HB2.out.get7
        have hf2 : ∀ j, w2.frozen? ⟨w1.heap.size, j, none⟩ = false := HS2.out
        have HO2 := hid (own_below HR.out.own hbw)
        have HBR := hid (below_tr hbr hbw)
        clear hx hb2 hbw
        go_wp2_with fail
        go_roundw
        case rel => exact ⟨k + 1, v, out, s.til, by go_num, rfl, by omega, HB2.out.set7 s.til, HS2.out.set (vs := s.til.cells), ⟨own_setCells (o := 0) (vs := s.til.cells) HO2.out (by omega), HR.out.fit, Nat.le_succ_of_le HR.out.len⟩, (by have := HST.out; rwa [HX.out] at this), hfk.out.2, HBR.out.setCells (Nat.le_refl _) s.til.cells 0⟩
        case measure => simp [intOf]; omega
      · have HX := hid (addIf_yes (o := out) (f := fr) (t := s.fr) (by simpa using hlt2))
        have HLN := HR.out.len
        go_wp2_with fail
        refine (hcmp.out _).mono ?_
        rintro _ w2 ⟨rfl, hb2⟩
        clear x0 x1 x2 x3 x4 x5 x6 z0 z1 z2 z3 z4 z5 z6 y0 y1 y2 y3 y4 y5 y6
        obtain ⟨hx, hbw⟩ := box_1 (cs := s.cells) hb2
        have HB2 := hid (HB.out.below hbw)
        have HS2 := hid (HS.out.below hgb hbw)
        have HX2 := hid hx
        obtain ⟨⟨x0, x1, x2, x3, x4, x5, x6⟩, z0, z1, z2, z3, z4, z5, z6⟩ := hx.get14
        obtain ⟨y0, y1, y2, y3, y4, y5, y6⟩ := HB2.out.get7
        have hgb2 := HB2.out.1
        have HO2 := hid (own_below HR.out.own hbw)
        have HOB := hid (own_bound HR.out.own)
        have HBR := hid (below_tr hbr hbw)
        have hz2 := hid hbw.size
        clear hx hb2 hbw
        go_wp2_with (first | (at_builtin; refine wpList_app1g EKspans rfl (.tmp 22) (.tmp 27) rfl (SpanL.cells ⟨fr, s.fr⟩) HO2.out rfl rfl rfl (oneS1 _) (by omega) (by omega) (by have := hz2.out; omega) ?_; intro v' w' h2 h3 h4; clear x0 x1 x2 x3 x4 x5 x6 z0 z1 z2 z3 z4 z5 z6 y0 y1 y2 y3 y4 y5 y6; have hne : some w1.heap.size ≠ v.ownBlock := fun e => by { have := (HOB.out _ e.symm).1; omega }; have hne2 : some wr.heap.size ≠ v.ownBlock := fun e => by { have := (HOB.out _ e.symm).2; omega }; have HB3 := hid (HB2.out.grown h4 hne); have HS3 := hid (HS2.out.grown h4 hgb2 hne); have hx := HX2.out.grown h4 hne2; have HO3 := hid h2; have HBR3 := hid (HBR.out.trans (h3.mono (Nat.le_succ _))); obtain ⟨⟨x0, x1, x2, x3, x4, x5, x6⟩, z0, z1, z2, z3, z4, z5, z6⟩ := hx.get14; obtain ⟨y0, y1, y2, y3, y4, y5, y6⟩ := HB3.out.get7; have hf2 : ∀ j, w'.frozen? ⟨w1.heap.size, j, none⟩ = false := HS3.out; clear hx h2 h3 h4 hne hne2))
        go_roundw
        case rel => exact ⟨k + 1, v', out ++ [⟨fr, s.fr⟩], s.til, by go_num, rfl, by omega, HB3.out.set7 s.til, HS3.out.set (vs := s.til.cells), ⟨own_setCells (o := 0) (vs := s.til.cells) (OwnS.app HO3.out) (by omega), (by rw [← HX.out]; exact HR.out.fit.addIf HFR.out hfk.out.1), by simp; omega⟩, (by have := HST.out; rwa [HX.out] at this), hfk.out.2, HBR3.out.setCells (Nat.le_refl _) s.til.cells 0⟩
        case measure => simp [intOf]; omega
    · obtain rfl : k = n := by omega
      have HDN := hid (Rw.NotInv.done (by have := HI.out; rwa [← HN.out] at this) HV.out)
      have HEN := hid (en_last HI.out.ok)
      obtain ⟨y0, y1, y2, y3, y4, y5, y6⟩ := HB.out.get7
      have hd : decide ((k : Int) < (k : Int)) = false := by simp
      have HOW := hid HR.out.own
      have HLN := HR.out.len
      have hbs := hid (Nat.le_trans hb1.size hbr.size)
      have hbw1 := hid ((hb1.mono hb).trans (hbr.mono (Nat.le_trans hb hb1.size)))
      cases hlt2 : decide (fr.en < 1)
      · have HX := hid (addIf_no (o := out) (f := fr) (t := lastC) (fun h => by have := HEN.out.2 h; simp at hlt2; omega))
        go_wp2_with fail
        go_ret
        rw [← HDN.out, HX.out]
        exact ⟨v, rfl, OwnS.low HOW.out (by have := hb1.size; omega), hbw1.out, hbs.out⟩
      · have HX := hid (addIf_yes (o := out) (f := fr) (t := lastC) (HEN.out.1 (by simpa using hlt2)))
        go_wp2_with (first | (at_builtin; refine wpList_app1g EKspans rfl (.tmp 35) (.tmp 39) rfl (SpanL.cells ⟨fr, lastC⟩) HOW.out rfl rfl rfl (oneS1 _) (by omega) (by omega) (by omega) ?_; intro v' w' h2 h3 h4))
        clear y0 y1 y2 y3 y4 y5 y6
        go_wp2_with fail
        go_ret
        rw [← HDN.out, HX.out]
        exact ⟨v', rfl, OwnS.low (OwnS.app h2) (by have := hb1.size; omega), hbw1.out.trans (h3.mono (by have := hb1.size; omega)), Nat.le_trans hbs.out h3.size⟩

theorem not_any (base : Nat) (A : Option Addr) (cap : Nat) (a : List SpanL) (w : World) (ha : Spans w A a) (hf : fitL a) (hln : a.length ≤ 40000) (hb : base ≤ w.heap.size) : Calls Try.prog 29 #[.slice A a.length cap] w (RowPost w base (rnotL a)) := by
  cases hmay : mayR a
  · rw [show rnotL a = [] by rw [rnotL, hmay]; rfl]; exact not_no base A cap a w ha hf hln hb hmay
  · exact not_yes base A cap a w ha hf hln hb hmay
end Go.Proofs.Ytodicnjoimoiiaa
