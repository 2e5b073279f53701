import Derived.Test.YtplmlahpmnjneaaGreatDoorNBf
namespace Go.Proofs.YtplmlahpmnjneaaGreatDoor
open Go.RowKit Go.Lib
set_option linter.unusedVariables false
set_option linter.unusedSimpArgs false
def fitAll (l : List SpanL) : Prop := ∀ s, s ∈ l → s.fit
theorem fitAll.addIf {o : List SpanL} {f t : CutL} (h : fitAll o) (hf : f.fit) (ht : t.fit) : fitAll (Rw.addIf o f t) := Rw.addIf_low (Q := SpanL.fit) h ⟨hf, ht⟩
theorem addIf_yes {o : List SpanL} {f t : CutL} (h : cmpC f t < 0) : Rw.addIf o f t = o ++ [⟨f, t⟩] := by rw [Rw.addIf, if_pos h]
theorem addIf_no {o : List SpanL} {f t : CutL} (h : ¬ cmpC f t < 0) : Rw.addIf o f t = o := by rw [Rw.addIf, if_neg h]
structure HasRow (w : World) (base : Nat) (v : Value) (o : List SpanL) (k : Nat) : Prop where
  own : OwnS w base v o
  fit : fitAll o
  len : o.length ≤ k
theorem en_last {c : CutL} (h : mayC c = true) : c.en < 1 ↔ cmpC c lastC < 0 := by
  rw [cmpC_ne h last_may (by simp [lastC]), cmpI_lt]; rfl
set_option maxRecDepth 100000 in
set_option maxHeartbeats 1000000 in
theorem not_no (base : Nat) (A : Option Addr) (cap : Nat) (a : List SpanL) (w : World) (ha : Spans w A a) (hf : fitL a) (hln : a.length ≤ 40000) (hb : base ≤ w.heap.size) (hmay : mayR a = false) : Calls Tryz.prog 161 #[.slice A a.length cap] w (RowPost w base []) := by
  have hma := hid (rowmay_any A cap a w ha hf (by omega))
  rw [hmay] at hma
  clear ha hf hmay
  generalize a.length = n at *
  go_enter Tryz.func161, Tryz.ntmps161
  go_wp2_with fail
  refine hma.out.mono ?_
  rintro _ w1 ⟨rfl, hb1⟩
  go_wp2_with fail
  go_ret
  exact ⟨_, rfl, OwnS.nil _ _, hb1.mono hb, hb1.size⟩
set_option maxRecDepth 100000 in
set_option maxHeartbeats 2000000 in
theorem not_yes (base : Nat) (A : Option Addr) (cap : Nat) (a : List SpanL) (w : World) (ha : Spans w A a) (hf : fitL a) (hln : a.length ≤ 40000) (hb : base ≤ w.heap.size) (hmay : mayR a = true) : Calls Tryz.prog 161 #[.slice A a.length cap] w (RowPost w base (rnotL a)) := by
  have hma := hid (rowmay_any A cap a w ha hf (by omega))
  rw [hmay] at hma
  have HV := hid (Rw.mayR_val.1 hmay)
  have HA := hid ha
  have HF := hid hf
  have hM : maxLen = 9223372036854775807 := rfl
  clear ha hf hmay
  generalize hn : a.length = n at *
  have HN := hid hn
  clear hn
  go_enter Tryz.func161, Tryz.ntmps161
  go_wp2_with fail
  refine hma.out.mono ?_
  rintro _ w1 ⟨rfl, hb1⟩
  have HA1 := hid (HA.out.below hb1)
  have HB0 := hid (Box.new w1 firstC.cells 98)
  have HS0 := hid (Soft.new w1 firstC.cells.toArray 98)
  have HBL := hid (below_new w1 (.cells firstC.cells.toArray 98))
  clear HA hma
  go_wp2_with fail
  go_loopw [6, 13, 3] (fun _ i o wr => ∃ (k : Nat) (v : Value) (out : List SpanL) (fr : CutL), i = .int .i64 k ∧ v = o ∧ k ≤ n ∧ Hid (Box wr w1.heap.size fr.cells) ∧ Hid (Soft wr w1.heap.size) ∧ Hid (HasRow wr (w1.heap.size + 1) v out k) ∧ Hid (Rw.NotInv a out k fr) ∧ Hid fr.fit ∧ Below w1.heap.size w1 wr) (fun _ i _ _ => n - (intOf i).toNat)
  case atStart => exact ⟨0, _, [], firstC, rfl, rfl, Nat.zero_le _, HB0, HS0, ⟨OwnS.nil _ _, (fun s h => by cases h), by simp⟩, Rw.NotInv.start HV.out, firstC_fit, HBL.out⟩
  case round =>
    obtain ⟨k, v, out, fr, rfl, rfl, hk, HB, HS, HR, HI, HFR, hbr⟩ := hrel
    have hgb := HB.out.1
    by_cases hlt : k < n
    · have hlt' : k < a.length := by rw [HN.out]; exact hlt
      obtain ⟨b, off, rfl, hbl, ⟨x0, x1, x2, x3, x4, x5, x6⟩, z0, z1, z2, z3, z4, z5, z6⟩ := (HA1.out.below hbr).at_ (k := k) hlt'
      have i0 : (0 : Int) ≤ (k : Int) := by omega
      have i1 : (k : Int) < (n : Int) := by omega
      have hfk := hid (HF.out k hlt')
      have HST := hid (HI.out.step HV.out hlt')
      generalize nth a k = s at *
      obtain ⟨y0, y1, y2, y3, y4, y5, y6⟩ := HB.out.get7
      have hcmp := hid (fun w' => ccompare_any fr s.fr w' HFR.out hfk.out.1)
      have HBN := hid (below_new wr (.cells s.cells.toArray 100))
      cases hlt2 : decide (cmpC fr s.fr < 0)
      · have HX := hid (addIf_no (o := out) (f := fr) (t := s.fr) (by simpa using hlt2))
        go_wp2_with fail
        refine (hcmp.out _).mono ?_
        rintro _ w2 ⟨rfl, hb2⟩
        clear x0 x1 x2 x3 x4 x5 x6 z0 z1 z2 z3 z4 z5 z6 y0 y1 y2 y3 y4 y5 y6
        obtain ⟨hx, hbw⟩ := box_1 (cs := s.cells) hb2
        have HB2 := hid (HB.out.below hbw)
        have HS2 := hid (HS.out.below hgb hbw)
        obtain ⟨⟨x0, x1, x2, x3, x4, x5, x6⟩, z0, z1, z2, z3, z4, z5, z6⟩ := hx.get14
        obtain ⟨y0, y1, y2, y3, y4, y5, y6⟩ := HB2.out.get7
        have hf2 : ∀ j, w2.frozen? ⟨w1.heap.size, j, none⟩ = false := HS2.out
        have HO2 := hid (own_below HR.out.own hbw)
        have HBR := hid (below_tr hbr hbw)
        clear hx hb2 hbw
        go_wp2_with fail
        go_roundw
        case rel => exact ⟨k + 1, v, out, s.til, by go_num, rfl, by omega, HB2.out.set7 s.til, HS2.out.set (vs := s.til.cells), ⟨own_setCells (o := 0) (vs := s.til.cells) HO2.out (by omega), HR.out.fit, Nat.le_succ_of_le HR.out.len⟩, (by have := HST.out; rwa [HX.out] at this), hfk.out.2, HBR.out.setCells (Nat.le_refl _) s.til.cells 0⟩
        case measure => simp [intOf]; omega
      · have HX := hid (addIf_yes (o := out) (f := fr) (t := s.fr) (by simpa using hlt2))
        have HLN := HR.out.len
        go_wp2_with fail
        refine (hcmp.out _).mono ?_
        rintro _ w2 ⟨rfl, hb2⟩
        clear x0 x1 x2 x3 x4 x5 x6 z0 z1 z2 z3 z4 z5 z6 y0 y1 y2 y3 y4 y5 y6
        obtain ⟨hx, hbw⟩ := box_1 (cs := s.cells) hb2
        have HB2 := hid (HB.out.below hbw)
        have HS2 := hid (HS.out.below hgb hbw)
        have HX2 := hid hx
        obtain ⟨⟨x0, x1, x2, x3, x4, x5, x6⟩, z0, z1, z2, z3, z4, z5, z6⟩ := hx.get14
        obtain ⟨y0, y1, y2, y3, y4, y5, y6⟩ := HB2.out.get7
        have hgb2 := HB2.out.1
        have HO2 := hid (own_below HR.out.own hbw)
        have HOB := hid (own_bound HR.out.own)
        have HBR := hid (below_tr hbr hbw)
        have hz2 := hid hbw.size
        clear hx hb2 hbw
        go_wp2_with (first | (at_builtin; refine wpList_app1g EKspans rfl (.tmp 22) (.tmp 27) rfl (SpanL.cells ⟨fr, s.fr⟩) HO2.out rfl rfl rfl (oneS1 _) (by omega) (by omega) (by have := hz2.out; omega) ?_; intro v' w' h2 h3 h4; clear x0 x1 x2 x3 x4 x5 x6 z0 z1 z2 z3 z4 z5 z6 y0 y1 y2 y3 y4 y5 y6; have hne : some w1.heap.size ≠ v.ownBlock := fun e => by { have := (HOB.out _ e.symm).1; omega }; have hne2 : some wr.heap.size ≠ v.ownBlock := fun e => by { have := (HOB.out _ e.symm).2; omega }; have HB3 := hid (HB2.out.grown h4 hne); have HS3 := hid (HS2.out.grown h4 hgb2 hne); have hx := HX2.out.grown h4 hne2; have HO3 := hid h2; have HBR3 := hid (HBR.out.trans (h3.mono (Nat.le_succ _))); obtain ⟨⟨x0, x1, x2, x3, x4, x5, x6⟩, z0, z1, z2, z3, z4, z5, z6⟩ := hx.get14; obtain ⟨y0, y1, y2, y3, y4, y5, y6⟩ := HB3.out.get7; have hf2 : ∀ j, w'.frozen? ⟨w1.heap.size, j, none⟩ = false := HS3.out; clear hx h2 h3 h4 hne hne2))
        go_roundw
        case rel => exact ⟨k + 1, v', out ++ [⟨fr, s.fr⟩], s.til, by go_num, rfl, by omega, HB3.out.set7 s.til, HS3.out.set (vs := s.til.cells), ⟨own_setCells (o := 0) (vs := s.til.cells) (OwnS.app HO3.out) (by omega), (by rw [← HX.out]; exact HR.out.fit.addIf HFR.out hfk.out.1), by simp; omega⟩, (by have := HST.out; rwa [HX.out] at this), hfk.out.2, HBR3.out.setCells (Nat.le_refl _) s.til.cells 0⟩
        case measure => simp [intOf]; omega
    · obtain rfl : k = n := by omega
      have HDN := hid (Rw.NotInv.done (by have := HI.out; rwa [← HN.out] at this) HV.out)
      have HEN := hid (en_last HI.out.ok)
      obtain ⟨y0, y1, y2, y3, y4, y5, y6⟩ := HB.out.get7
      have hd : decide ((k : Int) < (k : Int)) = false := by simp
      have HOW := hid HR.out.own
      have HLN := HR.out.len
      have hbs := hid (Nat.le_trans hb1.size hbr.size)
      have hbw1 := hid ((hb1.mono hb).trans (hbr.mono (Nat.le_trans hb hb1.size)))
      cases hlt2 : decide (fr.en < 1)
      · have HX := hid (addIf_no (o := out) (f := fr) (t := lastC) (fun h => by have := HEN.out.2 h; simp at hlt2; omega))
        go_wp2_with fail
        go_ret
        rw [← HDN.out, HX.out]
        exact ⟨v, rfl, OwnS.low HOW.out (by have := hb1.size; omega), hbw1.out, hbs.out⟩
      · have HX := hid (addIf_yes (o := out) (f := fr) (t := lastC) (HEN.out.1 (by simpa using hlt2)))
        go_wp2_with (first | (at_builtin; refine wpList_app1g EKspans rfl (.tmp 35) (.tmp 39) rfl (SpanL.cells ⟨fr, lastC⟩) HOW.out rfl rfl rfl (oneS1 _) (by omega) (by omega) (by omega) ?_; intro v' w' h2 h3 h4))
        clear y0 y1 y2 y3 y4 y5 y6
        go_wp2_with fail
        go_ret
        rw [← HDN.out, HX.out]
        exact ⟨v', rfl, OwnS.low (OwnS.app h2) (by have := hb1.size; omega), hbw1.out.trans (h3.mono (by have := hb1.size; omega)), Nat.le_trans hbs.out h3.size⟩
theorem not_any (base : Nat) (A : Option Addr) (cap : Nat) (a : List SpanL) (w : World) (ha : Spans w A a) (hf : fitL a) (hln : a.length ≤ 40000) (hb : base ≤ w.heap.size) : Calls Tryz.prog 161 #[.slice A a.length cap] w (RowPost w base (rnotL a)) := by
  cases hmay : mayR a
  · rw [show rnotL a = [] by rw [rnotL, hmay]; rfl]; exact not_no base A cap a w ha hf hln hb hmay
  · exact not_yes base A cap a w ha hf hln hb hmay
end Go.Proofs.YtplmlahpmnjneaaGreatDoor
namespace Go.Proofs.YtplmlahpmnjneaaGreatDoor
open Go.RowKit Go.Lib
set_option linter.unusedVariables false
set_option linter.unusedSimpArgs false
theorem own_keep {w w' : World} {base size n : Nat} {e : TypeId} {v : Value} {xs : List Value} (h : w.ownsRow base e size v n xs) (hb : ∀ k, v.ownBlock = some k → w'.heap[k]? = w.heap[k]?) : w'.ownsRow base e size v n xs := by
  obtain ⟨h1, h2⟩ := h
  refine ⟨h1, ?_⟩
  rcases h2 with h2 | ⟨g, cap, cur, hv, hg, hh, r⟩
  · exact .inl h2
  · refine .inr ⟨g, cap, cur, hv, hg, ?_, r⟩
    rw [hb g (by rw [hv]; rfl)]; exact hh
theorem own_set {w : World} {base size n g o : Nat} {e : TypeId} {v : Value} {xs vs : List Value} (h : w.ownsRow base e size v n xs) (hg : ∀ k, v.ownBlock = some k → k < g) : (w.setCells g o vs).ownsRow base e size v n xs :=
  own_keep h fun k hk => setCells_block g k (by have := hg k hk; omega) vs o w
theorem maxC_yes {a b : CutL} (h : cmpC a b < 0) : Rw.maxC a b = b := by rw [Rw.maxC, if_pos h]
theorem maxC_no {a b : CutL} (h : ¬ cmpC a b < 0) : Rw.maxC a b = a := by rw [Rw.maxC, if_neg h]
theorem below_setNew {w w' : World} {g o : Nat} {vs : List Value} (h : Below g w w') : Below g w (w'.setCells g o vs) := h.setCells (Nat.le_refl g) vs o
set_option maxRecDepth 100000 in
set_option maxHeartbeats 1000000 in
theorem and_no (base : Nat) (A B : Option Addr) (cap cap2 : Nat) (a b : List SpanL) (w : World) (ha : Spans w A a) (hb : Spans w B b) (hfa : fitL a) (hfb : fitL b) (hln : a.length + b.length ≤ 40000) (hbase : base ≤ w.heap.size) (hno : (mayR a && mayR b) = false) : Calls Tryz.prog 107 #[.slice A a.length cap, .slice B b.length cap2] w (RowPost w base []) := by
  have hma := hid (rowmay_any A cap a w ha hfa (by omega))
  have HB := hid hb
  have hmb := hid (fun w' (h : Spans w' B b) => rowmay_any B cap2 b w' h hfb (by omega))
  clear ha hb hfa hfb
  cases hmay : mayR a
  · rw [hmay] at hma
    generalize a.length = n at *
    generalize b.length = p at *
    clear hno
    go_enter Tryz.func107, Tryz.ntmps107
    go_wp2_with fail
    refine hma.out.mono ?_
    rintro _ w1 ⟨rfl, hb1⟩
    go_wp2_with fail
    go_ret
    exact ⟨_, rfl, OwnS.nil _ _, hb1.mono hbase, hb1.size⟩
  · rw [hmay] at hma hno
    have hbm : mayR b = false := by simpa using hno
    rw [hbm] at hmb
    generalize a.length = n at *
    generalize b.length = p at *
    clear hno hbm
    go_enter Tryz.func107, Tryz.ntmps107
    go_wp2_with fail
    refine hma.out.mono ?_
    rintro _ w1 ⟨rfl, hb1⟩
    go_wp2_with fail
    refine (hmb.out _ (HB.out.below hb1)).mono ?_
    rintro _ w2 ⟨rfl, hb2⟩
    have hb02 := below_tr hb1 hb2
    go_wp2_with fail
    go_ret
    exact ⟨_, rfl, OwnS.nil _ _, hb02.mono hbase, hb02.size⟩
set_option maxRecDepth 100000 in
set_option maxHeartbeats 16000000 in
theorem and_yes (base : Nat) (A B : Option Addr) (cap cap2 : Nat) (a b : List SpanL) (w : World) (ha : Spans w A a) (hb : Spans w B b) (hfa : fitL a) (hfb : fitL b) (hln : a.length + b.length ≤ 40000) (hbase : base ≤ w.heap.size) (hmay : mayR a = true ∧ mayR b = true) : Calls Tryz.prog 107 #[.slice A a.length cap, .slice B b.length cap2] w (RowPost w base (randL a b)) := by
  have HA := hid ha
  have HB := hid hb
  have HFA := hid hfa
  have HFB := hid hfb
  have hma := hid (rowmay_any A cap a w ha hfa (by omega))
  have hmb := hid (fun w' (h : Spans w' B b) => rowmay_any B cap2 b w' h hfb (by omega))
  rw [hmay.1] at hma
  rw [hmay.2] at hmb
  have HVA := hid (Rw.mayR_val.1 hmay.1)
  have HVB := hid (Rw.mayR_val.1 hmay.2)
  have hM : maxLen = 9223372036854775807 := rfl
  clear ha hb hfa hfb hmay
  generalize hn : a.length = n at *
  generalize hp : b.length = p at *
  have HN := hid hn
  have HP := hid hp
  clear hn hp
  go_enter Tryz.func107, Tryz.ntmps107
  go_wp2_with fail
  refine hma.out.mono ?_
  rintro _ w0 ⟨rfl, hb0⟩
  go_wp2_with fail
  refine (hmb.out _ (HB.out.below hb0)).mono ?_
  rintro _ w1 ⟨rfl, hb1'⟩
  have hb1 := below_tr hb0 hb1'
  have HA1 := hid (HA.out.below hb1)
  have HB1 := hid (HB.out.below hb1)
  clear hma hmb HA HB hb0 hb1'
  go_wp2_with fail
  go_loopw [8, 9, 6, 7, 5] (fun _ _ i j o wr => ∃ (k q : Nat) (v : Value) (out : List SpanL), i = .int .i64 k ∧ j = .int .i64 q ∧ v = o ∧ k ≤ n ∧ q ≤ p ∧ Hid (HasRow wr w1.heap.size v out (k + q)) ∧ Hid (Rw.AndInv a b out k q) ∧ Below w1.heap.size w1 wr) (fun _ _ i j _ _ => n + p - (intOf i).toNat - (intOf j).toNat)
  case atStart => exact ⟨0, 0, _, [], rfl, rfl, rfl, Nat.zero_le _, Nat.zero_le _, ⟨OwnS.nil _ _, (fun s h => by cases h), by simp⟩, Rw.AndInv.start a b, Below.refl _ _⟩
  case round =>
    obtain ⟨k, q, v, out, rfl, rfl, rfl, hk, hq, HR, HI, hbr⟩ := hrel
    have HBR := hid hbr
    by_cases hlt : k < n
    · by_cases hlq : q < p
      · have hlt' : k < a.length := by rw [HN.out]; exact hlt
        have hlq' : q < b.length := by rw [HP.out]; exact hlq
        have hgw := HBR.out.size
        obtain ⟨bl, off, rfl, hbl, ⟨x0, x1, x2, x3, x4, x5, x6⟩, z0, z1, z2, z3, z4, z5, z6⟩ := (HA1.out.below hbr).at_ (k := k) hlt'
        obtain ⟨bl2, off2, rfl, hbl2, ⟨u0, u1, u2, u3, u4, u5, u6⟩, y0, y1, y2, y3, y4, y5, y6⟩ := (HB1.out.below hbr).at_ (k := q) hlq'
        have i0 : (0 : Int) ≤ (k : Int) := by omega
        have i1 : (k : Int) < (n : Int) := by omega
        have j0 : (0 : Int) ≤ (q : Int) := by omega
        have j1 : (q : Int) < (p : Int) := by omega
        have hfk := hid (HFA.out k hlt')
        have hfq := hid (HFB.out q hlq')
        have HST := hid (HI.out.stepA HVA.out HVB.out hlt' hlq')
        have HSU := hid (HI.out.stepB HVA.out HVB.out hlt' hlq')
        have HCA := hid (fun w' (h : Below wr.heap.size wr w') => ((HA1.out.below hbr).below h).lay (k := k) hlt')
        have HCB := hid (fun w' (h : Below wr.heap.size wr w') => ((HB1.out.below hbr).below h).lay (k := q) hlq')
        generalize nth a k = s at *
        generalize nth b q = t at *
        have HBN := hid (below_new wr (.cells s.cells.toArray 100))
        have HX0 := hid (Box.new wr s.cells 100)
        have HS0 := hid (Soft.new wr s.cells.toArray 100)
        have HOB := hid (own_bound HR.out.own)
        have HOW := hid HR.out.own
        have HLN := HR.out.len
        have hc1 := hid (fun w' => ccompare_any s.fr t.fr w' hfk.out.1 hfq.out.1)
        have hc2 := hid (fun w' => ccompare_any s.til t.til w' hfk.out.2 hfq.out.2)
        clear hbr
        go_wp2_with fail
        have hbw := bw_cell
        refine wp_region_below (by kernel_rfl) (by kernel_rfl) ?_
        repeat (go_big_quiet_step ((go_at_call 132; exact bw_int (hc1.out _))))
        refine wpQuiet_nil ?_
        rintro _ ⟨z, rfl⟩
        have hbz := z.ok
        generalize z.v = w2 at hbz ⊢
        clear z hbw
        clear x0 x1 x2 x3 x4 x5 x6 z0 z1 z2 z3 z4 z5 z6 u0 u1 u2 u3 u4 u5 u6 y0 y1 y2 y3 y4 y5 y6
        have HBW := hid (below_tr HBN.out hbz)
        have HX := hid (HX0.out.below hbz)
        have HS := hid (HS0.out.below HX0.out.1 hbz)
        have HO := hid (own_below HOW.out HBW.out)
        clear hbz hc1 HX0 HS0 HBN
        cases hd1 : decide (cmpC s.fr t.fr < 0)
        · have HM := hid (maxC_no (a := s.fr) (b := t.fr) (by simpa using hd1))
          obtain ⟨hgx, hX⟩ := HX.out
          obtain ⟨hbl, ⟨x0, x1, x2, x3, x4, x5, x6⟩, z0, z1, z2, z3, z4, z5, z6⟩ := HCA.out _ HBW.out
          obtain ⟨hbl2, ⟨u0, u1, u2, u3, u4, u5, u6⟩, y0, y1, y2, y3, y4, y5, y6⟩ := HCB.out _ HBW.out
          clear hX
          go_wp2_with fail
          have hbw := bw_cell
          refine wp_region_below (by kernel_rfl) (by kernel_rfl) ?_
          repeat (go_big_quiet_step ((go_at_call 132; exact bw_int (hc2.out _))))
          refine wpQuiet_nil ?_
          rintro _ ⟨z, rfl⟩
          have hbz := z.ok
          generalize z.v = w4 at hbz ⊢
          clear z hbw hgx
          clear x0 x1 x2 x3 x4 x5 x6 z0 z1 z2 z3 z4 z5 z6 u0 u1 u2 u3 u4 u5 u6 y0 y1 y2 y3 y4 y5 y6
          have HX4 := hid (HX.out.below hbz)
          have HS4 := hid (HS.out.below HX.out.1 hbz)
          have HO4 := hid (own_below HO.out hbz)
          have HBW4 := hid (HBW.out.trans (hbz.mono (Nat.le_trans (Nat.le_of_lt HX.out.1) (Nat.le_refl _))))
          clear hbz HX HS HO HBW
          cases hd2 : decide (cmpC s.til t.til ≤ 0)
          · have HT := hid (HSU.out (by simpa using hd2))
            rw [HM.out] at HT
            obtain ⟨hgx, hX⟩ := HX4.out
            obtain ⟨hbl, ⟨x0, x1, x2, x3, x4, x5, x6⟩, z0, z1, z2, z3, z4, z5, z6⟩ := HCA.out _ HBW4.out
            obtain ⟨hbl2, ⟨u0, u1, u2, u3, u4, u5, u6⟩, y0, y1, y2, y3, y4, y5, y6⟩ := HCB.out _ HBW4.out
            obtain ⟨⟨p0, p1, p2, p3, p4, p5, p6⟩, q0, q1, q2, q3, q4, q5, q6⟩ := HX4.out.get14
            have hf : ∀ j, w4.frozen? ⟨wr.heap.size, j, none⟩ = false := HS4.out
            clear hX
            go_wp2_with fail
            rw [show (((((((w4.setCell ⟨wr.heap.size, 7, none⟩ (.int .i64 t.til.en)).setCell ⟨wr.heap.size, 8, none⟩ (.int .i64 t.til.v.maj)).setCell ⟨wr.heap.size, 9, none⟩ (.int .i64 t.til.v.min)).setCell ⟨wr.heap.size, 10, none⟩ (.int .i64 t.til.v.pat)).setCell ⟨wr.heap.size, 11, none⟩ (.string t.til.v.pre)).setCell ⟨wr.heap.size, 12, none⟩ (.string t.til.v.bld)).setCell ⟨wr.heap.size, 13, none⟩ (.bool t.til.aft)) = w4.setCells wr.heap.size 7 t.til.cells from rfl]
            clear x0 x1 x2 x3 x4 x5 x6 z0 z1 z2 z3 z4 z5 z6 u0 u1 u2 u3 u4 u5 u6 y0 y1 y2 y3 y4 y5 y6 p0 p1 p2 p3 p4 p5 p6 q0 q1 q2 q3 q4 q5 q6 hf hgx
            have HX5 := hid (HX4.out.setTil t.til)
            have HBW5 := hid (below_setNew (o := 7) (vs := t.til.cells) HBW4.out)
            have HO5 := hid (own_set (g := wr.heap.size) (o := 7) (vs := t.til.cells) HO4.out fun r hr => (HOB.out r hr).2)
            clear HX4 HS4 HBW4 HO4
            generalize w4.setCells wr.heap.size 7 t.til.cells = w5 at *
            have hgx := HX5.out.1
            obtain ⟨⟨p0, p1, p2, p3, p4, p5, p6⟩, q0, q1, q2, q3, q4, q5, q6⟩ := HX5.out.get14
            have hc3 := hid (fun w' => ccompare_any s.fr t.til w' hfk.out.1 hfq.out.2)
            go_wp2_with fail
            refine (hc3.out _).mono ?_
            rintro _ w6 ⟨rfl, hb6⟩
            clear p0 p1 p2 p3 p4 p5 p6 q0 q1 q2 q3 q4 q5 q6 hgx hc3
            have HX6 := hid (HX5.out.below hb6)
            have HO6 := hid (own_below HO5.out hb6)
            have HBW6 := hid (HBW5.out.trans (hb6.mono (Nat.le_of_lt HX5.out.1)))
            clear hb6 HX5 HO5 HBW5
            cases hd3 : decide (cmpC s.fr t.til < 0)
            · have HAD := hid (addIf_no (o := out) (f := s.fr) (t := t.til) (by simpa using hd3))
              rw [HAD.out] at HT
              go_wp2_with fail
              go_roundw
              case rel => exact ⟨k, q + 1, v, out, by go_num, by go_num, rfl, by omega, by omega, ⟨HO6.out, HR.out.fit, by omega⟩, HT.out, HBR.out.trans (HBW6.out.mono hgw)⟩
              case measure => simp [intOf]; omega
            · have HAD := hid (addIf_yes (o := out) (f := s.fr) (t := t.til) (by simpa using hd3))
              rw [HAD.out] at HT
              have hgx := HX6.out.1
              have hbw6 := hid HBW6.out.size
              obtain ⟨⟨p0, p1, p2, p3, p4, p5, p6⟩, q0, q1, q2, q3, q4, q5, q6⟩ := HX6.out.get14
              go_wp2_with (first | (at_builtin; refine wpList_app1g EKspans rfl (.tmp 73) (.tmp 75) rfl (SpanL.cells ⟨s.fr, t.til⟩) HO6.out rfl rfl rfl (oneS1 _) (by omega) (by omega) (by have := hbw6.out; omega) ?_; intro v' w7 h2 h3 h4))
              clear p0 p1 p2 p3 p4 p5 p6 q0 q1 q2 q3 q4 q5 q6 hgx
              have HO7 := hid (OwnS.app h2)
              have HBR7 := hid ((HBR.out.trans (HBW6.out.mono hgw)).trans h3)
              clear h2 h3 h4
              go_wp2_with fail
              go_roundw
              case rel => exact ⟨k, q + 1, v', out ++ [(⟨s.fr, t.til⟩ : SpanL)], by go_num, by go_num, rfl, by omega, by omega, ⟨HO7.out, (by rw [← HAD.out]; exact HR.out.fit.addIf hfk.out.1 hfq.out.2), by simp; omega⟩, HT.out, HBR7.out⟩
              case measure => simp [intOf]; omega
          · have HT := hid (HST.out (by simpa using hd2))
            rw [HM.out] at HT
            have HX5 := HX4
            have HBW5 := HBW4
            have HO5 := HO4
            clear HX4 HS4 HBW4 HO4
            have hgx := HX5.out.1
            obtain ⟨⟨p0, p1, p2, p3, p4, p5, p6⟩, q0, q1, q2, q3, q4, q5, q6⟩ := HX5.out.get14
            have hc3 := hid (fun w' => ccompare_any s.fr s.til w' hfk.out.1 hfk.out.2)
            go_wp2_with fail
            refine (hc3.out _).mono ?_
            rintro _ w6 ⟨rfl, hb6⟩
            clear p0 p1 p2 p3 p4 p5 p6 q0 q1 q2 q3 q4 q5 q6 hgx hc3
            have HX6 := hid (HX5.out.below hb6)
            have HO6 := hid (own_below HO5.out hb6)
            have HBW6 := hid (HBW5.out.trans (hb6.mono (Nat.le_of_lt HX5.out.1)))
            clear hb6 HX5 HO5 HBW5
            cases hd3 : decide (cmpC s.fr s.til < 0)
            · have HAD := hid (addIf_no (o := out) (f := s.fr) (t := s.til) (by simpa using hd3))
              rw [HAD.out] at HT
              go_wp2_with fail
              go_roundw
              case rel => exact ⟨k + 1, q, v, out, by go_num, by go_num, rfl, by omega, by omega, ⟨HO6.out, HR.out.fit, by omega⟩, HT.out, HBR.out.trans (HBW6.out.mono hgw)⟩
              case measure => simp [intOf]; omega
            · have HAD := hid (addIf_yes (o := out) (f := s.fr) (t := s.til) (by simpa using hd3))
              rw [HAD.out] at HT
              have hgx := HX6.out.1
              have hbw6 := hid HBW6.out.size
              obtain ⟨⟨p0, p1, p2, p3, p4, p5, p6⟩, q0, q1, q2, q3, q4, q5, q6⟩ := HX6.out.get14
              go_wp2_with (first | (at_builtin; refine wpList_app1g EKspans rfl (.tmp 73) (.tmp 75) rfl (SpanL.cells ⟨s.fr, s.til⟩) HO6.out rfl rfl rfl (oneS1 _) (by omega) (by omega) (by have := hbw6.out; omega) ?_; intro v' w7 h2 h3 h4))
              clear p0 p1 p2 p3 p4 p5 p6 q0 q1 q2 q3 q4 q5 q6 hgx
              have HO7 := hid (OwnS.app h2)
              have HBR7 := hid ((HBR.out.trans (HBW6.out.mono hgw)).trans h3)
              clear h2 h3 h4
              go_wp2_with fail
              go_roundw
              case rel => exact ⟨k + 1, q, v', out ++ [(⟨s.fr, s.til⟩ : SpanL)], by go_num, by go_num, rfl, by omega, by omega, ⟨HO7.out, (by rw [← HAD.out]; exact HR.out.fit.addIf hfk.out.1 hfk.out.2), by simp; omega⟩, HT.out, HBR7.out⟩
              case measure => simp [intOf]; omega
        · have HM := hid (maxC_yes (a := s.fr) (b := t.fr) (by simpa using hd1))
          obtain ⟨hgx, hX⟩ := HX.out
          obtain ⟨hbl, ⟨x0, x1, x2, x3, x4, x5, x6⟩, z0, z1, z2, z3, z4, z5, z6⟩ := HCA.out _ HBW.out
          obtain ⟨hbl2, ⟨u0, u1, u2, u3, u4, u5, u6⟩, y0, y1, y2, y3, y4, y5, y6⟩ := HCB.out _ HBW.out
          obtain ⟨⟨p0, p1, p2, p3, p4, p5, p6⟩, q0, q1, q2, q3, q4, q5, q6⟩ := HX.out.get14
          have hf : ∀ j, w2.frozen? ⟨wr.heap.size, j, none⟩ = false := HS.out
          clear hX
          go_wp2_with fail
          rw [show (((((((w2.setCell ⟨wr.heap.size, 0, none⟩ (.int .i64 t.fr.en)).setCell ⟨wr.heap.size, 1, none⟩ (.int .i64 t.fr.v.maj)).setCell ⟨wr.heap.size, 2, none⟩ (.int .i64 t.fr.v.min)).setCell ⟨wr.heap.size, 3, none⟩ (.int .i64 t.fr.v.pat)).setCell ⟨wr.heap.size, 4, none⟩ (.string t.fr.v.pre)).setCell ⟨wr.heap.size, 5, none⟩ (.string t.fr.v.bld)).setCell ⟨wr.heap.size, 6, none⟩ (.bool t.fr.aft)) = w2.setCells wr.heap.size 0 t.fr.cells from rfl]
          clear x0 x1 x2 x3 x4 x5 x6 z0 z1 z2 z3 z4 z5 z6 u0 u1 u2 u3 u4 u5 u6 y0 y1 y2 y3 y4 y5 y6 p0 p1 p2 p3 p4 p5 p6 q0 q1 q2 q3 q4 q5 q6 hf hgx
          have HX1 := hid (HX.out.setFr t.fr)
          have HS1 := hid (HS.out.set (k := wr.heap.size) (o := 0) (vs := t.fr.cells))
          have HBW1 := hid (below_setNew (o := 0) (vs := t.fr.cells) HBW.out)
          have HO1 := hid (own_set (g := wr.heap.size) (o := 0) (vs := t.fr.cells) HO.out fun r hr => (HOB.out r hr).2)
          clear HX HS HBW HO
          generalize w2.setCells wr.heap.size 0 t.fr.cells = w3 at *
          rename Hid (Box w3 _ _) => HX
          rename Hid (Soft w3 _) => HS
          rename Hid (Below _ _ w3) => HBW
          rename Hid (World.ownsRow w3 _ _ _ _ _ _) => HO
          obtain ⟨hgx, hX⟩ := HX.out
          obtain ⟨hbl, ⟨x0, x1, x2, x3, x4, x5, x6⟩, z0, z1, z2, z3, z4, z5, z6⟩ := HCA.out _ HBW.out
          obtain ⟨hbl2, ⟨u0, u1, u2, u3, u4, u5, u6⟩, y0, y1, y2, y3, y4, y5, y6⟩ := HCB.out _ HBW.out
          clear hX
          go_wp2_with fail
          have hbw := bw_cell
          refine wp_region_below (by kernel_rfl) (by kernel_rfl) ?_
          repeat (go_big_quiet_step ((go_at_call 132; exact bw_int (hc2.out _))))
          refine wpQuiet_nil ?_
          rintro _ ⟨z, rfl⟩
          have hbz := z.ok
          generalize z.v = w4 at hbz ⊢
          clear z hbw hgx
          clear x0 x1 x2 x3 x4 x5 x6 z0 z1 z2 z3 z4 z5 z6 u0 u1 u2 u3 u4 u5 u6 y0 y1 y2 y3 y4 y5 y6
          have HX4 := hid (HX.out.below hbz)
          have HS4 := hid (HS.out.below HX.out.1 hbz)
          have HO4 := hid (own_below HO.out hbz)
          have HBW4 := hid (HBW.out.trans (hbz.mono (Nat.le_trans (Nat.le_of_lt HX.out.1) (Nat.le_refl _))))
          clear hbz HX HS HO HBW
          cases hd2 : decide (cmpC s.til t.til ≤ 0)
          · have HT := hid (HSU.out (by simpa using hd2))
            rw [HM.out] at HT
            obtain ⟨hgx, hX⟩ := HX4.out
            obtain ⟨hbl, ⟨x0, x1, x2, x3, x4, x5, x6⟩, z0, z1, z2, z3, z4, z5, z6⟩ := HCA.out _ HBW4.out
            obtain ⟨hbl2, ⟨u0, u1, u2, u3, u4, u5, u6⟩, y0, y1, y2, y3, y4, y5, y6⟩ := HCB.out _ HBW4.out
            obtain ⟨⟨p0, p1, p2, p3, p4, p5, p6⟩, q0, q1, q2, q3, q4, q5, q6⟩ := HX4.out.get14
            have hf : ∀ j, w4.frozen? ⟨wr.heap.size, j, none⟩ = false := HS4.out
            clear hX
            go_wp2_with fail
            rw [show (((((((w4.setCell ⟨wr.heap.size, 7, none⟩ (.int .i64 t.til.en)).setCell ⟨wr.heap.size, 8, none⟩ (.int .i64 t.til.v.maj)).setCell ⟨wr.heap.size, 9, none⟩ (.int .i64 t.til.v.min)).setCell ⟨wr.heap.size, 10, none⟩ (.int .i64 t.til.v.pat)).setCell ⟨wr.heap.size, 11, none⟩ (.string t.til.v.pre)).setCell ⟨wr.heap.size, 12, none⟩ (.string t.til.v.bld)).setCell ⟨wr.heap.size, 13, none⟩ (.bool t.til.aft)) = w4.setCells wr.heap.size 7 t.til.cells from rfl]
            clear x0 x1 x2 x3 x4 x5 x6 z0 z1 z2 z3 z4 z5 z6 u0 u1 u2 u3 u4 u5 u6 y0 y1 y2 y3 y4 y5 y6 p0 p1 p2 p3 p4 p5 p6 q0 q1 q2 q3 q4 q5 q6 hf hgx
            have HX5 := hid (HX4.out.setTil t.til)
            have HBW5 := hid (below_setNew (o := 7) (vs := t.til.cells) HBW4.out)
            have HO5 := hid (own_set (g := wr.heap.size) (o := 7) (vs := t.til.cells) HO4.out fun r hr => (HOB.out r hr).2)
            clear HX4 HS4 HBW4 HO4
            generalize w4.setCells wr.heap.size 7 t.til.cells = w5 at *
            have hgx := HX5.out.1
            obtain ⟨⟨p0, p1, p2, p3, p4, p5, p6⟩, q0, q1, q2, q3, q4, q5, q6⟩ := HX5.out.get14
            have hc3 := hid (fun w' => ccompare_any t.fr t.til w' hfq.out.1 hfq.out.2)
            go_wp2_with fail
            refine (hc3.out _).mono ?_
            rintro _ w6 ⟨rfl, hb6⟩
            clear p0 p1 p2 p3 p4 p5 p6 q0 q1 q2 q3 q4 q5 q6 hgx hc3
            have HX6 := hid (HX5.out.below hb6)
            have HO6 := hid (own_below HO5.out hb6)
            have HBW6 := hid (HBW5.out.trans (hb6.mono (Nat.le_of_lt HX5.out.1)))
            clear hb6 HX5 HO5 HBW5
            cases hd3 : decide (cmpC t.fr t.til < 0)
            · have HAD := hid (addIf_no (o := out) (f := t.fr) (t := t.til) (by simpa using hd3))
              rw [HAD.out] at HT
              go_wp2_with fail
              go_roundw
              case rel => exact ⟨k, q + 1, v, out, by go_num, by go_num, rfl, by omega, by omega, ⟨HO6.out, HR.out.fit, by omega⟩, HT.out, HBR.out.trans (HBW6.out.mono hgw)⟩
              case measure => simp [intOf]; omega
            · have HAD := hid (addIf_yes (o := out) (f := t.fr) (t := t.til) (by simpa using hd3))
              rw [HAD.out] at HT
              have hgx := HX6.out.1
              have hbw6 := hid HBW6.out.size
              obtain ⟨⟨p0, p1, p2, p3, p4, p5, p6⟩, q0, q1, q2, q3, q4, q5, q6⟩ := HX6.out.get14
              go_wp2_with (first | (at_builtin; refine wpList_app1g EKspans rfl (.tmp 73) (.tmp 75) rfl (SpanL.cells ⟨t.fr, t.til⟩) HO6.out rfl rfl rfl (oneS1 _) (by omega) (by omega) (by have := hbw6.out; omega) ?_; intro v' w7 h2 h3 h4))
              clear p0 p1 p2 p3 p4 p5 p6 q0 q1 q2 q3 q4 q5 q6 hgx
              have HO7 := hid (OwnS.app h2)
              have HBR7 := hid ((HBR.out.trans (HBW6.out.mono hgw)).trans h3)
              clear h2 h3 h4
              go_wp2_with fail
              go_roundw
              case rel => exact ⟨k, q + 1, v', out ++ [(⟨t.fr, t.til⟩ : SpanL)], by go_num, by go_num, rfl, by omega, by omega, ⟨HO7.out, (by rw [← HAD.out]; exact HR.out.fit.addIf hfq.out.1 hfq.out.2), by simp; omega⟩, HT.out, HBR7.out⟩
              case measure => simp [intOf]; omega
          · have HT := hid (HST.out (by simpa using hd2))
            rw [HM.out] at HT
            have HX5 := HX4
            have HBW5 := HBW4
            have HO5 := HO4
            clear HX4 HS4 HBW4 HO4
            have hgx := HX5.out.1
            obtain ⟨⟨p0, p1, p2, p3, p4, p5, p6⟩, q0, q1, q2, q3, q4, q5, q6⟩ := HX5.out.get14
            have hc3 := hid (fun w' => ccompare_any t.fr s.til w' hfq.out.1 hfk.out.2)
            go_wp2_with fail
            refine (hc3.out _).mono ?_
            rintro _ w6 ⟨rfl, hb6⟩
            clear p0 p1 p2 p3 p4 p5 p6 q0 q1 q2 q3 q4 q5 q6 hgx hc3
            have HX6 := hid (HX5.out.below hb6)
            have HO6 := hid (own_below HO5.out hb6)
            have HBW6 := hid (HBW5.out.trans (hb6.mono (Nat.le_of_lt HX5.out.1)))
            clear hb6 HX5 HO5 HBW5
            cases hd3 : decide (cmpC t.fr s.til < 0)
            · have HAD := hid (addIf_no (o := out) (f := t.fr) (t := s.til) (by simpa using hd3))
              rw [HAD.out] at HT
              go_wp2_with fail
              go_roundw
              case rel => exact ⟨k + 1, q, v, out, by go_num, by go_num, rfl, by omega, by omega, ⟨HO6.out, HR.out.fit, by omega⟩, HT.out, HBR.out.trans (HBW6.out.mono hgw)⟩
              case measure => simp [intOf]; omega
            · have HAD := hid (addIf_yes (o := out) (f := t.fr) (t := s.til) (by simpa using hd3))
              rw [HAD.out] at HT
              have hgx := HX6.out.1
              have hbw6 := hid HBW6.out.size
              obtain ⟨⟨p0, p1, p2, p3, p4, p5, p6⟩, q0, q1, q2, q3, q4, q5, q6⟩ := HX6.out.get14
              go_wp2_with (first | (at_builtin; refine wpList_app1g EKspans rfl (.tmp 73) (.tmp 75) rfl (SpanL.cells ⟨t.fr, s.til⟩) HO6.out rfl rfl rfl (oneS1 _) (by omega) (by omega) (by have := hbw6.out; omega) ?_; intro v' w7 h2 h3 h4))
              clear p0 p1 p2 p3 p4 p5 p6 q0 q1 q2 q3 q4 q5 q6 hgx
              have HO7 := hid (OwnS.app h2)
              have HBR7 := hid ((HBR.out.trans (HBW6.out.mono hgw)).trans h3)
              clear h2 h3 h4
              go_wp2_with fail
              go_roundw
              case rel => exact ⟨k + 1, q, v', out ++ [(⟨t.fr, s.til⟩ : SpanL)], by go_num, by go_num, rfl, by omega, by omega, ⟨HO7.out, (by rw [← HAD.out]; exact HR.out.fit.addIf hfq.out.1 hfk.out.2), by simp; omega⟩, HT.out, HBR7.out⟩
              case measure => simp [intOf]; omega
      · obtain rfl : q = p := by omega
        have HDN := hid (HI.out.done HVA.out HVB.out (.inr (by rw [HP.out]; exact Nat.le_refl _)))
        go_wp2_with fail
        go_ret
        rw [← HDN.out]
        exact ⟨v, rfl, OwnS.low HR.out.own (Nat.le_trans hbase hb1.size), (hb1.mono hbase).trans (hbr.mono (Nat.le_trans hbase hb1.size)), Nat.le_trans hb1.size hbr.size⟩
    · obtain rfl : k = n := by omega
      have HDN := hid (HI.out.done HVA.out HVB.out (.inl (by rw [HN.out]; exact Nat.le_refl _)))
      have hd : decide ((k : Int) < (k : Int)) = false := by simp
      go_wp2_with fail
      go_ret
      rw [← HDN.out]
      exact ⟨v, rfl, OwnS.low HR.out.own (Nat.le_trans hbase hb1.size), (hb1.mono hbase).trans (hbr.mono (Nat.le_trans hbase hb1.size)), Nat.le_trans hb1.size hbr.size⟩
theorem and_any (base : Nat) (A B : Option Addr) (cap cap2 : Nat) (a b : List SpanL) (w : World) (ha : Spans w A a) (hb : Spans w B b) (hfa : fitL a) (hfb : fitL b) (hln : a.length + b.length ≤ 40000) (hbase : base ≤ w.heap.size) : Calls Tryz.prog 107 #[.slice A a.length cap, .slice B b.length cap2] w (RowPost w base (randL a b)) := by
  cases hmay : (mayR a && mayR b)
  · rw [show randL a b = [] by rw [randL, hmay]; rfl]; exact and_no base A B cap cap2 a b w ha hb hfa hfb hln hbase hmay
  · rw [Bool.and_eq_true] at hmay; exact and_yes base A B cap cap2 a b w ha hb hfa hfb hln hbase hmay
end Go.Proofs.YtplmlahpmnjneaaGreatDoor
