/- The walks of slices.Clone and of the program's Make of rows. -/
import Derived.Test.YtodicnjoimoiiaaSorted
import Derived.Test.YtodicnjoimoiiaaNot
namespace Go.Proofs.Ytodicnjoimoiiaa
open Go.RowKit Go.Lib
set_option linter.unusedVariables false
set_option linter.unusedSimpArgs false

theorem own_empty (w : World) (base : Nat) (hb : base ≤ w.heap.size) : (w.alloc (.cells #[] 37)).ownsRow base 37 14 (.slice (some ⟨w.heap.size, 0, none⟩) 0 0) 0 [] := by
  refine ⟨rfl, .inr ⟨w.heap.size, 0, #[], rfl, hb, ?_, Nat.le_refl _, Nat.zero_le _, rfl, rfl⟩⟩
  show (w.heap.push _)[w.heap.size]? = _
  simp
set_option maxRecDepth 100000 in
theorem clone_nil (cap : Nat) (w : World) : Calls Try.prog 35 #[.slice none 0 cap] w fun e w' => e = .returned (.slice none 0 0) ∧ w = w' := by
  have hq : ∀ w', (binOp .eql 22 (.slice none 0 cap) (.slice none 0 0)).run Try.prog w' = .ok (.bool true) w' := fun w' => Lib.run_eql_slice_nil w' _ _ _ _ _ _ _ Try.underlying22
  go_enter Try.func35, Try.ntmps35
  go_wp2_with fail
  go_ret
  exact ⟨rfl, rfl⟩
set_option maxRecDepth 100000 in
set_option maxHeartbeats 1000000 in
theorem clone_some (base : Nat) (ad : Addr) (cap : Nat) (l : List SpanL) (w : World) (h : Spans w (some ad) l) (hln : l.length ≤ 400000) (hb : base ≤ w.heap.size) : Calls Try.prog 35 #[.slice (some ad) l.length cap] w (RowPost w base l) := by
  have hq : ∀ w', (binOp .eql 22 (.slice (some ad) l.length cap) (.slice none 0 0)).run Try.prog w' = .ok (.bool false) w' := fun w' => Lib.run_eql_slice_nil w' _ _ _ _ _ _ _ Try.underlying22
  have HBN := hid (below_new w (.cells #[] 37))
  have HSR := hid (h.below HBN.out).src
  have HOE := hid (own_empty w base hb)
  have hM : maxLen = 9223372036854775807 := rfl
  clear h
  generalize hn : l.length = n at *
  have HN := hid hn
  clear hn
  go_enter Try.func35, Try.ntmps35
  go_wp2_with (first | (at_builtin; refine wpList_appx EKspans rfl (.tmp 5) (.tmp 6) rfl rfl HOE.out rfl HSR.out (oneS l) (by omega) (by omega) (by simp; omega) ?_; intro v' w' h2 h3 _; clear hq))
  go_ret
  have h4 := (HBN.out.mono hb).trans h3
  refine ⟨v', rfl, ?_, h4, h4.size⟩
  rw [OwnS, HN.out]
  simpa using h2
theorem clone_any (base : Nat) (A : Option Addr) (cap : Nat) (l : List SpanL) (w : World) (h : Spans w A l) (hln : l.length ≤ 400000) (hb : base ≤ w.heap.size) : Calls Try.prog 35 #[.slice A l.length cap] w (RowPost w base l) := by
  cases A with
  | none =>
    have h0 : l = [] := by
      rcases h with h | ⟨b, off, e, _⟩
      · exact h
      · cases e
    subst h0
    exact (clone_nil cap w).mono fun e w' ⟨he, hw⟩ => by subst hw; exact ⟨_, he, OwnS.nil _ _, Below.refl _ _, Nat.le_refl _⟩
  | some ad => exact clone_some base ad cap l w h hln hb
/-- what the sort leaves of a slice of the call's own -/
def SortedPost (w : World) (base : Nat) (v : Value) (l : List SpanL) (e : Ending) (w' : World) : Prop :=
  e = .returned (.tuple #[]) ∧ ∃ (m : List SpanL) (A : Option Addr) (c : Nat), v = .slice A m.length c ∧ (∀ s, s ∈ m ↔ s ∈ l) ∧ m.length = l.length ∧ m.Pairwise (fun a b => cmpC a.fr b.fr ≤ 0) ∧ Spans w' A m ∧ Below base w w'
theorem sort_any (base : Nat) (v : Value) (l : List SpanL) (w : World) (hl : ∀ s, s ∈ l → s.fit ∧ spanMay s = true) (h : OwnS w base v l) (hln : l.length ≤ 400000) :
    Calls Try.prog 36 #[v, .func (.func 37) #[] #[]] w (SortedPost w base v l) := by
  rcases h.form with ⟨rfl, rfl⟩ | ⟨g, cap, rfl, hg, hlt, hle⟩
  · exact (sort_none none 0 w).mono fun e w' ⟨he, hw⟩ => by subst hw; exact ⟨he, [], none, 0, rfl, fun s => Iff.rfl, rfl, List.Pairwise.nil, Spans.nil, Below.refl _ _⟩
  · have hs : Soft w g := fun j => World.ownsRow.frozenAt h j
    obtain ⟨A, c, e, hsp⟩ := h.spans
    injection e with e1 e2 e3
    subst e1
    exact (sort_some g cap l w hl hsp hs hlt (by omega)).mono fun e w' ⟨he, m, h1, h2, h3, h4, h5⟩ => ⟨he, m, _, _, by rw [h2], h1, h2, h3, h4, h5.mono hg⟩

theorem mergeTo_succ {m : List SpanL} {k : Nat} (h : k < m.length) : (m.take (k + 1)).foldl Rw.mergeStep [] = Rw.mergeStep ((m.take k).foldl Rw.mergeStep []) (nth m k) := by
  rw [Rw.take_nth h, List.foldl_append]; rfl
theorem merge_nil (s : SpanL) : Rw.mergeStep [] s = [s] := rfl
theorem merge_app {q s : SpanL} {r : List SpanL} (h : cmpC q.til s.fr < 0) : Rw.mergeStep (q :: r) s = s :: q :: r := by simp [Rw.mergeStep, h]
theorem merge_set {q s : SpanL} {r : List SpanL} (h : ¬ cmpC q.til s.fr < 0) (k : cmpC q.til s.til < 0) : Rw.mergeStep (q :: r) s = ⟨q.fr, s.til⟩ :: r := by simp [Rw.mergeStep, h, k]
theorem merge_keep {q s : SpanL} {r : List SpanL} (h : ¬ cmpC q.til s.fr < 0) (k : ¬ cmpC q.til s.til < 0) : Rw.mergeStep (q :: r) s = q :: r := by simp [Rw.mergeStep, h, k]

set_option maxRecDepth 100000 in
set_option maxHeartbeats 4000000 in
theorem make_any (base : Nat) (A : Option Addr) (cap : Nat) (l : List SpanL) (w : World) (hl : Spans w A l) (hf : fitL l) (hln : l.length ≤ 40000) (hb : base ≤ w.heap.size) : Calls Try.prog 13 #[.slice A l.length cap] w (RowOk w base (rmakeL l)) := by
  have HF := hid hf
  have HL := hid hl
  have hM : maxLen = 9223372036854775807 := rfl
  clear hl hf
  generalize hn : l.length = n at *
  have HN := hid hn
  clear hn
  go_enter Try.func13, Try.ntmps13
  go_wp2_with fail
  go_loopw [6, 13] (fun _ i wr => ∃ k : Nat, i = .int .i64 k ∧ k ≤ n ∧ Hid (Spans wr A l) ∧ Hid (okTo l k) ∧ Below w.heap.size w wr) (fun _ i _ => n - (intOf i).toNat)
  case atStart => exact ⟨0, rfl, Nat.zero_le _, HL, fun j hj => by omega, Below.refl _ _⟩
  case round =>
    obtain ⟨k, rfl, hk, HS, HM, hbr⟩ := hrel
    by_cases hlt : k < n
    · have hlt' : k < l.length := by rw [HN.out]; exact hlt
      obtain ⟨b, off, rfl, hbl, ⟨x0, x1, x2, x3, x4, x5, x6⟩, z0, z1, z2, z3, z4, z5, z6⟩ := HS.out.at_ (k := k) hlt'
      have i0 : (0 : Int) ≤ (k : Int) := by omega
      have i1 : (k : Int) < (n : Int) := by omega
      have hfk := HF.out k hlt'
      generalize hsk : nth l k = s at *
      have HK := hid hsk
      clear hsk
      have hbn := hid (below_new wr (.cells s.cells.toArray 37))
      cases hsm : spanMay s
      · have HE := hid (okTo_no hlt' (by rw [HK.out]; exact hsm))
        go_wp2_with (go_at_call 34; refine (spanmay_any s _ hfk).mono ?_; rintro _ w1 ⟨rfl, hb1⟩; rw [hsm])
        refine bodyPost_ret (v := .tuple #[.slice none 0 0, .bool false]) (by simp [results, Try.results13, go_sem]) rfl ?_
        rw [HE.out]
        have hbb := below_tr hbr (below_tr hbn.out hb1)
        exact ⟨_, rfl, OwnS.nil _ _, hbb.mono hb, hbb.size⟩
      · go_wp2_with (go_at_call 34; refine (spanmay_any s _ hfk).mono ?_; rintro _ w1 ⟨rfl, hb1⟩; rw [hsm])
        go_roundw
        case rel => exact ⟨k + 1, by go_num, by omega, HS.out.below (below_tr hbn.out hb1), okTo_step HM.out (by rw [HK.out]; exact hsm), below_tr hbr (below_tr hbn.out hb1)⟩
        case measure => simp [intOf]; omega
    · obtain rfl : k = n := by omega
      have HOK : Hid (∀ s, s ∈ l → s.fit ∧ spanMay s = true) := hid fun s hs => by
        obtain ⟨i, hi, rfl⟩ := List.getElem_of_mem hs
        have h1 := HM.out i (by rw [← HN.out]; exact hi)
        have h2 := HF.out i hi
        rw [nth_lt hi] at h1 h2
        exact ⟨h2, h1⟩
      have hcl := hid (HN.out ▸ clone_any wr.heap.size A cap l wr HS.out (by rw [HN.out]; omega) (Nat.le_refl _) : Calls Try.prog 35 #[.slice A k cap] wr (RowPost wr wr.heap.size l))
      go_wp2_with fail
      refine hcl.out.mono ?_
      rintro _ w1 ⟨v1, rfl, ho1, hb1, hz1⟩
      have HSO := hid (sort_any wr.heap.size v1 l w1 HOK.out ho1 (by rw [HN.out]; omega))
      clear ho1
      go_wp2_with fail
      refine HSO.out.mono ?_
      rintro _ w2 ⟨rfl, m, A2, c2, rfl, hm1, hm2, hm3, hm4, hm5⟩
      have HRM := hid (Rw.merge_is hm1 (fun s hs => Rw.spanMay_iff.1 (HOK.out s hs).2) hm3)
      have HRE := hid (okTo_end (by rw [HN.out]; exact HM.out))
      have HMF : Hid (fitL m) := hid fun i hi => by
        have := hm1 (nth m i)
        rw [nth_lt hi] at this ⊢
        exact (HOK.out _ (this.1 (List.getElem_mem _))).1
      rw [HN.out] at hm2
      have HS2 := hid hm4
      have HB2 := hid (below_tr hbr (hb1.trans hm5))
      clear hm1 hm3 hm4 hm5 hb1 hz1 hcl HSO HS HM hbr
      generalize hmn : m.length = n2 at *
      subst hm2
      have HMN := hid hmn
      clear hmn
      go_wp2_with fail
      go_loopw [9, 10, 27, 4] (fun _ _ i o wr => ∃ (q : Nat) (v : Value) (acc : List SpanL), i = .int .i64 q ∧ v = o ∧ q ≤ n2 ∧ Hid ((m.take q).foldl Rw.mergeStep [] = acc) ∧ Hid (HasRow wr w2.heap.size v acc.reverse q) ∧ Below w2.heap.size w2 wr) (fun _ _ i _ _ => n2 - (intOf i).toNat)
      case atStart => exact ⟨0, _, [], rfl, rfl, Nat.zero_le _, rfl, ⟨OwnS.nil _ _, (fun s h => by cases h), by simp⟩, Below.refl _ _⟩
      case round =>
        obtain ⟨q, v, acc, rfl, rfl, hq, HACC, HR, hbr⟩ := hrel
        have HBR := hid hbr
        have HLN := HR.out.len
        by_cases hlt : q < n2
        · have hlt' : q < m.length := by rw [HMN.out]; exact hlt
          obtain ⟨b, off, rfl, hbl, ⟨x0, x1, x2, x3, x4, x5, x6⟩, z0, z1, z2, z3, z4, z5, z6⟩ := (HS2.out.below hbr).at_ (k := q) hlt'
          have i0 : (0 : Int) ≤ (q : Int) := by omega
          have i1 : (q : Int) < (n2 : Int) := by omega
          have hfk := hid (HMF.out q hlt')
          have HST := hid (mergeTo_succ hlt')
          rw [HACC.out] at HST
          generalize nth m q = s at *
          have HBN := hid (below_new wr (.cells s.cells.toArray 37))
          have HX0 := hid (Box.new wr s.cells 37)
          have HOW := hid HR.out.own
          have HOB := hid (own_bound HR.out.own)
          have hgw := hid hbr.size
          cases acc with
          | nil =>
            rw [merge_nil] at HST
            obtain ⟨A3, c3, rfl⟩ : ∃ A3 c3, v = .slice A3 0 c3 := by
              rcases HOW.out.form with ⟨rfl, _⟩ | ⟨g, c, rfl, _⟩
              · exact ⟨_, _, rfl⟩
              · exact ⟨_, _, rfl⟩
            clear hbr
            go_wp2_with fail
            have hbw := bw_cell
            refine wp_region_below (by kernel_rfl) (by kernel_rfl) ?_
            repeat (go_big_quiet_step (fail))
            refine wpQuiet_nil ?_
            rintro _ ⟨z, rfl⟩
            have hbz := z.ok
            generalize z.v = w5 at hbz ⊢
            clear z hbw x0 x1 x2 x3 x4 x5 x6 z0 z1 z2 z3 z4 z5 z6
            have HX := hid (HX0.out.below hbz)
            have HBW := hid (below_tr HBN.out hbz)
            have HO5 : Hid (w5.ownsRow w2.heap.size 37 14 (.slice A3 0 c3) 0 []) := hid (own_below HOW.out HBW.out)
            have hz5 := hid HBW.out.size
            obtain ⟨⟨x0, x1, x2, x3, x4, x5, x6⟩, z0, z1, z2, z3, z4, z5, z6⟩ := HX.out.get14
            have hgx := HX.out.1
            go_wp2_with (first | (at_builtin; refine wpList_app1g EKspans rfl (.tmp 47) (.tmp 49) rfl s.cells HO5.out rfl rfl rfl (oneS1 _) (by omega) (by omega) (by have := hz5.out; have := hgw.out; omega) ?_; intro v' w7 h2 h3 h4; clear x0 x1 x2 x3 x4 x5 x6 z0 z1 z2 z3 z4 z5 z6 hgx))
            go_roundw
            case rel => exact ⟨q + 1, v', [s], by go_num, rfl, by omega, HST.out, ⟨OwnS.app (l := []) h2, (fun t ht => by rw [List.reverse_singleton, List.mem_singleton] at ht; subst ht; exact hfk.out), by simp⟩, (HBR.out.trans (HBW.out.mono hgw.out)).trans h3⟩
            case measure => simp [intOf]; omega
          | cons p r =>
            have HFP : Hid p.fit := hid (HR.out.fit p (by simp))
            have HRF := hid HR.out.fit
            rw [List.reverse_cons] at HRF
            have HOW' := HOW.out
            rw [List.reverse_cons] at HOW' HLN
            generalize hrv : r.reverse = o at *
            have HRV := hid hrv
            clear hrv
            obtain ⟨g, cap3, rfl, hgb, hgl⟩ : ∃ g cap3, v = .slice (some ⟨g, 0, none⟩) (o.length + 1) cap3 ∧ w2.heap.size ≤ g ∧ g < wr.heap.size := by
              rcases HOW'.form with ⟨_, h0⟩ | ⟨g, c, h1, h2, h3, h4⟩
              · simp at h0
              · exact ⟨g, c, by rw [h1]; simp, h2, h3⟩
            have HZ : Hid (Row7 wr g (o.length * 14 + 7) p.til) := hid (by
              obtain ⟨A, c, e, hS⟩ := HOW'.spans
              injection e with e1 e2 e3
              subst e1
              have := (hS.lay (k := o.length) (by simp)).2.2
              simpa [nth] using this)
            have HFR : Hid (Soft wr g) := hid (fun j => by
              have h' := HOW'
              simp only [OwnS, List.length_append, List.length_singleton] at h'
              exact h'.frozenAt j)
            rw [List.length_append, List.length_singleton] at HLN
            have HO0 := hid HOW'
            clear HOW'
            generalize hN : o.length = N at *
            have HNN := hid hN
            clear hN
            obtain ⟨t0, t1, t2, t3, t4, t5, t6⟩ := HZ.out
            have j0 : (0 : Int) ≤ (N : Int) := by omega
            have j1 : (N : Int) < ((N + 1 : Nat) : Int) := by omega
            have j2 : (N : Int) < (N : Int) + 1 := by omega
            have hgl1 : g < wr.heap.size + 1 := by omega
            have hdn : decide ((N : Int) < 0) = false := by rw [decide_eq_false_iff_not]; omega
            have hc1 := hid (fun w' => ccompare_any p.til s.fr w' HFP.out.2 hfk.out.1)
            have hc2 := hid (fun w' => ccompare_any p.til s.til w' HFP.out.2 hfk.out.2)
            have HSZ := hid hgl
            have HGB := hid hgb
            clear hbr
            cases hd1 : decide (cmpC p.til s.fr < 0)
            · go_wp2_with fail
              have hbw := bw_cell
              refine wp_region_below (by kernel_rfl) (by kernel_rfl) ?_
              repeat (go_big_quiet_step ((go_at_call 38; exact bw_int (hc1.out _))))
              refine wpQuiet_nil ?_
              rintro _ ⟨z, rfl⟩
              have hbz := z.ok
              generalize z.v = w5 at hbz ⊢
              clear z hbw x0 x1 x2 x3 x4 x5 x6 z0 z1 z2 z3 z4 z5 z6 t0 t1 t2 t3 t4 t5 t6
              have HX := hid (HX0.out.below hbz)
              have HBW := hid (below_tr HBN.out hbz)
              have HO5 := hid (HO0.out.below HBW.out)
              have HZ5 := hid (HZ.out.below HSZ.out HBW.out)
              have HF5 := hid (HFR.out.below HSZ.out HBW.out)
              have HSZ5 := hid (Nat.lt_of_lt_of_le HSZ.out HBW.out.size)
              obtain ⟨⟨x0, x1, x2, x3, x4, x5, x6⟩, z0, z1, z2, z3, z4, z5, z6⟩ := HX.out.get14
              obtain ⟨t0, t1, t2, t3, t4, t5, t6⟩ := HZ5.out
              have hgx := HX.out.1
              have hgx2 := HSZ5.out
              clear hbz HX0 HBN HO0 HZ HFR hgl1 hgl
              cases hd2 : decide (cmpC p.til s.til < 0)
              · rw [merge_keep (by simpa using hd1) (by simpa using hd2)] at HST
                go_wp2_with fail
                have hbw := bw_cell
                refine wp_region_below (by kernel_rfl) (by kernel_rfl) ?_
                repeat (go_big_quiet_step ((go_at_call 38; exact bw_int (hc2.out _))))
                refine wpQuiet_nil ?_
                rintro _ ⟨z, rfl⟩
                have hbz := z.ok
                generalize z.v = w6 at hbz ⊢
                clear z hbw x0 x1 x2 x3 x4 x5 x6 z0 z1 z2 z3 z4 z5 z6 t0 t1 t2 t3 t4 t5 t6
                have HB6 := hid (HBW.out.trans (hbz.mono (by have := HBW.out.size; omega)))
                have HO6 := hid (HO5.out.below hbz)
                clear hbz hgx hgx2
                go_wp2_with fail
                go_roundw
                case rel => exact ⟨q + 1, _, p :: r, by go_num, rfl, by omega, HST.out, ⟨by rw [List.reverse_cons, HRV.out]; exact HO6.out, (by rw [List.reverse_cons, HRV.out]; exact HRF.out), by rw [List.reverse_cons, HRV.out, List.length_append, HNN.out]; simp; omega⟩, HBR.out.trans (HB6.out.mono hgw.out)⟩
                case measure => simp [intOf]; omega
              · rw [merge_set (by simpa using hd1) (by simpa using hd2)] at HST
                go_wp2_with fail
                have hbw := bw_cell
                refine wp_region_below (by kernel_rfl) (by kernel_rfl) ?_
                repeat (go_big_quiet_step ((go_at_call 38; exact bw_int (hc2.out _))))
                refine wpQuiet_nil ?_
                rintro _ ⟨z, rfl⟩
                have hbz := z.ok
                generalize z.v = w6 at hbz ⊢
                clear z hbw x0 x1 x2 x3 x4 x5 x6 z0 z1 z2 z3 z4 z5 z6 t0 t1 t2 t3 t4 t5 t6
                have HB6 := hid (HBW.out.trans (hbz.mono (by have := HBW.out.size; omega)))
                have HO6 := hid (HO5.out.below hbz)
                have HX6 := hid (HX.out.below hbz)
                have HZ6 := hid (HZ5.out.below HSZ5.out hbz)
                have HF6 := hid (HF5.out.below HSZ5.out hbz)
                have HSZ6 := hid (Nat.lt_of_lt_of_le HSZ5.out hbz.size)
                obtain ⟨⟨x0, x1, x2, x3, x4, x5, x6⟩, z0, z1, z2, z3, z4, z5, z6⟩ := HX6.out.get14
                obtain ⟨t0, t1, t2, t3, t4, t5, t6⟩ := HZ6.out
                have hf6 : ∀ j, w6.frozen? ⟨g, j, none⟩ = false := HF6.out
                clear hbz hgx hgx2
                go_wp2_with fail
                go_roundw
                case rel =>
                  obtain ⟨q1, q2, q3⟩ := OwnS.set7 s.til HNN.out HO6.out HGB.out HSZ6.out
                  exact ⟨q + 1, _, ⟨p.fr, s.til⟩ :: r, by go_num, rfl, by omega, HST.out, ⟨by rw [List.reverse_cons, HRV.out]; exact q1, (fun t ht => by rw [List.reverse_cons, HRV.out, List.mem_append, List.mem_singleton] at ht; rcases ht with ht | rfl; exact HRF.out t (List.mem_append_left _ ht); exact ⟨HFP.out.1, hfk.out.2⟩), by rw [List.reverse_cons, HRV.out, List.length_append, HNN.out]; simp; omega⟩, (HBR.out.trans (HB6.out.mono hgw.out)).trans q2⟩
                case measure => simp [intOf]; omega
            · rw [merge_app (by simpa using hd1)] at HST
              go_wp2_with fail
              have hbw := bw_cell
              refine wp_region_below (by kernel_rfl) (by kernel_rfl) ?_
              repeat (go_big_quiet_step ((go_at_call 38; exact bw_int (hc1.out _))))
              refine wpQuiet_nil ?_
              rintro _ ⟨z, rfl⟩
              have hbz := z.ok
              generalize z.v = w5 at hbz ⊢
              clear z hbw x0 x1 x2 x3 x4 x5 x6 z0 z1 z2 z3 z4 z5 z6 t0 t1 t2 t3 t4 t5 t6
              have HX := hid (HX0.out.below hbz)
              have HBW := hid (below_tr HBN.out hbz)
              have HO5 : Hid (w5.ownsRow w2.heap.size 37 14 (.slice (some ⟨g, 0, none⟩) (N + 1) cap3) (N + 1) (cellsL (o ++ [p]))) := hid (by
                have h := HO0.out.below HBW.out
                rw [OwnS, List.length_append, List.length_singleton, HNN.out] at h
                exact h)
              have hz5 := hid HBW.out.size
              obtain ⟨⟨x0, x1, x2, x3, x4, x5, x6⟩, z0, z1, z2, z3, z4, z5, z6⟩ := HX.out.get14
              have hgx := HX.out.1
              clear hbz HX0 HBN HO0 HZ HFR hgl1 hgl
              go_wp2_with (first | (at_builtin; refine wpList_app1g EKspans rfl (.tmp 47) (.tmp 49) rfl s.cells HO5.out rfl rfl rfl (oneS1 _) (by omega) (by omega) (by have := hz5.out; have := hgw.out; omega) ?_; intro v' w7 h2 h3 h4; clear x0 x1 x2 x3 x4 x5 x6 z0 z1 z2 z3 z4 z5 z6 hgx))
              go_roundw
              case rel =>
                have e : (s :: p :: r).reverse = o ++ [p] ++ [s] := by rw [List.reverse_cons, List.reverse_cons, HRV.out]
                have h2' : OwnS w7 w2.heap.size v' (o ++ [p] ++ [s]) := by
                  refine OwnS.app ?_
                  rw [List.length_append, List.length_singleton, HNN.out]
                  exact h2
                exact ⟨q + 1, v', s :: p :: r, by go_num, rfl, by omega, HST.out, ⟨by rw [e]; exact h2', (fun t ht => by rw [e, List.mem_append, List.mem_singleton] at ht; rcases ht with ht | rfl; exact HRF.out t ht; exact hfk.out), by rw [e, List.length_append, List.length_append, HNN.out]; simp; omega⟩, (HBR.out.trans (HBW.out.mono hgw.out)).trans h3⟩
              case measure => simp [intOf]; omega
        · obtain rfl : q = n2 := by omega
          have HE : Hid (acc.reverse = (rmakeL l).1) := hid (by
            have := HRM.out
            rw [← this, Rw.merge, ← HACC.out, ← HMN.out, List.take_length])
          have HRE2 : Hid ((rmakeL l).2 = true) := hid (by rw [HRE.out])
          have HOW := hid HR.out.own
          have HBB := hid ((HB2.out.mono hb).trans (hbr.mono (Nat.le_trans hb HB2.out.size)))
          go_wp2_with fail
          refine bodyPost_ret (v := .tuple #[v, .bool true]) (by simp [results, Try.results13, go_sem]) rfl ?_
          exact ⟨v, by rw [HRE2.out], by rw [← HE.out]; exact OwnS.low HOW.out (Nat.le_trans hb HB2.out.size), HBB.out, HBB.out.size⟩
end Go.Proofs.Ytodicnjoimoiiaa
