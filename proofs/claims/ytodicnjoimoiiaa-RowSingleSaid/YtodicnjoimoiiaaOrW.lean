/- The program's Or of rows, both Withins; Or and And put together. -/
import Derived.Test.YtodicnjoimoiiaaMake
import Derived.Test.YtodicnjoimoiiaaAnd
import Derived.Test.YtodicnjoimoiiaaRefAnd
namespace Go.Proofs.Ytodicnjoimoiiaa
open Go.RowKit Go.Lib
set_option linter.unusedVariables false
set_option linter.unusedSimpArgs false

set_option maxRecDepth 100000 in
set_option maxHeartbeats 1000000 in
theorem or_no (base : Nat) (A B : Option Addr) (cap cap2 : Nat) (a b : List SpanL) (w : World) (ha : Spans w A a) (hb : Spans w B b) (hfa : fitL a) (hfb : fitL b) (hln : a.length + b.length ≤ 40000) (hbase : base ≤ w.heap.size) (hno : (mayR a && mayR b) = false) : Calls Try.prog 27 #[.slice A a.length cap, .slice B b.length cap2] w (RowPost w base []) := by
  have hma := hid (rowmay_any A cap a w ha hfa (by omega))
  have HB := hid hb
  have hmb := hid (fun w' (h : Spans w' B b) => rowmay_any B cap2 b w' h hfb (by omega))
  clear ha hb hfa hfb
  cases hmay : mayR a
  · rw [hmay] at hma
    generalize a.length = n at *
    generalize b.length = p at *
    clear hno
    go_enter Try.func27, Try.ntmps27
    go_wp2_with fail
    refine hma.out.mono ?_
    rintro _ w1 ⟨rfl, hb1⟩
    go_wp2_with fail
    go_ret
    exact ⟨_, rfl, OwnS.nil _ _, hb1.mono hbase, hb1.size⟩
  · rw [hmay] at hma hno
    have hbm : mayR b = false := by simpa using hno
    rw [hbm] at hmb
    generalize a.length = n at *
    generalize b.length = p at *
    clear hno hbm
    go_enter Try.func27, Try.ntmps27
    go_wp2_with fail
    refine hma.out.mono ?_
    rintro _ w1 ⟨rfl, hb1⟩
    go_wp2_with fail
    refine (hmb.out _ (HB.out.below hb1)).mono ?_
    rintro _ w2 ⟨rfl, hb2⟩
    have hb02 := below_tr hb1 hb2
    go_wp2_with fail
    go_ret
    exact ⟨_, rfl, OwnS.nil _ _, hb02.mono hbase, hb02.size⟩

set_option maxRecDepth 100000 in
set_option maxHeartbeats 1000000 in
theorem or_yes (base : Nat) (A B : Option Addr) (cap cap2 : Nat) (a b : List SpanL) (w : World) (ha : Spans w A a) (hb : Spans w B b) (hfa : fitL a) (hfb : fitL b) (hln : a.length + b.length ≤ 40000) (hbase : base ≤ w.heap.size) (hmay : mayR a = true ∧ mayR b = true) : Calls Try.prog 27 #[.slice A a.length cap, .slice B b.length cap2] w (RowPost w base (rmakeL (a ++ b)).1) := by
  have HA := hid ha
  have HB := hid hb
  have HFA := hid hfa
  have HFB := hid hfb
  have hma := hid (rowmay_any A cap a w ha hfa (by omega))
  have hmb := hid (fun w' (h : Spans w' B b) => rowmay_any B cap2 b w' h hfb (by omega))
  rw [hmay.1] at hma
  rw [hmay.2] at hmb
  have HSA := hid (fun w' (h : Spans w' A a) => h.src)
  have HSB2 := hid (fun w' (h : Spans w' B b) => h.src)
  have HCAT := hid (fun (w' : World) (base : Nat) (v : Value) (h : w'.ownsRow base 37 14 v (a.length + b.length) (cellsL a ++ cellsL b)) => (OwnS.cat h).spans)
  have hmk := hid (fun w' A' c' (h : Spans w' A' (a ++ b)) (hw : base ≤ w'.heap.size) => make_any base A' c' (a ++ b) w' h (fitL_app hfa hfb) (by rw [List.length_append]; exact hln) hw)
  generalize rmakeL (a ++ b) = r at *
  clear ha hb hfa hfb hmay
  generalize hn : a.length = n at *
  generalize hp : b.length = p at *
  have HN := hid hn
  have HP := hid hp
  clear hn hp
  have hM : maxLen = 9223372036854775807 := rfl
  go_enter Try.func27, Try.ntmps27
  go_wp2_with fail
  refine hma.out.mono ?_
  rintro _ w1 ⟨rfl, hb1⟩
  go_wp2_with fail
  refine (hmb.out _ (HB.out.below hb1)).mono ?_
  rintro _ w2 ⟨rfl, hb2⟩
  have hb02 := below_tr hb1 hb2
  clear hma hmb hb1 hb2
  go_wp2_with (first
    | (at_builtin; refine wpList_appx EKspans rfl (.tmp 16) (.tmp 17) rfl rfl (World.ownsRow_nil w2 w2.heap.size _ _) rfl (HSA.out _ (HA.out.below hb02)) (oneS a) (by omega) (by omega) (Nat.le_refl _) ?_; intro v3 w3 h3 hb3 _; have hb03 := below_tr hb02 hb3; have hz3 := hb3.size; simp only [Nat.zero_add, List.nil_append] at h3)
    | (at_builtin; refine wpList_appx EKspans rfl (.tmp 19) (.tmp 20) rfl rfl h3 rfl (HSB2.out _ (HB.out.below hb03)) (oneS b) (by omega) (by omega) hz3 ?_; intro v4 w4 h4 hb4 _))
  have hb24 := hb3.trans hb4
  obtain ⟨A4, c4, rfl, h5⟩ := HCAT.out _ _ _ h4
  have hb04 := below_tr hb02 hb24
  clear h3 h4 hb3 hb4 hb24 hb03 hb02 hz3 HCAT HSA HSB2
  go_wp2_with fail
  refine (hmk.out _ _ _ h5 (Nat.le_trans hbase hb04.size)).mono ?_
  rintro _ w5 ⟨v5, rfl, h6, h7, h8⟩
  have hb05 := (hb04.mono hbase).trans h7
  go_wp2_with fail
  go_ret
  exact ⟨_, rfl, h6, hb05, hb05.size⟩
theorem por_any (base : Nat) (A B : Option Addr) (cap cap2 : Nat) (a b : List SpanL) (w : World) (ha : Spans w A a) (hb : Spans w B b) (hfa : fitL a) (hfb : fitL b) (hln : a.length + b.length ≤ 40000) (hbase : base ≤ w.heap.size) : Calls Try.prog 27 #[.slice A a.length cap, .slice B b.length cap2] w (RowPost w base (rorL a b)) := by
  cases hmay : (mayR a && mayR b)
  · rw [show rorL a b = [] by rw [rorL, hmay]; rfl]; exact or_no base A B cap cap2 a b w ha hb hfa hfb hln hbase hmay
  · rw [show rorL a b = (rmakeL (a ++ b)).1 by rw [rorL, hmay]; rfl]
    rw [Bool.and_eq_true] at hmay; exact or_yes base A B cap cap2 a b w ha hb hfa hfb hln hbase hmay
theorem ror_any (base : Nat) (A B : Option Addr) (cap cap2 : Nat) (a b : List SpanL) (w : World) (ha : Spans w A a) (hb : Spans w B b) (hfa : fitL a) (hfb : fitL b) (hln : a.length + b.length ≤ 40000) (hbase : base ≤ w.heap.size) : Calls Try.prog 24 #[.slice A a.length cap, .slice B b.length cap2] w (RowPost w base (rorL a b)) := by
  cases hmay : (mayR a && mayR b)
  · rw [show rorL a b = [] by rw [rorL, hmay]; rfl]; exact rror_no base A B cap cap2 a b w ha hb hfa hfb hln hbase hmay
  · rw [show rorL a b = (rmakeL (a ++ b)).1 by rw [rorL, hmay]; rfl]
    rw [Bool.and_eq_true] at hmay; exact ror_yes base A B cap cap2 a b w ha hb hfa hfb hln hbase hmay
theorem rand_any (base : Nat) (A B : Option Addr) (cap cap2 : Nat) (a b : List SpanL) (w : World) (ha : Spans w A a) (hb : Spans w B b) (hfa : fitL a) (hfb : fitL b) (hln : a.length + b.length ≤ 40000) (hbase : base ≤ w.heap.size) : Calls Try.prog 25 #[.slice A a.length cap, .slice B b.length cap2] w (RowPost w base (randL a b)) := by
  cases hmay : (mayR a && mayR b)
  · rw [show randL a b = [] by rw [randL, hmay]; rfl]; exact rrand_no base A B cap cap2 a b w ha hb hfa hfb hln hbase hmay
  · rw [show randL a b = growAll (cutsL (a ++ b)) (bothIn a b) by rw [randL, hmay]; rfl]
    rw [Bool.and_eq_true] at hmay; exact rand_yes base A B cap cap2 a b w ha hb hfa hfb hln hbase hmay

theorem growAll_len {l : List SpanL} (p : CutL → CutL → Bool) (hf : fitL l) : (growAll (cutsL l) p).length ≤ 1 + 2 * l.length := by
  have h1 := growTo_len (cutsL l) p ((cutsL l).length - 1)
  have h2 := (cutsL_good hf).2
  rw [growAll]; omega
theorem growAll_fit {l : List SpanL} (p : CutL → CutL → Bool) (hf : fitL l) : fitAll (growAll (cutsL l) p) := by
  have h2 := cutsL_good hf
  exact growTo_fit h2.1 _ (by omega)
theorem fitAll.toL {l : List SpanL} (h : fitAll l) : fitL l := fun i hi => by rw [nth_lt hi]; exact h _ (List.getElem_mem _)
theorem fitL.toAll {l : List SpanL} (h : fitL l) : fitAll l := fun s hs => by
  obtain ⟨i, hi, rfl⟩ := List.getElem_of_mem hs
  have := h i hi
  rwa [nth_lt hi] at this
theorem randL_good {a b : List SpanL} (ha : fitL a) (hb : fitL b) : fitL (randL a b) ∧ (randL a b).length ≤ 1 + 2 * (a.length + b.length) := by
  rw [randL]
  split
  · have := growAll_len (bothIn a b) (fitL_app ha hb)
    rw [List.length_append] at this
    exact ⟨(growAll_fit _ (fitL_app ha hb)).toL, this⟩
  · exact ⟨fun i hi => by simp at hi, by simp⟩
theorem rmakeL_good {a : List SpanL} (ha : fitL a) : fitL (rmakeL a).1 ∧ (rmakeL a).1.length ≤ 1 + 2 * a.length := by
  rw [rmakeL]
  split
  · exact ⟨(growAll_fit _ ha).toL, growAll_len _ ha⟩
  · exact ⟨fun i hi => by simp at hi, by simp⟩
theorem rorL_good {a b : List SpanL} (ha : fitL a) (hb : fitL b) : fitL (rorL a b) ∧ (rorL a b).length ≤ 1 + 2 * (a.length + b.length) := by
  rw [rorL]
  split
  · have := rmakeL_good (fitL_app ha hb)
    rw [List.length_append] at this
    exact this
  · exact ⟨fun i hi => by simp at hi, by simp⟩
theorem rnotL_good {a : List SpanL} (ha : fitL a) : fitL (rnotL a) ∧ (rnotL a).length ≤ 1 + 2 * a.length := by
  rw [rnotL]
  split
  · exact ⟨(growAll_fit _ ha).toL, growAll_len _ ha⟩
  · exact ⟨fun i hi => by simp at hi, by simp⟩

set_option maxRecDepth 100000 in
set_option maxHeartbeats 1000000 in
theorem within_any (A B : Option Addr) (cap cap2 : Nat) (a b : List SpanL) (w : World) (ha : Spans w A a) (hb : Spans w B b) (hfa : fitL a) (hfb : fitL b) (hln : a.length + b.length ≤ 40000) : Calls Try.prog 30 #[.slice A a.length cap, .slice B b.length cap2] w (BoolPost w (withinR a b)) := by
  have HA := hid ha
  have HB := hid hb
  have hma := hid (rowmay_any A cap a w ha hfa (by omega))
  have hmb := hid (fun w' (h : Spans w' B b) => rowmay_any B cap2 b w' h hfb (by omega))
  have han := hid (fun (w' : World) (h1 : Spans w' A a) (h2 : Spans w' B b) => and_any w'.heap.size A B cap cap2 a b w' h1 h2 hfa hfb hln (Nat.le_refl _))
  have hsz := hid (randL_good hfa hfb).2
  have hsa := hid (fun (w' : World) (C : Option Addr) (c : Nat) (h1 : Spans w' C (randL a b)) (h2 : Spans w' A a) => equal_any C A c cap (randL a b) a w' h1 h2 (by have := hsz.out; omega) (by omega))
  cases h1 : mayR a
  · have HE := hid (show withinR a b = false by rw [withinR, h1]; rfl)
    rw [h1] at hma
    clear ha hb
    generalize a.length = n at *
    generalize b.length = p at *
    go_enter Try.func30, Try.ntmps30
    go_wp2_with fail
    refine hma.out.mono ?_
    rintro _ w1 ⟨rfl, hb1⟩
    go_wp2_with fail
    go_ret
    exact ⟨by rw [HE.out]; rfl, hb1⟩
  · rw [h1] at hma
    cases h2 : mayR b
    · have HE := hid (show withinR a b = false by rw [withinR, h1, h2]; rfl)
      rw [h2] at hmb
      clear ha hb
      generalize a.length = n at *
      generalize b.length = p at *
      go_enter Try.func30, Try.ntmps30
      go_wp2_with fail
      refine hma.out.mono ?_
      rintro _ w1 ⟨rfl, hb1⟩
      go_wp2_with fail
      refine (hmb.out _ (HB.out.below hb1)).mono ?_
      rintro _ w2 ⟨rfl, hb2⟩
      go_wp2_with fail
      go_ret
      exact ⟨by rw [HE.out]; rfl, below_tr hb1 hb2⟩
    · have HE := hid (show withinR a b = sameR (randL a b) a by rw [withinR, h1, h2]; rfl)
      rw [h2] at hmb
      clear ha hb
      generalize randL a b = r at *
      generalize a.length = n at *
      generalize b.length = p at *
      go_enter Try.func30, Try.ntmps30
      go_wp2_with fail
      refine hma.out.mono ?_
      rintro _ w1 ⟨rfl, hb1⟩
      go_wp2_with fail
      refine (hmb.out _ (HB.out.below hb1)).mono ?_
      rintro _ w2 ⟨rfl, hb2⟩
      have hb02 := below_tr hb1 hb2
      clear hb1 hb2
      go_wp2_with fail
      refine (han.out _ (HA.out.below hb02) (HB.out.below hb02)).mono ?_
      rintro _ w3 ⟨v3, rfl, h3, h4, _⟩
      have hb03 := below_tr hb02 h4
      obtain ⟨C, c, rfl, h5⟩ := h3.spans
      clear h3 h4 hb02
      go_wp2_with fail
      refine (hsa.out _ C c h5 (HA.out.below hb03)).mono ?_
      rintro _ w4 ⟨rfl, hb4⟩
      go_wp2_with fail
      go_ret
      exact ⟨by rw [HE.out]; rfl, below_tr hb03 hb4⟩

set_option maxRecDepth 100000 in
set_option maxHeartbeats 1000000 in
theorem rwithin_any (A B : Option Addr) (cap cap2 : Nat) (a b : List SpanL) (w : World) (ha : Spans w A a) (hb : Spans w B b) (hfa : fitL a) (hfb : fitL b) (hln : a.length + b.length ≤ 40000) : Calls Try.prog 31 #[.slice A a.length cap, .slice B b.length cap2] w (BoolPost w (withinR a b)) := by
  have HA := hid ha
  have HB := hid hb
  have hma := hid (rrowmay_any A cap a w ha hfa (by omega))
  have hmb := hid (fun w' (h : Spans w' B b) => rrowmay_any B cap2 b w' h hfb (by omega))
  have han := hid (fun (w' : World) (h1 : Spans w' A a) (h2 : Spans w' B b) => rand_any w'.heap.size A B cap cap2 a b w' h1 h2 hfa hfb hln (Nat.le_refl _))
  have hsz := hid (randL_good hfa hfb).2
  have hsa := hid (fun (w' : World) (C : Option Addr) (c : Nat) (h1 : Spans w' C (randL a b)) (h2 : Spans w' A a) => same_any C A c cap (randL a b) a w' h1 h2 (by have := hsz.out; omega) (by omega))
  cases h1 : mayR a
  · have HE := hid (show withinR a b = false by rw [withinR, h1]; rfl)
    rw [h1] at hma
    clear ha hb
    generalize a.length = n at *
    generalize b.length = p at *
    go_enter Try.func31, Try.ntmps31
    go_wp2_with fail
    refine hma.out.mono ?_
    rintro _ w1 ⟨rfl, hb1⟩
    go_wp2_with fail
    go_ret
    exact ⟨by rw [HE.out]; rfl, hb1⟩
  · rw [h1] at hma
    cases h2 : mayR b
    · have HE := hid (show withinR a b = false by rw [withinR, h1, h2]; rfl)
      rw [h2] at hmb
      clear ha hb
      generalize a.length = n at *
      generalize b.length = p at *
      go_enter Try.func31, Try.ntmps31
      go_wp2_with fail
      refine hma.out.mono ?_
      rintro _ w1 ⟨rfl, hb1⟩
      go_wp2_with fail
      refine (hmb.out _ (HB.out.below hb1)).mono ?_
      rintro _ w2 ⟨rfl, hb2⟩
      go_wp2_with fail
      go_ret
      exact ⟨by rw [HE.out]; rfl, below_tr hb1 hb2⟩
    · have HE := hid (show withinR a b = sameR (randL a b) a by rw [withinR, h1, h2]; rfl)
      rw [h2] at hmb
      clear ha hb
      generalize randL a b = r at *
      generalize a.length = n at *
      generalize b.length = p at *
      go_enter Try.func31, Try.ntmps31
      go_wp2_with fail
      refine hma.out.mono ?_
      rintro _ w1 ⟨rfl, hb1⟩
      go_wp2_with fail
      refine (hmb.out _ (HB.out.below hb1)).mono ?_
      rintro _ w2 ⟨rfl, hb2⟩
      have hb02 := below_tr hb1 hb2
      clear hb1 hb2
      go_wp2_with fail
      refine (han.out _ (HA.out.below hb02) (HB.out.below hb02)).mono ?_
      rintro _ w3 ⟨v3, rfl, h3, h4, _⟩
      have hb03 := below_tr hb02 h4
      obtain ⟨C, c, rfl, h5⟩ := h3.spans
      clear h3 h4 hb02
      go_wp2_with fail
      refine (hsa.out _ C c h5 (HA.out.below hb03)).mono ?_
      rintro _ w4 ⟨rfl, hb4⟩
      go_wp2_with fail
      go_ret
      exact ⟨by rw [HE.out]; rfl, below_tr hb03 hb4⟩
end Go.Proofs.Ytodicnjoimoiiaa

