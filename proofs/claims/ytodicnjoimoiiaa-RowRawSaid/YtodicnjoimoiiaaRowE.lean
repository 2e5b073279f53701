/- Rows of spans that a call owns; the walk of the reference's grow. -/
import Derived.Test.YtodicnjoimoiiaaRowD
namespace Go.Proofs.Ytodicnjoimoiiaa
open Go.RowKit Go.Lib
set_option linter.unusedVariables false
set_option linter.unusedSimpArgs false

def cellsL (l : List SpanL) : List Value := l.flatMap fun s => s.cells
theorem cellsL_len (l : List SpanL) : (cellsL l).length = l.length * 14 := by
  induction l with
  | nil => rfl
  | cons s l ih => simp only [cellsL, List.flatMap_cons, List.length_append] at ih ⊢; rw [ih]; simp only [List.length_cons, List.length_nil]; omega
theorem cellsL_append (l m : List SpanL) : cellsL (l ++ m) = cellsL l ++ cellsL m := by simp [cellsL]
theorem cellsL_get : ∀ (l : List SpanL) (i j : Nat), i < l.length → j < 14 → (cellsL l)[i * 14 + j]? = (nth l i).cells[j]?
  | [], i, j, h, _ => by simp at h
  | s :: l, 0, j, _, hj => by
    rw [cellsL, List.flatMap_cons, List.getElem?_append_left (by simp; omega)]
    simp [nth]
  | s :: l, i + 1, j, h, hj => by
    have ih := cellsL_get l i j (by simpa using h) hj
    rw [cellsL, List.flatMap_cons, List.getElem?_append_right (by simp; omega)]
    have e : (i + 1) * 14 + j - s.cells.length = i * 14 + j := by simp; omega
    rw [e]
    exact ih.trans (by simp [nth])
theorem EKspans : EK Try.prog 22 37 14 144 := .mk' _ Try.underlying22 Try.info37 rfl (by omega)

/-- a row of spans that a call owns, its blocks from 'base' on -/
def OwnS (w : World) (base : Nat) (v : Value) (l : List SpanL) : Prop := w.ownsRow base 37 14 v l.length (cellsL l)
theorem OwnS.nil (w : World) (base : Nat) : OwnS w base (.slice none 0 0) [] := World.ownsRow_nil _ _ _ _
theorem OwnS.form {w : World} {base : Nat} {v : Value} {l : List SpanL} (h : OwnS w base v l) : (v = .slice none 0 0 ∧ l = []) ∨ ∃ g cap, v = .slice (some ⟨g, 0, none⟩) l.length cap ∧ base ≤ g ∧ g < w.heap.size ∧ l.length ≤ cap := by
  obtain ⟨_, h2⟩ := h
  rcases h2 with ⟨h2, h3⟩ | ⟨g, cap, cur, hv, hg, hh, hle, r⟩
  · exact .inl ⟨h2, List.eq_nil_of_length_eq_zero h3⟩
  · refine .inr ⟨g, cap, hv, hg, ?_, hle⟩
    rcases Nat.lt_or_ge g w.heap.size with h | h
    · exact h
    · rw [Array.getElem?_eq_none h] at hh; cases hh
theorem OwnS.spans {w : World} {base : Nat} {v : Value} {l : List SpanL} (h : OwnS w base v l) : ∃ A cap, v = .slice A l.length cap ∧ Spans w A l := by
  rcases h.form with ⟨rfl, rfl⟩ | ⟨g, cap, rfl, hg, hlt, hle⟩
  · exact ⟨none, 0, rfl, .inl rfl⟩
  · refine ⟨some ⟨g, 0, none⟩, cap, rfl, .inr ⟨g, 0, rfl, hlt, fun i hi j u hj => ?_⟩⟩
    have hj14 : j < 14 := by
      rcases Nat.lt_or_ge j 14 with h' | h'
      · exact h'
      · rw [List.getElem?_eq_none (by simp; omega)] at hj; cases hj
    have := h.cellAt (i * 14 + j) (by omega)
    rw [Nat.zero_add, this, cellsL_get l i j hi hj14]
    exact hj
theorem OwnS.below {w w' : World} {base : Nat} {v : Value} {l : List SpanL} (h : OwnS w base v l) (hb : Below w.heap.size w w') : OwnS w' base v l := own_below h hb

theorem cells_set (l : List SpanL) (s : SpanL) (t : CutL) : (((((((cellsL (l ++ [s])).set (l.length * 14 + 7) (.int .i64 t.en)).set (l.length * 14 + 7 + 1) (.int .i64 t.v.maj)).set (l.length * 14 + 7 + 2) (.int .i64 t.v.min)).set (l.length * 14 + 7 + 3) (.int .i64 t.v.pat)).set (l.length * 14 + 7 + 4) (.string t.v.pre)).set (l.length * 14 + 7 + 5) (.string t.v.bld)).set (l.length * 14 + 7 + 6) (.bool t.aft) = cellsL (l ++ [⟨s.fr, t⟩]) := by
  have e : ∀ (x : SpanL), cellsL [x] = x.cells := fun x => by simp [cellsL]
  have st : ∀ (ys : List Value) (j : Nat) (u : Value), (cellsL l ++ ys).set (l.length * 14 + j) u = cellsL l ++ ys.set j u := fun ys j u => by
    rw [List.set_append_right _ _ (by rw [cellsL_len]; omega), cellsL_len, Nat.add_sub_cancel_left]
  rw [cellsL_append, cellsL_append, e, e]
  simp only [Nat.add_assoc, Nat.reduceAdd, st]
  rfl
theorem OwnS.set7 {w : World} {base g cap n : Nat} {l : List SpanL} {s : SpanL} (t : CutL) (hn : l.length = n) (h : OwnS w base (.slice (some ⟨g, 0, none⟩) (n + 1) cap) (l ++ [s])) (hgb : base ≤ g) (hgw : g < w.heap.size) :
    let w' := (((((((w.setCell ⟨g, n * 14 + 7, none⟩ (.int .i64 t.en)).setCell ⟨g, n * 14 + 7 + 1, none⟩ (.int .i64 t.v.maj)).setCell ⟨g, n * 14 + 7 + 2, none⟩ (.int .i64 t.v.min)).setCell ⟨g, n * 14 + 7 + 3, none⟩ (.int .i64 t.v.pat)).setCell ⟨g, n * 14 + 7 + 4, none⟩ (.string t.v.pre)).setCell ⟨g, n * 14 + 7 + 5, none⟩ (.string t.v.bld)).setCell ⟨g, n * 14 + 7 + 6, none⟩ (.bool t.aft))
    OwnS w' base (.slice (some ⟨g, 0, none⟩) (n + 1) cap) (l ++ [⟨s.fr, t⟩]) ∧ Below base w w' ∧ w'.heap.size = w.heap.size := by
  intro w'
  refine ⟨?_, ?_, by simp [w', World.setCell]⟩
  · have h' := h
    simp only [OwnS, List.length_append, List.length_singleton, hn] at h' ⊢
    have s1 := (World.ownsRow.stored h' (n * 14 + 7) (.int .i64 t.en)).1
    have s2 := (World.ownsRow.stored s1 (n * 14 + 7 + 1) (.int .i64 t.v.maj)).1
    have s3 := (World.ownsRow.stored s2 (n * 14 + 7 + 2) (.int .i64 t.v.min)).1
    have s4 := (World.ownsRow.stored s3 (n * 14 + 7 + 3) (.int .i64 t.v.pat)).1
    have s5 := (World.ownsRow.stored s4 (n * 14 + 7 + 4) (.string t.v.pre)).1
    have s6 := (World.ownsRow.stored s5 (n * 14 + 7 + 5) (.string t.v.bld)).1
    have this := (World.ownsRow.stored s6 (n * 14 + 7 + 6) (.bool t.aft)).1
    subst hn
    rw [cells_set] at this
    exact this
  · exact (((((((Below.refl _ _).setCell hgb _).setCell hgb _).setCell hgb _).setCell hgb _).setCell hgb _).setCell hgb _).setCell hgb _

/-- a row with a stretch behind it -/
def growR (l : List SpanL) (f t : CutL) : List SpanL :=
  match l.getLast? with
  | some s => if cmpC s.til f = 0 then l.dropLast ++ [⟨s.fr, t⟩] else l ++ [⟨f, t⟩]
  | none => [⟨f, t⟩]
def RowPost (w : World) (base : Nat) (l : List SpanL) (e : Ending) (w' : World) : Prop := ∃ v, e = .returned v ∧ OwnS w' base v l ∧ Below base w w' ∧ w.heap.size ≤ w'.heap.size

set_option maxRecDepth 100000 in
set_option maxHeartbeats 4000000 in
theorem grow_set (base : Nat) (g cap : Nat) (l : List SpanL) (s : SpanL) (f t : CutL) (w : World) (h : OwnS w base (.slice (some ⟨g, 0, none⟩) (l.length + 1) cap) (l ++ [s])) (hb : base ≤ w.heap.size) (hgb : base ≤ g) (hgw : g < w.heap.size) (hln : l.length ≤ 100000) (hff : f.fit) (hft : t.fit) (hs : s.fit) (hc : cmpC s.til f = 0) :
    Calls Try.prog 42 #[.slice (some ⟨g, 0, none⟩) (l.length + 1) cap, f.val, t.val] w (RowPost w base (l ++ [⟨s.fr, t⟩])) := by
  have HO := hid h
  have z : Row7 w g (l.length * 14 + 7) s.til := by
    obtain ⟨A, c, e, hS⟩ := h.spans
    injection e with e1 e2 e3
    subst e1
    have := (hS.lay (k := l.length) (by simp)).2.2
    simpa [nth] using this
  have hfr : ∀ j, w.frozen? ⟨g, j, none⟩ = false := fun j => by
    have h' := h
    simp only [OwnS, List.length_append, List.length_singleton] at h'
    exact h'.frozenAt j
  generalize hn : l.length = n at *
  have HN := hid hn
  have HZ := hid z
  have HFR := hid hfr
  obtain ⟨z0, z1, z2, z3, z4, z5, z6⟩ := z
  clear hn h hfr
  have i0 : (0 : Int) ≤ (n : Int) := by omega
  have hcz : (cmpC s.til f == 0) = true := by simp [hc]
  clear hc
  have hbw := bw_cell
  have hg1 : g < w.heap.size + 1 + 1 := by omega
  have hg2 : g < w.heap.size + 1 := by omega
  have i1 : (n : Int) < ((n + 1 : Nat) : Int) := by omega
  have i2 : (n : Int) < (n : Int) + 1 := by omega
  go_enter Try.func42, Try.ntmps42
  go_wp2_with fail
  refine wp_region_below (by kernel_rfl) (by kernel_rfl) ?_
  repeat (go_big_quiet_step ((go_at_call 43; exact bw_int (rccompare_any s.til f _ hs.2 hff))))
  refine wpQuiet_nil ?_
  rintro _ ⟨z, rfl⟩
  have hb3 := z.ok
  generalize z.v = w3 at hb3 ⊢
  clear z hbw z0 z1 z2 z3 z4 z5 z6
  obtain ⟨hx, hy, hb4⟩ := box_2 (cs := f.cells) (ds := t.cells) hb3
  obtain ⟨t0, t1, t2, t3, t4, t5, t6⟩ := hy.get7
  obtain ⟨z0, z1, z2, z3, z4, z5, z6⟩ := HZ.out.below hgw hb4
  have hf3 : ∀ j, w3.frozen? ⟨g, j, none⟩ = false := fun j => (hb4.frozen (p := ⟨g, j, none⟩) hgw).trans (HFR.out j)
  clear hx hy hb3
  go_wp2_with fail
  go_ret
  have HO3 := HO.out.below hb4
  obtain ⟨q1, q2, q3⟩ := HO3.set7 t HN.out hgb (Nat.lt_of_lt_of_le hgw hb4.size)
  exact ⟨_, rfl, q1, (hb4.mono hb).trans q2, by rw [q3]; exact hb4.size⟩

theorem OwnS.app {w' : World} {base : Nat} {v' : Value} {l : List SpanL} {s : SpanL} (h : w'.ownsRow base 37 14 v' (l.length + 1) (cellsL l ++ s.cells)) : OwnS w' base v' (l ++ [s]) := by
  simp only [OwnS, List.length_append, List.length_singleton]
  rw [cellsL_append, show cellsL [s] = s.cells from by simp [cellsL]]
  exact h
theorem growR_nil (f t : CutL) : growR [] f t = [⟨f, t⟩] := rfl
theorem growR_eq {l : List SpanL} {s : SpanL} {f t : CutL} (h : cmpC s.til f = 0) : growR (l ++ [s]) f t = l ++ [⟨s.fr, t⟩] := by simp [growR, h]
theorem growR_ne {l : List SpanL} {s : SpanL} {f t : CutL} (h : cmpC s.til f ≠ 0) : growR (l ++ [s]) f t = l ++ [s] ++ [⟨f, t⟩] := by simp [growR, h]

set_option maxRecDepth 100000 in
set_option maxHeartbeats 4000000 in
theorem grow_nil (base : Nat) (f t : CutL) (w : World) (hb : base ≤ w.heap.size) : Calls Try.prog 42 #[.slice none 0 0, f.val, t.val] w (RowPost w base [⟨f, t⟩]) := by
  have hM : maxLen = 9223372036854775807 := rfl
  have hbw := bw_cell
  have hbx := hid (Box.new (w.alloc (.cells f.cells.toArray 35)) t.cells 35)
  go_enter Try.func42, Try.ntmps42
  go_wp2_with fail
  refine wp_region_below (by kernel_rfl) (by kernel_rfl) ?_
  repeat (go_big_quiet_step (fail))
  refine wpQuiet_nil ?_
  rintro _ ⟨z, rfl⟩
  have hb3 := z.ok
  generalize z.v = w3 at hb3 ⊢
  clear z hbw
  obtain ⟨hx, hy, hb4⟩ := box_2 (cs := f.cells) (ds := t.cells) hb3
  obtain ⟨t0, t1, t2, t3, t4, t5, t6⟩ := hy.get7
  obtain ⟨f0, f1, f2, f3, f4, f5, f6⟩ := hx.get7
  have HOWN := OwnS.nil w3 base
  have hbs := hb4.size
  have hb5 := hb4.mono hb
  clear hx hy hb3
  go_wp2_with (first | (at_builtin; refine wpList_app1 EKspans rfl (.tmp 29) (.tmp 33) rfl (SpanL.cells ⟨f, t⟩) HOWN hb5 rfl rfl rfl ?_ ?_ ?_ (Nat.le_refl _) (by omega) ?_))
  · intro u hu; simp at hu; rcases hu with rfl | rfl | rfl | rfl | rfl | rfl | rfl | rfl | rfl | rfl | rfl | rfl | rfl | rfl <;> rfl
  · decide
  · simp
  · intro v' w' h2 h3 h4
    clear HOWN t0 t1 t2 t3 t4 t5 t6 f0 f1 f2 f3 f4 f5 f6
    go_wp2_with fail
    go_ret
    exact ⟨_, rfl, OwnS.app h2, h3, by omega⟩

set_option maxRecDepth 100000 in
set_option maxHeartbeats 4000000 in
theorem grow_nil_any (base g cap : Nat) (f t : CutL) (w : World) (h0 : OwnS w base (.slice (some ⟨g, 0, none⟩) 0 cap) []) (hb : base ≤ w.heap.size) : Calls Try.prog 42 #[.slice (some ⟨g, 0, none⟩) 0 cap, f.val, t.val] w (RowPost w base [⟨f, t⟩]) := by
  have hM : maxLen = 9223372036854775807 := rfl
  have hbw := bw_cell
  have hbx := hid (Box.new (w.alloc (.cells f.cells.toArray 35)) t.cells 35)
  have HO := hid h0
  clear h0
  go_enter Try.func42, Try.ntmps42
  go_wp2_with fail
  refine wp_region_below (by kernel_rfl) (by kernel_rfl) ?_
  repeat (go_big_quiet_step (fail))
  refine wpQuiet_nil ?_
  rintro _ ⟨z, rfl⟩
  have hb3 := z.ok
  generalize z.v = w3 at hb3 ⊢
  clear z hbw
  obtain ⟨hx, hy, hb4⟩ := box_2 (cs := f.cells) (ds := t.cells) hb3
  obtain ⟨t0, t1, t2, t3, t4, t5, t6⟩ := hy.get7
  obtain ⟨f0, f1, f2, f3, f4, f5, f6⟩ := hx.get7
  have HOWN := HO.out.below hb4
  have hbs := hb4.size
  have hb5 := hb4.mono hb
  clear hx hy hb3
  go_wp2_with (first | (at_builtin; refine wpList_app1 EKspans rfl (.tmp 29) (.tmp 33) rfl (SpanL.cells ⟨f, t⟩) HOWN hb5 rfl rfl rfl ?_ ?_ ?_ (Nat.le_refl _) (by omega) ?_))
  · intro u hu; simp at hu; rcases hu with rfl | rfl | rfl | rfl | rfl | rfl | rfl | rfl | rfl | rfl | rfl | rfl | rfl | rfl <;> rfl
  · decide
  · simp
  · intro v' w' h2 h3 h4
    clear HOWN t0 t1 t2 t3 t4 t5 t6 f0 f1 f2 f3 f4 f5 f6
    go_wp2_with fail
    go_ret
    exact ⟨_, rfl, OwnS.app h2, h3, by omega⟩

set_option maxRecDepth 100000 in
set_option maxHeartbeats 4000000 in
theorem grow_app (base : Nat) (g cap : Nat) (l : List SpanL) (s : SpanL) (f t : CutL) (w : World) (h : OwnS w base (.slice (some ⟨g, 0, none⟩) (l.length + 1) cap) (l ++ [s])) (hb : base ≤ w.heap.size) (hgb : base ≤ g) (hgw : g < w.heap.size) (hln : l.length ≤ 100000) (hff : f.fit) (hs : s.fit) (hc : cmpC s.til f ≠ 0) :
    Calls Try.prog 42 #[.slice (some ⟨g, 0, none⟩) (l.length + 1) cap, f.val, t.val] w (RowPost w base (l ++ [s] ++ [⟨f, t⟩])) := by
  have hM : maxLen = 9223372036854775807 := rfl
  have HO := hid h
  have z : Row7 w g (l.length * 14 + 7) s.til := by
    obtain ⟨A, c, e, hS⟩ := h.spans
    injection e with e1 e2 e3
    subst e1
    have := (hS.lay (k := l.length) (by simp)).2.2
    simpa [nth] using this
  generalize hn : l.length = n at *
  have HN := hid hn
  obtain ⟨z0, z1, z2, z3, z4, z5, z6⟩ := z
  clear hn h
  have i0 : (0 : Int) ≤ (n : Int) := by omega
  have hcz : (cmpC s.til f == 0) = false := by simpa using hc
  clear hc
  have hbw := bw_cell
  have hg1 : g < w.heap.size + 1 + 1 := by omega
  have hg2 : g < w.heap.size + 1 := by omega
  have i1 : (n : Int) < ((n + 1 : Nat) : Int) := by omega
  have i2 : (n : Int) < (n : Int) + 1 := by omega
  go_enter Try.func42, Try.ntmps42
  go_wp2_with fail
  refine wp_region_below (by kernel_rfl) (by kernel_rfl) ?_
  repeat (go_big_quiet_step ((go_at_call 43; exact bw_int (rccompare_any s.til f _ hs.2 hff))))
  refine wpQuiet_nil ?_
  rintro _ ⟨z, rfl⟩
  have hb3 := z.ok
  generalize z.v = w3 at hb3 ⊢
  clear z hbw z0 z1 z2 z3 z4 z5 z6
  obtain ⟨hx, hy, hb4⟩ := box_2 (cs := f.cells) (ds := t.cells) hb3
  obtain ⟨t0, t1, t2, t3, t4, t5, t6⟩ := hy.get7
  obtain ⟨f0, f1, f2, f3, f4, f5, f6⟩ := hx.get7
  have hbs := hb4.size
  have hb5 := hb4.mono hb
  have HOWN : w3.ownsRow base 37 14 (.slice (some ⟨g, 0, none⟩) (n + 1) cap) (n + 1) (cellsL (l ++ [s])) := by
    have h := HO.out.below hb4
    simp only [OwnS, List.length_append, List.length_singleton, HN.out] at h
    exact h
  clear hx hy hb3
  go_wp2_with (first | (at_builtin; refine wpList_app1 EKspans rfl (.tmp 29) (.tmp 33) rfl (SpanL.cells ⟨f, t⟩) HOWN hb5 rfl rfl rfl ?_ ?_ ?_ (Nat.le_refl _) (by omega) ?_))
  · intro u hu; simp at hu; rcases hu with rfl | rfl | rfl | rfl | rfl | rfl | rfl | rfl | rfl | rfl | rfl | rfl | rfl | rfl <;> rfl
  · omega
  · omega
  · intro v' w' h2 h3 h4
    clear HOWN t0 t1 t2 t3 t4 t5 t6 f0 f1 f2 f3 f4 f5 f6
    go_wp2_with fail
    go_ret
    refine ⟨_, rfl, ?_, h3, by omega⟩
    refine OwnS.app ?_
    rw [List.length_append, List.length_singleton, HN.out]
    exact h2

theorem grow_any (base : Nat) (v : Value) (l : List SpanL) (f t : CutL) (w : World) (h : OwnS w base v l) (hb : base ≤ w.heap.size) (hln : l.length ≤ 100000) (hff : f.fit) (hft : t.fit) (hfl : ∀ s, s ∈ l → s.fit) :
    Calls Try.prog 42 #[v, f.val, t.val] w (RowPost w base (growR l f t)) := by
  rcases List.eq_nil_or_concat l with rfl | ⟨m, s, rfl⟩
  · rcases h.form with ⟨rfl, _⟩ | ⟨g, cap, rfl, hg, hlt, hle⟩
    · exact grow_nil base f t w hb
    · exact grow_nil_any base g cap f t w h hb
  · simp only [List.concat_eq_append] at h hln hfl ⊢
    rcases h.form with ⟨_, h0⟩ | ⟨g, cap, rfl, hg, hlt, hle⟩
    · simp at h0
    · have hl : (m ++ [s]).length = m.length + 1 := by simp
      rw [hl] at h hln ⊢
      have hs : s.fit := hfl s (by simp)
      by_cases hc : cmpC s.til f = 0
      · rw [growR_eq hc]; exact grow_set base g cap m s f t w h hb hg hlt (by omega) hff hft hs hc
      · rw [growR_ne hc]; exact grow_app base g cap m s f t w h hb hg hlt (by omega) hff hs hc
end Go.Proofs.Ytodicnjoimoiiaa
