/- Parts 6 of the proofs. -/
import Derived.Test.YtlmkglgjdmjnkaaGreatDoorQ4
namespace Go.Proofs.YtlmkglgjdmjnkaaGreatDoor
open Go.RowKit Go.Lib
set_option linter.unusedVariables false
set_option linter.unusedSimpArgs false
instance : Inhabited SpanL := ⟨⟨firstC, lastC⟩⟩
def nth (l : List SpanL) (i : Nat) : SpanL := l.getD i default
theorem nth_lt {l : List SpanL} {i : Nat} (h : i < l.length) : nth l i = l[i] := by simp [nth, h]
def Spans (w : World) (A : Option Addr) (l : List SpanL) : Prop :=
  l = [] ∨ ∃ b off, A = some ⟨b, off, none⟩ ∧ b < w.heap.size ∧ ∀ i, i < l.length → ∀ j u, (nth l i).cells[j]? = some u → w.cell? ⟨b, off + i * 14 + j, none⟩ = some u
theorem Spans.below {w w' : World} {A : Option Addr} {l : List SpanL} (h : Spans w A l) (hb : Below w.heap.size w w') : Spans w' A l := by
  rcases h with h | ⟨b, off, rfl, hlt, hc⟩
  · exact .inl h
  · exact .inr ⟨b, off, rfl, Nat.lt_of_lt_of_le hlt hb.size, fun i hi j u hj => (hb.cell (p := ⟨b, _, none⟩) hlt).trans (hc i hi j u hj)⟩
theorem Spans.nil {w : World} {A : Option Addr} : Spans w A [] := .inl rfl
def Row7 (w : World) (b o : Nat) (c : CutL) : Prop := w.cell? ⟨b, o, none⟩ = some (.int .i64 c.en) ∧ w.cell? ⟨b, o + 1, none⟩ = some (.int .i64 c.v.maj) ∧ w.cell? ⟨b, o + 2, none⟩ = some (.int .i64 c.v.min) ∧ w.cell? ⟨b, o + 3, none⟩ = some (.int .i64 c.v.pat) ∧ w.cell? ⟨b, o + 4, none⟩ = some (.string c.v.pre) ∧ w.cell? ⟨b, o + 5, none⟩ = some (.string c.v.bld) ∧ w.cell? ⟨b, o + 6, none⟩ = some (.bool c.aft)
theorem Row7.below {w w' : World} {b o : Nat} {c : CutL} (h : Row7 w b o c) (hlt : b < w.heap.size) (hb : Below w.heap.size w w') : Row7 w' b o c := by
  obtain ⟨h0, h1, h2, h3, h4, h5, h6⟩ := h
  have e : ∀ q, w'.cell? ⟨b, q, none⟩ = w.cell? ⟨b, q, none⟩ := fun q => hb.cell (p := ⟨b, q, none⟩) hlt
  exact ⟨(e _).trans h0, (e _).trans h1, (e _).trans h2, (e _).trans h3, (e _).trans h4, (e _).trans h5, (e _).trans h6⟩
theorem Spans.at_ {w : World} {A : Option Addr} {l : List SpanL} {k : Nat} (h : Spans w A l) (hk : k < l.length) :
    ∃ b off, A = some ⟨b, off, none⟩ ∧ b < w.heap.size ∧ Row7 w b (off + k * 14) (nth l k).fr ∧ Row7 w b (off + k * 14 + 7) (nth l k).til := by
  rcases h with h | ⟨b, off, rfl, hlt, hc⟩
  · subst h; simp at hk
  · have h := hc k hk
    exact ⟨b, off, rfl, hlt, ⟨h 0 _ rfl, h 1 _ rfl, h 2 _ rfl, h 3 _ rfl, h 4 _ rfl, h 5 _ rfl, h 6 _ rfl⟩, ⟨h 7 _ rfl, h 8 _ rfl, h 9 _ rfl, h 10 _ rfl, h 11 _ rfl, h 12 _ rfl, h 13 _ rfl⟩⟩
theorem Spans.lay {w : World} {b off : Nat} {l : List SpanL} {k : Nat} (h : Spans w (some ⟨b, off, none⟩) l) (hk : k < l.length) :
    b < w.heap.size ∧ Row7 w b (off + k * 14) (nth l k).fr ∧ Row7 w b (off + k * 14 + 7) (nth l k).til := by
  obtain ⟨b', off', e, h1, h2, h3⟩ := h.at_ hk
  injection e with e
  injection e with e1 e2 e3
  subst e1; subst e2
  exact ⟨h1, h2, h3⟩
def fitL (l : List SpanL) : Prop := ∀ i, i < l.length → (nth l i).fit
theorem Tryz.info133 : (Tryz.prog.info? 133).map (fun i => (i.zero, i.size, i.bytes)) = some (some (SpanL.val ⟨⟨0, zeroV, false⟩, ⟨0, zeroV, false⟩⟩), 14, 144) := by kernel_rfl
def mayTo (l : List SpanL) (k : Nat) : Prop := ∀ j, j < k → spanMay (nth l j) = true ∧ (0 < j → cmpC (nth l (j - 1)).til (nth l j).fr < 0)
def mayAt (l : List SpanL) (j : Nat) : Bool := spanMay (nth l j) && (decide (j = 0) || decide (cmpC (nth l (j - 1)).til (nth l j).fr < 0))
def mayR (l : List SpanL) : Bool := (List.range l.length).all (mayAt l)
theorem mayR_true {l : List SpanL} (h : mayTo l l.length) : mayR l = true := by
  rw [mayR, List.all_eq_true]
  intro j hj
  have := h j (List.mem_range.1 hj)
  rw [mayAt, this.1]
  by_cases h0 : j = 0
  · simp [h0]
  · have := this.2 (by omega); simp [this]
theorem mayR_iff {l : List SpanL} : mayR l = true ↔ mayTo l l.length := by
  refine ⟨fun h j hj => ?_, mayR_true⟩
  rw [mayR, List.all_eq_true] at h
  have := h j (List.mem_range.2 hj)
  rw [mayAt, Bool.and_eq_true, Bool.or_eq_true, decide_eq_true_eq, decide_eq_true_eq] at this
  exact ⟨this.1, fun h0 => this.2.resolve_left (by omega)⟩
theorem mayR_no1 {l : List SpanL} {k : Nat} (hk : k < l.length) (h : spanMay (nth l k) = false) : mayR l = false := by
  rw [Bool.eq_false_iff]; intro e
  have := (mayR_iff.1 e k hk).1
  rw [h] at this; cases this
theorem mayR_no2 {l : List SpanL} {k : Nat} (hk : k < l.length) (h0 : 0 < k) (h : 0 ≤ cmpC (nth l (k - 1)).til (nth l k).fr) : mayR l = false := by
  rw [Bool.eq_false_iff]; intro e
  have := (mayR_iff.1 e k hk).2 h0
  omega
theorem mayTo_step {l : List SpanL} {k : Nat} (h : mayTo l k) (h1 : spanMay (nth l k) = true) (h2 : 0 < k → cmpC (nth l (k - 1)).til (nth l k).fr < 0) : mayTo l (k + 1) := by
  intro j hj
  rcases Nat.lt_or_ge j k with h' | h'
  · exact h j h'
  · obtain rfl : j = k := by omega
    exact ⟨h1, h2⟩
set_option maxRecDepth 100000 in
set_option maxHeartbeats 4000000 in
theorem rowmay_any (A : Option Addr) (c : Nat) (l : List SpanL) (w : World) (hl : Spans w A l) (hf : fitL l) (hln : l.length ≤ 4398046511104) : Calls Tryz.prog 178 #[.slice A l.length c] w (BoolPost w (mayR l)) := by
  generalize hr : mayR l = r
  have HR := hid hr
  clear hr
  have HL := hid hl
  have HF := hid hf
  clear hl hf
  generalize hn : l.length = n at *
  have HN := hid hn
  clear hn
  go_enter Tryz.func178, Tryz.ntmps178
  go_wp2_with fail
  go_loopw [3, 4, 7] (fun i0 t i wr => ∃ k : Nat, i = .int .i64 k ∧ k ≤ n ∧ Hid (Spans wr A l) ∧ Hid (mayTo l k) ∧ Below w.heap.size w wr) (fun _ _ i _ => n - (intOf i).toNat)
  case atStart => exact ⟨0, rfl, Nat.zero_le _, HL, fun j hj => by omega, Below.refl _ _⟩
  case round =>
    obtain ⟨k, rfl, hk, HS, HM, hbr⟩ := hrel
    by_cases hlt : k < n
    · have hlt' : k < l.length := by rw [HN.out]; exact hlt
      obtain ⟨b, off, rfl, hbl, ⟨x0, x1, x2, x3, x4, x5, x6⟩, z0, z1, z2, z3, z4, z5, z6⟩ := HS.out.at_ (k := k) hlt'
      have i0 : (0 : Int) ≤ (k : Int) := by omega
      have i1 : (k : Int) < (n : Int) := by omega
      have hfk := HF.out k hlt'
      generalize hsk : nth l k = s at *
      have HK := hid hsk
      clear hsk
      have hB := hid (Box.new wr s.cells 133)
      have hbn := hid (below_new wr (.cells s.cells.toArray 133))
      cases hsm : spanMay s
      · have HE := hid (mayR_no1 hlt' (by rw [HK.out]; exact hsm))
        go_wp2_with fail
        have hbw := bw_cell
        refine wp_region_below (by kernel_rfl) (by kernel_rfl) ?_
        repeat (go_big_quiet_step ((go_at_call 189; exact bw_bool (spanmay_any s _ hfk))))
        refine wpQuiet_nil ?_
        rintro _ ⟨z, rfl⟩
        go_wp2_with fail
        go_ret
        exact ⟨by rw [← HR.out, HE.out]; rfl, below_tr hbr (below_tr hbn.out z.ok)⟩
      · by_cases h0 : k = 0
        · subst h0
          simp only [Nat.zero_mul, Nat.add_zero] at x0 x1 x2 x3 x4 x5 x6 z0 z1 z2 z3 z4 z5 z6
          go_wp2_with fail
          clear x0 x1 x2 x3 x4 x5 x6 z0 z1 z2 z3 z4 z5 z6
          have hbw := bw_cell
          refine wp_region_below (by kernel_rfl) (by kernel_rfl) ?_
          repeat (go_big_quiet_step ((go_at_call 189; exact bw_bool (spanmay_any s _ hfk))))
          refine wpQuiet_nil ?_
          rintro _ ⟨z, rfl⟩
          clear hbw
          go_wp2_with fail
          go_roundw
          case rel => exact ⟨1, by go_num, by omega, HS.out.below (below_tr hbn.out z.ok), mayTo_step HM.out (by rw [HK.out]; exact hsm) (fun h => by omega), below_tr hbr (below_tr hbn.out z.ok)⟩
          case measure => simp [intOf]; omega
        · obtain ⟨m, rfl⟩ : ∃ m, k = m + 1 := ⟨k - 1, by omega⟩
          obtain ⟨_, _, t0, t1, t2, t3, t4, t5, t6⟩ := HS.out.lay (k := m) (by omega)
          have hfm := HF.out m (by omega)
          have j0 : (0 : Int) ≤ (m : Int) := by omega
          have j1 : (m : Int) < (n : Int) := by omega
          generalize hpm : nth l m = p at *
          have HP := hid hpm
          clear hpm h0
          cases hlt2 : decide (0 ≤ cmpC p.til s.fr)
          · have HC := hid (show cmpC p.til s.fr < 0 by simpa using hlt2)
            go_wp2_with fail
            clear x0 x1 x2 x3 x4 x5 x6 z0 z1 z2 z3 z4 z5 z6
            have hbw := bw_cell
            refine wp_region_below (by kernel_rfl) (by kernel_rfl) ?_
            repeat (go_big_quiet_step (first | (go_at_call 189; exact bw_bool (spanmay_any s _ hfk)) | (go_at_call 190; exact bw_int (ccompare_any p.til s.fr _ hfm.2 hfk.1))))
            refine wpQuiet_nil ?_
            rintro _ ⟨z, rfl⟩
            clear hbw
            go_wp2_with fail
            go_roundw
            case rel => exact ⟨m + 1 + 1, by go_num, by omega, HS.out.below (below_tr hbn.out z.ok), mayTo_step HM.out (by rw [HK.out]; exact hsm) (fun _ => by rw [Nat.add_sub_cancel, HP.out, HK.out]; exact HC.out), below_tr hbr (below_tr hbn.out z.ok)⟩
            case measure => simp [intOf]; omega
          · have HE := hid (mayR_no2 hlt' (by omega) (by rw [Nat.add_sub_cancel, HP.out, HK.out]; simpa using hlt2))
            go_wp2_with fail
            clear x0 x1 x2 x3 x4 x5 x6 z0 z1 z2 z3 z4 z5 z6
            have hbw := bw_cell
            refine wp_region_below (by kernel_rfl) (by kernel_rfl) ?_
            repeat (go_big_quiet_step (first | (go_at_call 189; exact bw_bool (spanmay_any s _ hfk)) | (go_at_call 190; exact bw_int (ccompare_any p.til s.fr _ hfm.2 hfk.1))))
            refine wpQuiet_nil ?_
            rintro _ ⟨z, rfl⟩
            clear hbw
            go_wp2_with fail
            go_ret
            exact ⟨by rw [← HR.out, HE.out]; rfl, below_tr hbr (below_tr hbn.out z.ok)⟩
    · obtain rfl : k = n := by omega
      go_wp2_with fail
      go_ret
      exact ⟨by rw [← HR.out, mayR_true (by rw [HN.out]; exact HM.out)]; rfl, hbr⟩
end Go.Proofs.YtlmkglgjdmjnkaaGreatDoor
namespace Go.Proofs.YtlmkglgjdmjnkaaGreatDoor
open Go.RowKit Go.Lib
set_option linter.unusedVariables false
set_option linter.unusedSimpArgs false
set_option maxRecDepth 100000 in
set_option maxHeartbeats 4000000 in
theorem rrowmay_any (A : Option Addr) (c : Nat) (l : List SpanL) (w : World) (hl : Spans w A l) (hf : fitL l) (hln : l.length ≤ 4398046511104) : Calls Tryz.prog 159 #[.slice A l.length c] w (BoolPost w (mayR l)) := by
  generalize hr : mayR l = r
  have HR := hid hr
  clear hr
  have HL := hid hl
  have HF := hid hf
  clear hl hf
  generalize hn : l.length = n at *
  have HN := hid hn
  clear hn
  go_enter Tryz.func159, Tryz.ntmps159
  go_wp2_with fail
  go_loopw [3] (fun i wr => ∃ k : Nat, i = .int .i64 k ∧ k ≤ n ∧ Hid (Spans wr A l) ∧ Hid (mayTo l k) ∧ Below w.heap.size w wr) (fun i _ => n - (intOf i).toNat)
  case atStart => exact ⟨0, rfl, Nat.zero_le _, HL, fun j hj => by omega, Below.refl _ _⟩
  case round =>
    obtain ⟨k, rfl, hk, HS, HM, hbr⟩ := hrel
    by_cases hlt : k < n
    · have hlt' : k < l.length := by rw [HN.out]; exact hlt
      obtain ⟨b, off, rfl, hbl, ⟨x0, x1, x2, x3, x4, x5, x6⟩, z0, z1, z2, z3, z4, z5, z6⟩ := HS.out.at_ (k := k) hlt'
      have i0 : (0 : Int) ≤ (k : Int) := by omega
      have i1 : (k : Int) < (n : Int) := by omega
      have hfk := HF.out k hlt'
      generalize hsk : nth l k = s at *
      have HK := hid hsk
      clear hsk
      cases hsm : spanMay s
      · have HE := hid (mayR_no1 hlt' (by rw [HK.out]; exact hsm))
        go_wp2_with fail
        have hbw := bw_cell
        refine wp_region_below (by kernel_rfl) (by kernel_rfl) ?_
        repeat (go_big_quiet_step ((go_at_call 182; exact bw_bool (rspanmay_any s _ hfk))))
        refine wpQuiet_nil ?_
        rintro _ ⟨z, rfl⟩
        clear hbw
        go_wp2_with fail
        go_ret
        exact ⟨by rw [← HR.out, HE.out]; rfl, below_tr hbr z.ok⟩
      · by_cases h0 : k = 0
        · subst h0
          simp only [Nat.zero_mul, Nat.add_zero] at x0 x1 x2 x3 x4 x5 x6 z0 z1 z2 z3 z4 z5 z6
          go_wp2_with fail
          have hbw := bw_cell
          refine wp_region_below (by kernel_rfl) (by kernel_rfl) ?_
          repeat (go_big_quiet_step ((go_at_call 182; exact bw_bool (rspanmay_any s _ hfk))))
          refine wpQuiet_nil ?_
          rintro _ ⟨z, rfl⟩
          clear hbw
          go_wp2_with fail
          go_roundw
          case rel => exact ⟨1, by go_num, by omega, HS.out.below z.ok, mayTo_step HM.out (by rw [HK.out]; exact hsm) (fun h => by omega), below_tr hbr z.ok⟩
          case measure => simp [intOf]; omega
        · obtain ⟨m, rfl⟩ : ∃ m, k = m + 1 := ⟨k - 1, by omega⟩
          obtain ⟨_, _, t0, t1, t2, t3, t4, t5, t6⟩ := HS.out.lay (k := m) (by omega)
          have hfm := HF.out m (by omega)
          have j0 : (0 : Int) ≤ (m : Int) := by omega
          have j1 : (m : Int) < (n : Int) := by omega
          generalize hpm : nth l m = p at *
          have HP := hid hpm
          clear hpm h0
          cases hlt2 : decide (0 ≤ cmpC p.til s.fr)
          · have HC := hid (show cmpC p.til s.fr < 0 by simpa using hlt2)
            go_wp2_with fail
            have hbw := bw_cell
            refine wp_region_below (by kernel_rfl) (by kernel_rfl) ?_
            repeat (go_big_quiet_step (first | (go_at_call 182; exact bw_bool (rspanmay_any s _ hfk)) | (go_at_call 183; exact bw_int (rccompare_any p.til s.fr _ hfm.2 hfk.1))))
            refine wpQuiet_nil ?_
            rintro _ ⟨z, rfl⟩
            clear hbw
            go_wp2_with fail
            go_roundw
            case rel => exact ⟨m + 1 + 1, by go_num, by omega, HS.out.below z.ok, mayTo_step HM.out (by rw [HK.out]; exact hsm) (fun _ => by rw [Nat.add_sub_cancel, HP.out, HK.out]; exact HC.out), below_tr hbr z.ok⟩
            case measure => simp [intOf]; omega
          · have HE := hid (mayR_no2 hlt' (by omega) (by rw [Nat.add_sub_cancel, HP.out, HK.out]; simpa using hlt2))
            go_wp2_with fail
            have hbw := bw_cell
            refine wp_region_below (by kernel_rfl) (by kernel_rfl) ?_
            repeat (go_big_quiet_step (first | (go_at_call 182; exact bw_bool (rspanmay_any s _ hfk)) | (go_at_call 183; exact bw_int (rccompare_any p.til s.fr _ hfm.2 hfk.1))))
            refine wpQuiet_nil ?_
            rintro _ ⟨z, rfl⟩
            clear hbw
            go_wp2_with fail
            go_ret
            exact ⟨by rw [← HR.out, HE.out]; rfl, below_tr hbr z.ok⟩
    · obtain rfl : k = n := by omega
      go_wp2_with fail
      go_ret
      exact ⟨by rw [← HR.out, mayR_true (by rw [HN.out]; exact HM.out)]; rfl, hbr⟩
def anyTo (p : SpanL → Bool) (l : List SpanL) (k : Nat) : Prop := ∀ j, j < k → p (nth l j) = false
theorem anyTo_end {p : SpanL → Bool} {l : List SpanL} (h : anyTo p l l.length) : l.any p = false := by
  rw [List.any_eq_false]
  intro x hx
  obtain ⟨i, hi, rfl⟩ := List.getElem_of_mem hx
  have := h i hi
  rw [nth_lt hi] at this
  simp [this]
theorem any_at {p : SpanL → Bool} {l : List SpanL} {k : Nat} (hk : k < l.length) (h : p (nth l k) = true) : l.any p = true := by
  rw [List.any_eq_true]; rw [nth_lt hk] at h; exact ⟨_, List.getElem_mem hk, h⟩
theorem anyTo_step {p : SpanL → Bool} {l : List SpanL} {k : Nat} (h : anyTo p l k) (h1 : p (nth l k) = false) : anyTo p l (k + 1) := by
  intro j hj
  rcases Nat.lt_or_ge j k with h' | h'
  · exact h j h'
  · obtain rfl : j = k := by omega
    exact h1
def hasR (l : List SpanL) (v : Ver) : Bool := mayR l && l.any fun s => holdsS s v
set_option maxRecDepth 100000 in
set_option maxHeartbeats 4000000 in
theorem rowhas_any (A : Option Addr) (c : Nat) (l : List SpanL) (v : Ver) (w : World) (hl : Spans w A l) (hf : fitL l) (hln : l.length ≤ 4398046511104) (hv : v.fit) : Calls Tryz.prog 148 #[.slice A l.length c, v.val] w (BoolPost w (hasR l v)) := by
  generalize hr : hasR l v = r
  have HR := hid hr
  clear hr
  have HL := hid hl
  have HF := hid hf
  have HLB := hid (hl.below (below_new w (.cells v.cells.toArray 29)))
  cases hm : mayR l
  · go_enter Tryz.func148, Tryz.ntmps148
    go_wp2_with fail
    refine (rowmay_any A c l _ HLB.out hf hln).mono ?_
    rintro e w1 ⟨rfl, hb1⟩
    obtain ⟨hx, hbw⟩ := box_1 (cs := v.cells) hb1
    go_wp2_with fail
    go_ret
    exact ⟨by rw [← HR.out, hasR, hm]; rfl, hbw⟩
  · go_enter Tryz.func148, Tryz.ntmps148
    go_wp2_with fail
    refine (rowmay_any A c l _ HLB.out hf hln).mono ?_
    rintro e w1 ⟨rfl, hb1⟩
    obtain ⟨hx, hbw⟩ := box_1 (cs := v.cells) hb1
    have HL1 := hid (HLB.out.below hb1)
    have HX := hid hx
    clear hl hx hb1 hf
    generalize hn : l.length = n at *
    have HN := hid hn
    clear hn
    go_wp2_with fail
    go_loopw [6, 12] (fun t i wr => ∃ k : Nat, i = .int .i64 k ∧ k ≤ n ∧ Hid (Spans wr A l) ∧ Hid (Box wr w.heap.size v.cells) ∧ Hid (anyTo (fun s => holdsS s v) l k) ∧ Below w.heap.size w wr) (fun _ i _ => n - (intOf i).toNat)
    case atStart => exact ⟨0, rfl, Nat.zero_le _, HL1, HX, fun j hj => by omega, hbw⟩
    case round =>
      obtain ⟨k, rfl, hk, HS, HB, HM, hbr⟩ := hrel
      by_cases hlt : k < n
      · have hlt' : k < l.length := by rw [HN.out]; exact hlt
        obtain ⟨b, off, rfl, hbl, ⟨x0, x1, x2, x3, x4, x5, x6⟩, z0, z1, z2, z3, z4, z5, z6⟩ := HS.out.at_ (k := k) hlt'
        have i0 : (0 : Int) ≤ (k : Int) := by omega
        have i1 : (k : Int) < (n : Int) := by omega
        have hfk := HF.out k hlt'
        obtain ⟨y0, y1, y2, y3, y4⟩ := HB.out.get5
        have hgb := HB.out.1
        generalize hsk : nth l k = s at *
        have HK := hid hsk
        clear hsk
        have hbn := hid (below_new wr (.cells s.cells.toArray 133))
        go_wp2_with fail
        refine (holds_any s v _ hfk hv).mono ?_
        rintro e w2 ⟨rfl, hb2⟩
        have hbb := below_tr hbn.out hb2
        clear x0 x1 x2 x3 x4 x5 x6 z0 z1 z2 z3 z4 z5 z6 y0 y1 y2 y3 y4
        cases hh : holdsS s v
        · go_wp2_with fail
          go_roundw
          case rel => exact ⟨k + 1, by go_num, by omega, HS.out.below hbb, HB.out.below hbb, anyTo_step HM.out (by rw [HK.out]; exact hh), below_tr hbr hbb⟩
          case measure => simp [intOf]; omega
        · have HE := hid (show hasR l v = true by rw [hasR, hm, any_at (p := fun s => holdsS s v) hlt' (by rw [HK.out]; exact hh)]; rfl)
          go_wp2_with fail
          go_ret
          exact ⟨by rw [← HR.out, HE.out]; rfl, below_tr hbr hbb⟩
      · obtain rfl : k = n := by omega
        have HE := hid (show hasR l v = false by rw [hasR, anyTo_end (by rw [HN.out]; exact HM.out)]; simp)
        go_wp2_with fail
        go_ret
        exact ⟨by rw [← HR.out, HE.out]; rfl, hbr⟩
set_option maxRecDepth 100000 in
set_option maxHeartbeats 4000000 in
theorem rrowhas_any (A : Option Addr) (c : Nat) (l : List SpanL) (v : Ver) (w : World) (hl : Spans w A l) (hf : fitL l) (hln : l.length ≤ 4398046511104) (hv : v.fit) : Calls Tryz.prog 165 #[.slice A l.length c, v.val] w (BoolPost w (hasR l v)) := by
  generalize hr : hasR l v = r
  have HR := hid hr
  clear hr
  have HF := hid hf
  have HLB := hid (hl.below (below_new w (.cells v.cells.toArray 29)))
  have HBX := hid (Box.new w v.cells 29)
  have hbn := hid (below_new w (.cells v.cells.toArray 29))
  have hmay := fun (wx : World) (B : Option Addr) (h : Spans wx B l) => rrowmay_any B c l wx h hf hln
  clear hl hf
  generalize hn : l.length = n at *
  have HN := hid hn
  have HMAY := hid hmay
  clear hn hmay
  go_enter Tryz.func165, Tryz.ntmps165
  go_wp2_with fail
  go_loopw [5] (fun i wr => ∃ k : Nat, i = .int .i64 k ∧ k ≤ n ∧ Hid (Spans wr A l) ∧ Hid (Box wr w.heap.size v.cells) ∧ Hid (anyTo (fun s => holdsS s v) l k) ∧ Below w.heap.size w wr) (fun i _ => n - (intOf i).toNat)
  case atStart => exact ⟨0, rfl, Nat.zero_le _, HLB, HBX, fun j hj => by omega, hbn.out⟩
  case round =>
    obtain ⟨k, rfl, hk, HS, HB, HM, hbr⟩ := hrel
    by_cases hlt : k < n
    · have hlt' : k < l.length := by rw [HN.out]; exact hlt
      have i0 : (0 : Int) ≤ (k : Int) := by omega
      have i1 : (k : Int) < (n : Int) := by omega
      have hfk := HF.out k hlt'
      generalize hsk : nth l k = s at *
      have HK := hid hsk
      clear hsk
      go_wp2_with fail
      refine (HMAY.out _ _ HS.out).mono ?_
      rintro e w1 ⟨rfl, hb1⟩
      have hbr1 := below_tr hbr hb1
      cases hm : mayR l
      · have HE := hid (show hasR l v = false by rw [hasR, hm]; rfl)
        go_wp2_with fail
        go_ret
        exact ⟨by rw [← HR.out, HE.out]; rfl, hbr1⟩
      · have HS1 := hid (HS.out.below hb1)
        have HB1 := hid (HB.out.below hb1)
        obtain ⟨b, off, rfl, hbl, hx, hz⟩ := HS1.out.at_ (k := k) hlt'
        rw [HK.out] at hx hz
        obtain ⟨x0, x1, x2, x3, x4, x5, x6⟩ := hx
        obtain ⟨z0, z1, z2, z3, z4, z5, z6⟩ := hz
        obtain ⟨y0, y1, y2, y3, y4⟩ := HB1.out.get5
        have hgb := HB1.out.1
        go_wp2_with fail
        have hbw := bw_cell
        refine wp_region_below (by kernel_rfl) (by kernel_rfl) ?_
        repeat (go_big_quiet_step ((go_at_call 185; exact bw_bool (rholds_any s v _ hfk hv))))
        refine wpQuiet_nil ?_
        rintro _ ⟨z, rfl⟩
        clear hbw x0 x1 x2 x3 x4 x5 x6 z0 z1 z2 z3 z4 z5 z6 y0 y1 y2 y3 y4
        cases hh : holdsS s v
        · go_wp2_with fail
          go_roundw
          case rel => exact ⟨k + 1, by go_num, by omega, HS1.out.below z.ok, HB1.out.below z.ok, anyTo_step HM.out (by rw [HK.out]; exact hh), below_tr hbr1 z.ok⟩
          case measure => simp [intOf]; omega
        · have HE := hid (show hasR l v = true by rw [hasR, hm, any_at (p := fun s => holdsS s v) hlt' (by rw [HK.out]; exact hh)]; rfl)
          go_wp2_with fail
          go_ret
          exact ⟨by rw [← HR.out, HE.out]; rfl, below_tr hbr1 z.ok⟩
    · obtain rfl : k = n := by omega
      have hd : decide ((k : Int) < (k : Int)) = false := by simp
      have HE := hid (show hasR l v = false by rw [hasR, anyTo_end (by rw [HN.out]; exact HM.out)]; simp)
      go_wp2_with fail
      go_ret
      exact ⟨by rw [← HR.out, HE.out]; rfl, hbr⟩
end Go.Proofs.YtlmkglgjdmjnkaaGreatDoor
namespace Go.Proofs.YtlmkglgjdmjnkaaGreatDoor
open Go.RowKit Go.Lib
set_option linter.unusedVariables false
set_option linter.unusedSimpArgs false
end Go.Proofs.YtlmkglgjdmjnkaaGreatDoor
namespace Go.Proofs.YtlmkglgjdmjnkaaGreatDoor
open Go.RowKit Go.Lib
set_option linter.unusedVariables false
set_option linter.unusedSimpArgs false
theorem eqV_in (d : Nat) (a b : Ver) (w : World) : (Op.equalIn (d + 6) 29 a.val b.val).run Tryz.prog w = .ok (eqVer a b) w := by
  rw [show d + 6 = (d + 5) + 1 from rfl, run_equalIn_agg w (d + 5) 29 _ _ fields29 stood29]
  simp only [Program.fieldsOf, Tryz.underlying29]
  have u3 := Tryz.underlying3
  have u9 := Tryz.underlying9
  have a3 := Tryz.isAgg3
  have z3 := Tryz.sizeOf3
  have a9 := Tryz.isAgg9
  have z9 := Tryz.sizeOf9
  go_simp
  unfold eqVer
  cases h1 : a.maj == b.maj <;> cases h2 : a.min == b.min <;> cases h3 : a.pat == b.pat <;> cases h4 : a.pre.toList == b.pre.toList <;> cases h5 : a.bld.toList == b.bld.toList <;> simp_all
def inB (f t : CutL) (s : SpanL) : Bool := decide (cmpC s.fr f ≤ 0) && decide (cmpC t s.til ≤ 0)
def inR (l : List SpanL) (f t : CutL) : Bool := l.any (inB f t)
set_option maxRecDepth 100000 in
set_option maxHeartbeats 4000000 in
theorem in_any (A : Option Addr) (c : Nat) (l : List SpanL) (f t : CutL) (w : World) (hl : Spans w A l) (hf : fitL l) (hln : l.length ≤ 4398046511104) (hff : f.fit) (hft : t.fit) : Calls Tryz.prog 163 #[.slice A l.length c, f.val, t.val] w (BoolPost w (inR l f t)) := by
  generalize hr : inR l f t = r
  have HR := hid hr
  clear hr
  have HF := hid hf
  have HLB := hid ((hl.below (below_new w (.cells f.cells.toArray 130))).below (below_new _ (.cells t.cells.toArray 130)))
  have HBF := hid ((Box.new w f.cells 130).below (below_new _ (.cells t.cells.toArray 130)))
  have HBT := hid (show Box ((w.alloc (.cells f.cells.toArray 130)).alloc (.cells t.cells.toArray 130)) (w.heap.size + 1) t.cells by have := Box.new (w.alloc (.cells f.cells.toArray 130)) t.cells 130; simpa using this)
  have hbn := hid (below_tr (below_new w (.cells f.cells.toArray 130)) (below_new _ (.cells t.cells.toArray 130)))
  clear hl hf
  generalize hn : l.length = n at *
  have HN := hid hn
  clear hn
  go_enter Tryz.func163, Tryz.ntmps163
  go_wp2_with fail
  go_loopw [7] (fun i wr => ∃ k : Nat, i = .int .i64 k ∧ k ≤ n ∧ Hid (Spans wr A l) ∧ Hid (Box wr w.heap.size f.cells) ∧ Hid (Box wr (w.heap.size + 1) t.cells) ∧ Hid (anyTo (inB f t) l k) ∧ Below w.heap.size w wr) (fun i _ => n - (intOf i).toNat)
  case atStart => exact ⟨0, rfl, Nat.zero_le _, HLB, HBF, HBT, fun j hj => by omega, hbn.out⟩
  case round =>
    obtain ⟨k, rfl, hk, HS, HB, HT, HM, hbr⟩ := hrel
    by_cases hlt : k < n
    · have hlt' : k < l.length := by rw [HN.out]; exact hlt
      obtain ⟨b, off, rfl, hbl, hx, hz⟩ := HS.out.at_ (k := k) hlt'
      have i0 : (0 : Int) ≤ (k : Int) := by omega
      have i1 : (k : Int) < (n : Int) := by omega
      have hfk := HF.out k hlt'
      generalize hsk : nth l k = s at *
      have HK := hid hsk
      clear hsk
      obtain ⟨x0, x1, x2, x3, x4, x5, x6⟩ := hx
      obtain ⟨z0, z1, z2, z3, z4, z5, z6⟩ := hz
      obtain ⟨f0, f1, f2, f3, f4, f5, f6⟩ := HB.out.get7
      obtain ⟨t0, t1, t2, t3, t4, t5, t6⟩ := HT.out.get7
      have hgb := HB.out.1
      have hgt := HT.out.1
      cases hd1 : decide (cmpC s.fr f ≤ 0)
      · have hp := hid (show inB f t s = false by rw [inB, hd1]; rfl)
        go_wp2_with fail
        have hbw := bw_cell
        refine wp_region_below (by kernel_rfl) (by kernel_rfl) ?_
        repeat (go_big_quiet_step ((go_at_call 183; exact bw_int (rccompare_any s.fr f _ hfk.1 hff))))
        refine wpQuiet_nil ?_
        rintro _ ⟨z, rfl⟩
        clear hbw x0 x1 x2 x3 x4 x5 x6 z0 z1 z2 z3 z4 z5 z6 f0 f1 f2 f3 f4 f5 f6 t0 t1 t2 t3 t4 t5 t6
        go_wp2_with fail
        go_roundw
        case rel => exact ⟨k + 1, by go_num, by omega, HS.out.below z.ok, HB.out.below z.ok, HT.out.below z.ok, anyTo_step HM.out (by rw [HK.out]; exact hp.out), below_tr hbr z.ok⟩
        case measure => simp [intOf]; omega
      · cases hd2 : decide (cmpC t s.til ≤ 0)
        · have hp := hid (show inB f t s = false by rw [inB, hd2]; simp)
          go_wp2_with fail
          have hbw := bw_cell
          refine wp_region_below (by kernel_rfl) (by kernel_rfl) ?_
          repeat (go_big_quiet_step (first | (go_at_call_of 183 s.fr.en; exact bw_int (rccompare_any s.fr f _ hfk.1 hff)) | (go_at_call 183; exact bw_int (rccompare_any t s.til _ hft hfk.2))))
          refine wpQuiet_nil ?_
          rintro _ ⟨z, rfl⟩
          clear hbw x0 x1 x2 x3 x4 x5 x6 z0 z1 z2 z3 z4 z5 z6 f0 f1 f2 f3 f4 f5 f6 t0 t1 t2 t3 t4 t5 t6
          go_wp2_with fail
          go_roundw
          case rel => exact ⟨k + 1, by go_num, by omega, HS.out.below z.ok, HB.out.below z.ok, HT.out.below z.ok, anyTo_step HM.out (by rw [HK.out]; exact hp.out), below_tr hbr z.ok⟩
          case measure => simp [intOf]; omega
        · have HE := hid (show inR l f t = true from any_at (p := inB f t) hlt' (by rw [HK.out, inB, hd1, hd2]; rfl))
          go_wp2_with fail
          have hbw := bw_cell
          refine wp_region_below (by kernel_rfl) (by kernel_rfl) ?_
          repeat (go_big_quiet_step (first | (go_at_call_of 183 s.fr.en; exact bw_int (rccompare_any s.fr f _ hfk.1 hff)) | (go_at_call 183; exact bw_int (rccompare_any t s.til _ hft hfk.2))))
          refine wpQuiet_nil ?_
          rintro _ ⟨z, rfl⟩
          clear hbw
          go_wp2_with fail
          go_ret
          exact ⟨by rw [← HR.out, HE.out]; rfl, below_tr hbr z.ok⟩
    · obtain rfl : k = n := by omega
      have HE := hid (show inR l f t = false from anyTo_end (by rw [HN.out]; exact HM.out))
      go_wp2_with fail
      go_ret
      exact ⟨by rw [← HR.out, HE.out]; rfl, hbr⟩
end Go.Proofs.YtlmkglgjdmjnkaaGreatDoor
namespace Go.Proofs.YtlmkglgjdmjnkaaGreatDoor
open Go.RowKit Go.Lib
set_option linter.unusedVariables false
set_option linter.unusedSimpArgs false
end Go.Proofs.YtlmkglgjdmjnkaaGreatDoor
namespace Go.Proofs.YtlmkglgjdmjnkaaGreatDoor
open Go.RowKit Go.Lib
set_option linter.unusedVariables false
set_option linter.unusedSimpArgs false
def cellsL (l : List SpanL) : List Value := l.flatMap fun s => s.cells
theorem cellsL_len (l : List SpanL) : (cellsL l).length = l.length * 14 := by
  induction l with
  | nil => rfl
  | cons s l ih => simp only [cellsL, List.flatMap_cons, List.length_append] at ih ⊢; rw [ih]; simp only [List.length_cons, List.length_nil]; omega
theorem cellsL_append (l m : List SpanL) : cellsL (l ++ m) = cellsL l ++ cellsL m := by simp [cellsL]
theorem cellsL_get : ∀ (l : List SpanL) (i j : Nat), i < l.length → j < 14 → (cellsL l)[i * 14 + j]? = (nth l i).cells[j]?
  | [], i, j, h, _ => by simp at h
  | s :: l, 0, j, _, hj => by
    rw [cellsL, List.flatMap_cons, List.getElem?_append_left (by simp; omega)]
    simp [nth]
  | s :: l, i + 1, j, h, hj => by
    have ih := cellsL_get l i j (by simpa using h) hj
    rw [cellsL, List.flatMap_cons, List.getElem?_append_right (by simp; omega)]
    have e : (i + 1) * 14 + j - s.cells.length = i * 14 + j := by simp; omega
    rw [e]
    exact ih.trans (by simp [nth])
theorem EKspans : EK Tryz.prog 84 133 14 144 := .mk' _ Tryz.underlying84 Tryz.info133 rfl (by omega)
def OwnS (w : World) (base : Nat) (v : Value) (l : List SpanL) : Prop := w.ownsRow base 133 14 v l.length (cellsL l)
theorem OwnS.nil (w : World) (base : Nat) : OwnS w base (.slice none 0 0) [] := World.ownsRow_nil _ _ _ _
theorem OwnS.form {w : World} {base : Nat} {v : Value} {l : List SpanL} (h : OwnS w base v l) : (v = .slice none 0 0 ∧ l = []) ∨ ∃ g cap, v = .slice (some ⟨g, 0, none⟩) l.length cap ∧ base ≤ g ∧ g < w.heap.size ∧ l.length ≤ cap := by
  obtain ⟨_, h2⟩ := h
  rcases h2 with ⟨h2, h3⟩ | ⟨g, cap, cur, hv, hg, hh, hle, r⟩
  · exact .inl ⟨h2, List.eq_nil_of_length_eq_zero h3⟩
  · refine .inr ⟨g, cap, hv, hg, ?_, hle⟩
    rcases Nat.lt_or_ge g w.heap.size with h | h
    · exact h
    · rw [Array.getElem?_eq_none h] at hh; cases hh
theorem OwnS.spans {w : World} {base : Nat} {v : Value} {l : List SpanL} (h : OwnS w base v l) : ∃ A cap, v = .slice A l.length cap ∧ Spans w A l := by
  rcases h.form with ⟨rfl, rfl⟩ | ⟨g, cap, rfl, hg, hlt, hle⟩
  · exact ⟨none, 0, rfl, .inl rfl⟩
  · refine ⟨some ⟨g, 0, none⟩, cap, rfl, .inr ⟨g, 0, rfl, hlt, fun i hi j u hj => ?_⟩⟩
    have hj14 : j < 14 := by
      rcases Nat.lt_or_ge j 14 with h' | h'
      · exact h'
      · rw [List.getElem?_eq_none (by simp; omega)] at hj; cases hj
    have := h.cellAt (i * 14 + j) (by omega)
    rw [Nat.zero_add, this, cellsL_get l i j hi hj14]
    exact hj
theorem OwnS.below {w w' : World} {base : Nat} {v : Value} {l : List SpanL} (h : OwnS w base v l) (hb : Below w.heap.size w w') : OwnS w' base v l := own_below h hb
theorem cells_set (l : List SpanL) (s : SpanL) (t : CutL) : (((((((cellsL (l ++ [s])).set (l.length * 14 + 7) (.int .i64 t.en)).set (l.length * 14 + 7 + 1) (.int .i64 t.v.maj)).set (l.length * 14 + 7 + 2) (.int .i64 t.v.min)).set (l.length * 14 + 7 + 3) (.int .i64 t.v.pat)).set (l.length * 14 + 7 + 4) (.string t.v.pre)).set (l.length * 14 + 7 + 5) (.string t.v.bld)).set (l.length * 14 + 7 + 6) (.bool t.aft) = cellsL (l ++ [⟨s.fr, t⟩]) := by
  have e : ∀ (x : SpanL), cellsL [x] = x.cells := fun x => by simp [cellsL]
  have st : ∀ (ys : List Value) (j : Nat) (u : Value), (cellsL l ++ ys).set (l.length * 14 + j) u = cellsL l ++ ys.set j u := fun ys j u => by
    rw [List.set_append_right _ _ (by rw [cellsL_len]; omega), cellsL_len, Nat.add_sub_cancel_left]
  rw [cellsL_append, cellsL_append, e, e]
  simp only [Nat.add_assoc, Nat.reduceAdd, st]
  rfl
theorem OwnS.set7 {w : World} {base g cap n : Nat} {l : List SpanL} {s : SpanL} (t : CutL) (hn : l.length = n) (h : OwnS w base (.slice (some ⟨g, 0, none⟩) (n + 1) cap) (l ++ [s])) (hgb : base ≤ g) (hgw : g < w.heap.size) :
    let w' := (((((((w.setCell ⟨g, n * 14 + 7, none⟩ (.int .i64 t.en)).setCell ⟨g, n * 14 + 7 + 1, none⟩ (.int .i64 t.v.maj)).setCell ⟨g, n * 14 + 7 + 2, none⟩ (.int .i64 t.v.min)).setCell ⟨g, n * 14 + 7 + 3, none⟩ (.int .i64 t.v.pat)).setCell ⟨g, n * 14 + 7 + 4, none⟩ (.string t.v.pre)).setCell ⟨g, n * 14 + 7 + 5, none⟩ (.string t.v.bld)).setCell ⟨g, n * 14 + 7 + 6, none⟩ (.bool t.aft))
    OwnS w' base (.slice (some ⟨g, 0, none⟩) (n + 1) cap) (l ++ [⟨s.fr, t⟩]) ∧ Below base w w' ∧ w'.heap.size = w.heap.size := by
  intro w'
  refine ⟨?_, ?_, by simp [w', World.setCell]⟩
  · have h' := h
    simp only [OwnS, List.length_append, List.length_singleton, hn] at h' ⊢
    have s1 := (World.ownsRow.stored h' (n * 14 + 7) (.int .i64 t.en)).1
    have s2 := (World.ownsRow.stored s1 (n * 14 + 7 + 1) (.int .i64 t.v.maj)).1
    have s3 := (World.ownsRow.stored s2 (n * 14 + 7 + 2) (.int .i64 t.v.min)).1
    have s4 := (World.ownsRow.stored s3 (n * 14 + 7 + 3) (.int .i64 t.v.pat)).1
    have s5 := (World.ownsRow.stored s4 (n * 14 + 7 + 4) (.string t.v.pre)).1
    have s6 := (World.ownsRow.stored s5 (n * 14 + 7 + 5) (.string t.v.bld)).1
    have this := (World.ownsRow.stored s6 (n * 14 + 7 + 6) (.bool t.aft)).1
    subst hn
    rw [cells_set] at this
    exact this
  · exact (((((((Below.refl _ _).setCell hgb _).setCell hgb _).setCell hgb _).setCell hgb _).setCell hgb _).setCell hgb _).setCell hgb _
def growR (l : List SpanL) (f t : CutL) : List SpanL :=
  match l.getLast? with
  | some s => if cmpC s.til f = 0 then l.dropLast ++ [⟨s.fr, t⟩] else l ++ [⟨f, t⟩]
  | none => [⟨f, t⟩]
def RowPost (w : World) (base : Nat) (l : List SpanL) (e : Ending) (w' : World) : Prop := ∃ v, e = .returned v ∧ OwnS w' base v l ∧ Below base w w' ∧ w.heap.size ≤ w'.heap.size
set_option maxRecDepth 100000 in
set_option maxHeartbeats 4000000 in
theorem grow_set (base : Nat) (g cap : Nat) (l : List SpanL) (s : SpanL) (f t : CutL) (w : World) (h : OwnS w base (.slice (some ⟨g, 0, none⟩) (l.length + 1) cap) (l ++ [s])) (hb : base ≤ w.heap.size) (hgb : base ≤ g) (hgw : g < w.heap.size) (hln : l.length ≤ 100000) (hff : f.fit) (hft : t.fit) (hs : s.fit) (hc : cmpC s.til f = 0) :
    Calls Tryz.prog 164 #[.slice (some ⟨g, 0, none⟩) (l.length + 1) cap, f.val, t.val] w (RowPost w base (l ++ [⟨s.fr, t⟩])) := by
  have HO := hid h
  have z : Row7 w g (l.length * 14 + 7) s.til := by
    obtain ⟨A, c, e, hS⟩ := h.spans
    injection e with e1 e2 e3
    subst e1
    have := (hS.lay (k := l.length) (by simp)).2.2
    simpa [nth] using this
  have hfr : ∀ j, w.frozen? ⟨g, j, none⟩ = false := fun j => by
    have h' := h
    simp only [OwnS, List.length_append, List.length_singleton] at h'
    exact h'.frozenAt j
  generalize hn : l.length = n at *
  have HN := hid hn
  have HZ := hid z
  have HFR := hid hfr
  obtain ⟨z0, z1, z2, z3, z4, z5, z6⟩ := z
  clear hn h hfr
  have i0 : (0 : Int) ≤ (n : Int) := by omega
  have hcz : (cmpC s.til f == 0) = true := by simp [hc]
  clear hc
  have hbw := bw_cell
  have hg1 : g < w.heap.size + 1 + 1 := by omega
  have hg2 : g < w.heap.size + 1 := by omega
  have i1 : (n : Int) < ((n + 1 : Nat) : Int) := by omega
  have i2 : (n : Int) < (n : Int) + 1 := by omega
  go_enter Tryz.func164, Tryz.ntmps164
  go_wp2_with fail
  refine wp_region_below (by kernel_rfl) (by kernel_rfl) ?_
  repeat (go_big_quiet_step ((go_at_call 183; exact bw_int (rccompare_any s.til f _ hs.2 hff))))
  refine wpQuiet_nil ?_
  rintro _ ⟨z, rfl⟩
  have hb3 := z.ok
  generalize z.v = w3 at hb3 ⊢
  clear z hbw z0 z1 z2 z3 z4 z5 z6
  obtain ⟨hx, hy, hb4⟩ := box_2 (cs := f.cells) (ds := t.cells) hb3
  obtain ⟨t0, t1, t2, t3, t4, t5, t6⟩ := hy.get7
  obtain ⟨z0, z1, z2, z3, z4, z5, z6⟩ := HZ.out.below hgw hb4
  have hf3 : ∀ j, w3.frozen? ⟨g, j, none⟩ = false := fun j => (hb4.frozen (p := ⟨g, j, none⟩) hgw).trans (HFR.out j)
  clear hx hy hb3
  go_wp2_with fail
  go_ret
  have HO3 := HO.out.below hb4
  obtain ⟨q1, q2, q3⟩ := HO3.set7 t HN.out hgb (Nat.lt_of_lt_of_le hgw hb4.size)
  exact ⟨_, rfl, q1, (hb4.mono hb).trans q2, by rw [q3]; exact hb4.size⟩
theorem OwnS.app {w' : World} {base : Nat} {v' : Value} {l : List SpanL} {s : SpanL} (h : w'.ownsRow base 133 14 v' (l.length + 1) (cellsL l ++ s.cells)) : OwnS w' base v' (l ++ [s]) := by
  simp only [OwnS, List.length_append, List.length_singleton]
  rw [cellsL_append, show cellsL [s] = s.cells from by simp [cellsL]]
  exact h
theorem growR_nil (f t : CutL) : growR [] f t = [⟨f, t⟩] := rfl
theorem growR_eq {l : List SpanL} {s : SpanL} {f t : CutL} (h : cmpC s.til f = 0) : growR (l ++ [s]) f t = l ++ [⟨s.fr, t⟩] := by simp [growR, h]
theorem growR_ne {l : List SpanL} {s : SpanL} {f t : CutL} (h : cmpC s.til f ≠ 0) : growR (l ++ [s]) f t = l ++ [s] ++ [⟨f, t⟩] := by simp [growR, h]
set_option maxRecDepth 100000 in
set_option maxHeartbeats 4000000 in
theorem grow_nil (base : Nat) (f t : CutL) (w : World) (hb : base ≤ w.heap.size) : Calls Tryz.prog 164 #[.slice none 0 0, f.val, t.val] w (RowPost w base [⟨f, t⟩]) := by
  have hM : maxLen = 9223372036854775807 := rfl
  have hbw := bw_cell
  have hbx := hid (Box.new (w.alloc (.cells f.cells.toArray 130)) t.cells 130)
  go_enter Tryz.func164, Tryz.ntmps164
  go_wp2_with fail
  refine wp_region_below (by kernel_rfl) (by kernel_rfl) ?_
  repeat (go_big_quiet_step (fail))
  refine wpQuiet_nil ?_
  rintro _ ⟨z, rfl⟩
  have hb3 := z.ok
  generalize z.v = w3 at hb3 ⊢
  clear z hbw
  obtain ⟨hx, hy, hb4⟩ := box_2 (cs := f.cells) (ds := t.cells) hb3
  obtain ⟨t0, t1, t2, t3, t4, t5, t6⟩ := hy.get7
  obtain ⟨f0, f1, f2, f3, f4, f5, f6⟩ := hx.get7
  have HOWN := OwnS.nil w3 base
  have hbs := hb4.size
  have hb5 := hb4.mono hb
  clear hx hy hb3
  go_wp2_with (first | (at_builtin; refine wpList_app1 EKspans rfl (.tmp 29) (.tmp 33) rfl (SpanL.cells ⟨f, t⟩) HOWN hb5 rfl rfl rfl ?_ ?_ ?_ (Nat.le_refl _) (by omega) ?_))
  · intro u hu; simp at hu; rcases hu with rfl | rfl | rfl | rfl | rfl | rfl | rfl | rfl | rfl | rfl | rfl | rfl | rfl | rfl <;> rfl
  · decide
  · simp
  · intro v' w' h2 h3 h4
    clear HOWN t0 t1 t2 t3 t4 t5 t6 f0 f1 f2 f3 f4 f5 f6
    go_wp2_with fail
    go_ret
    exact ⟨_, rfl, OwnS.app h2, h3, by omega⟩
set_option maxRecDepth 100000 in
set_option maxHeartbeats 4000000 in
theorem grow_nil_any (base g cap : Nat) (f t : CutL) (w : World) (h0 : OwnS w base (.slice (some ⟨g, 0, none⟩) 0 cap) []) (hb : base ≤ w.heap.size) : Calls Tryz.prog 164 #[.slice (some ⟨g, 0, none⟩) 0 cap, f.val, t.val] w (RowPost w base [⟨f, t⟩]) := by
  have hM : maxLen = 9223372036854775807 := rfl
  have hbw := bw_cell
  have hbx := hid (Box.new (w.alloc (.cells f.cells.toArray 130)) t.cells 130)
  have HO := hid h0
  clear h0
  go_enter Tryz.func164, Tryz.ntmps164
  go_wp2_with fail
  refine wp_region_below (by kernel_rfl) (by kernel_rfl) ?_
  repeat (go_big_quiet_step (fail))
  refine wpQuiet_nil ?_
  rintro _ ⟨z, rfl⟩
  have hb3 := z.ok
  generalize z.v = w3 at hb3 ⊢
  clear z hbw
  obtain ⟨hx, hy, hb4⟩ := box_2 (cs := f.cells) (ds := t.cells) hb3
  obtain ⟨t0, t1, t2, t3, t4, t5, t6⟩ := hy.get7
  obtain ⟨f0, f1, f2, f3, f4, f5, f6⟩ := hx.get7
  have HOWN := HO.out.below hb4
  have hbs := hb4.size
  have hb5 := hb4.mono hb
  clear hx hy hb3
  go_wp2_with (first | (at_builtin; refine wpList_app1 EKspans rfl (.tmp 29) (.tmp 33) rfl (SpanL.cells ⟨f, t⟩) HOWN hb5 rfl rfl rfl ?_ ?_ ?_ (Nat.le_refl _) (by omega) ?_))
  · intro u hu; simp at hu; rcases hu with rfl | rfl | rfl | rfl | rfl | rfl | rfl | rfl | rfl | rfl | rfl | rfl | rfl | rfl <;> rfl
  · decide
  · simp
  · intro v' w' h2 h3 h4
    clear HOWN t0 t1 t2 t3 t4 t5 t6 f0 f1 f2 f3 f4 f5 f6
    go_wp2_with fail
    go_ret
    exact ⟨_, rfl, OwnS.app h2, h3, by omega⟩
set_option maxRecDepth 100000 in
set_option maxHeartbeats 4000000 in
theorem grow_app (base : Nat) (g cap : Nat) (l : List SpanL) (s : SpanL) (f t : CutL) (w : World) (h : OwnS w base (.slice (some ⟨g, 0, none⟩) (l.length + 1) cap) (l ++ [s])) (hb : base ≤ w.heap.size) (hgb : base ≤ g) (hgw : g < w.heap.size) (hln : l.length ≤ 100000) (hff : f.fit) (hs : s.fit) (hc : cmpC s.til f ≠ 0) :
    Calls Tryz.prog 164 #[.slice (some ⟨g, 0, none⟩) (l.length + 1) cap, f.val, t.val] w (RowPost w base (l ++ [s] ++ [⟨f, t⟩])) := by
  have hM : maxLen = 9223372036854775807 := rfl
  have HO := hid h
  have z : Row7 w g (l.length * 14 + 7) s.til := by
    obtain ⟨A, c, e, hS⟩ := h.spans
    injection e with e1 e2 e3
    subst e1
    have := (hS.lay (k := l.length) (by simp)).2.2
    simpa [nth] using this
  generalize hn : l.length = n at *
  have HN := hid hn
  obtain ⟨z0, z1, z2, z3, z4, z5, z6⟩ := z
  clear hn h
  have i0 : (0 : Int) ≤ (n : Int) := by omega
  have hcz : (cmpC s.til f == 0) = false := by simpa using hc
  clear hc
  have hbw := bw_cell
  have hg1 : g < w.heap.size + 1 + 1 := by omega
  have hg2 : g < w.heap.size + 1 := by omega
  have i1 : (n : Int) < ((n + 1 : Nat) : Int) := by omega
  have i2 : (n : Int) < (n : Int) + 1 := by omega
  go_enter Tryz.func164, Tryz.ntmps164
  go_wp2_with fail
  refine wp_region_below (by kernel_rfl) (by kernel_rfl) ?_
  repeat (go_big_quiet_step ((go_at_call 183; exact bw_int (rccompare_any s.til f _ hs.2 hff))))
  refine wpQuiet_nil ?_
  rintro _ ⟨z, rfl⟩
  have hb3 := z.ok
  generalize z.v = w3 at hb3 ⊢
  clear z hbw z0 z1 z2 z3 z4 z5 z6
  obtain ⟨hx, hy, hb4⟩ := box_2 (cs := f.cells) (ds := t.cells) hb3
  obtain ⟨t0, t1, t2, t3, t4, t5, t6⟩ := hy.get7
  obtain ⟨f0, f1, f2, f3, f4, f5, f6⟩ := hx.get7
  have hbs := hb4.size
  have hb5 := hb4.mono hb
  have HOWN : w3.ownsRow base 133 14 (.slice (some ⟨g, 0, none⟩) (n + 1) cap) (n + 1) (cellsL (l ++ [s])) := by
    have h := HO.out.below hb4
    simp only [OwnS, List.length_append, List.length_singleton, HN.out] at h
    exact h
  clear hx hy hb3
  go_wp2_with (first | (at_builtin; refine wpList_app1 EKspans rfl (.tmp 29) (.tmp 33) rfl (SpanL.cells ⟨f, t⟩) HOWN hb5 rfl rfl rfl ?_ ?_ ?_ (Nat.le_refl _) (by omega) ?_))
  · intro u hu; simp at hu; rcases hu with rfl | rfl | rfl | rfl | rfl | rfl | rfl | rfl | rfl | rfl | rfl | rfl | rfl | rfl <;> rfl
  · omega
  · omega
  · intro v' w' h2 h3 h4
    clear HOWN t0 t1 t2 t3 t4 t5 t6 f0 f1 f2 f3 f4 f5 f6
    go_wp2_with fail
    go_ret
    refine ⟨_, rfl, ?_, h3, by omega⟩
    refine OwnS.app ?_
    rw [List.length_append, List.length_singleton, HN.out]
    exact h2
theorem grow_any (base : Nat) (v : Value) (l : List SpanL) (f t : CutL) (w : World) (h : OwnS w base v l) (hb : base ≤ w.heap.size) (hln : l.length ≤ 100000) (hff : f.fit) (hft : t.fit) (hfl : ∀ s, s ∈ l → s.fit) :
    Calls Tryz.prog 164 #[v, f.val, t.val] w (RowPost w base (growR l f t)) := by
  rcases List.eq_nil_or_concat l with rfl | ⟨m, s, rfl⟩
  · rcases h.form with ⟨rfl, _⟩ | ⟨g, cap, rfl, hg, hlt, hle⟩
    · exact grow_nil base f t w hb
    · exact grow_nil_any base g cap f t w h hb
  · simp only [List.concat_eq_append] at h hln hfl ⊢
    rcases h.form with ⟨_, h0⟩ | ⟨g, cap, rfl, hg, hlt, hle⟩
    · simp at h0
    · have hl : (m ++ [s]).length = m.length + 1 := by simp
      rw [hl] at h hln ⊢
      have hs : s.fit := hfl s (by simp)
      by_cases hc : cmpC s.til f = 0
      · rw [growR_eq hc]; exact grow_set base g cap m s f t w h hb hg hlt (by omega) hff hft hs hc
      · rw [growR_ne hc]; exact grow_app base g cap m s f t w h hb hg hlt (by omega) hff hs hc
end Go.Proofs.YtlmkglgjdmjnkaaGreatDoor
